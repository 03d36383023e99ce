/- PlanGrows: what a page, a process, an event, a semaphore more costs. -/
import Derived.Test.YtpnmaabhjgiggaaDoorSameKPl
set_option linter.unusedVariables false
set_option linter.unusedSimpArgs false
set_option linter.unusedSectionVars false
namespace Go.Proofs.YtpnmaabhjgiggaaDoor
open Go Go.RowKit

theorem firstE_noneK {α ε : Type} {f : Nat → α → Option ε} : ∀ (l : List α) (k : Nat), (∀ i x, x ∈ l → f i x = none) → firstE f k l = none
  | [], _, _ => rfl
  | x :: r, k, h => by
    rw [firstE, h k x (List.mem_cons_self ..)]
    exact firstE_noneK r (k + 1) fun i y hy => h i y (List.mem_cons_of_mem _ hy)
theorem plan_of_ok {p : GPlan} (ok : OkK p) : sPlan p = .nil := by
  have k1 := ok.id0; have k2 := ok.id1; have k3 := ok.pg0; have k4 := ok.pg1; have k5 := ok.pr0; have k6 := ok.pr1; have k7 := ok.po1; have k8 := ok.ev0; have k9 := ok.ev1; have k10 := ok.se1; have k11 := ok.bnd
  have hw : IntKind.i64.wrap (64 * (p.Pages.length : Int)) = 64 * (p.Pages.length : Int) := wrap64_eq ⟨by omega, by omega⟩
  have e1 : firstE sPage 0 p.Pages = none := firstE_noneK _ _ fun i x hx => by
    have := ok.pag x hx
    unfold sPage
    rw [if_neg (by omega), if_neg (by omega)]
  have e2 : firstE (sProc p.Pages.length) 0 p.Procs = none := firstE_noneK _ _ fun i x hx => by
    have := ok.prio x hx
    unfold sProc
    rw [hw, if_neg (by omega)]
  have e3 : firstE sPortE 0 p.Ports = none := firstE_noneK _ _ fun i x hx => by
    have := (ok.dep x hx).1
    unfold sPortE
    rw [this]
  have e4 : firstE sSem 0 p.Sems = none := firstE_noneK _ _ fun i x hx => by
    have := ok.sem x hx
    unfold sSem
    rw [if_neg (by omega)]
  unfold sPlan sPages sProcs sRest sPorts sThings
  rw [if_neg (by omega), if_neg (by omega), if_neg (by omega), if_neg (by omega), if_neg (by omega), if_neg (by omega), if_neg (by omega), e1, e2, e3, e4]
  rfl
theorem most_le {x : GPortPlan} (h : sPort x = .nil) (k : 1 ≤ x.Kind ∧ x.Kind ≤ 4 ∧ 1 ≤ x.Size ∧ x.Size ≤ 32 ∧ 1 ≤ x.Depth ∧ x.Depth ≤ 8) : 0 ≤ sMost x ∧ sMost x ≤ 300 := by
  unfold sMost
  rw [if_neg (by rw [h]; exact fun c => c rfl)]
  split
  · omega
  · have e1 : IntKind.i64.wrap (1 + x.Size) = 1 + x.Size := wrap64_eq ⟨by omega, by omega⟩
    have b1 : 0 ≤ x.Depth * (1 + x.Size) := Int.mul_nonneg (by omega) (by omega)
    have b2 : x.Depth * (1 + x.Size) ≤ 8 * 33 := Int.mul_le_mul (by omega) (by omega) (by omega) (by omega)
    have e2 : IntKind.i64.wrap (x.Depth * (1 + x.Size)) = x.Depth * (1 + x.Size) := wrap64_eq ⟨by omega, by omega⟩
    have e3 : IntKind.i64.wrap (2 + x.Depth * (1 + x.Size)) = 2 + x.Depth * (1 + x.Size) := wrap64_eq ⟨by omega, by omega⟩
    rw [e1, e2, e3]
    omega
def pSum (l : List GPortPlan) : Int := (l.map fun x => 3 + sMost x).sum
theorem fold_most : ∀ (l : List GPortPlan) (z : Int), (∀ x ∈ l, 0 ≤ sMost x ∧ sMost x ≤ 300) → 0 ≤ z → z + 303 * (l.length : Int) ≤ 1000000 → l.foldl (fun z x => IntKind.i64.wrap (z + IntKind.i64.wrap (3 + sMost x))) z = z + pSum l ∧ 0 ≤ pSum l ∧ pSum l ≤ 303 * (l.length : Int)
  | [], z, _, _, _ => by simp [pSum]
  | x :: r, z, h, h0, hz => by
    have hx := h x (List.mem_cons_self ..)
    rw [List.length_cons] at hz
    have e1 : IntKind.i64.wrap (3 + sMost x) = 3 + sMost x := wrap64_eq ⟨by omega, by omega⟩
    have e2 : IntKind.i64.wrap (z + (3 + sMost x)) = z + (3 + sMost x) := wrap64_eq ⟨by omega, by omega⟩
    obtain ⟨i1, i2, i3⟩ := fold_most r (z + (3 + sMost x)) (fun y hy => h y (List.mem_cons_of_mem _ hy)) (by omega) (by omega)
    have e3 : pSum (x :: r) = 3 + sMost x + pSum r := by simp [pSum]
    rw [List.foldl_cons, e1, e2, i1, e3, List.length_cons]
    omega
theorem bound_eq {p : GPlan} (h1 : p.Procs.length ≤ 9) (h2 : p.Pages.length ≤ 33) (h3 : 0 ≤ p.Events) (h4 : p.Events ≤ 9) (h5 : p.Sems.length ≤ 9) (h6 : p.Ports.length ≤ 8) (h7 : ∀ x ∈ p.Ports, 0 ≤ sMost x ∧ sMost x ≤ 300) :
    sBound p = 58 + 76 * (p.Procs.length : Int) + 68 * (p.Pages.length : Int) + p.Events + (p.Sems.length : Int) + pSum p.Ports := by
  unfold sBound
  rw [wrap64_eq (z := 76 * ((p.Procs.length : Nat) : Int)) ⟨by omega, by omega⟩, wrap64_eq (z := 68 * ((p.Pages.length : Nat) : Int)) ⟨by omega, by omega⟩, wrap64_eq (z := 58 + 76 * ((p.Procs.length : Nat) : Int)) ⟨by omega, by omega⟩,
    wrap64_eq (z := 58 + 76 * ((p.Procs.length : Nat) : Int) + 68 * ((p.Pages.length : Nat) : Int)) ⟨by omega, by omega⟩, wrap64_eq (z := 58 + 76 * ((p.Procs.length : Nat) : Int) + 68 * ((p.Pages.length : Nat) : Int) + p.Events) ⟨by omega, by omega⟩, wrap64_eq (z := 58 + 76 * ((p.Procs.length : Nat) : Int) + 68 * ((p.Pages.length : Nat) : Int) + p.Events + ((p.Sems.length : Nat) : Int)) ⟨by omega, by omega⟩]
  exact (fold_most p.Ports _ h7 (by omega) (by omega)).1
theorem okK_most {p : GPlan} (ok : OkK p) : ∀ x ∈ p.Ports, 0 ≤ sMost x ∧ sMost x ≤ 300 := fun x hx => by
  have h := ok.dep x hx
  exact most_le h.1 (by omega)
theorem okK_plan {p : GPlan} (ok : OkK p) : okPlanK p := by
  have k4 := ok.pg1; have k6 := ok.pr1; have k7 := ok.po1; have k10 := ok.se1
  refine ⟨?_, ?_, ?_, ?_⟩ <;> simp only [maxBK] <;> omega
theorem same_nilG : g_law10_same .nil 0 = some true := by simp [g_law10_same, cNil, pNil]
theorem same_planG : g_law10_same (.v gPlan) 8 = some true := by simp [g_law10_same, cPlan, pV]
theorem grow {p q : GPlan} {i : Nat} {s : Int} {room : Bool} (hx : ([68, 76, 1, 1] : List Int)[i]? = some s) (h0 : 0 ≤ sBound p) (h1 : sBound p ≤ 4096) (hs0 : 0 ≤ s) (hs1 : s ≤ 100)
    (hq : sPlan q = .nil ↔ (room = true ∧ sBound p + s ≤ 4096)) (hb : sPlan q = .nil → sBound q = sBound p + s) (hI : q.Id = p.Id) (hM : q.Mobile = p.Mobile) (hP : q.Ports = p.Ports) :
    g_law10_PlanGrows_J16 (sBound p, .nil) i p (room, q.Pages, q.Procs, q.Events, q.Sems) = some (.inl (i + 1)) := by
  have hw : IntKind.i64.wrap (sBound p + s) = sBound p + s := wrap64_eq ⟨by omega, by omega⟩
  have eq : (⟨p.Id, p.Mobile, q.Pages, q.Procs, p.Ports, q.Events, q.Sems⟩ : GPlan) = q := by rw [← hI, ← hM, ← hP]
  simp only [g_law10_PlanGrows_J16, g_law10_PlanGrows_J15, g_law10_PlanGrows_J14, eq, plan_BoundK, hx, hw, Option.bind_some]
  by_cases h : sPlan q = .nil
  · obtain ⟨r, c⟩ := hq.1 h
    simp [h, hb h, r, c]
  · simp only [h, if_false]
    cases room with
    | false => simp [same_planG]
    | true =>
      have c : ¬ sBound p + s ≤ 4096 := fun c => h (hq.2 ⟨rfl, c⟩)
      simp [c, same_planG]
theorem law10_PlanGrows (x : GL10Case) (hP : okPlanK x.P) : g_law10_PlanGrows x = some true := by
  have main : ∀ p, sPlan p = .nil → g_law10_PlanGrows_J18 (p.Id, p.Mobile, p.Pages, p.Procs, p.Ports, p.Events, p.Sems) = some true := by
    intro p hs
    have ok := okK_of hs
    have k0 := okK_plan ok
    have k1 := ok.id0; have k2 := ok.id1; have k3 := ok.pg0; have k4 := ok.pg1; have k5 := ok.pr0; have k6 := ok.pr1; have k7 := ok.po1; have k8 := ok.ev0; have k9 := ok.ev1; have k10 := ok.se1; have k11 := ok.bnd
    have km := okK_most ok
    have kb := bound_eq (p := p) (by omega) (by omega) k8 (by omega) (by omega) k7 km
    have kp := (fold_most p.Ports 0 km (by omega) (by omega)).2
    have eP : (⟨p.Id, p.Mobile, p.Pages, p.Procs, p.Ports, p.Events, p.Sems⟩ : GPlan) = p := rfl
    have eC := r10_CopyK p k0
    have hL := iter_list (L := g_law10_PlanGrows_L17 p.Id p.Mobile p.Pages p.Procs p.Ports p.Events p.Sems (sBound p, .nil)) (l := ([68, 76, 1, 1] : List Int)) (f := fun _ _ => (none : Option Bool)) (fun i s hi hx => by
      have hi' : i < 4 := hi
      simp only [g_law10_PlanGrows_L17, eP, eC, hi', decide_true, cond_true, Option.bind_some, nxt_none]
      rcases (by omega : i = 0 ∨ i = 1 ∨ i = 2 ∨ i = 3) with rfl | rfl | rfl | rfl
      · obtain rfl : 68 = s := by simpa using hx
        have c : (p.Pages.length + [(⟨0, ⟨#[]⟩⟩ : GPagePlan)].length) * 24 ≤ 140737488355328 := by simp only [List.length_cons, List.length_nil]; omega
        have hl : (p.Pages ++ [(⟨0, ⟨#[]⟩⟩ : GPagePlan)]).length = p.Pages.length + 1 := by simp
        have b := bound_eq (p := ⟨p.Id, p.Mobile, p.Pages ++ [(⟨0, ⟨#[]⟩⟩ : GPagePlan)], p.Procs, p.Ports, p.Events, p.Sems⟩) (by simp only; omega) (by rw [hl]; omega) k8 (by simp only; omega) (by simp only; omega) k7 km
        simp only [hl] at b
        have g := grow (p := p) (q := ⟨p.Id, p.Mobile, p.Pages ++ [(⟨0, ⟨#[]⟩⟩ : GPagePlan)], p.Procs, p.Ports, p.Events, p.Sems⟩) (room := decide (p.Pages.length < 32)) hx (by omega) k11 (by omega) (by omega) ⟨fun h => by
            have o := okK_of h
            have o1 := o.pg1; have o2 := o.bnd
            simp only [hl] at o1
            exact ⟨decide_eq_true (by omega), by omega⟩, fun ⟨h1, h2⟩ => by
            have h1 := of_decide_eq_true h1
            refine plan_of_ok ⟨k1, k2, by rw [hl]; omega, by rw [hl]; omega, k5, k6, k7, k8, k9, k10, fun y hy => ?_, fun y hy => ?_, ok.dep, by omega, ok.sem⟩
            · rcases List.mem_append.1 hy with hy | hy
              · exact ok.pag y hy
              · rw [List.mem_singleton.1 hy]; exact ⟨by decide, by decide, by decide⟩
            · have := ok.prio y hy
              rw [hl]; omega⟩ (fun _ => by omega) rfl rfl rfl
        simp only [decide_true, cond_true, chk, c, if_true, Option.bind_some]
        exact g
      · obtain rfl : 76 = s := by simpa using hx
        have c : (p.Procs.length + [(⟨0, 0, false⟩ : GProcPlan)].length) * 24 ≤ 140737488355328 := by simp only [List.length_cons, List.length_nil]; omega
        have hl : (p.Procs ++ [(⟨0, 0, false⟩ : GProcPlan)]).length = p.Procs.length + 1 := by simp
        have b := bound_eq (p := ⟨p.Id, p.Mobile, p.Pages, p.Procs ++ [(⟨0, 0, false⟩ : GProcPlan)], p.Ports, p.Events, p.Sems⟩) (by rw [hl]; omega) (by simp only; omega) k8 (by simp only; omega) (by simp only; omega) k7 km
        simp only [hl] at b
        have g := grow (p := p) (q := ⟨p.Id, p.Mobile, p.Pages, p.Procs ++ [(⟨0, 0, false⟩ : GProcPlan)], p.Ports, p.Events, p.Sems⟩) (room := decide (p.Procs.length < 8)) hx (by omega) k11 (by omega) (by omega) ⟨fun h => by
            have o := okK_of h
            have o1 := o.pr1; have o2 := o.bnd
            simp only [hl] at o1
            exact ⟨decide_eq_true (by omega), by omega⟩, fun ⟨h1, h2⟩ => by
            have h1 := of_decide_eq_true h1
            refine plan_of_ok ⟨k1, k2, k3, k4, by rw [hl]; omega, by rw [hl]; omega, k7, k8, k9, k10, ok.pag, fun y hy => ?_, ok.dep, by omega, ok.sem⟩
            rcases List.mem_append.1 hy with hy | hy
            · exact ok.prio y hy
            · rw [List.mem_singleton.1 hy]; exact ⟨by decide, by decide, by decide, by decide, by simp only; omega, by decide⟩⟩ (fun _ => by omega) rfl rfl rfl
        simp only [show ¬ (1 : Nat) = 0 by decide, decide_false, cond_false, decide_true, cond_true, chk, c, if_true, Option.bind_some]
        exact g
      · obtain rfl : 1 = s := by simpa using hx
        have hw : IntKind.i64.wrap (p.Events + 1) = p.Events + 1 := wrap64_eq ⟨by omega, by omega⟩
        have b := bound_eq (p := ⟨p.Id, p.Mobile, p.Pages, p.Procs, p.Ports, p.Events + 1, p.Sems⟩) (by simp only; omega) (by simp only; omega) (by simp only; omega) (by simp only; omega) (by simp only; omega) k7 km
        simp only at b
        have g := grow (p := p) (q := ⟨p.Id, p.Mobile, p.Pages, p.Procs, p.Ports, p.Events + 1, p.Sems⟩) (room := decide (p.Events < 8)) hx (by omega) k11 (by omega) (by omega) ⟨fun h => by
            have o := okK_of h
            have o1 := o.ev1; have o2 := o.bnd
            simp only at o1
            exact ⟨decide_eq_true (by omega), by omega⟩, fun ⟨h1, h2⟩ => by
            have h1 := of_decide_eq_true h1
            exact plan_of_ok ⟨k1, k2, k3, k4, k5, k6, k7, by simp only; omega, by simp only; omega, k10, ok.pag, ok.prio, ok.dep, by omega, ok.sem⟩⟩ (fun _ => by omega) rfl rfl rfl
        simp only [show ¬ (2 : Nat) = 0 by decide, show ¬ (2 : Nat) = 1 by decide, hw, decide_false, cond_false, decide_true, cond_true, Option.bind_some]
        exact g
      · obtain rfl : 1 = s := by simpa using hx
        have c : (p.Sems.length + ([255] : List Nat).length) * 8 ≤ 140737488355328 := by simp only [List.length_cons, List.length_nil]; omega
        have hl : (p.Sems ++ [(255 : Int)]).length = p.Sems.length + 1 := by simp
        have b := bound_eq (p := ⟨p.Id, p.Mobile, p.Pages, p.Procs, p.Ports, p.Events, p.Sems ++ [(255 : Int)]⟩) (by simp only; omega) (by simp only; omega) k8 (by simp only; omega) (by rw [hl]; omega) k7 km
        simp only [hl] at b
        have g := grow (p := p) (q := ⟨p.Id, p.Mobile, p.Pages, p.Procs, p.Ports, p.Events, p.Sems ++ [(255 : Int)]⟩) (room := decide (p.Sems.length < 8)) hx (by omega) k11 (by omega) (by omega) ⟨fun h => by
            have o := okK_of h
            have o1 := o.se1; have o2 := o.bnd
            simp only [hl] at o1
            exact ⟨decide_eq_true (by omega), by omega⟩, fun ⟨h1, h2⟩ => by
            have h1 := of_decide_eq_true h1
            refine plan_of_ok ⟨k1, k2, k3, k4, k5, k6, k7, k8, k9, by rw [hl]; omega, ok.pag, ok.prio, ok.dep, by omega, fun y hy => ?_⟩
            rcases List.mem_append.1 hy with hy | hy
            · exact ok.sem y hy
            · rw [List.mem_singleton.1 hy]; exact ⟨by decide, by decide⟩⟩ (fun _ => by omega) rfl rfl rfl
        simp only [show ¬ (3 : Nat) = 0 by decide, show ¬ (3 : Nat) = 1 by decide, show ¬ (3 : Nat) = 2 by decide, decide_false, cond_false, decide_true, cond_true, chk, c, if_true, Option.bind_some]
        exact g) (by simp [g_law10_PlanGrows_L17])
    have hf : firstE (fun (_ : Nat) (_ : Int) => (none : Option Bool)) 0 ([68, 76, 1, 1] : List Int) = none := rfl
    rw [hf] at hL
    have e1 := plan_BoundK p
    rw [if_pos hs] at e1
    have c1 : ¬ 4096 < sBound p := by omega
    simp only [g_law10_PlanGrows_J18, eP, eC, e1, c1, hL, fin, decide_true, decide_false, Bool.not_true, Bool.or_false, cond_false, Option.bind_some]
  simp only [g_law10_PlanGrows, law10_fixed, r10_CopyK x.P hP, r10_Good, Bool.not_true, cond_false, Option.bind_some]
  have e0 : g_law10_small = some smallP := rfl
  by_cases h : sPlan x.P = .nil
  · simp only [h, decide_true, Bool.not_true, cond_false, Option.bind_some]
    exact main x.P h
  · simp only [h, decide_false, Bool.not_false, cond_true, e0, Option.bind_some]
    exact main smallP small_check
end Go.Proofs.YtpnmaabhjgiggaaDoor
