/- PlanBoots: the document's boot state; what a plan boots is it, at rest. -/
import Derived.Test.YtpnmaabhjgiggaaGreatDoorRuleRPz
set_option linter.unusedVariables false
set_option linter.unusedSimpArgs false
set_option linter.unusedSectionVars false
namespace Go.Proofs.YtpnmaabhjgiggaaGreatDoor
open Go Go.RowKit

theorem cpy_step {v : List UInt8} {s : List UInt8} {k : Nat} {c : UInt8} (hk : k < s.length) (hv : k < v.length) (hc : s[k]? = some c) : (s.take k ++ v.drop k).set k c = s.take (k + 1) ++ v.drop (k + 1) := by
  have hl : (s.take k).length = k := by rw [List.length_take]; omega
  have hd : v.drop k = v[k] :: v.drop (k + 1) := List.drop_eq_getElem_cons hv
  rw [List.set_append_right _ _ (by omega), hl, Nat.sub_self, hd, List.set_cons_zero, List.take_add_one, hc]
  simp
theorem r10_page (p : GPlan) (i : Nat) (x : GPagePlan) (hx : p.Pages[i]? = some x) (hs : x.Init.size ≤ 64) : iter (g_r10_Boot_L9 p i) (0, (⟨x.Rights, false, Vector.replicate 64 0⟩ : GPage)) = some (bootG x) := by
  have hsz : x.Init.data.toList.length = x.Init.size := rfl
  have h := iter_ruleB (L := g_r10_Boot_L9 p i) (fun s : Int × GPage => ∃ k : Nat, k ≤ x.Init.size ∧ s.1 = (k : Int) ∧ s.2.Rights = x.Rights ∧ s.2.Dirty = false ∧ s.2.Data.toList = x.Init.data.toList.take k ++ (Vector.replicate 64 (0 : UInt8)).toList.drop k) (fun r => r = bootG x) (fun s => x.Init.size - s.1.toNat) (fun s hI => by
    obtain ⟨z, t⟩ := s
    obtain ⟨k, hk, hz, hR, hD, hl⟩ := hI
    simp only at hz hR hD hl
    subst hz
    by_cases hlt : k < x.Init.size
    · have e1 : (k : Int) < ((x.Init.size : Nat) : Int) := by omega
      have hrd : rdS x.Init (k : Int) = some (((x.Init[k]'hlt).toNat : Nat) : Int) := by
        unfold rdS
        rw [dif_pos ⟨by omega, by simpa using hlt⟩]
        rfl
      have hb : byteOf (((x.Init[k]'hlt).toNat : Nat) : Int) = x.Init[k]'hlt := by
        have h1 := byteOf_toNat (((x.Init[k]'hlt).toNat : Nat) : Int)
        have h2 := (x.Init[k]'hlt).toNat_lt
        apply UInt8.toNat_inj.1
        omega
      have hc : x.Init.data.toList[k]? = some (x.Init[k]'hlt) := by
        rw [List.getElem?_eq_getElem (by rw [hsz]; exact hlt)]; rfl
      have hv : rdV t.Data (k : Int) = some (t.Data[k]'(by omega)) := by
        rw [rdV_nat]; simp
      have hw : IntKind.i64.wrap ((k : Int) + 1) = ((k + 1 : Nat) : Int) := by rw [wrap64_eq ⟨by omega, by omega⟩]; omega
      refine .inl ⟨(((k + 1 : Nat) : Int), ⟨t.Rights, t.Dirty, t.Data.setIfInBounds k (x.Init[k]'hlt)⟩), ?_, ⟨k + 1, by omega, rfl, hR, hD, ?_⟩, by simp only; omega⟩
      · simp only [g_r10_Boot_L9, hx, e1, hrd, hv, hw, hb, decide_true, cond_true, Option.bind_some, Int.toNat_natCast]
      · have : (t.Data.setIfInBounds k (x.Init[k]'hlt)).toList = t.Data.toList.set k (x.Init[k]'hlt) := by
          simp [Vector.toList]
        rw [this, hl, cpy_step (by omega) (by simp; omega) hc]
    · have e1 : ¬ (k : Int) < ((x.Init.size : Nat) : Int) := by omega
      obtain rfl : k = x.Init.size := by omega
      refine .inr ⟨t, ?_, ?_⟩
      · simp only [g_r10_Boot_L9, hx, e1, decide_false, cond_false, Option.bind_some]
      · have : t.Data = cpyV (Vector.replicate 64 0) x.Init := by
          apply Vector.toList_inj.1
          rw [hl, cpyV_list, cpyL]
          rw [List.take_of_length_le (by omega), List.take_of_length_le (by simp; omega)]
        cases t
        simp only at hR hD this
        simp only [bootG, hR, hD, this]) (s := (0, ⟨x.Rights, false, Vector.replicate 64 0⟩)) ⟨0, Nat.zero_le _, rfl, rfl, rfl, by simp⟩
  obtain ⟨_, h, rfl⟩ := h
  exact h
theorem r10_Boot {p : GPlan} (h : sPlan p = .nil) : g_r10_Boot p = some (sBoot p) := by
  have ok := okP_of h
  have okK := okK_of h
  have hA := iter_ruleB (L := g_r10_Boot_L13 p) (fun s : Nat × List GProc × List Int => s.1 ≤ p.Procs.length ∧ s.2.1 = (p.Procs.take s.1).map bootP ∧ s.2.2 = autoIdx 0 (p.Procs.take s.1)) (fun r => r = (p.Procs.map bootP, autoIdx 0 p.Procs)) (fun s => p.Procs.length - s.1) (fun s hI => by
    obtain ⟨i, l1, l2⟩ := s
    obtain ⟨hi, h1, h2⟩ := hI
    simp only at hi h1 h2
    by_cases hlt : i < p.Procs.length
    · have hx : p.Procs[i]? = some p.Procs[i] := List.getElem?_eq_getElem hlt
      generalize p.Procs[i] = x at hx
      have hl1 : l1.length = i := by rw [h1]; simp; omega
      have hl2 := auto_len (p.Procs.take i) 0
      rw [← h2, List.length_take] at hl2
      have hp := ok.pr1
      have c1 : ∀ t : GProc, (l1.length + [t].length) * 104 ≤ 140737488355328 := fun t => by simp only [List.length_cons, List.length_nil]; omega
      have c2 : (l2.length + [((i : Nat) : Int)].length) * 8 ≤ 140737488355328 := by simp only [List.length_cons, List.length_nil]; omega
      have e1 : (p.Procs.take (i + 1)).map bootP = l1 ++ [bootP x] := by rw [take_one_more hx, List.map_append, h1]; rfl
      have e2 : autoIdx 0 (p.Procs.take (i + 1)) = l2 ++ (if x.Auto = true then [((i : Nat) : Int)] else []) := by rw [take_one_more hx, auto_snoc, ← h2, List.length_take, Nat.min_eq_left (by omega), Nat.zero_add]
      refine .inl ⟨(i + 1, l1 ++ [bootP x], l2 ++ (if x.Auto = true then [((i : Nat) : Int)] else [])), ?_, ⟨by simp only; omega, e1.symm, e2.symm⟩, by simp only; omega⟩
      simp only [g_r10_Boot_L13, g_r10_Boot_J6, hlt, hx, decide_true, cond_true, Option.bind_some, bootP]
      rcases Bool.eq_false_or_eq_true x.Auto with e | e
      · simp only [e, cond_true, chk, c1, c2, if_true, Option.bind_some]
      · simp only [e, cond_false, chk, c1, if_true, Option.bind_some, Bool.false_eq_true, if_false, List.append_nil]
    · refine .inr ⟨(l1, l2), ?_, ?_⟩
      · simp only [g_r10_Boot_L13, hlt, decide_false, cond_false]
      · have : p.Procs.take i = p.Procs := List.take_of_length_le (by omega)
        rw [this] at h1 h2; rw [h1, h2]) (s := (0, [], [])) ⟨Nat.zero_le _, rfl, rfl⟩
  obtain ⟨_, hA, rfl⟩ := hA
  have hB := iter_ruleB (L := g_r10_Boot_L10 p) (fun s : Nat × List GPage => s.1 ≤ p.Pages.length ∧ s.2 = (p.Pages.take s.1).map bootG) (fun r => r = p.Pages.map bootG) (fun s => p.Pages.length - s.1) (fun s hI => by
    obtain ⟨i, l1⟩ := s
    obtain ⟨hi, h1⟩ := hI
    simp only at hi h1
    by_cases hlt : i < p.Pages.length
    · have hx : p.Pages[i]? = some p.Pages[i] := List.getElem?_eq_getElem hlt
      have hsx := (okK.pag p.Pages[i] (List.getElem_mem hlt)).2.2
      generalize p.Pages[i] = x at hx hsx
      have hl1 : l1.length = i := by rw [h1]; simp; omega
      have hp := ok.pg1
      have c1 : ∀ t : GPage, (l1.length + [t].length) * 80 ≤ 140737488355328 := fun t => by simp only [List.length_cons, List.length_nil]; omega
      have e1 : (p.Pages.take (i + 1)).map bootG = l1 ++ [bootG x] := by rw [take_one_more hx, List.map_append, h1]; rfl
      refine .inl ⟨(i + 1, l1 ++ [bootG x]), ?_, ⟨by simp only; omega, e1.symm⟩, by simp only; omega⟩
      simp only [g_r10_Boot_L10, hlt, hx, r10_page p i x hx hsx, decide_true, cond_true, Option.bind_some, chk, c1, if_true]
    · refine .inr ⟨l1, ?_, ?_⟩
      · simp only [g_r10_Boot_L10, hlt, decide_false, cond_false]
      · have : p.Pages.take i = p.Pages := List.take_of_length_le (by omega)
        rw [this] at h1; rw [h1]) (s := (0, [])) ⟨Nat.zero_le _, rfl⟩
  obtain ⟨_, hB, rfl⟩ := hB
  have c0 := ok.ev0
  have c1 := ok.ev1
  have hC := iter_ruleB (L := g_r10_Boot_L12 p) (fun s : Int × List Bool => ∃ k : Nat, (k : Int) ≤ p.Events ∧ s.1 = (k : Int) ∧ s.2 = List.replicate k false) (fun r => r = List.replicate p.Events.toNat false) (fun s => p.Events.toNat - s.1.toNat) (fun s hI => by
    obtain ⟨z, l⟩ := s
    obtain ⟨k, hk, hz, hl⟩ := hI
    simp only at hz hl
    subst hz hl
    by_cases hlt : (k : Int) < p.Events
    · have hw : IntKind.i64.wrap ((k : Int) + 1) = ((k + 1 : Nat) : Int) := by rw [wrap64_eq ⟨by omega, by omega⟩]; omega
      have c : ((List.replicate k false).length + [false].length) * 1 ≤ 140737488355328 := by simp; omega
      refine .inl ⟨(((k + 1 : Nat) : Int), List.replicate (k + 1) false), ?_, ⟨k + 1, by omega, rfl, rfl⟩, by simp only; omega⟩
      simp only [g_r10_Boot_L12, hlt, hw, chk, c, if_true, decide_true, cond_true]
      rw [List.replicate_succ']
    · refine .inr ⟨List.replicate k false, ?_, ?_⟩
      · simp only [g_r10_Boot_L12, hlt, decide_false, cond_false]
      · congr 1; omega) (s := (0, [])) ⟨0, by omega, rfl, rfl⟩
  obtain ⟨_, hC, rfl⟩ := hC
  have hD := iter_ruleB (L := g_r10_Boot_L11 p) (fun s : Nat × List GPort => s.1 ≤ p.Ports.length ∧ s.2 = List.replicate s.1 ⟨[], 0⟩) (fun r => r = List.replicate p.Ports.length ⟨[], 0⟩) (fun s => p.Ports.length - s.1) (fun s hI => by
    obtain ⟨i, l⟩ := s
    obtain ⟨hi, hl⟩ := hI
    simp only at hi hl
    subst hl
    have hp := ok.po1
    by_cases hlt : i < p.Ports.length
    · have c : ((List.replicate i (⟨[], 0⟩ : GPort)).length + 1) * 32 ≤ 140737488355328 := by simp; omega
      refine .inl ⟨(i + 1, List.replicate (i + 1) ⟨[], 0⟩), ?_, ⟨by simp only; omega, rfl⟩, by simp only; omega⟩
      simp only [g_r10_Boot_L11, hlt, chk, c, if_true, decide_true, cond_true]
      rw [List.replicate_succ']
    · refine .inr ⟨List.replicate i ⟨[], 0⟩, ?_, ?_⟩
      · simp only [g_r10_Boot_L11, hlt, decide_false, cond_false]
      · congr 1; omega) (s := (0, [])) ⟨Nat.zero_le _, rfl⟩
  obtain ⟨_, hD, rfl⟩ := hD
  have c2 : (([] : List Int).length + p.Sems.length) * 8 ≤ 140737488355328 := by have := ok.se1; simp only [List.length_nil]; omega
  simp only [g_r10_Boot, chk, c2, hA, hB, hC, hD, Option.bind_some, if_true, List.nil_append]
  rfl
/-! ### A state is the same as itself -/
theorem iter_self {α : Type} {L : Nat → Option (Nat ⊕ (Unit ⊕ Bool))} {l : List α} (h : ∀ i x, i < l.length → l[i]? = some x → L i = some (.inl (i + 1))) (h2 : L l.length = some (.inr (.inl ()))) : iter L 0 = some (.inl ()) := by
  have hL := iter_list (L := L) (l := l) (f := fun _ _ => none) (fun i x hi hx => by rw [h i x hi hx, nxt_none]) h2
  rw [hL]
  have : ∀ (l : List α) k, firstE (fun (_ : Nat) (_ : α) => (none : Option Bool)) k l = none := by
    intro l
    induction l with
    | nil => intro k; rfl
    | cons x r ih => intro k; rw [firstE]; exact ih _
  rw [this]; rfl
theorem r11_ints_self (l : List Int) : g_r11_ints l l = some true := by
  have h := iter_self (L := g_r11_ints_L1 l l) (l := l) (fun i x hi hx => by
    simp only [g_r11_ints_L1, hi, hx, decide_true, cond_true, Option.bind_some, Bool.not_true, cond_false]) (by simp [g_r11_ints_L1])
  simp only [g_r11_ints, h, decide_true, Bool.not_true, cond_false, Option.bind_some]
theorem r11_rest_self (s : GState) : g_r11_rest s s = some true := by
  have h1 := iter_self (L := g_r11_rest_L22 s s) (l := s.Procs) (fun i x hi hx => by
    simp only [g_r11_rest_L22, hi, hx, decide_true, cond_true, Option.bind_some, Bool.not_true, cond_false]) (by simp [g_r11_rest_L22])
  have h2 := iter_self (L := g_r11_rest_L21 s s) (l := s.Timers) (fun i x hi hx => by
    simp only [g_r11_rest_L21, hi, hx, decide_true, cond_true, Option.bind_some, Bool.not_true, cond_false]) (by simp [g_r11_rest_L21])
  have h3 := iter_self (L := g_r11_rest_L20 s s) (l := s.Up) (fun i x hi hx => by
    simp only [g_r11_rest_L20, hi, hx, decide_true, cond_true, Option.bind_some, beq_self_eq_true, Bool.not_true, cond_false]) (by simp [g_r11_rest_L20])
  have h4 := iter_self (L := g_r11_rest_L19 s s) (l := s.Ports) (fun i x hi hx => by
    have h := iter_self (L := g_r11_rest_L17 s s i) (l := x.Msgs) (fun j m hj hm => by
      simp only [g_r11_rest_L17, hx, hj, hm, decide_true, cond_true, Option.bind_some, Bool.not_true, cond_false]) (by simp [g_r11_rest_L17, hx])
    simp only [g_r11_rest_L19, g_r11_rest_J18, hi, hx, h, decide_true, cond_true, Option.bind_some, Bool.not_true, cond_false]) (by simp [g_r11_rest_L19])
  simp only [g_r11_rest, h1, h2, h3, h4, r11_ints_self, decide_true, Bool.not_true, Bool.or_false, cond_false, cond_true, Option.bind_some]
theorem r11_Same_self (s : GState) : g_r11_Same s s = some true := by
  have h := iter_self (L := g_r11_Same_L2 s s) (l := s.Pages) (fun i x hi hx => by
    simp only [g_r11_Same_L2, hi, hx, decide_true, cond_true, Option.bind_some, Bool.not_true, cond_false]) (by simp [g_r11_Same_L2])
  simp only [g_r11_Same, g_r11_Same_J3, r11_rest_self, h, decide_true, Bool.not_true, cond_false, Option.bind_some]
theorem law10_PlanBoots (x : GL10Case) (hP : okPlanK x.P) : g_law10_PlanBoots x = some true := by
  by_cases h : sPlan x.P = .nil
  · have ok := okP_of h
    obtain ⟨id0, id1, pg0, pg1, pr0, pr1, po1, ev0, ev1, se1, _, _, _⟩ := ok
    have ok := okP_of h
    have hal := auto_len x.P.Procs 0
    have hpo : ∀ y ∈ (sBoot x.P).Ports, y = (⟨[], 0⟩ : GPort) := fun y hy => List.eq_of_mem_replicate hy
    have b0 : Booted x.P (sBoot x.P) := booted_of ok (sBoot x.P) [] (fun _ hx => by cases hx) rfl rfl (by simp [sBoot]) rfl rfl rfl hpo
    have k3 : K3 x.P (sBoot x.P) = true := by
      unfold K3 sBoot; simp; omega
    have f0 : sFaults x.P (sBoot x.P) = [] := by
      rw [faults_of h b0 (rights_of rfl), k3]
      have : K1 x.P (sBoot x.P) = true := by simp [K1, sBoot]
      rw [this]; rfl
    have o0 : okSm (sBoot x.P) := ⟨⟨by simp [sBoot], by simp [sBoot]; omega, by simp [sBoot]; omega⟩, by simp [sBoot]; omega, by simp only [sBoot]; omega⟩
    have r0 : g_r11_Rest x.P (sBoot x.P) = some (0, -1) := by
      simp only [g_r11_Rest, r11_check x.P (sBoot x.P) o0, Option.bind_some]
      unfold sUpTo; rw [f0]; rfl
    simp only [g_law10_PlanBoots, law10_fixed, r10_CopyK x.P hP, plan_Boot h, r10_Good, h, r0, r10_Boot h, r11_Same_self, decide_true, Bool.not_true, cond_false, cond_true, Option.bind_some]
  · have hb : g_plan_Boot x.P = some ((⟨0, 0, 0, ([] : List GProc), ([] : List Int), ([] : List GTimer), ([] : List Bool), ([] : List Int), ([] : List GPort), ([] : List GPage)⟩ : GState), (.v gPlan)) := by
      simp only [g_plan_Boot, plan_Check, h, decide_false, Bool.not_false, cond_true, Option.bind_some]
    have hs : g_law10_same (.v gPlan) 8 = some true := by simp [g_law10_same, cPlan, pV]
    simp only [g_law10_PlanBoots, g_law10_PlanBoots_J1, law10_fixed, r10_CopyK x.P hP, hb, hs, r10_Good, h, r11_Same_self, decide_false, Bool.not_true, Bool.not_false, cond_false, cond_true, Option.bind_some]
end Go.Proofs.YtpnmaabhjgiggaaGreatDoor
