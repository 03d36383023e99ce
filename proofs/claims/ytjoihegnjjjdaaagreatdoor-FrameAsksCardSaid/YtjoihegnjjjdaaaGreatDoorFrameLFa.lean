/- Plain laws of frames: what the program's and the document's checks of a configuration come to. -/
import Derived.Test.YtjoihegnjjjdaaaGreatDoorPlanLFa
set_option linter.unusedVariables false
set_option linter.unusedSimpArgs false
set_option linter.unusedSectionVars false
namespace Go.Proofs.YtjoihegnjjjdaaaGreatDoor
open Go Go.RowKit

theorem firstE_any {α : Type} (b : α → Bool) : ∀ (l : List α) (k : Nat), match firstE (fun i x => if b x = true then some ((i : Nat) : Int) else none) k l with
    | none => l.any b = false
    | some e => l.any b = true ∧ 0 ≤ e
  | [], _ => rfl
  | x :: r, k => by
    by_cases h : b x = true
    · simp only [firstE, h, if_true, List.any_cons, Bool.true_or, true_and]; omega
    · have ih := firstE_any b r (k + 1)
      simp only [Bool.not_eq_true] at h
      simp only [firstE, h, Bool.false_eq_true, if_false, List.any_cons, Bool.false_or]
      exact ih
theorem contains_Window (l : List GWindow) (f : GWindow → Option Bool) (b : GWindow → Bool) (hf : ∀ x, f x = some (b x)) : g_slices_ContainsFunc_Window l f = some (l.any b) := by
  have h := iter_list (L := g_slices_IndexFunc_Window_L1 l f) (l := l) (f := fun i x => if b x = true then some ((i : Nat) : Int) else none) (fun i x hi hx => by
    simp only [g_slices_IndexFunc_Window_L1, hi, hx, decide_true, cond_true, Option.bind_some, hf, Bool.cond_eq_ite, nxt_ite, nxt_some, nxt_none, if_true]
    split <;> rfl) (by simp [g_slices_IndexFunc_Window_L1])
  simp only [g_slices_ContainsFunc_Window, g_slices_IndexFunc_Window, h]
  have hk := firstE_any b l 0
  cases he : firstE (fun i x => if b x = true then some ((i : Nat) : Int) else none) 0 l with
  | none => rw [he] at hk; rw [hk]; rfl
  | some e => rw [he] at hk; rw [hk.1]; simp [fin, hk.2]
theorem contains_Plan (l : List GPlan) (f : GPlan → Option Bool) (b : GPlan → Bool) (hf : ∀ x, f x = some (b x)) : g_slices_ContainsFunc_Plan l f = some (l.any b) := by
  have h := iter_list (L := g_slices_IndexFunc_Plan_L1 l f) (l := l) (f := fun i x => if b x = true then some ((i : Nat) : Int) else none) (fun i x hi hx => by
    simp only [g_slices_IndexFunc_Plan_L1, hi, hx, decide_true, cond_true, Option.bind_some, hf, Bool.cond_eq_ite, nxt_ite, nxt_some, nxt_none, if_true]
    split <;> rfl) (by simp [g_slices_IndexFunc_Plan_L1])
  simp only [g_slices_ContainsFunc_Plan, g_slices_IndexFunc_Plan, h]
  have hk := firstE_any b l 0
  cases he : firstE (fun i x => if b x = true then some ((i : Nat) : Int) else none) 0 l with
  | none => rw [he] at hk; rw [hk]; rfl
  | some e => rw [he] at hk; rw [hk.1]; simp [fin, hk.2]
def hasW (c : GConfig) (p : Int) : Bool := c.Windows.any fun w => decide (w.Part = p)
theorem frame_has (c : GConfig) (p : Int) : g_frame_has c p = some (hasW c p) := by
  have h := contains_Window c.Windows (fun x0 => g_frame_has_1 x0 p) (fun w => decide (w.Part = p)) (fun x => rfl)
  unfold g_frame_has
  rw [h]; rfl
theorem frame_at (i : Int) (g : Nat) : g_frame_at i (.v g) = some (.pl i g) := rfl
/-- The document's count of windows. -/
theorem r14_count (c : GConfig) (p : Int) (hl : c.Windows.length ≤ 32) : ∃ z, g_r14_count c p = some z ∧ (z = 0 ↔ hasW c p = false) := by
  have h := iter_fold (L := g_r14_count_L5 c p) (l := c.Windows) (g := fun z x => if x.Part = p then z + 1 else z) (I := fun z i => 0 ≤ z ∧ z ≤ i) (z := 0) ⟨by omega, by omega⟩
    (fun i x z hi hx hI => ⟨by
      have e : IntKind.i64.wrap (z + 1) = z + 1 := wrap64_eq ⟨by omega, by omega⟩
      simp only [g_r14_count_L5, g_r14_count_J4, hi, hx, decide_true, cond_true, Option.bind_some, Bool.cond_eq_ite, decide_eq_true_eq, e, if_true]
      split <;> rfl, by split <;> omega⟩) (fun z _ => by simp [g_r14_count_L5])
  refine ⟨_, by simp only [g_r14_count, h.1, Option.bind_some]; rfl, ?_⟩
  have key : ∀ (l : List GWindow) (z : Int), 0 ≤ z → (l.foldl (fun z x => if x.Part = p then z + 1 else z) z = 0 ↔ z = 0 ∧ (l.any fun w => decide (w.Part = p)) = false) := by
    intro l
    induction l with
    | nil => intro z _; simp
    | cons x r ih =>
      intro z hz
      simp only [List.foldl_cons, List.any_cons]
      by_cases hx : x.Part = p
      · simp only [hx, if_true, decide_true, Bool.true_or]
        rw [ih (z + 1) (by omega)]
        constructor
        · rintro ⟨h, _⟩; omega
        · rintro ⟨_, h⟩; cases h
      · simp only [hx, if_false, decide_false, Bool.false_or]
        exact ih z hz
  have := key c.Windows 0 (Int.le_refl _)
  simpa [hasW] using this
/-! ### The rules -/
def badTicks (c : GConfig) : Prop := c.Ticks < 1 ∨ 10000 < c.Ticks ∨ c.Tries < 1 ∨ 64 < c.Tries
instance (c : GConfig) : Decidable (badTicks c) := by unfold badTicks; infer_instance
def sPart (i : Nat) (p : GPlan) : Option ErrM := if sPlan p ≠ .nil then some (.pl i gPlan) else if p.Id ≠ i then some (.pl i gArg) else none
def sHome (i : Nat) (h : Int) : Option ErrM := if h ≠ 0 ∧ h ≠ 1 then some (.pl i gRange) else none
def noNil {α : Type} (f : Nat → α → Option ErrM) : Prop := ∀ i x e, f i x = some e → e ≠ .nil
theorem firstE_noNil {α : Type} {f : Nat → α → Option ErrM} (hf : noNil f) : ∀ (l : List α) k e, firstE f k l = some e → e ≠ .nil
  | [], _, _, h => by cases h
  | x :: r, k, e, h => by
    cases hx : f k x with
    | none => simp only [firstE, hx] at h; exact firstE_noNil hf r _ e h
    | some e' => simp only [firstE, hx, Option.some.injEq] at h; subst h; exact hf k x _ hx
theorem sPart_no : noNil sPart := by
  intro i x e h; unfold sPart at h
  repeat' split at h
  all_goals first | (cases h; done) | (cases h; intro h; cases h)
theorem sHome_no : noNil sHome := by
  intro i x e h; unfold sHome at h
  repeat' split at h
  all_goals first | (cases h; done) | (cases h; intro h; cases h)
def sParts (c : GConfig) : ErrM := if c.Parts.length < 1 ∨ 8 < c.Parts.length then .v gSize else orE (orN (firstE sPart 0 c.Parts)) (if c.Homes.length ≠ c.Parts.length then .v gSize else orN (firstE sHome 0 c.Homes))
theorem frame_parts (c : GConfig) : g_frame_checkParts c = some (if badTicks c then .v gRange else sParts c) := by
  have h2 := iter_list (L := g_frame_checkParts_L2 c) (l := c.Parts) (f := sPart) (fun i x hi hx => by
    simp only [g_frame_checkParts_L2, hi, hx, decide_true, cond_true, Option.bind_some, plan_Check, frame_at, Bool.cond_eq_ite, Bool.not_eq_true', decide_eq_false_iff_not, sPart, nxt_ite, nxt_some, nxt_none, ne_eq]
    repeat' split
    all_goals first | rfl | (simp_all; done)) (by simp [g_frame_checkParts_L2])
  have h1 := iter_list (L := g_frame_checkParts_L1 c) (l := c.Homes) (f := sHome) (fun i x hi hx => by
    simp only [g_frame_checkParts_L1, hi, hx, decide_true, cond_true, Option.bind_some, frame_at, Bool.cond_eq_ite, Bool.and_eq_true, Bool.not_eq_true', decide_eq_false_iff_not, sHome, nxt_ite, nxt_some, nxt_none, ne_eq, if_true]
    repeat' split
    all_goals first | rfl | (simp_all; done)) (by simp [g_frame_checkParts_L1])
  simp only [g_frame_checkParts, h1, h2, Option.bind_some, Bool.cond_eq_ite, Bool.or_eq_true, decide_eq_true_eq, sParts, or_assoc]
  by_cases c0 : badTicks c
  · have c0' := c0; unfold badTicks at c0'; simp only [c0, c0', if_true]
  have c0' := c0; unfold badTicks at c0'; simp only [c0, c0', if_false]
  by_cases c1 : c.Parts.length < 1 ∨ 8 < c.Parts.length
  · simp only [c1, if_true]
  simp only [c1, if_false]
  cases h3 : firstE sPart 0 c.Parts with
  | some e =>
    have := firstE_noNil sPart_no _ _ _ h3
    simp only [fin, orN, Option.getD_some, orE, this, if_false]
  | none =>
    simp only [fin, orN, Option.getD_none, orE, if_true]
    by_cases c2 : c.Homes.length = c.Parts.length
    · simp only [c2, decide_true, Bool.not_true, ne_eq, not_true_eq_false, if_false, Bool.false_eq_true]
      cases firstE sHome 0 c.Homes <;> rfl
    · simp only [c2, decide_false, Bool.not_false, ne_eq, not_false_eq_true, if_true]
def eR14 (e : ErrM) : GR14Err := ⟨e.code, e.place⟩
theorem eR14_zero (e : ErrM) : ((eR14 e).Code = 0) = (e = .nil) := propext code_zero
theorem r14_parts (c : GConfig) : g_r14_parts c = some (eR14 (sParts c)) := by
  have h2 := iter_list (L := g_r14_parts_L8 c) (l := c.Parts) (f := fun i x => (sPart i x).map eR14) (fun i x hi hx => by
    by_cases c1 : sPlan x = .nil <;> by_cases c2 : x.Id = (i : Int)
    all_goals
      simp only [g_r14_parts_L8, hi, hx, decide_true, decide_false, cond_true, cond_false, Option.bind_some, r10_Good, sPart, c1, c2, Bool.not_true, Bool.not_false, if_true, if_false, ne_eq, not_true_eq_false, not_false_eq_true]
      rfl) (by simp [g_r14_parts_L8])
  have h1 := iter_list (L := g_r14_parts_L7 c) (l := c.Homes) (f := fun i x => (sHome i x).map eR14) (fun i x hi hx => by
    by_cases c1 : x = 0 <;> by_cases c2 : x = 1
    all_goals
      simp only [g_r14_parts_L7, g_r14_parts_J6, hi, hx, decide_true, decide_false, cond_true, cond_false, Option.bind_some, sHome, c1, c2, Bool.not_true, Bool.not_false, if_true, if_false, ne_eq, not_true_eq_false, not_false_eq_true, and_true, true_and, and_false, false_and]
      try rfl
    all_goals omega) (by simp [g_r14_parts_L7])
  simp only [g_r14_parts, g_r14_bad, g_r14_none, h1, h2, Option.bind_some, Bool.cond_eq_ite, Bool.or_eq_true, decide_eq_true_eq, sParts]
  rw [firstE_map (f := sPart) (m := eR14) _ _ fun _ _ _ => rfl, firstE_map (f := sHome) (m := eR14) _ _ fun _ _ _ => rfl]
  by_cases c1 : c.Parts.length < 1 ∨ 8 < c.Parts.length
  · simp only [c1, if_true]; rfl
  simp only [c1, if_false]
  cases h3 : firstE sPart 0 c.Parts with
  | some e =>
    have := firstE_noNil sPart_no _ _ _ h3
    simp only [fin, Option.map_some, orN, Option.getD_some, orE, this, if_false]
  | none =>
    simp only [fin, Option.map_none, orN, Option.getD_none, orE, if_true]
    by_cases c2 : c.Homes.length = c.Parts.length
    · simp only [c2, decide_true, Bool.not_true, ne_eq, not_true_eq_false, if_false, Bool.false_eq_true]
      cases firstE sHome 0 c.Homes <;> rfl
    · simp only [c2, decide_false, Bool.not_false, ne_eq, not_false_eq_true, if_true]; rfl
/-! ### Windows -/
def own (c : GConfig) (p : Int) : Prop := -1 ≤ p ∧ p < c.Parts.length
instance (c : GConfig) (p : Int) : Decidable (own c p) := by unfold own; infer_instance
theorem decide_iff {p q : Prop} [Decidable p] [Decidable q] (h : p ↔ q) : decide p = decide q := by
  by_cases hq : q
  · rw [decide_eq_true hq, decide_eq_true (h.2 hq)]
  · rw [decide_eq_false hq, decide_eq_false (fun hp => hq (h.1 hp))]
theorem frame_owner (c : GConfig) (p : Int) : g_frame_owner c p = some (decide (own c p)) := by
  unfold g_frame_owner g_frame_there
  by_cases h : p = -1
  · have ho : own c p := by unfold own; omega
    rw [decide_eq_true h, decide_eq_true ho]; rfl
  · rw [decide_eq_false h, cond_false, Option.bind_some, ← Bool.decide_and]
    exact congrArg some (decide_iff (by unfold own; omega))
theorem r14_owner (c : GConfig) (p : Int) : g_r14_owner c p = some (decide (own c p)) := by
  unfold g_r14_owner
  rw [← Bool.decide_and]
  exact congrArg some (decide_iff Iff.rfl)
def prevEnd (l : List GWindow) : Nat → Int
  | 0 => 0
  | i + 1 => match l[i]? with
    | some x => IntKind.i64.wrap (x.Start + x.Len)
    | none => 0
def sWin (c : GConfig) (i : Nat) (x : GWindow) : Option ErrM :=
  if ¬ own c x.Part then some (.pl i gArg)
  else if x.Start < 0 ∨ x.Len < 1 ∨ c.Ticks ≤ x.Start ∨ IntKind.i64.wrap (c.Ticks - x.Start) < x.Len then some (.pl i gRange)
  else if 0 < i ∧ x.Start < prevEnd c.Windows i then some (.pl i gBusy) else none
def sHas (c : GConfig) (i : Nat) (_ : GPlan) : Option ErrM := if hasW c i then none else some (.pl i gNone)
theorem sWin_no (c : GConfig) : noNil (sWin c) := by
  intro i x e h; unfold sWin at h
  repeat' split at h
  all_goals first | (cases h; done) | (cases h; intro h; cases h)
theorem sHas_no (c : GConfig) : noNil (sHas c) := by
  intro i x e h; unfold sHas at h
  repeat' split at h
  all_goals first | (cases h; done) | (cases h; intro h; cases h)
def sWins (c : GConfig) : ErrM := if 32 < c.Windows.length then .v gSize else orE (orN (firstE (sWin c) 0 c.Windows)) (orN (firstE (sHas c) 0 c.Parts))
theorem frame_windows (c : GConfig) : g_frame_checkWindows c = some (sWins c) := by
  have h2 := iter_listS (L := g_frame_checkWindows_L2 c) (l := c.Windows) (st := prevEnd c.Windows) (f := sWin c) (fun i x hi hx => by
    have hp : prevEnd c.Windows (i + 1) = IntKind.i64.wrap (x.Start + x.Len) := by simp only [prevEnd, hx]
    have h0 : i = 0 → prevEnd c.Windows i = 0 := fun h => by subst h; rfl
    simp only [g_frame_checkWindows_L2, hi, hx, decide_true, cond_true, Option.bind_some, frame_owner, frame_at, sWin, hp]
    by_cases c1 : own c x.Part
    · by_cases c2 : x.Start < 0 ∨ x.Len < 1 ∨ c.Ticks ≤ x.Start ∨ IntKind.i64.wrap (c.Ticks - x.Start) < x.Len
      · have c2' := c2
        rw [← or_assoc, ← or_assoc] at c2'
        simp only [c1, c2, decide_true, Bool.not_true, cond_false, not_true_eq_false, if_false, if_true, Bool.cond_eq_ite, Bool.or_eq_true, decide_eq_true_eq, c2', nxt_some, Bool.false_eq_true]
      · have c2' := c2
        rw [← or_assoc, ← or_assoc] at c2'
        by_cases c3 : x.Start < prevEnd c.Windows i
        · have c4 : 0 < i := by
            rcases Nat.eq_zero_or_pos i with h | h
            · have := h0 h; omega
            · exact h
          simp only [c1, c2, c3, c4, decide_true, Bool.not_true, cond_false, not_true_eq_false, if_false, if_true, Bool.cond_eq_ite, Bool.or_eq_true, decide_eq_true_eq, c2', nxt_some, and_self, Bool.false_eq_true]
        · simp only [c1, c2, c3, decide_true, Bool.not_true, cond_false, not_true_eq_false, if_false, if_true, Bool.cond_eq_ite, Bool.or_eq_true, decide_eq_true_eq, c2', nxt_none, and_false, Bool.false_eq_true]
    · simp only [c1, decide_false, Bool.not_false, cond_true, not_false_eq_true, if_true, nxt_some]) (by simp [g_frame_checkWindows_L2])
  have h1 := iter_list (L := g_frame_checkWindows_L1 c) (l := c.Parts) (f := sHas c) (fun i x hi hx => by
    simp only [g_frame_checkWindows_L1, hi, decide_true, cond_true, Option.bind_some, frame_has, frame_at, sHas]
    cases hasW c i <;> rfl) (by simp [g_frame_checkWindows_L1])
  have h2' : iter (g_frame_checkWindows_L2 c) (0, 0) = some (fin (firstE (sWin c) 0 c.Windows)) := h2
  simp only [g_frame_checkWindows, h1, h2', Option.bind_some, Bool.cond_eq_ite, decide_eq_true_eq, sWins]
  by_cases c1 : 32 < c.Windows.length
  · simp only [c1, if_true]
  simp only [c1, if_false]
  cases h3 : firstE (sWin c) 0 c.Windows with
  | some e =>
    have := firstE_noNil (sWin_no c) _ _ _ h3
    simp only [fin, orN, Option.getD_some, orE, this, if_false]
  | none =>
    simp only [fin, orN, Option.getD_none, orE, if_true]
    cases firstE (sHas c) 0 c.Parts <;> rfl
theorem r14_windows (c : GConfig) : g_r14_windows c = some (eR14 (sWins c)) := by
  by_cases cl : 32 < c.Windows.length
  · simp only [g_r14_windows, g_r14_bad, cl, decide_true, cond_true, Option.bind_some, sWins, if_true]; rfl
  have hl : c.Windows.length ≤ 32 := by omega
  have h2 := iter_list (L := g_r14_windows_L6 c) (l := c.Windows) (f := fun i x => (sWin c i x).map eR14) (fun i x hi hx => by
    simp only [g_r14_windows_L6, g_r14_windows_J4, hi, hx, decide_true, cond_true, Option.bind_some, r14_owner, sWin]
    by_cases c1 : own c x.Part
    · by_cases c2 : x.Start < 0 ∨ x.Len < 1 ∨ c.Ticks ≤ x.Start ∨ IntKind.i64.wrap (c.Ticks - x.Start) < x.Len
      · have c2' := c2
        rw [← or_assoc, ← or_assoc] at c2'
        simp only [c1, c2, decide_true, Bool.not_true, cond_false, not_true_eq_false, if_false, if_true, Bool.cond_eq_ite, Bool.or_eq_true, decide_eq_true_eq, c2', Option.map_some, nxt_some, Bool.false_eq_true]
        rfl
      · have c2' := c2
        rw [← or_assoc, ← or_assoc] at c2'
        by_cases c4 : 0 < i
        · obtain ⟨j, rfl⟩ : ∃ j, i = j + 1 := ⟨i - 1, by omega⟩
          have hj : j < c.Windows.length := by omega
          have e1 : IntKind.i64.wrap (((j + 1 : Nat) : Int) - 1) = (j : Int) := by rw [wrap64_eq ⟨by omega, by omega⟩]; omega
          have hr : rdI c.Windows (j : Int) = some c.Windows[j] := by simp [rdI, hj]
          have hp : prevEnd c.Windows (j + 1) = IntKind.i64.wrap (c.Windows[j].Start + c.Windows[j].Len) := by simp only [prevEnd, List.getElem?_eq_getElem hj]
          by_cases c3 : x.Start < prevEnd c.Windows (j + 1)
          · have c3' := c3
            rw [hp] at c3'
            simp only [c1, c2, c3, c3', c4, e1, hr, decide_true, Bool.not_true, cond_false, cond_true, not_true_eq_false, if_false, if_true, Bool.cond_eq_ite, Bool.or_eq_true, decide_eq_true_eq, c2', Option.map_some, nxt_some, and_self, Bool.false_eq_true, Option.bind_some]
            rfl
          · have c3' := c3
            rw [hp] at c3'
            simp only [c1, c2, c3, c3', c4, e1, hr, decide_true, decide_false, Bool.not_true, cond_false, cond_true, not_true_eq_false, if_false, if_true, Bool.cond_eq_ite, Bool.or_eq_true, decide_eq_true_eq, c2', Option.map_none, nxt_none, and_false, Bool.false_eq_true, Option.bind_some]
        · simp only [c1, c2, c4, decide_true, decide_false, Bool.not_true, cond_false, cond_true, not_true_eq_false, if_false, if_true, Bool.cond_eq_ite, Bool.or_eq_true, decide_eq_true_eq, c2', Option.map_none, nxt_none, false_and, Bool.false_eq_true, Option.bind_some]
    · simp only [c1, decide_false, Bool.not_false, cond_true, not_false_eq_true, if_true, Option.map_some, nxt_some]
      rfl) (by simp [g_r14_windows_L6])
  have h1 := iter_list (L := g_r14_windows_L5 c) (l := c.Parts) (f := fun i x => (sHas c i x).map eR14) (fun i x hi hx => by
    obtain ⟨z, hz, hz0⟩ := r14_count c i hl
    simp only [g_r14_windows_L5, hi, decide_true, cond_true, Option.bind_some, hz, sHas]
    cases hh : hasW c i with
    | false => rw [decide_eq_true (hz0.2 hh)]; rfl
    | true => rw [decide_eq_false (fun e => by have := hz0.1 e; rw [hh] at this; cases this)]; rfl) (by simp [g_r14_windows_L5])
  simp only [g_r14_windows, g_r14_none, h1, h2, Option.bind_some, Bool.cond_eq_ite, decide_eq_true_eq, sWins, cl, if_false]
  rw [firstE_map (f := sWin c) (m := eR14) _ _ fun _ _ _ => rfl, firstE_map (f := sHas c) (m := eR14) _ _ fun _ _ _ => rfl]
  cases h3 : firstE (sWin c) 0 c.Windows with
  | some e =>
    have := firstE_noNil (sWin_no c) _ _ _ h3
    simp only [fin, Option.map_some, orN, Option.getD_some, orE, this, if_false]
  | none =>
    simp only [fin, Option.map_none, orN, Option.getD_none, orE, if_true]
    cases firstE (sHas c) 0 c.Parts <;> rfl
/-! ### Links -/
def there (c : GConfig) (p : Int) : Prop := 0 ≤ p ∧ p < c.Parts.length
instance (c : GConfig) (p : Int) : Decidable (there c p) := by unfold there; infer_instance
theorem rdI_at {α : Type} {l : List α} {z : Int} (h0 : 0 ≤ z) (h1 : z < l.length) : ∃ x, rdI l z = some x := by
  have hz : z.toNat < l.length := by omega
  exact ⟨l[z.toNat], by simp [rdI, h0, hz]⟩
def mob (c : GConfig) (p : Int) : Bool := match rdI c.Parts p with
  | some x => x.Mobile
  | none => false
def kindP (p : GPlan) (n : Int) : Int := if n < 0 ∨ (p.Ports.length : Int) ≤ n then 0 else match rdI p.Ports n with
  | some x => x.Kind
  | none => 0
def kindA (c : GConfig) (p n : Int) : Int := match rdI c.Parts p with
  | some x => kindP x n
  | none => 0
def sLink (c : GConfig) (i : Nat) (l : GLink) : Option ErrM :=
  if ¬ there c l.From ∨ ¬ there c l.To ∨ l.From = l.To then some (.pl i gArg)
  else if mob c l.From = true ∨ mob c l.To = true then some (.pl i gPlan)
  else if (kindA c l.From l.Out ≠ 2 ∧ kindA c l.From l.Out ≠ 4) ∨ (kindA c l.To l.In ≠ 1 ∧ kindA c l.To l.In ≠ 3) then some (.pl i gKind) else none
theorem sLink_no (c : GConfig) : noNil (sLink c) := by
  intro i x e h; unfold sLink at h
  repeat' split at h
  all_goals first | (cases h; done) | (cases h; intro h; cases h)
theorem frame_isPort (p : GPlan) (n a b : Int) (ha : a ≠ 0) (hb : b ≠ 0) : g_frame_isPort p n a b = some (decide (kindP p n = a ∨ kindP p n = b)) := by
  unfold g_frame_isPort kindP
  by_cases h0 : 0 ≤ n
  · by_cases h1 : n < (p.Ports.length : Int)
    · obtain ⟨x, hx⟩ := rdI_at h0 h1
      have h2 : ¬ (n < 0 ∨ (p.Ports.length : Int) ≤ n) := by omega
      simp only [h0, h1, h2, hx, decide_true, cond_true, Option.bind_some, if_false, Bool.cond_eq_ite, decide_eq_true_eq]
      by_cases h3 : x.Kind = a
      · simp only [h3, if_true, true_or, decide_true]
      · simp only [h3, if_false, false_or, if_true]
    · have h2 : n < 0 ∨ (p.Ports.length : Int) ≤ n := by omega
      simp only [h0, h1, h2, decide_true, decide_false, cond_true, cond_false, if_true, Ne.symm ha, Ne.symm hb, or_self]
  · have h2 : n < 0 ∨ (p.Ports.length : Int) ≤ n := by omega
    simp only [h0, h2, decide_false, cond_false, if_true, Ne.symm ha, Ne.symm hb, or_self]
theorem frame_there (c : GConfig) (p : Int) : g_frame_there c p = some (decide (there c p)) := by
  unfold g_frame_there
  rw [← Bool.decide_and]
  exact congrArg some (decide_iff Iff.rfl)
def snapless (c : GConfig) : Bool := (c.Parts.any fun p => p.Mobile) && !(hasW c (-1))
def sLinks0 (c : GConfig) : ErrM := if 16 < c.Links.length then .v gSize else orN (firstE (sLink c) 0 c.Links)
def sLinks (c : GConfig) : ErrM := orE (sLinks0 c) (if snapless c = true then .v gNone else .nil)
theorem frame_links (c : GConfig) : g_frame_checkLinks c = some (sLinks c) := by
  have h := iter_list (L := g_frame_checkLinks_L20 c) (l := c.Links) (f := sLink c) (fun i x hi hx => by
    simp only [g_frame_checkLinks_L20, hi, hx, decide_true, cond_true, Option.bind_some, frame_there, sLink]
    by_cases c1 : there c x.From
    · by_cases c2 : there c x.To
      · obtain ⟨p, hp⟩ := rdI_at c1.1 c1.2
        obtain ⟨q, hq⟩ := rdI_at c2.1 c2.2
        have m1 : mob c x.From = p.Mobile := by simp only [mob, hp]
        have m2 : mob c x.To = q.Mobile := by simp only [mob, hq]
        have k1 : kindA c x.From x.Out = kindP p x.Out := by simp only [kindA, hp]
        have k2 : kindA c x.To x.In = kindP q x.In := by simp only [kindA, hq]
        by_cases c3 : x.From = x.To
        · simp only [c1, c2, c3, decide_true, Bool.not_true, cond_false, Option.bind_some, g_frame_checkLinks_J18, cond_true, frame_at, not_true_eq_false, or_true, if_true, nxt_some]
        · simp only [c1, c2, c3, decide_true, decide_false, Bool.not_true, cond_false, Option.bind_some, g_frame_checkLinks_J18, hp, hq, not_true_eq_false, or_self, if_false, m1, m2, k1, k2]
          cases e1 : p.Mobile with
          | true => simp only [cond_true, Option.bind_some, g_frame_checkLinks_J17, frame_at, true_or, if_true, nxt_some]
          | false =>
            cases e2 : q.Mobile with
            | true => simp only [cond_true, cond_false, Option.bind_some, g_frame_checkLinks_J17, frame_at, or_true, if_true, nxt_some]
            | false =>
              simp only [cond_false, Option.bind_some, g_frame_checkLinks_J17, hp, hq, frame_isPort p x.Out 2 4 (by decide) (by decide), frame_isPort q x.In 1 3 (by decide) (by decide), Bool.false_eq_true, or_self, if_false]
              by_cases c4 : kindP p x.Out = 2 ∨ kindP p x.Out = 4
              · by_cases c5 : kindP q x.In = 1 ∨ kindP q x.In = 3
                · have n1 : ¬ ((kindP p x.Out ≠ 2 ∧ kindP p x.Out ≠ 4) ∨ (kindP q x.In ≠ 1 ∧ kindP q x.In ≠ 3)) := by omega
                  simp only [c4, c5, n1, decide_true, Bool.not_true, cond_false, Option.bind_some, g_frame_checkLinks_J16, if_false, nxt_none]
                · have n1 : (kindP p x.Out ≠ 2 ∧ kindP p x.Out ≠ 4) ∨ (kindP q x.In ≠ 1 ∧ kindP q x.In ≠ 3) := by omega
                  simp only [c4, c5, n1, decide_true, decide_false, Bool.not_true, Bool.not_false, cond_false, cond_true, Option.bind_some, g_frame_checkLinks_J16, frame_at, if_true, nxt_some]
              · have n1 : (kindP p x.Out ≠ 2 ∧ kindP p x.Out ≠ 4) ∨ (kindP q x.In ≠ 1 ∧ kindP q x.In ≠ 3) := by omega
                simp only [c4, n1, decide_false, Bool.not_false, cond_true, Option.bind_some, g_frame_checkLinks_J16, frame_at, if_true, nxt_some]
      · simp only [c1, c2, decide_true, decide_false, Bool.not_true, Bool.not_false, cond_false, cond_true, Option.bind_some, g_frame_checkLinks_J18, frame_at, not_true_eq_false, not_false_eq_true, true_or, or_true, if_true, nxt_some]
    · simp only [c1, decide_false, Bool.not_false, cond_true, Option.bind_some, g_frame_checkLinks_J18, frame_at, not_false_eq_true, true_or, if_true, nxt_some]) (by simp [g_frame_checkLinks_L20])
  have hc := contains_Plan c.Parts (fun x0 => g_frame_checkLinks_1 x0) (fun p => p.Mobile) (fun x => rfl)
  simp only [g_frame_checkLinks, h, hc, Option.bind_some, Bool.cond_eq_ite, decide_eq_true_eq, sLinks, sLinks0]
  by_cases c1 : 16 < c.Links.length
  · simp only [c1, if_true]; rfl
  simp only [c1, if_false]
  cases h3 : firstE (sLink c) 0 c.Links with
  | some e =>
    have := firstE_noNil (sLink_no c) _ _ _ h3
    simp only [fin, orN, Option.getD_some, orE, this, if_false]
  | none =>
    simp only [fin, orN, Option.getD_none, orE, if_true, frame_has, Option.bind_some]
    have hs : snapless c = ((c.Parts.any fun p => p.Mobile) && !(hasW c (-1))) := rfl
    rcases Bool.eq_false_or_eq_true (c.Parts.any fun p => p.Mobile) with hm | hm <;> rcases Bool.eq_false_or_eq_true (hasW c (-1)) with hw | hw <;> rw [hm, hw] at hs <;> rw [hm, hs]
    · rw [hw]; rfl
    · rw [hw]; rfl
    · rfl
    · rfl
theorem r14_kind (c : GConfig) (p : GPlan) (a n : Int) (hp : rdI c.Parts a = some p) : g_r14_kind c a n = some (kindP p n) := by
  simp only [g_r14_kind, hp, Option.bind_some, kindP, Bool.cond_eq_ite, Bool.or_eq_true, decide_eq_true_eq]
  by_cases h : n < 0 ∨ (p.Ports.length : Int) ≤ n
  · simp only [h, if_true]
  · obtain ⟨x, hx⟩ := rdI_at (l := p.Ports) (z := n) (by omega) (by omega)
    simp only [h, if_false, hx, Option.bind_some]
theorem r14_links (c : GConfig) : g_r14_links c = some (eR14 (sLinks0 c)) := by
  have h := iter_list (L := g_r14_links_L25 c) (l := c.Links) (f := fun i x => (sLink c i x).map eR14) (fun i x hi hx => by
    simp only [g_r14_links_L25, hi, hx, decide_true, cond_true, Option.bind_some, r14_owner, sLink]
    by_cases c1 : there c x.From
    · by_cases c2 : there c x.To
      · obtain ⟨p, hp⟩ := rdI_at c1.1 c1.2
        obtain ⟨q, hq⟩ := rdI_at c2.1 c2.2
        have m1 : mob c x.From = p.Mobile := by simp only [mob, hp]
        have m2 : mob c x.To = q.Mobile := by simp only [mob, hq]
        have k1 : kindA c x.From x.Out = kindP p x.Out := by simp only [kindA, hp]
        have k2 : kindA c x.To x.In = kindP q x.In := by simp only [kindA, hq]
        have o1 : own c x.From := ⟨by have := c1.1; omega, c1.2⟩
        have o2 : own c x.To := ⟨by have := c2.1; omega, c2.2⟩
        have z1 : ¬ x.From < 0 := by have := c1.1; omega
        have z2 : ¬ x.To < 0 := by have := c2.1; omega
        by_cases c3 : x.From = x.To
        · have z3 : ¬ x.To < 0 := z2
          simp only [c1, c2, o1, o2, z1, z2, decide_true, decide_false, Bool.not_true, cond_false, Option.bind_some, not_true_eq_false, or_self, false_or]
          simp only [c3, decide_true, Option.bind_some, g_r14_links_J24, cond_true, if_true, Option.map_some, nxt_some]
          rfl
        · simp only [c1, c2, c3, o1, o2, z1, z2, decide_true, decide_false, Bool.not_true, cond_false, Option.bind_some, g_r14_links_J24, hp, hq, not_true_eq_false, or_self, if_false, m1, m2, k1, k2]
          cases e1 : p.Mobile with
          | true => simp only [cond_true, Option.bind_some, g_r14_links_J23, true_or, if_true, Option.map_some, nxt_some]; rfl
          | false =>
            cases e2 : q.Mobile with
            | true => simp only [cond_true, cond_false, Option.bind_some, g_r14_links_J23, or_true, if_true, Option.map_some, nxt_some]; rfl
            | false =>
              simp only [cond_false, Option.bind_some, g_r14_links_J23, r14_kind c p _ _ hp, r14_kind c q _ _ hq, Bool.false_eq_true, or_self, if_false, Bool.cond_eq_ite, Bool.or_eq_true, Bool.and_eq_true, Bool.not_eq_true', decide_eq_false_iff_not]
              by_cases n1 : (kindP p x.Out ≠ 2 ∧ kindP p x.Out ≠ 4) ∨ (kindP q x.In ≠ 1 ∧ kindP q x.In ≠ 3)
              · simp only [n1, if_true, Option.map_some, nxt_some]
                rfl
              · simp only [n1, if_false, Option.map_none, nxt_none]
      · have o2 : x.To < 0 ∨ ¬ own c x.To := by unfold there own at *; omega
        have o1 : own c x.From := ⟨by have := c1.1; omega, c1.2⟩
        have z1 : ¬ x.From < 0 := by have := c1.1; omega
        by_cases z2 : x.To < 0
        · simp only [c1, c2, z1, z2, decide_true, decide_false, cond_false, cond_true, Option.bind_some, g_r14_links_J24, not_false_eq_true, not_true_eq_false, true_or, or_true, if_true, Option.map_some, nxt_some]; rfl
        · have o3 : ¬ own c x.To := o2.resolve_left z2
          simp only [c1, c2, o1, o3, z1, z2, decide_true, decide_false, Bool.not_true, Bool.not_false, cond_false, cond_true, Option.bind_some, g_r14_links_J24, not_false_eq_true, not_true_eq_false, true_or, or_true, if_true, Option.map_some, nxt_some]; rfl
    · have o1 : x.From < 0 ∨ ¬ own c x.From := by unfold there own at *; omega
      by_cases z1 : x.From < 0
      · simp only [c1, z1, decide_true, cond_true, Option.bind_some, g_r14_links_J24, not_false_eq_true, true_or, if_true, Option.map_some, nxt_some]; rfl
      · have o3 : ¬ own c x.From := o1.resolve_left z1
        by_cases z2 : x.To < 0
        · simp only [c1, z1, z2, decide_true, decide_false, cond_true, cond_false, Option.bind_some, g_r14_links_J24, not_false_eq_true, true_or, if_true, Option.map_some, nxt_some]; rfl
        · simp only [c1, z1, z2, o3, decide_true, decide_false, Bool.not_false, cond_true, cond_false, Option.bind_some, g_r14_links_J24, not_false_eq_true, true_or, if_true, Option.map_some, nxt_some]; rfl) (by simp [g_r14_links_L25])
  simp only [g_r14_links, g_r14_bad, g_r14_none, h, Option.bind_some, Bool.cond_eq_ite, decide_eq_true_eq, sLinks0]
  rw [firstE_map (f := sLink c) (m := eR14) _ _ fun _ _ _ => rfl]
  by_cases c1 : 16 < c.Links.length
  · simp only [c1, if_true]; rfl
  simp only [c1, if_false]
  cases firstE (sLink c) 0 c.Links <;> rfl
/-! ### Check -/
def sCheck (c : GConfig) : ErrM := if badTicks c then .v gRange else orE (sParts c) (orE (sWins c) (sLinks c))
theorem frame_Check (c : GConfig) : g_frame_Check c = some (sCheck c) := by
  simp only [g_frame_Check, frame_parts, frame_windows, frame_links, Option.bind_some, Bool.cond_eq_ite, Bool.not_eq_true', decide_eq_false_iff_not, sCheck]
  by_cases c0 : badTicks c
  · simp only [c0, if_true]; rfl
  simp only [c0, if_false, orE]
  by_cases c1 : sParts c = .nil
  · simp only [c1, not_true_eq_false, if_false, if_true]
    by_cases c2 : sWins c = .nil
    · simp only [c2, not_true_eq_false, if_false, if_true]
      by_cases c3 : sLinks c = .nil
      · simp only [c3, not_true_eq_false, if_false]
      · simp only [c3, not_false_eq_true, if_true]
    · simp only [c2, not_false_eq_true, if_true, if_false]
  · simp only [c1, not_false_eq_true, if_true, if_false]
theorem sWins_short {c : GConfig} (h : sWins c = .nil) : c.Windows.length ≤ 32 := by
  unfold sWins at h
  by_cases c1 : 32 < c.Windows.length
  · rw [if_pos c1] at h; cases h
  · omega
theorem r14_Check (c : GConfig) : g_r14_Check c = some (eR14 (sCheck c)) := by
  have hb : (((c.Ticks < 1 ∨ 10000 < c.Ticks) ∨ c.Tries < 1) ∨ 64 < c.Tries) ↔ badTicks c := by unfold badTicks; omega
  simp only [g_r14_Check, g_r14_bad, r14_parts, Option.bind_some, Bool.cond_eq_ite, Bool.or_eq_true, decide_eq_true_eq, sCheck, hb, r14_windows, eR14_zero]
  by_cases c0 : badTicks c
  · simp only [c0, if_true]; rfl
  simp only [c0, if_false]
  have J8 : ∀ e : ErrM, e ≠ .nil → g_r14_Check_J8 c (eR14 e) = some (eR14 e) := fun e he => by
    simp only [g_r14_Check_J8, eR14_zero, he, decide_false, Bool.not_false, cond_true]
  have J9 : ∀ e : ErrM, e ≠ .nil → g_r14_Check_J9 c (eR14 e) = some (eR14 e) := fun e he => by
    simp only [g_r14_Check_J9, eR14_zero, he, decide_false, cond_false, Option.bind_some, J8 e he]
  by_cases c1 : sParts c = .nil
  · simp only [c1, if_true, Option.bind_some, orE]
    by_cases c2 : sWins c = .nil
    · have hl := sWins_short c2
      simp only [c2, if_true]
      have e9 : g_r14_Check_J9 c (eR14 ErrM.nil) = g_r14_Check_J8 c (eR14 (sLinks0 c)) := by
        simp only [g_r14_Check_J9, eR14_zero, decide_true, cond_true, Option.bind_some, r14_links]
      rw [e9]
      unfold sLinks orE
      by_cases c3 : sLinks0 c = .nil
      · rw [c3, if_pos rfl]
        have h := iter_list (L := g_r14_Check_L7 c) (l := c.Parts) (f := fun i x => if x.Mobile = true ∧ hasW c (-1) = false then some (eR14 (.v gNone)) else none) (fun i x hi hx => by
          obtain ⟨z, hz, hz0⟩ := r14_count c (-1) hl
          simp only [g_r14_Check_L7, g_r14_Check_J6, g_r14_bad, hi, hx, decide_true, cond_true, Option.bind_some, hz]
          cases hm : x.Mobile with
          | false => simp [nxt_none]
          | true =>
            cases hh : hasW c (-1) with
            | false => rw [decide_eq_true (hz0.2 hh)]; rfl
            | true => rw [decide_eq_false (fun e => by have := hz0.1 e; rw [hh] at this; cases this)]; simp [nxt_none]) (by simp [g_r14_Check_L7])
        simp only [g_r14_Check_J8, g_r14_none, h, eR14_zero, decide_true, Bool.not_true, cond_false, Option.bind_some]
        have key : ∀ (l : List GPlan) k, firstE (fun (_ : Nat) (x : GPlan) => if x.Mobile = true ∧ hasW c (-1) = false then some (eR14 (.v gNone)) else none) k l = if (l.any (fun p => p.Mobile) && !(hasW c (-1))) = true then some (eR14 (.v gNone)) else none := by
          intro l
          induction l with
          | nil => intro k; rfl
          | cons x r ih =>
            intro k
            simp only [firstE, List.any_cons]
            rw [ih]
            rcases Bool.eq_false_or_eq_true x.Mobile with hm | hm <;> rcases Bool.eq_false_or_eq_true (hasW c (-1)) with hw | hw <;> simp [hm, hw]
        rw [key]
        have hs : snapless c = ((c.Parts.any fun p => p.Mobile) && !(hasW c (-1))) := rfl
        rw [← hs]
        cases snapless c <;> rfl
      · rw [if_neg c3]
        exact J8 _ c3
    · simp only [c2, if_false]
      exact J9 _ c2
  · simp only [c1, if_false, Option.bind_some, orE]
    exact J9 _ c1
end Go.Proofs.YtjoihegnjjjdaaaGreatDoor
