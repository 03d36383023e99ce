/- Plain laws of plans: what the program's and the document's checks come to. -/
import Derived.Test.YtpnmaabhjgiggaaGreatDoorPzD
set_option linter.unusedVariables false
set_option linter.unusedSimpArgs false
set_option linter.unusedSectionVars false
namespace Go.Proofs.YtpnmaabhjgiggaaGreatDoor
open Go Go.RowKit

/-! ### Loops -/
section
variable {α ε σ ρ : Type}
/-- The first that is found along a list. -/
def firstE (f : Nat → α → Option ε) : Nat → List α → Option ε
  | _, [] => none
  | k, x :: r => match f k x with
    | some e => some e
    | none => firstE f (k + 1) r
theorem firstE_map {ε' : Type} {f : Nat → α → Option ε} {g : Nat → α → Option ε'} {m : ε → ε'} : ∀ (l : List α) (k : Nat), (∀ i x, l[i]? = some x → g (k + i) x = (f (k + i) x).map m) → firstE g k l = (firstE f k l).map m
  | [], _, _ => rfl
  | x :: r, k, h => by
    have h0 : g k x = (f k x).map m := h 0 x rfl
    have h1 := firstE_map (m := m) r (k + 1) fun i y hy => (show k + (i + 1) = k + 1 + i by omega) ▸ h (i + 1) y (by simpa using hy)
    rw [firstE, firstE, h0, h1]
    cases f k x <;> rfl
/-- What an end of a loop that seeks comes to. -/
def fin (o : Option ε) : Unit ⊕ ε := match o with
  | none => .inl ()
  | some e => .inr e
/-- .. of a round. -/
def nxt (s : σ) (o : Option ε) : σ ⊕ (Unit ⊕ ε) := match o with
  | none => .inl s
  | some e => .inr (.inr e)
theorem nxt_some (s : σ) (e : ε) : nxt s (some e) = .inr (.inr e) := rfl
theorem nxt_none (s : σ) : nxt s (none : Option ε) = .inl s := rfl
theorem nxt_ite (s : σ) (c : Prop) [Decidable c] (a b : Option ε) : nxt s (if c then a else b) = if c then nxt s a else nxt s b := by split <;> rfl
theorem iter_list {L : Nat → Option (Nat ⊕ (Unit ⊕ ε))} {l : List α} {f : Nat → α → Option ε}
    (h : ∀ i x, i < l.length → l[i]? = some x → L i = some (nxt (i + 1) (f i x))) (h2 : L l.length = some (.inr (.inl ()))) :
    iter L 0 = some (fin (firstE f 0 l)) := by
  have key : ∀ m k, k + m = l.length → iter L k = some (fin (firstE f k (l.drop k))) := by
    intro m
    induction m with
    | zero =>
      intro k hk
      obtain rfl : k = l.length := by omega
      rw [iter_inr h2, List.drop_length]; rfl
    | succ m ih =>
      intro k hk
      have hlt : k < l.length := by omega
      have hx : l[k]? = some l[k] := List.getElem?_eq_getElem hlt
      have hd : l.drop k = l[k] :: l.drop (k + 1) := List.drop_eq_getElem_cons hlt
      have hs := h k _ hlt hx
      rw [hd]
      cases hf : f k l[k] with
      | none => rw [hf] at hs; rw [iter_inl hs, ih (k + 1) (by omega), firstE, hf]
      | some e => rw [hf] at hs; rw [iter_inr hs, firstE, hf]; rfl
  simpa using key l.length 0 (by omega)
/-- A loop over a list that takes all of it. -/
theorem iter_fold {L : σ × Nat → Option ((σ × Nat) ⊕ σ)} {l : List α} {g : σ → α → σ} {I : σ → Nat → Prop} {z : σ} (h0 : I z 0)
    (h : ∀ i x z, i < l.length → l[i]? = some x → I z i → L (z, i) = some (.inl (g z x, i + 1)) ∧ I (g z x) (i + 1)) (h2 : ∀ z, I z l.length → L (z, l.length) = some (.inr z)) :
    iter L (z, 0) = some (l.foldl g z) ∧ I (l.foldl g z) l.length := by
  have key : ∀ m k z, k + m = l.length → I z k → iter L (z, k) = some ((l.drop k).foldl g z) ∧ I ((l.drop k).foldl g z) l.length := by
    intro m
    induction m with
    | zero =>
      intro k z hk hI
      obtain rfl : k = l.length := by omega
      rw [iter_inr (h2 z hI), List.drop_length]; exact ⟨rfl, hI⟩
    | succ m ih =>
      intro k z hk hI
      have hlt : k < l.length := by omega
      have hx : l[k]? = some l[k] := List.getElem?_eq_getElem hlt
      have hd : l.drop k = l[k] :: l.drop (k + 1) := List.drop_eq_getElem_cons hlt
      have hs := h k _ z hlt hx hI
      rw [hd, iter_inl hs.1, List.foldl_cons]
      exact ih (k + 1) _ (by omega) hs.2
  simpa using key l.length 0 z (by omega) h0
end
/-! ### Codes -/
theorem cRange : (ErrM.v gRange).code = 4 := by decide
theorem cPlan : (ErrM.v gPlan).code = 8 := by decide
theorem cNil : ErrM.nil.code = 0 := rfl
theorem cPl (p : Int) (g : Nat) : (ErrM.pl p g).code = (ErrM.v g).code := rfl
theorem pPl (p : Int) (g : Nat) : (ErrM.pl p g).place = p := rfl
theorem pV (g : Nat) : (ErrM.v g).place = -1 := rfl
theorem pNil : ErrM.nil.place = -1 := rfl
theorem code_zero {e : ErrM} : e.code = 0 ↔ e = .nil := by
  cases e with
  | nil => simp [cNil]
  | v g => simp only [ErrM.code, ErrM.g?, codeG]; constructor <;> intro h <;> first | omega | cases h
  | pl p g => simp only [ErrM.code, ErrM.g?, codeG]; constructor <;> intro h <;> first | omega | cases h
/-! ### Ports -/
def sPort (p : GPortPlan) : ErrM :=
  if p.Kind < 1 ∨ 4 < p.Kind then .v gKind
  else if p.Size < 1 ∨ 32 < p.Size then .v gSize
  else if p.Depth < 1 ∨ (if 3 ≤ p.Kind then 8 else 1) < p.Depth ∨ p.Refresh < 0 ∨ (if p.Kind = 1 then 255 else 0) < p.Refresh then .v gRange
  else .nil
theorem port_CheckPlan (p : GPortPlan) : g_port_CheckPlan p = some (sPort p) := by
  have hk : (p.Kind < 1 ∨ 4 < p.Kind) ∨ p.Kind = 1 ∨ p.Kind = 2 ∨ p.Kind = 3 ∨ p.Kind = 4 := by omega
  rcases hk with h | h | h | h | h
  all_goals
    unfold g_port_CheckPlan g_port_CheckPlan_J3 g_port_CheckPlan_J2 g_port_CheckPlan_J1 g_port_isQueue g_port_isIn g_port_isOut sPort
    first
    | (have h1 : ¬ p.Kind = 1 := by omega
       have h2 : ¬ p.Kind = 2 := by omega
       have h3 : ¬ p.Kind = 3 := by omega
       have h4 : ¬ p.Kind = 4 := by omega
       simp [h1, h2, h3, h4, h])
    | (simp [h, Bool.cond_eq_ite]; repeat' split
       all_goals first | rfl | omega | simp_all)
theorem r07_CheckPlan (p : GPortPlan) : g_r07_CheckPlan p = some (sPort p).code := by
  have hk : (p.Kind < 1 ∨ 4 < p.Kind) ∨ p.Kind = 1 ∨ p.Kind = 2 ∨ p.Kind = 3 ∨ p.Kind = 4 := by omega
  rcases hk with h | h | h | h | h
  all_goals
    unfold g_r07_CheckPlan sPort
    simp [h, Bool.cond_eq_ite]
    try (repeat' split
         all_goals first | rfl | omega | (simp_all; omega))
/-! ### The rules of a plan -/
def sPage (i : Nat) (x : GPagePlan) : Option ErrM := if x.Rights < 0 ∨ 7 < x.Rights then some (.pl i gRange) else if 64 < x.Init.size then some (.pl i gLength) else none
def orN (o : Option ErrM) : ErrM := o.getD .nil
def sPages (p : GPlan) : ErrM := if p.Pages.length < 1 ∨ 32 < p.Pages.length then .v gSize else orN (firstE sPage 0 p.Pages)
theorem plan_at (i : Int) (g : Nat) : g_plan_at i (.v g) = some (.pl i g) := rfl
theorem plan_pages (p : GPlan) : g_plan_checkPages p = some (sPages p) := by
  have h := iter_list (L := g_plan_checkPages_L1 p) (l := p.Pages) (f := sPage) (fun i x hi hx => by
    simp only [g_plan_checkPages_L1, hi, hx, decide_true, cond_true, Option.bind_some, plan_at, Bool.cond_eq_ite, Bool.or_eq_true, decide_eq_true_eq, sPage, nxt_ite, nxt_some, nxt_none]
    repeat' split
    all_goals first | rfl | (simp_all; done) | omega) (by simp [g_plan_checkPages_L1])
  simp only [g_plan_checkPages, h, sPages, Option.bind_some, Bool.cond_eq_ite, Bool.or_eq_true, decide_eq_true_eq]
  cases firstE sPage 0 p.Pages <;> (split <;> rfl)
def sProc (n : Nat) (i : Nat) (x : GProcPlan) : Option ErrM := if x.Entry < 0 ∨ IntKind.i64.wrap (64 * (n : Int)) ≤ x.Entry ∨ Int.tmod x.Entry 4 ≠ 0 ∨ x.Prio < 0 ∨ 255 < x.Prio then some (.pl i gRange) else none
def sProcs (p : GPlan) : ErrM := if p.Procs.length < 1 ∨ 8 < p.Procs.length then .v gSize else orN (firstE (sProc p.Pages.length) 0 p.Procs)
theorem plan_procs (p : GPlan) : g_plan_checkProcs p = some (sProcs p) := by
  have h := iter_list (L := g_plan_checkProcs_L7 p) (l := p.Procs) (f := sProc p.Pages.length) (fun i x hi hx => by
    simp only [g_plan_checkProcs_L7, g_plan_checkProcs_J6, hi, hx, decide_true, cond_true, Option.bind_some, plan_at, Bool.cond_eq_ite, decide_eq_true_eq, sProc, nxt_ite, nxt_some, nxt_none, Bool.not_eq_true', decide_eq_false_iff_not]
    repeat' split
    all_goals first | rfl | omega | (simp_all; done) | (simp_all; omega)) (by simp [g_plan_checkProcs_L7])
  simp only [g_plan_checkProcs, h, sProcs, Option.bind_some, Bool.cond_eq_ite, Bool.or_eq_true, decide_eq_true_eq]
  cases firstE (sProc p.Pages.length) 0 p.Procs <;> (split <;> rfl)
def sPortE (i : Nat) (x : GPortPlan) : Option ErrM := match sPort x with
  | .v g => some (.pl i g)
  | _ => none
theorem sPort_cases (x : GPortPlan) : sPort x = .nil ∨ ∃ g, sPort x = .v g := by
  unfold sPort
  repeat' split
  all_goals first | exact .inl rfl | exact .inr ⟨_, rfl⟩
def sPorts (p : GPlan) : ErrM := if 8 < p.Ports.length then .v gSize else orN (firstE sPortE 0 p.Ports)
def sSem (i : Nat) (x : Int) : Option ErrM := if x < 0 ∨ 255 < x then some (.pl i gRange) else none
def sThings (p : GPlan) : ErrM := if p.Events < 0 ∨ 8 < p.Events then .v gRange else if 8 < p.Sems.length then .v gSize else orN (firstE sSem 0 p.Sems)
def sMost (x : GPortPlan) : Int := if sPort x ≠ .nil then 0 else if x.Kind = 2 ∨ x.Kind = 4 then 2 else IntKind.i64.wrap (2 + IntKind.i64.wrap (x.Depth * IntKind.i64.wrap (1 + x.Size)))
def sBound (p : GPlan) : Int := p.Ports.foldl (fun z x => IntKind.i64.wrap (z + IntKind.i64.wrap (3 + sMost x))) (IntKind.i64.wrap ((IntKind.i64.wrap ((IntKind.i64.wrap ((IntKind.i64.wrap (58 + (IntKind.i64.wrap (76 * ((p.Procs.length : Nat) : Int))))) + (IntKind.i64.wrap (68 * ((p.Pages.length : Nat) : Int))))) + p.Events)) + ((p.Sems.length : Nat) : Int)))
theorem port_Most (x : GPortPlan) : ∃ e, g_port_Most x = some (sMost x, e) := by
  simp only [g_port_Most, port_CheckPlan, Option.bind_some, sMost, g_port_isOut, Bool.cond_eq_ite, Bool.not_eq_true', decide_eq_false_iff_not, Bool.or_eq_true, decide_eq_true_eq]
  repeat' split
  all_goals first | exact ⟨_, rfl⟩ | (simp_all; done)
theorem r07_Most (x : GPortPlan) : ∃ e, g_r07_Most x = some (sMost x, e) := by
  simp only [g_r07_Most, r07_CheckPlan, Option.bind_some, sMost, Bool.cond_eq_ite, Bool.not_eq_true', decide_eq_false_iff_not, code_zero, decide_eq_true_eq]
  by_cases h : sPort x = .nil
  · simp only [h, not_true_eq_false, if_false, ne_eq]
    have hk : 1 ≤ x.Kind ∧ x.Kind ≤ 4 ∧ 1 ≤ x.Depth ∧ (x.Kind ≤ 2 → x.Depth = 1) ∧ 1 ≤ x.Size ∧ x.Size ≤ 32 := by
      unfold sPort at h
      repeat' split at h
      all_goals first | (cases h; done) | omega
    repeat' split
    all_goals first | (exact ⟨_, rfl⟩) | omega | skip
    have h1 : x.Depth = 1 := by omega
    refine ⟨0, ?_⟩
    rw [h1, Int.one_mul]
    congr 2
    have e1 : IntKind.i64.wrap (1 + x.Size) = 1 + x.Size := wrap64_eq ⟨by omega, by omega⟩
    rw [e1, e1]
    congr 1
    omega
  · simp only [h, not_false_eq_true, if_true, ne_eq]
    exact ⟨_, rfl⟩
theorem plan_bound (p : GPlan) : g_plan_bound p = some (sBound p) := by
  have h := iter_fold (L := g_plan_bound_L1 p) (l := p.Ports) (g := fun z x => IntKind.i64.wrap (z + IntKind.i64.wrap (3 + sMost x))) (I := fun _ _ => True)
    (z := IntKind.i64.wrap ((IntKind.i64.wrap ((IntKind.i64.wrap ((IntKind.i64.wrap (58 + (IntKind.i64.wrap (76 * ((p.Procs.length : Nat) : Int))))) + (IntKind.i64.wrap (68 * ((p.Pages.length : Nat) : Int))))) + p.Events)) + ((p.Sems.length : Nat) : Int))) trivial
    (fun i x z hi hx _ => ⟨by
      obtain ⟨e, he⟩ := port_Most x
      simp only [g_plan_bound_L1, hi, hx, decide_true, cond_true, Option.bind_some, he], trivial⟩) (fun z _ => by simp [g_plan_bound_L1])
  simp only [g_plan_bound, h.1, Option.bind_some, sBound]
theorem r10_bound (p : GPlan) : g_r10_bound p = some (sBound p) := by
  have h := iter_fold (L := g_r10_bound_L1 p) (l := p.Ports) (g := fun z x => IntKind.i64.wrap (z + IntKind.i64.wrap (3 + sMost x))) (I := fun _ _ => True)
    (z := IntKind.i64.wrap ((IntKind.i64.wrap ((IntKind.i64.wrap ((IntKind.i64.wrap (58 + (IntKind.i64.wrap (76 * ((p.Procs.length : Nat) : Int))))) + (IntKind.i64.wrap (68 * ((p.Pages.length : Nat) : Int))))) + p.Events)) + ((p.Sems.length : Nat) : Int))) trivial
    (fun i x z hi hx _ => ⟨by
      obtain ⟨e, he⟩ := r07_Most x
      simp only [g_r10_bound_L1, hi, hx, decide_true, cond_true, Option.bind_some, he], trivial⟩) (fun z _ => by simp [g_r10_bound_L1])
  simp only [g_r10_bound, h.1, Option.bind_some, sBound]
def orE (a b : ErrM) : ErrM := if a = .nil then b else a
def sRest (p : GPlan) : ErrM := orE (sPorts p) (orE (sThings p) (if 4096 < sBound p then .v gSize else .nil))
theorem plan_rest (p : GPlan) : g_plan_checkRest p = some (sRest p) := by
  have h2 := iter_list (L := g_plan_checkRest_L2 p) (l := p.Ports) (f := sPortE) (fun i x hi hx => by
    simp only [g_plan_checkRest_L2, hi, hx, decide_true, cond_true, Option.bind_some, port_CheckPlan, sPortE]
    rcases sPort_cases x with h | ⟨g, h⟩
    · rw [h]; rfl
    · rw [h]; rfl) (by simp [g_plan_checkRest_L2])
  have h1 := iter_list (L := g_plan_checkRest_L1 p) (l := p.Sems) (f := sSem) (fun i x hi hx => by
    simp only [g_plan_checkRest_L1, hi, hx, decide_true, cond_true, Option.bind_some, plan_at, Bool.cond_eq_ite, Bool.or_eq_true, decide_eq_true_eq, sSem, nxt_ite, nxt_some, nxt_none, if_true]
    split <;> rfl) (by simp [g_plan_checkRest_L1])
  simp only [g_plan_checkRest, h1, h2, plan_bound, Option.bind_some, Bool.cond_eq_ite, Bool.or_eq_true, decide_eq_true_eq, sRest, sPorts, sThings]
  have hp : ∀ e, firstE sPortE 0 p.Ports = some e → e ≠ .nil := by
    have key : ∀ (l : List GPortPlan) k e, firstE sPortE k l = some e → e ≠ .nil := by
      intro l
      induction l with
      | nil => intro k e h; cases h
      | cons x r ih =>
        intro k e h
        rcases sPort_cases x with hs | ⟨g, hs⟩
        · simp only [firstE, sPortE, hs] at h; exact ih _ _ h
        · simp only [firstE, sPortE, hs, Option.some.injEq] at h; subst h; intro h; cases h
    exact key _ _
  have hq : ∀ e, firstE sSem 0 p.Sems = some e → e ≠ .nil := by
    have key : ∀ (l : List Int) k e, firstE sSem k l = some e → e ≠ .nil := by
      intro l
      induction l with
      | nil => intro k e h; cases h
      | cons x r ih =>
        intro k e h
        by_cases hs : x < 0 ∨ 255 < x
        · simp only [firstE, sSem, if_pos hs, Option.some.injEq] at h; subst h; intro h; cases h
        · simp only [firstE, sSem, if_neg hs] at h; exact ih _ _ h
    exact key _ _
  by_cases c1 : 8 < p.Ports.length
  · simp only [c1, if_true, orE]; rfl
  simp only [c1, if_false]
  cases h3 : firstE sPortE 0 p.Ports with
  | some e =>
    have := hp e h3
    simp only [fin, orN, Option.getD_some, orE, this, if_false]
  | none =>
    simp only [fin, orN, Option.getD_none, orE, if_true]
    by_cases c2 : p.Events < 0 ∨ 8 < p.Events
    · simp only [c2, if_true]; rfl
    simp only [c2, if_false]
    by_cases c3 : 8 < p.Sems.length
    · simp only [c3, if_true]; rfl
    simp only [c3, if_false]
    cases h4 : firstE sSem 0 p.Sems with
    | some e =>
      have := hq e h4
      simp only [fin, orN, Option.getD_some, this, if_false]
    | none =>
      simp only [fin, orN, Option.getD_none, if_true]
      split <;> rfl
def sPlan (p : GPlan) : ErrM := if p.Id < 0 ∨ 2147483647 < p.Id then .v gRange else orE (sPages p) (orE (sProcs p) (sRest p))
theorem plan_Check (p : GPlan) : g_plan_Check p = some (sPlan p) := by
  simp only [g_plan_Check, plan_pages, plan_procs, plan_rest, Option.bind_some, Bool.cond_eq_ite, Bool.or_eq_true, decide_eq_true_eq, sPlan, Bool.not_eq_true', decide_eq_false_iff_not, orE]
  repeat' split
  all_goals first | rfl | (simp_all; done)
/-! ### The document's -/
def eR (e : ErrM) : GR10Err := ⟨e.code, e.place⟩
theorem r10_pages (p : GPlan) : g_r10_pages p = some (eR (sPages p)) := by
  have h := iter_list (L := g_r10_pages_L13 p) (l := p.Pages) (f := fun i x => (sPage i x).map eR) (fun i x hi hx => by
    simp only [g_r10_pages_L13, g_r10_pages_J12, hi, hx, decide_true, cond_true, Option.bind_some, Bool.cond_eq_ite, decide_eq_true_eq, sPage]
    by_cases c1 : x.Rights < 0
    · simp only [c1, if_true, true_or, Option.bind_some, Option.map_some, nxt_some]; rfl
    by_cases c2 : 7 < x.Rights
    · simp only [c1, c2, if_true, if_false, decide_true, or_true, Option.bind_some, Option.map_some, nxt_some]; rfl
    by_cases c3 : 64 < x.Init.size
    · simp [c1, c2, c3, nxt_some]; rfl
    · simp [c1, c2, c3, nxt_none]) (by simp [g_r10_pages_L13])
  simp only [g_r10_pages, g_r10_bad, g_r10_none, h, sPages, Option.bind_some, Bool.cond_eq_ite, Bool.or_eq_true, decide_eq_true_eq]
  rw [firstE_map (f := sPage) (m := eR) _ _ fun _ _ _ => rfl]
  cases firstE sPage 0 p.Pages <;> (split <;> rfl)
theorem r10_procs (p : GPlan) : g_r10_procs p = some (eR (sProcs p)) := by
  have h := iter_list (L := g_r10_procs_L7 p) (l := p.Procs) (f := fun i x => (sProc p.Pages.length i x).map eR) (fun i x hi hx => by
    by_cases c1 : x.Entry < 0 <;> by_cases c2 : IntKind.i64.wrap (64 * (p.Pages.length : Int)) ≤ x.Entry <;> by_cases c3 : Int.tmod x.Entry 4 = 0 <;> by_cases c4 : x.Prio < 0 <;> by_cases c5 : 255 < x.Prio
    all_goals
      simp only [g_r10_procs_L7, g_r10_procs_J6, hi, hx, decide_true, decide_false, cond_true, cond_false, Option.bind_some, sProc, c1, c2, c3, c4, c5, Bool.not_true, Bool.not_false, true_or, or_true, or_false, false_or, if_true, if_false, ne_eq, not_true_eq_false, not_false_eq_true]
      rfl) (by simp [g_r10_procs_L7])
  simp only [g_r10_procs, g_r10_bad, g_r10_none, h, sProcs, Option.bind_some, Bool.cond_eq_ite, Bool.or_eq_true, decide_eq_true_eq]
  rw [firstE_map (f := sProc p.Pages.length) (m := eR) _ _ fun _ _ _ => rfl]
  cases firstE (sProc p.Pages.length) 0 p.Procs <;> (split <;> rfl)
theorem r10_ports (p : GPlan) : g_r10_ports p = some (eR (sPorts p)) := by
  have h := iter_list (L := g_r10_ports_L1 p) (l := p.Ports) (f := fun i x => (sPortE i x).map eR) (fun i x hi hx => by
    simp only [g_r10_ports_L1, hi, hx, decide_true, cond_true, Option.bind_some, r07_CheckPlan, Bool.cond_eq_ite, Bool.not_eq_true', decide_eq_false_iff_not, code_zero, sPortE]
    rcases sPort_cases x with h | ⟨g, h⟩
    · rw [h]; rfl
    · rw [h, if_pos (show ¬ ErrM.v g = .nil from fun h => by cases h)]; rfl) (by simp [g_r10_ports_L1])
  simp only [g_r10_ports, g_r10_bad, g_r10_none, h, sPorts, Option.bind_some, Bool.cond_eq_ite, decide_eq_true_eq]
  rw [firstE_map (f := sPortE) (m := eR) _ _ fun _ _ _ => rfl]
  cases firstE sPortE 0 p.Ports <;> (split <;> rfl)
theorem r10_things (p : GPlan) : g_r10_things p = some (eR (sThings p)) := by
  have h := iter_list (L := g_r10_things_L7 p) (l := p.Sems) (f := fun i x => (sSem i x).map eR) (fun i x hi hx => by
    by_cases c1 : x < 0 <;> by_cases c2 : 255 < x
    all_goals
      simp only [g_r10_things_L7, g_r10_things_J6, hi, hx, decide_true, decide_false, cond_true, cond_false, Option.bind_some, sSem, c1, c2, true_or, or_true, or_false, false_or, if_true, if_false]
      rfl) (by simp [g_r10_things_L7])
  simp only [g_r10_things, g_r10_bad, g_r10_none, h, sThings, Option.bind_some, Bool.cond_eq_ite, Bool.or_eq_true, decide_eq_true_eq]
  rw [firstE_map (f := sSem) (m := eR) _ _ fun _ _ _ => rfl]
  by_cases c1 : p.Events < 0 ∨ 8 < p.Events
  · simp only [c1, if_true]; rfl
  by_cases c2 : 8 < p.Sems.length
  · simp only [c1, c2, if_true, if_false]; rfl
  simp only [c1, c2, if_false]
  cases firstE sSem 0 p.Sems <;> rfl
theorem r10_Check (p : GPlan) : g_r10_Check p = some (eR (sPlan p)) := by
  simp only [g_r10_Check, r10_pages, r10_procs, r10_ports, r10_things, r10_bound, g_r10_bad, g_r10_none, Option.bind_some, Bool.cond_eq_ite, Bool.or_eq_true, decide_eq_true_eq, sPlan, sRest, orE]
  have hL : ∀ i x, i < 4 → [eR (sPages p), eR (sProcs p), eR (sPorts p), eR (sThings p)][i]? = some x → g_r10_Check_L1 (eR (sPages p)) (eR (sProcs p)) (eR (sPorts p)) (eR (sThings p)) i = some (nxt (i + 1) (if x.Code = 0 then none else some x)) := by
    intro i x hi hx
    have hi' : i < [eR (sPages p), eR (sProcs p), eR (sPorts p), eR (sThings p)].length := hi
    simp only [g_r10_Check_L1, hi', hx, decide_true, cond_true, Option.bind_some, Bool.cond_eq_ite, Bool.not_eq_true', decide_eq_false_iff_not]
    by_cases c : x.Code = 0
    · simp only [c, not_true_eq_false, if_false, if_true, nxt_none]
    · simp only [c, not_false_eq_true, if_false, if_true, nxt_some]
  have h := iter_list (L := g_r10_Check_L1 (eR (sPages p)) (eR (sProcs p)) (eR (sPorts p)) (eR (sThings p))) (l := [eR (sPages p), eR (sProcs p), eR (sPorts p), eR (sThings p)]) (f := fun _ x => if x.Code = 0 then none else some x) hL (by simp [g_r10_Check_L1])
  rw [h]
  have hc : ∀ e : ErrM, (eR e).Code = 0 ↔ e = .nil := fun e => code_zero
  simp only [firstE, hc]
  by_cases c0 : p.Id < 0 ∨ 2147483647 < p.Id
  · simp only [c0, if_true]; rfl
  simp only [c0, if_false]
  by_cases c1 : sPages p = .nil
  · simp only [c1, if_true]
    by_cases c2 : sProcs p = .nil
    · simp only [c2, if_true]
      by_cases c3 : sPorts p = .nil
      · simp only [c3, if_true]
        by_cases c4 : sThings p = .nil
        · simp only [c4, if_true]
          show Option.bind (some (Sum.inl ())) _ = _
          by_cases c5 : 4096 < sBound p
          · simp only [c5, if_true, Option.bind_some]; rfl
          · simp only [c5, if_false, Option.bind_some]; rfl
        · simp only [c4, if_false]; rfl
      · simp only [c3, if_false]; rfl
    · simp only [c2, if_false]; rfl
  · simp only [c1, if_false]; rfl
theorem r10_Good (p : GPlan) : g_r10_Good p = some (decide (sPlan p = .nil)) := by
  have : ((eR (sPlan p)).Code = 0) = (sPlan p = .nil) := propext code_zero
  simp only [g_r10_Good, r10_Check, Option.bind_some, this]
end Go.Proofs.YtpnmaabhjgiggaaGreatDoor
