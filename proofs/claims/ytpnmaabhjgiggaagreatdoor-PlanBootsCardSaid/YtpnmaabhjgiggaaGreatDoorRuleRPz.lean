/- Plain laws (those that a smaller set of models bears). -/
import Derived.Test.YtpnmaabhjgiggaaGreatDoorPlanKPz
set_option linter.unusedVariables false
set_option linter.unusedSimpArgs false
set_option linter.unusedSectionVars false
namespace Go.Proofs.YtpnmaabhjgiggaaGreatDoor
open Go Go.RowKit



section
variable {α : Type}
end
/-! ### Copies -/
abbrev maxBK : Nat := 140737488355328
def okPlanK (p : GPlan) : Prop := p.Pages.length * 24 ≤ maxBK ∧ p.Procs.length * 24 ≤ maxBK ∧ p.Ports.length * 32 ≤ maxBK ∧ p.Sems.length * 8 ≤ maxBK
theorem r10_CopyK (p : GPlan) (h : okPlanK p) : g_r10_Copy p = some p := by
  obtain ⟨h1, h2, h3, h4⟩ := h
  simp only [maxBK] at *
  simp only [g_r10_Copy, List.nil_append, List.length_nil, Nat.zero_add, chk, h1, h2, h3, h4, if_true]
/-! ### Loops that ask each element -/
section
variable {α σ τ : Type}
def allI (q : Nat → α → Bool) : Nat → List α → Bool
  | _, [] => true
  | k, x :: r => q k x && allI q (k + 1) r
theorem allI_all (q : α → Bool) : ∀ (l : List α) (k : Nat), allI (fun _ x => q x) k l = l.all q
  | [], _ => rfl
  | x :: r, k => by simp only [allI, List.all_cons, allI_all q r (k + 1)]
theorem allI_iff {q : Nat → α → Bool} : ∀ {l : List α} {k : Nat}, allI q k l = true ↔ ∀ i x, l[i]? = some x → q (k + i) x = true
  | [], k => by simp [allI]
  | x :: r, k => by
    rw [allI, Bool.and_eq_true, allI_iff]
    constructor
    · intro ⟨h1, h2⟩ i y hy
      cases i with
      | zero => have : x = y := by simpa using hy
                subst this; exact h1
      | succ j => have := h2 j y (by simpa using hy); rwa [show k + (j + 1) = k + 1 + j by omega]
    · intro h
      exact ⟨h 0 x rfl, fun i y hy => (show k + (i + 1) = k + 1 + i by omega) ▸ h (i + 1) y (by simpa using hy)⟩
theorem iter_allN {L : Nat → Option (Nat ⊕ (τ ⊕ Bool))} {l : List α} {z : τ} (q : Nat → α → Bool)
    (h : ∀ i x, i < l.length → l[i]? = some x → L i = some (if q i x = true then .inl (i + 1) else .inr (.inr false))) (h2 : L l.length = some (.inr (.inl z))) :
    iter L 0 = some (if allI q 0 l = true then .inl z else .inr false) := by
  have key : ∀ m k, k + m = l.length → iter L k = some (if allI q k (l.drop k) = true then .inl z else .inr false) := by
    intro m
    induction m with
    | zero =>
      intro k hk
      obtain rfl : k = l.length := by omega
      rw [iter_inr h2, List.drop_length]; rfl
    | succ m ih =>
      intro k hk
      have hlt : k < l.length := by omega
      have hx : l[k]? = some l[k] := List.getElem?_eq_getElem hlt
      have hs := h k _ hlt hx
      rw [List.drop_eq_getElem_cons hlt, allI]
      rcases Bool.eq_false_or_eq_true (q k l[k]) with e | e
      · rw [if_pos e] at hs; rw [iter_inl hs, ih (k + 1) (by omega), e, Bool.true_and]
      · rw [if_neg (by simp [e])] at hs; rw [iter_inr hs, e]; rfl
  simpa using key l.length 0 (by omega)
theorem iter_allZ {L : Int → Option (Int ⊕ (τ ⊕ Bool))} {l : List α} {z : τ} (q : Nat → α → Bool)
    (h : ∀ (i : Nat) x, i < l.length → l[i]? = some x → L (i : Int) = some (if q i x = true then .inl ((i + 1 : Nat) : Int) else .inr (.inr false))) (h2 : L (l.length : Int) = some (.inr (.inl z))) :
    iter L 0 = some (if allI q 0 l = true then .inl z else .inr false) := by
  have key : ∀ m (k : Nat), k + m = l.length → iter L (k : Int) = some (if allI q k (l.drop k) = true then .inl z else .inr false) := by
    intro m
    induction m with
    | zero =>
      intro k hk
      obtain rfl : k = l.length := by omega
      rw [iter_inr h2, List.drop_length]; rfl
    | succ m ih =>
      intro k hk
      have hlt : k < l.length := by omega
      have hx : l[k]? = some l[k] := List.getElem?_eq_getElem hlt
      have hs := h k _ hlt hx
      rw [List.drop_eq_getElem_cons hlt, allI]
      rcases Bool.eq_false_or_eq_true (q k l[k]) with e | e
      · rw [if_pos e] at hs; rw [iter_inl hs, ih (k + 1) (by omega), e, Bool.true_and]
      · rw [if_neg (by simp [e])] at hs; rw [iter_inr hs, e]; rfl
  simpa using key l.length 0 (by omega)
end
/-! ### The words -/
def bt (n lo hi : Int) : Bool := decide (lo ≤ n) && decide (n ≤ hi)
def wn (n m : Int) : Bool := decide (0 ≤ n) && decide (n < m)
theorem wn_rd {α : Type} {l : List α} {n : Int} (h : wn n l.length = true) : ∃ x, rdI l n = some x := by
  simp only [wn, Bool.and_eq_true, decide_eq_true_eq] at h
  have hz : n.toNat < l.length := by omega
  exact ⟨l[n.toNat], by simp [rdI, h.1, hz]⟩
theorem wn_le {n a b : Int} (h : wn n a = true) (hab : a ≤ b) : wn n b = true := by
  simp only [wn, Bool.and_eq_true, decide_eq_true_eq] at h ⊢; omega
def stAt (s : GState) (n : Int) : Int := match rdI s.Procs n with
  | some x => x.State
  | none => 0
def pkAt (p : GPlan) (n : Int) : Int := match rdI p.Ports n with
  | some x => x.Kind
  | none => 0
def mn (a b : Int) : Int := if b < a then b else a
theorem mn_le (a b : Int) : mn a b ≤ a ∧ mn a b ≤ b := by unfold mn; split <;> omega
theorem mn_comm (a b : Int) : mn a b = mn b a := by unfold mn; split <;> split <;> omega
/-! ### The rules -/
def K1 (p : GPlan) (s : GState) : Bool := decide (s.Id = p.Id)
def K2 (s : GState) : Bool := bt s.Frame 0 2147483647 && bt s.Epoch 0 2147483647
def K3 (p : GPlan) (s : GState) : Bool := decide (s.Procs.length = p.Procs.length) && decide (s.Ports.length = p.Ports.length) && decide (s.Pages.length = p.Pages.length) && decide ((s.Up.length : Int) = p.Events) && decide (s.Sems.length = p.Sems.length)
def k4 (x : GProc) : Bool := decide (x.Regs[0] = 0) && bt x.State 0 3 && bt x.Prio 0 255 && bt x.Wait 0 4
def K4 (s : GState) : Bool := s.Procs.all k4
def k5 (x : GProc) : Bool := (!decide (x.Wait = 0)) == decide (x.State = 2)
def K5 (s : GState) : Bool := s.Procs.all k5
def k6 (p : GPlan) (x : GProc) : Bool := if x.Wait = 2 then wn x.Obj p.Events else if x.Wait = 3 then wn x.Obj p.Sems.length else if x.Wait = 4 then wn x.Obj p.Ports.length && (decide (pkAt p x.Obj = 3) || decide (pkAt p x.Obj = 4)) else decide (x.Obj = 0)
def K6 (p : GPlan) (s : GState) : Bool := s.Procs.all (k6 p)
def q7 (s : GState) (i : Nat) (n : Int) : Bool := wn n s.Procs.length && !decide (n ∈ s.Ready.take i) && decide (stAt s n = 1)
def q7b (s : GState) (i : Nat) (x : GProc) : Bool := !decide (x.State = 1) || decide (((i : Nat) : Int) ∈ s.Ready)
def K7 (s : GState) : Bool := allI (q7 s) 0 s.Ready && allI (q7b s) 0 s.Procs
def ordok (s : GState) (i : Nat) (t : GTimer) : Bool := match i with
  | 0 => true
  | j + 1 => match s.Timers[j]? with
    | some y => !(decide (t.Due < y.Due) || (decide (y.Due = t.Due) && decide (t.Proc ≤ y.Proc)))
    | none => true
def q8 (s : GState) (i : Nat) (t : GTimer) : Bool := wn t.Proc s.Procs.length && !decide (t.Proc ∈ (s.Timers.map GTimer.Proc).take i) && bt t.Due 0 1010000 && ordok s i t
def K8 (s : GState) : Bool := allI (q8 s) 0 s.Timers
def q9 (s : GState) (_ : Nat) (t : GTimer) : Bool := !(wn t.Proc s.Procs.length && !decide (stAt s t.Proc = 2))
def q9b (s : GState) (i : Nat) (x : GProc) : Bool := !decide (x.Wait = 1) || decide (((i : Nat) : Int) ∈ s.Timers.map GTimer.Proc)
def K9 (s : GState) : Bool := allI (q9 s) 0 s.Timers && allI (q9b s) 0 s.Procs
def K10 (s : GState) : Bool := s.Sems.all fun n => bt n 0 255
def k11 (a : GPortPlan × GPort) : Bool := decide ((a.2.Msgs.length : Int) ≤ a.1.Depth) && !(a.2.Msgs.any fun m => decide (a.1.Size < (m.size : Int)))
def K11 (p : GPlan) (s : GState) : Bool := (p.Ports.zip s.Ports).all k11
def k12 (a : GPortPlan × GPort) : Bool := bt a.2.Age 0 255 && (decide (a.2.Age = 0) || (decide (a.1.Kind = 1) && decide (0 < a.2.Msgs.length)))
def K12 (p : GPlan) (s : GState) : Bool := (p.Ports.zip s.Ports).all k12
def K13 (p : GPlan) (s : GState) : Bool := (p.Pages.zip s.Pages).all fun a => decide (a.1.Rights = a.2.Rights)
def upAt (s : GState) (n : Int) : Bool := (rdI s.Up n).getD false
def smAt (s : GState) (n : Int) : Int := (rdI s.Sems n).getD 0
def k14 (p : GPlan) (s : GState) (x : GProc) : Bool := !(decide (x.Wait = 2) && wn x.Obj (mn s.Up.length p.Events) && upAt s x.Obj)
def K14 (p : GPlan) (s : GState) : Bool := s.Procs.all (k14 p s)
def k15 (p : GPlan) (s : GState) (x : GProc) : Bool := !(decide (x.Wait = 3) && wn x.Obj (mn s.Sems.length p.Sems.length) && !decide (smAt s x.Obj = 0))
def K15 (p : GPlan) (s : GState) : Bool := s.Procs.all (k15 p s)
def k16i (q : GPortPlan) (r : GPort) : Bool := if q.Kind = 3 then decide (r.Msgs.length = 0) else if q.Kind = 4 then decide ((r.Msgs.length : Int) = q.Depth) else true
def k16 (p : GPlan) (s : GState) (x : GProc) : Bool := if decide (x.Wait = 4) && wn x.Obj (mn p.Ports.length s.Ports.length) then (match rdI p.Ports x.Obj, rdI s.Ports x.Obj with
  | some q, some r => k16i q r
  | _, _ => true) else true
def K16 (p : GPlan) (s : GState) : Bool := s.Procs.all (k16 p s)
def k17 (a : GPortPlan × GPort) : Bool := !(decide (a.1.Kind = 2) || decide (a.1.Kind = 4)) || decide (a.2.Msgs.length = 0)
def K17 (p : GPlan) (s : GState) : Bool := (p.Ports.zip s.Ports).all k17
def okSt (s : GState) : Prop := s.Timers.length ≤ 140737488355328 ∧ s.Ports.length ≤ 140737488355328 ∧ s.Pages.length ≤ 140737488355328
theorem take_one_more {α : Type} {l : List α} {i : Nat} {x : α} (h : l[i]? = some x) : l.take (i + 1) = l.take i ++ [x] := by rw [List.take_add_one, h]; rfl
def kept (p : GPlan) (s : GState) : Vector Bool 17 := #v[K1 p s, K2 s, K3 p s, K4 s, K5 s, K6 p s, K7 s, K8 s, K9 s, K10 s, K11 p s, K12 p s, K13 p s, K14 p s, K15 p s, K16 p s, K17 p s]
/-! ### Faults -/
def brk : Nat → List Bool → List Int
  | _, [] => []
  | k, b :: r => (if b = true then [] else [((k + 1 : Nat) : Int)]) ++ brk (k + 1) r
theorem brk_snoc (b : Bool) : ∀ (l : List Bool) (k : Nat), brk k (l ++ [b]) = brk k l ++ (if b = true then [] else [((k + l.length + 1 : Nat) : Int)])
  | [], k => by simp [brk]
  | x :: r, k => by
    have ih := brk_snoc b r (k + 1)
    rw [List.cons_append, brk, ih, brk, List.append_assoc, List.length_cons, show k + 1 + r.length + 1 = k + (r.length + 1) + 1 by omega]
theorem brk_len : ∀ (l : List Bool) (k : Nat), (brk k l).length ≤ l.length
  | [], _ => Nat.le_refl _
  | x :: r, k => by
    have := brk_len r (k + 1)
    rw [brk, List.length_append, List.length_cons]
    split <;> simp <;> omega
def sFaults (p : GPlan) (s : GState) : List Int := if sPlan p ≠ .nil then [0] else brk 0 (kept p s).toList
def sUpTo (p : GPlan) (s : GState) (last : Int) : ErrM := match sFaults p s with
  | [] => .nil
  | x :: _ => if last < x then .nil else if x = 0 then .v gPlan else .pl x gState


theorem cState : (ErrM.v gState).code = 9 := by decide
section
variable {σ ρ α : Type}
theorem iter_ruleB {L : σ → Option (σ ⊕ ρ)} (I : σ → Prop) (Q : ρ → Prop) (μ : σ → Nat)
    (h : ∀ s, I s → (∃ s', L s = some (.inl s') ∧ I s' ∧ μ s' < μ s) ∨ (∃ r, L s = some (.inr r) ∧ Q r)) {s : σ} (h0 : I s) : ∃ r, iter L s = some r ∧ Q r := by
  have key : ∀ n s, μ s < n → I s → ∃ r, iter L s = some r ∧ Q r := by
    intro n
    induction n with
    | zero => intro s hs; omega
    | succ n ih =>
      intro s hs hI
      rcases h s hI with ⟨s', h1, h2, h3⟩ | ⟨r, h1, h2⟩
      · obtain ⟨r, h4, h5⟩ := ih s' (by omega) h2
        exact ⟨r, (iter_inl h1).trans h4, h5⟩
      · exact ⟨r, iter_inr h1, h2⟩
  exact key _ s (Nat.lt_succ_self _) h0
theorem orN_noneB {f : Nat → α → Option ErrM} (hf : ∀ i x, f i x ≠ some .nil) : ∀ {l : List α} {k : Nat}, orN (firstE f k l) = .nil → ∀ i x, l[i]? = some x → f (k + i) x = none
  | [], _, _, i, x, hx => by simp at hx
  | y :: r, k, h, i, x, hx => by
    cases hy : f k y with
    | some e =>
      simp only [firstE, hy, orN, Option.getD_some] at h
      subst h; exact absurd hy (hf k y)
    | none =>
      simp only [firstE, hy] at h
      cases i with
      | zero =>
        have : y = x := by simpa using hx
        subst this; exact hy
      | succ j =>
        have := orN_noneB hf h j x (by simpa using hx)
        rwa [show k + 1 + j = k + (j + 1) by omega] at this
end
theorem orE_nilB {a b : ErrM} (h : orE a b = .nil) : a = .nil ∧ b = .nil := by
  unfold orE at h
  by_cases c : a = .nil
  · rw [if_pos c] at h; exact ⟨c, h⟩
  · rw [if_neg c] at h; exact absurd h c
/-- What a good plan is like. -/
structure OkP (p : GPlan) : Prop where
  id0 : 0 ≤ p.Id
  id1 : p.Id ≤ 2147483647
  pg0 : 1 ≤ p.Pages.length
  pg1 : p.Pages.length ≤ 32
  pr0 : 1 ≤ p.Procs.length
  pr1 : p.Procs.length ≤ 8
  po1 : p.Ports.length ≤ 8
  ev0 : 0 ≤ p.Events
  ev1 : p.Events ≤ 8
  se1 : p.Sems.length ≤ 8
  prio : ∀ x ∈ p.Procs, 0 ≤ x.Prio ∧ x.Prio ≤ 255
  dep : ∀ x ∈ p.Ports, 1 ≤ x.Depth
  sem : ∀ n ∈ p.Sems, 0 ≤ n ∧ n ≤ 255
theorem okP_of {p : GPlan} (h : sPlan p = .nil) : OkP p := by
  unfold sPlan at h
  by_cases c0 : p.Id < 0 ∨ 2147483647 < p.Id
  · rw [if_pos c0] at h; cases h
  rw [if_neg c0] at h
  obtain ⟨h1, h2⟩ := orE_nilB h
  obtain ⟨h2, h3⟩ := orE_nilB h2
  unfold sRest at h3
  obtain ⟨h3, h4⟩ := orE_nilB h3
  obtain ⟨h4, _⟩ := orE_nilB h4
  unfold sPages at h1
  by_cases c1 : p.Pages.length < 1 ∨ 32 < p.Pages.length
  · rw [if_pos c1] at h1; cases h1
  unfold sProcs at h2
  by_cases c2 : p.Procs.length < 1 ∨ 8 < p.Procs.length
  · rw [if_pos c2] at h2; cases h2
  rw [if_neg c2] at h2
  unfold sPorts at h3
  by_cases c3 : 8 < p.Ports.length
  · rw [if_pos c3] at h3; cases h3
  rw [if_neg c3] at h3
  unfold sThings at h4
  by_cases c4 : p.Events < 0 ∨ 8 < p.Events
  · rw [if_pos c4] at h4; cases h4
  rw [if_neg c4] at h4
  by_cases c5 : 8 < p.Sems.length
  · rw [if_pos c5] at h4; cases h4
  rw [if_neg c5] at h4
  refine ⟨by omega, by omega, by omega, by omega, by omega, by omega, by omega, by omega, by omega, by omega, fun x hx => ?_, fun x hx => ?_, fun x hx => ?_⟩
  · obtain ⟨i, hi⟩ := List.mem_iff_getElem?.1 hx
    have := orN_noneB (f := sProc p.Pages.length) (fun i x => by unfold sProc; split <;> intro h <;> cases h) h2 i x hi
    unfold sProc at this
    split at this
    · cases this
    · omega
  · obtain ⟨i, hi⟩ := List.mem_iff_getElem?.1 hx
    have := orN_noneB (f := sPortE) (fun i x => by unfold sPortE; split <;> intro h <;> cases h) h3 i x hi
    unfold sPortE at this
    rcases sPort_cases x with e | ⟨g, e⟩
    · unfold sPort at e
      by_cases d0 : x.Kind < 1 ∨ 4 < x.Kind
      · rw [if_pos d0] at e; cases e
      rw [if_neg d0] at e
      by_cases d1 : x.Size < 1 ∨ 32 < x.Size
      · rw [if_pos d1] at e; cases e
      rw [if_neg d1] at e
      by_cases d2 : x.Depth < 1
      · rw [if_pos (.inl d2)] at e; cases e
      · omega
    · rw [e] at this; cases this
  · obtain ⟨i, hi⟩ := List.mem_iff_getElem?.1 hx
    have := orN_noneB (f := sSem) (fun i x => by unfold sSem; split <;> intro h <;> cases h) h4 i x hi
    unfold sSem at this
    split at this
    · cases this
    · omega
/-! ### What a plan boots -/
def bootP (x : GProcPlan) : GProc := ⟨Vector.replicate 16 0, IntKind.u32.wrap x.Entry, if x.Auto = true then 1 else 0, x.Prio, 0, 0⟩
def autoIdx : Nat → List GProcPlan → List Int
  | _, [] => []
  | k, x :: r => (if x.Auto = true then [((k : Nat) : Int)] else []) ++ autoIdx (k + 1) r
theorem auto_snoc (x : GProcPlan) : ∀ (l : List GProcPlan) (k : Nat), autoIdx k (l ++ [x]) = autoIdx k l ++ (if x.Auto = true then [((k + l.length : Nat) : Int)] else [])
  | [], k => by simp [autoIdx]
  | y :: r, k => by
    have ih := auto_snoc x r (k + 1)
    rw [List.cons_append, autoIdx, ih, autoIdx, List.append_assoc, List.length_cons, show k + 1 + r.length = k + (r.length + 1) by omega]
theorem auto_len : ∀ (l : List GProcPlan) (k : Nat), (autoIdx k l).length ≤ l.length
  | [], _ => Nat.le_refl _
  | y :: r, k => by
    have := auto_len r (k + 1)
    rw [autoIdx, List.length_append, List.length_cons]; split <;> simp <;> omega
theorem auto_mem : ∀ {l : List GProcPlan} {k : Nat} {n : Int}, n ∈ autoIdx k l ↔ ∃ i x, l[i]? = some x ∧ x.Auto = true ∧ n = ((k + i : Nat) : Int)
  | [], k, n => by simp [autoIdx]
  | y :: r, k, n => by
    rw [autoIdx, List.mem_append, auto_mem]
    constructor
    · rintro (h | ⟨i, x, h1, h2, h3⟩)
      · by_cases e : y.Auto = true
        · rw [if_pos e, List.mem_singleton] at h
          exact ⟨0, y, rfl, e, by simpa using h⟩
        · rw [if_neg e] at h; cases h
      · exact ⟨i + 1, x, by simpa using h1, h2, by rw [h3]; congr 1; omega⟩
    · rintro ⟨i, x, h1, h2, h3⟩
      cases i with
      | zero =>
        have : y = x := by simpa using h1
        subst this
        rw [if_pos h2]; exact .inl (by simpa using h3)
      | succ j => exact .inr ⟨j, x, by simpa using h1, h2, by rw [h3]; congr 1; omega⟩
theorem auto_pair : ∀ (l : List GProcPlan) (k : Nat), (autoIdx k l).Pairwise (· < ·)
  | [], k => List.Pairwise.nil
  | y :: r, k => by
    have ih := auto_pair r (k + 1)
    rw [autoIdx]
    split
    · rw [List.singleton_append, List.pairwise_cons]
      refine ⟨fun n hn => ?_, ih⟩
      obtain ⟨i, x, _, _, h3⟩ := auto_mem.1 hn
      omega
    · exact ih
theorem pair_take {l : List Int} (h : l.Pairwise (· < ·)) {i : Nat} {x : Int} (hx : l[i]? = some x) : x ∉ l.take i := by
  intro hm
  obtain ⟨j, hj, e⟩ := List.mem_take_iff_getElem.1 hm
  have hi : i < l.length := (List.getElem?_eq_some_iff.1 hx).1
  have hji : j < i := by omega
  have := (List.pairwise_iff_getElem.1 h) j i (by omega) hi hji
  have hx' : l[i] = x := by rw [List.getElem?_eq_getElem hi] at hx; exact Option.some.inj hx
  rw [e, hx'] at this; omega
def bootG (x : GPagePlan) : GPage := ⟨x.Rights, false, cpyV (Vector.replicate 64 0) x.Init⟩
def sBoot (p : GPlan) : GState := ⟨p.Id, 0, 0, p.Procs.map bootP, autoIdx 0 p.Procs, [], List.replicate p.Events.toNat false, p.Sems, List.replicate p.Ports.length ⟨[], 0⟩, p.Pages.map bootG⟩
theorem plan_Boot {p : GPlan} (h : sPlan p = .nil) : g_plan_Boot p = some (sBoot p, .nil) := by
  have ok := okP_of h
  have hA := iter_ruleB (L := g_plan_Boot_L8 p) (fun s : Nat × List GProc × List Int => s.1 ≤ p.Procs.length ∧ s.2.1 = (p.Procs.take s.1).map bootP ∧ s.2.2 = autoIdx 0 (p.Procs.take s.1)) (fun r => r = (p.Procs.map bootP, autoIdx 0 p.Procs)) (fun s => p.Procs.length - s.1) (fun s hI => by
    obtain ⟨i, l1, l2⟩ := s
    obtain ⟨hi, h1, h2⟩ := hI
    simp only at hi h1 h2
    by_cases hlt : i < p.Procs.length
    · have hx : p.Procs[i]? = some p.Procs[i] := List.getElem?_eq_getElem hlt
      generalize p.Procs[i] = x at hx
      have hl1 : l1.length = i := by rw [h1]; simp; omega
      have hl2 := auto_len (p.Procs.take i) 0
      rw [← h2, List.length_take] at hl2
      have hp := ok.pr1
      have c1 : ∀ t : GProc, (l1.length + [t].length) * 104 ≤ 140737488355328 := fun t => by simp only [List.length_cons, List.length_nil]; omega
      have c2 : (l2.length + [((i : Nat) : Int)].length) * 8 ≤ 140737488355328 := by simp only [List.length_cons, List.length_nil]; omega
      have e1 : (p.Procs.take (i + 1)).map bootP = l1 ++ [bootP x] := by rw [take_one_more hx, List.map_append, h1]; rfl
      have e2 : autoIdx 0 (p.Procs.take (i + 1)) = l2 ++ (if x.Auto = true then [((i : Nat) : Int)] else []) := by rw [take_one_more hx, auto_snoc, ← h2, List.length_take, Nat.min_eq_left (by omega), Nat.zero_add]
      refine .inl ⟨(i + 1, l1 ++ [bootP x], l2 ++ (if x.Auto = true then [((i : Nat) : Int)] else [])), ?_, ⟨by simp only; omega, e1.symm, e2.symm⟩, by simp only; omega⟩
      simp only [g_plan_Boot_L8, g_plan_Boot_J6, hlt, hx, decide_true, cond_true, Option.bind_some, bootP]
      rcases Bool.eq_false_or_eq_true x.Auto with e | e
      · simp only [e, cond_true, chk, c1, c2, if_true, Option.bind_some]
      · simp only [e, cond_false, chk, c1, if_true, Option.bind_some, Bool.false_eq_true, if_false, List.append_nil]
    · refine .inr ⟨(l1, l2), ?_, ?_⟩
      · simp only [g_plan_Boot_L8, hlt, decide_false, cond_false]
      · have : p.Procs.take i = p.Procs := List.take_of_length_le (by omega)
        rw [this] at h1 h2; rw [h1, h2]) (s := (0, [], [])) ⟨Nat.zero_le _, rfl, rfl⟩
  obtain ⟨_, hA, rfl⟩ := hA
  have hB := iter_ruleB (L := g_plan_Boot_L7 p) (fun s : Nat × List GPage => s.1 ≤ p.Pages.length ∧ s.2 = (p.Pages.take s.1).map bootG) (fun r => r = p.Pages.map bootG) (fun s => p.Pages.length - s.1) (fun s hI => by
    obtain ⟨i, l1⟩ := s
    obtain ⟨hi, h1⟩ := hI
    simp only at hi h1
    by_cases hlt : i < p.Pages.length
    · have hx : p.Pages[i]? = some p.Pages[i] := List.getElem?_eq_getElem hlt
      generalize p.Pages[i] = x at hx
      have hl1 : l1.length = i := by rw [h1]; simp; omega
      have hp := ok.pg1
      have c1 : ∀ t : GPage, (l1.length + [t].length) * 80 ≤ 140737488355328 := fun t => by simp only [List.length_cons, List.length_nil]; omega
      have e1 : (p.Pages.take (i + 1)).map bootG = l1 ++ [bootG x] := by rw [take_one_more hx, List.map_append, h1]; rfl
      refine .inl ⟨(i + 1, l1 ++ [bootG x]), ?_, ⟨by simp only; omega, e1.symm⟩, by simp only; omega⟩
      simp only [g_plan_Boot_L7, hlt, hx, decide_true, cond_true, Option.bind_some, chk, c1, if_true, bootG]
    · refine .inr ⟨l1, ?_, ?_⟩
      · simp only [g_plan_Boot_L7, hlt, decide_false, cond_false]
      · have : p.Pages.take i = p.Pages := List.take_of_length_le (by omega)
        rw [this] at h1; rw [h1]) (s := (0, [])) ⟨Nat.zero_le _, rfl⟩
  obtain ⟨_, hB, rfl⟩ := hB
  have c0 := ok.ev0
  have c1 : p.Events.toNat * 1 ≤ 140737488355328 := by have := ok.ev1; omega
  have c2 : (([] : List Int).length + p.Sems.length) * 8 ≤ 140737488355328 := by have := ok.se1; simp only [List.length_nil]; omega
  have c3 : p.Ports.length * 32 ≤ 140737488355328 := by have := ok.po1; omega
  simp only [g_plan_Boot, g_plan_Boot_J9, g_slices_Clone_int, plan_Check, h, chk, c0, c1, c2, c3, hA, hB, decide_true, Bool.not_true, cond_false, Option.bind_some, if_true, List.nil_append]
  rfl
/-! ### Copies -/
structure OkC (s : GState) : Prop where
  a : s.Procs.length ≤ 40
  b : s.Ready.length ≤ 40
  c : s.Timers.length ≤ 40
  d : s.Up.length ≤ 40
  e : s.Sems.length ≤ 40
  f : s.Pages.length ≤ 40
  g : s.Ports.length ≤ 40
  h : ∀ x ∈ s.Ports, x.Msgs.length ≤ 40
/-! ### The rules of what is booted -/
/-- Processes that nobody has run. -/
def fresh (x : GProc) : Prop := x.Regs[0] = 0 ∧ (x.State = 0 ∨ x.State = 1) ∧ 0 ≤ x.Prio ∧ x.Prio ≤ 255 ∧ x.Wait = 0 ∧ x.Obj = 0
theorem fresh_boot {p : GPlan} (ok : OkP p) : ∀ x ∈ p.Procs.map bootP, fresh x := by
  intro x hx
  obtain ⟨y, hy, rfl⟩ := List.mem_map.1 hx
  have := ok.prio y hy
  refine ⟨by simp [bootP], ?_, this.1, this.2, rfl, rfl⟩
  unfold bootP
  by_cases e : y.Auto = true
  · exact .inr (if_pos e)
  · exact .inl (if_neg e)
theorem all_of {α : Type} {q : α → Bool} {l : List α} (h : ∀ x ∈ l, q x = true) : l.all q = true := List.all_eq_true.2 h
/-- A state of such a plan: processes that nobody has run, with those ready that the queue says; ports without messages. -/
structure Booted (p : GPlan) (s : GState) : Prop where
  fr : s.Frame = 0
  ep : s.Epoch = 0
  pr : ∀ x ∈ s.Procs, fresh x
  q1 : ∀ i n, s.Ready[i]? = some n → q7 s i n = true
  q2 : ∀ i x, s.Procs[i]? = some x → x.State = 1 → ((i : Nat) : Int) ∈ s.Ready
  ti : s.Timers = []
  se : s.Sems = p.Sems
  po : ∀ x ∈ s.Ports, x = ⟨[], 0⟩
theorem booted_kept {p : GPlan} {s : GState} (ok : OkP p) (b : Booted p s) :
    K2 s = true ∧ K4 s = true ∧ K5 s = true ∧ K6 p s = true ∧ K7 s = true ∧ K8 s = true ∧ K9 s = true ∧ K10 s = true ∧ K11 p s = true ∧ K12 p s = true ∧ K14 p s = true ∧ K15 p s = true ∧ K16 p s = true ∧ K17 p s = true := by
  obtain ⟨fr, ep, pr, q1, q2, ti, se, po⟩ := b
  have hz : ∀ x ∈ p.Ports.zip s.Ports, x.1 ∈ p.Ports ∧ x.2 = ⟨[], 0⟩ := fun x hx => by
    have h1 := List.of_mem_zip (a := x.1) (b := x.2) hx
    exact ⟨h1.1, po _ h1.2⟩
  refine ⟨?_, ?_, ?_, ?_, ?_, ?_, ?_, ?_, ?_, ?_, ?_, ?_, ?_, ?_⟩
  · unfold K2 bt; rw [fr, ep]; rfl
  · refine all_of fun x hx => ?_
    obtain ⟨h1, h2, h3, h4, h5, h6⟩ := pr x hx
    unfold k4 bt
    rw [h1, h5]
    rcases h2 with h2 | h2 <;> rw [h2] <;> simp <;> omega
  · refine all_of fun x hx => ?_
    obtain ⟨h1, h2, h3, h4, h5, h6⟩ := pr x hx
    unfold k5
    rw [h5]
    rcases h2 with h2 | h2 <;> rw [h2] <;> rfl
  · refine all_of fun x hx => ?_
    obtain ⟨h1, h2, h3, h4, h5, h6⟩ := pr x hx
    unfold k6
    rw [h5, h6]; rfl
  · unfold K7
    rw [Bool.and_eq_true]
    refine ⟨allI_iff.2 fun i n hn => by rw [Nat.zero_add]; exact q1 i n hn, allI_iff.2 fun i x hx => ?_⟩
    rw [Nat.zero_add]
    unfold q7b
    by_cases e : x.State = 1
    · have := q2 i x hx e
      rw [decide_eq_true this]; simp
    · simp [e]
  · unfold K8; rw [ti]; rfl
  · unfold K9; rw [ti]
    have : allI (q9b s) 0 s.Procs = true := allI_iff.2 fun i x hx => by
      have h5 := (pr x (List.mem_of_getElem? hx)).2.2.2.2.1
      unfold q9b; rw [h5]; rfl
    rw [this]; rfl
  · unfold K10; rw [se]
    refine all_of fun n hn => ?_
    have := ok.sem n hn
    unfold bt; simp; omega
  · refine all_of fun x hx => ?_
    obtain ⟨h1, h2⟩ := hz x hx
    have := ok.dep x.1 h1
    unfold k11; rw [h2]; simp; omega
  · refine all_of fun x hx => ?_
    obtain ⟨h1, h2⟩ := hz x hx
    unfold k12; rw [h2]; rfl
  · refine all_of fun x hx => ?_
    have h5 := (pr x hx).2.2.2.2.1
    unfold k14; rw [h5]; rfl
  · refine all_of fun x hx => ?_
    have h5 := (pr x hx).2.2.2.2.1
    unfold k15; rw [h5]; rfl
  · refine all_of fun x hx => ?_
    have h5 := (pr x hx).2.2.2.2.1
    unfold k16; rw [h5]; rfl
  · refine all_of fun x hx => ?_
    obtain ⟨h1, h2⟩ := hz x hx
    unfold k17; rw [h2]; simp
theorem stAt_map (p : GPlan) (s : GState) (more : List GProc) (hs : s.Procs = p.Procs.map bootP ++ more) {i : Nat} {x : GProcPlan} (hx : p.Procs[i]? = some x) : stAt s ((i : Nat) : Int) = if x.Auto = true then 1 else 0 := by
  have hi : i < p.Procs.length := (List.getElem?_eq_some_iff.1 hx).1
  have : rdI s.Procs ((i : Nat) : Int) = some (bootP x) := by
    unfold rdI; rw [if_pos (by omega), hs, Int.toNat_natCast, List.getElem?_append_left (by simpa using hi), List.getElem?_map, hx]; rfl
  unfold stAt; rw [this]; rfl
theorem booted_of {p : GPlan} (ok : OkP p) (s : GState) (more : List GProc) (hm : ∀ x ∈ more, fresh x ∧ x.State = 0) (h1 : s.Frame = 0) (h2 : s.Epoch = 0) (h3 : s.Procs = p.Procs.map bootP ++ more) (h4 : s.Ready = autoIdx 0 p.Procs) (h5 : s.Timers = []) (h6 : s.Sems = p.Sems) (h7 : ∀ x ∈ s.Ports, x = ⟨[], 0⟩) : Booted p s := by
  refine ⟨h1, h2, fun x hx => ?_, fun i n hn => ?_, fun i x hx hs => ?_, h5, h6, h7⟩
  · rw [h3, List.mem_append] at hx
    rcases hx with hx | hx
    · exact fresh_boot ok x hx
    · exact (hm x hx).1
  · have hmem : n ∈ s.Ready := List.mem_of_getElem? hn
    rw [h4] at hmem
    obtain ⟨j, y, g1, g2, g3⟩ := auto_mem.1 hmem
    rw [Nat.zero_add] at g3
    have hj : j < p.Procs.length := (List.getElem?_eq_some_iff.1 g1).1
    have hlen : s.Procs.length = p.Procs.length + more.length := by rw [h3]; simp
    have hst := stAt_map p s more h3 g1
    rw [if_pos g2] at hst
    have hnt : n ∉ s.Ready.take i := pair_take (by rw [h4]; exact auto_pair _ _) hn
    subst g3
    unfold q7 wn
    rw [hst, decide_eq_false hnt, hlen]
    simp; omega
  · rw [h3] at hx
    by_cases hi : i < p.Procs.length
    · rw [List.getElem?_append_left (by simpa using hi), List.getElem?_map] at hx
      have hy : p.Procs[i]? = some p.Procs[i] := List.getElem?_eq_getElem hi
      generalize p.Procs[i] = y at hy
      rw [hy] at hx
      have : bootP y = x := by simpa using hx
      subst this
      rw [h4]
      refine auto_mem.2 ⟨i, y, hy, ?_, by rw [Nat.zero_add]⟩
      by_cases e : y.Auto = true
      · exact e
      · unfold bootP at hs; rw [if_neg e] at hs; cases hs
    · rw [List.getElem?_append_right (by simp; omega)] at hx
      have := (hm x (List.mem_of_getElem? hx)).2
      rw [this] at hs; cases hs
theorem faults_of {p : GPlan} {s : GState} (h : sPlan p = .nil) (b : Booted p s) (h13 : K13 p s = true) : sFaults p s = (if K1 p s = true then [] else [1]) ++ (if K3 p s = true then [] else [3]) := by
  obtain ⟨k2, k4, k5, k6, k7, k8, k9, k10, k11, k12, k14, k15, k16, k17⟩ := booted_kept (okP_of h) b
  have e : (kept p s).toList = [K1 p s, true, K3 p s, true, true, true, true, true, true, true, true, true, true, true, true, true, true] := by
    unfold kept
    rw [k2, k4, k5, k6, k7, k8, k9, k10, k11, k12, h13, k14, k15, k16, k17]
    rfl
  unfold sFaults
  rw [if_neg (by simpa using h), e]
  rcases Bool.eq_false_or_eq_true (K1 p s) with e1 | e1 <;> rcases Bool.eq_false_or_eq_true (K3 p s) with e3 | e3 <;> rw [e1, e3] <;> rfl
theorem rights_of {p : GPlan} {s : GState} (h : s.Pages = p.Pages.map bootG) : K13 p s = true := by
  unfold K13; rw [h]
  refine all_of fun x hx => ?_
  obtain ⟨i, hi⟩ := List.mem_iff_getElem?.1 hx
  obtain ⟨h1, h2⟩ := List.getElem?_zip_eq_some.1 hi
  rw [List.getElem?_map, h1] at h2
  have : bootG x.1 = x.2 := by simpa using h2
  rw [← this]; simp [bootG]


def okSm (s : GState) : Prop := okSt s ∧ s.Procs.length ≤ 140737488355328 ∧ s.Ready.length ≤ 140737488355328
theorem r11_rule4 (s : GState) : g_r11_rule4 s = some (K4 s) := by
  have h := iter_allN (L := g_r11_rule4_L1 s) (l := s.Procs) (z := ()) (fun _ x => k4 x) (fun i x hi hx => by
    have h0 : rdV x.Regs 0 = some x.Regs[0] := by simp [rdV]
    have hb : (((((((!decide (x.Regs[0] = 0)) || decide (x.State < 0)) || decide (3 < x.State)) || decide (x.Prio < 0)) || decide (255 < x.Prio)) || decide (x.Wait < 0)) || decide (4 < x.Wait)) = !(k4 x) := by
      unfold k4 bt
      generalize x.Regs[0] = r
      by_cases e0 : r = 0 <;> by_cases e1 : 0 ≤ x.State <;> by_cases e2 : x.State ≤ 3 <;> by_cases e3 : 0 ≤ x.Prio <;> by_cases e4 : x.Prio ≤ 255 <;> by_cases e5 : 0 ≤ x.Wait <;> by_cases e6 : x.Wait ≤ 4 <;> simp [e0, e1, e2, e3, e4, e5, e6, Int.not_le.1, Int.not_lt.2] <;> omega
    simp only [g_r11_rule4_L1, hi, hx, decide_true, cond_true, Option.bind_some, h0, hb]
    rcases Bool.eq_false_or_eq_true (k4 x) with e | e <;> simp [e]) (by simp [g_r11_rule4_L1])
  rw [allI_all] at h
  simp only [g_r11_rule4, h, K4]
  rcases Bool.eq_false_or_eq_true (s.Procs.all k4) with e | e <;> simp [e]
theorem r11_rule5 (s : GState) : g_r11_rule5 s = some (K5 s) := by
  have h := iter_allN (L := g_r11_rule5_L1 s) (l := s.Procs) (z := ()) (fun _ x => k5 x) (fun i x hi hx => by
    have hb : (!((!decide (x.Wait = 0)) == decide (x.State = 2))) = !(k5 x) := rfl
    simp only [g_r11_rule5_L1, hi, hx, decide_true, cond_true, Option.bind_some, hb]
    rcases Bool.eq_false_or_eq_true (k5 x) with e | e <;> simp [e]) (by simp [g_r11_rule5_L1])
  rw [allI_all] at h
  simp only [g_r11_rule5, h, K5]
  rcases Bool.eq_false_or_eq_true (s.Procs.all k5) with e | e <;> simp [e]
theorem r11_object (p : GPlan) (x : GProc) : g_r11_object p x = some (k6 p x) := by
  simp only [g_r11_object, g_r11_queuing, k6]
  by_cases e2 : x.Wait = 2
  · simp [e2, wn]
  · by_cases e3 : x.Wait = 3
    · simp [e3, wn]
    · by_cases e4 : x.Wait = 4
      · by_cases e5 : 0 ≤ x.Obj
        · by_cases e6 : x.Obj < (p.Ports.length : Int)
          · obtain ⟨y, hy⟩ := wn_rd (l := p.Ports) (n := x.Obj) (by simp [wn, e5, e6])
            have hk : pkAt p x.Obj = y.Kind := by unfold pkAt; rw [hy]
            by_cases e7 : y.Kind = 3 <;> simp [e4, e5, e6, wn, hy, hk, e7]
          · simp [e4, e5, e6, wn]
        · simp [e4, e5, wn]
      · simp [e2, e3, e4]
theorem r11_rule6 (p : GPlan) (s : GState) : g_r11_rule6 p s = some (K6 p s) := by
  have h := iter_allN (L := g_r11_rule6_L1 p s) (l := s.Procs) (z := ()) (fun _ x => k6 p x) (fun i x hi hx => by
    simp only [g_r11_rule6_L1, hi, hx, decide_true, cond_true, Option.bind_some, r11_object]
    rcases Bool.eq_false_or_eq_true (k6 p x) with e | e <;> simp [e]) (by simp [g_r11_rule6_L1])
  rw [allI_all] at h
  simp only [g_r11_rule6, h, K6]
  rcases Bool.eq_false_or_eq_true (s.Procs.all (k6 p)) with e | e <;> simp [e]
/-! ### The queue: who is ready, counted -/
def readyIdx : Nat → List GProc → List Int
  | _, [] => []
  | k, x :: r => (if x.State = 1 then [((k : Nat) : Int)] else []) ++ readyIdx (k + 1) r
theorem readyIdx_mem : ∀ {l : List GProc} {k : Nat} {n : Int}, n ∈ readyIdx k l ↔ ∃ i x, l[i]? = some x ∧ x.State = 1 ∧ n = ((k + i : Nat) : Int)
  | [], k, n => by simp [readyIdx]
  | y :: r, k, n => by
    rw [readyIdx, List.mem_append, readyIdx_mem]
    constructor
    · rintro (h | ⟨i, x, h1, h2, h3⟩)
      · by_cases e : y.State = 1
        · rw [if_pos e, List.mem_singleton] at h
          exact ⟨0, y, rfl, e, by simpa using h⟩
        · rw [if_neg e] at h; cases h
      · exact ⟨i + 1, x, by simpa using h1, h2, by rw [h3]; congr 1; omega⟩
    · rintro ⟨i, x, h1, h2, h3⟩
      cases i with
      | zero =>
        have : y = x := by simpa using h1
        subst this
        rw [if_pos h2]; exact .inl (by simpa using h3)
      | succ j => exact .inr ⟨j, x, by simpa using h1, h2, by rw [h3]; congr 1; omega⟩
theorem readyIdx_nodup : ∀ (l : List GProc) (k : Nat), (readyIdx k l).Nodup
  | [], k => List.nodup_nil
  | y :: r, k => by
    have ih := readyIdx_nodup r (k + 1)
    rw [readyIdx]
    split
    · rw [List.singleton_append, List.nodup_cons]
      refine ⟨fun h => ?_, ih⟩
      obtain ⟨i, x, _, _, h3⟩ := readyIdx_mem.1 h
      omega
    · exact ih
/-- Of two lists, each of which has each thing once: what is as long and within is the same. -/
theorem nodup_sub_len : ∀ {l1 l2 : List Int}, l1.Nodup → (∀ x ∈ l1, x ∈ l2) → l1.length ≤ l2.length
  | [], _, _, _ => Nat.zero_le _
  | a :: t, l2, hn, hs => by
    obtain ⟨h1, h2⟩ := List.nodup_cons.1 hn
    have ha := hs a List.mem_cons_self
    have := nodup_sub_len (l1 := t) (l2 := l2.erase a) h2 fun x hx => (List.mem_erase_of_ne (fun e => h1 (by rw [← e]; exact hx))).2 (hs x (List.mem_cons_of_mem _ hx))
    rw [List.length_erase_of_mem ha] at this
    have := List.length_pos_of_mem ha
    simp only [List.length_cons]; omega
theorem nodup_sub_eq : ∀ {l1 l2 : List Int}, l1.Nodup → (∀ x ∈ l1, x ∈ l2) → l2.length ≤ l1.length → ∀ x ∈ l2, x ∈ l1
  | [], l2, _, _, hl, x, hx => by
    have : l2 = [] := List.length_eq_zero_iff.1 (by simpa using hl)
    subst this; cases hx
  | a :: t, l2, hn, hs, hl, x, hx => by
    obtain ⟨h1, h2⟩ := List.nodup_cons.1 hn
    have ha := hs a List.mem_cons_self
    by_cases e : x = a
    · rw [e]; exact List.mem_cons_self
    · have hl' : (l2.erase a).length ≤ t.length := by
        rw [List.length_erase_of_mem ha]; simp only [List.length_cons] at hl; omega
      have := nodup_sub_eq (l1 := t) (l2 := l2.erase a) h2 (fun y hy => (List.mem_erase_of_ne (fun e => h1 (by rw [← e]; exact hy))).2 (hs y (List.mem_cons_of_mem _ hy))) hl' x ((List.mem_erase_of_ne e).2 hx)
      exact List.mem_cons_of_mem _ this
theorem take_nodup {l : List Int} (h : ∀ i x, l[i]? = some x → x ∉ l.take i) : l.Nodup := by
  rw [List.nodup_iff_pairwise_ne, List.pairwise_iff_getElem]
  intro i j hi hj hij e
  have := h j l[j] (List.getElem?_eq_getElem hj)
  apply this
  rw [← e, List.mem_take_iff_getElem]
  exact ⟨i, by omega, rfl⟩
theorem dup_loop (s : GState) (hok : okSm s) (i : Nat) (x : Int) (hi : i < s.Ready.length) : iter (g_r11_rule7_L17 s i x) 0 = some (if decide (x ∈ s.Ready.take i) = true then .inr false else .inl ()) := by
  have hlt : (s.Ready.take i).length = i := by rw [List.length_take]; omega
  have h := iter_allZ (L := g_r11_rule7_L17 s i x) (l := s.Ready.take i) (z := ()) (fun _ y => !decide (y = x)) (fun j y hj hy => by
    have hjl : j < i := by omega
    rw [List.getElem?_take_of_lt hjl] at hy
    have hr : rdI s.Ready (j : Int) = some y := by simp [rdI, hy]
    have hw : IntKind.i64.wrap ((j : Int) + 1) = ((j + 1 : Nat) : Int) := by have := hok.2.2; rw [wrap64_eq ⟨by omega, by omega⟩]; rfl
    have hc : (j : Int) < (i : Int) := by omega
    simp only [g_r11_rule7_L17, hc, hr, hw, decide_true, cond_true, Option.bind_some]
    by_cases e : y = x <;> simp [e]) (by rw [hlt]; simp [g_r11_rule7_L17])
  rw [h, allI_all]
  by_cases e : x ∈ s.Ready.take i
  · have : ((s.Ready.take i).all fun y => !decide (y = x)) = false := by
      rw [List.all_eq_false]; exact ⟨x, e, by simp⟩
    rw [this]; simp [e]
  · have : ((s.Ready.take i).all fun y => !decide (y = x)) = true := by
      rw [List.all_eq_true]; intro y hy; simp; rintro rfl; exact e hy
    rw [this]; simp [e]
theorem count_loop (s : GState) (hok : okSm s) : iter (g_r11_rule7_L23 s) (0, 0) = some (((readyIdx 0 s.Procs).length : Nat) : Int) := by
  have h := iter_fold (L := g_r11_rule7_L23 s) (l := s.Procs) (g := fun z x => if x.State = 1 then z + 1 else z) (I := fun z i => 0 ≤ z ∧ z ≤ i) (z := (0 : Int)) ⟨Int.le_refl _, Int.le_refl _⟩ (fun i x z hi hx hI => ⟨by
    have hw : IntKind.i64.wrap (z + 1) = z + 1 := by have := hok.2.1; have := hI.1; have := hI.2; exact wrap64_eq ⟨by omega, by omega⟩
    simp only [g_r11_rule7_L23, g_r11_rule7_J22, hi, hx, decide_true, cond_true, Option.bind_some, hw]
    by_cases e : x.State = 1 <;> simp [e], by
    have := hI.1; have := hI.2
    by_cases e : x.State = 1
    · simp only [e, if_true]; omega
    · simp only [e, if_false]; omega⟩) (fun z _ => by simp [g_r11_rule7_L23])
  rw [h.1]
  congr 1
  have key : ∀ (l : List GProc) (k : Nat) (z : Int), l.foldl (fun z x => if x.State = 1 then z + 1 else z) z = z + ((readyIdx k l).length : Nat) := by
    intro l
    induction l with
    | nil => intro k z; simp [readyIdx]
    | cons x r ih =>
      intro k z
      rw [List.foldl_cons, ih (k + 1), readyIdx, List.length_append]
      by_cases e : x.State = 1 <;> simp [e] <;> omega
  rw [key s.Procs 0 0]; omega
theorem r11_rule7 (s : GState) (hok : okSm s) : g_r11_rule7 s = some (K7 s) := by
  have h1 := iter_allN (L := g_r11_rule7_L24 s) (l := s.Ready) (z := ()) (q7 s) (fun i x hi hx => by
    have hd := dup_loop s hok i x hi
    simp only [g_r11_rule7_L24, g_r11_rule7_J18, hi, hx, decide_true, cond_true, Option.bind_some, hd, q7]
    rcases Bool.eq_false_or_eq_true (wn x s.Procs.length) with e | e
    · obtain ⟨y, hy⟩ := wn_rd e
      have hk : stAt s x = y.State := by unfold stAt; rw [hy]
      have e' := e
      simp only [wn, Bool.and_eq_true, decide_eq_true_eq] at e'
      have n1 : ¬ x < 0 := by omega
      have n2 : ¬ ((s.Procs.length : Nat) : Int) ≤ x := by omega
      by_cases e1 : x ∈ s.Ready.take i
      · by_cases e2 : y.State = 1 <;> simp [e, e1, n1, n2, hy, hk, e2]
      · by_cases e2 : y.State = 1 <;> simp [e, e1, n1, n2, hy, hk, e2]
    · by_cases n1 : x < 0
      · simp [n1, e]
      · by_cases n2 : ((s.Procs.length : Nat) : Int) ≤ x
        · simp [n1, n2, e]
        · exfalso
          have : wn x s.Procs.length = true := by simp only [wn, Bool.and_eq_true, decide_eq_true_eq]; omega
          rw [this] at e; cases e) (by simp [g_r11_rule7_L24])
  simp only [g_r11_rule7, h1, count_loop s hok, Option.bind_some, K7]
  rcases Bool.eq_false_or_eq_true (allI (q7 s) 0 s.Ready) with e | e
  rotate_left
  · simp [e]
  rw [e, if_pos rfl]
  simp only [Option.bind_some, Bool.true_and]
  congr 1
  have hq := allI_iff.1 e
  have hnd : s.Ready.Nodup := take_nodup fun i x hx => by
    have := hq i x hx
    rw [Nat.zero_add] at this
    simp only [q7, Bool.and_eq_true, Bool.not_eq_true', decide_eq_false_iff_not] at this
    exact this.1.2
  have hsub : ∀ n ∈ s.Ready, n ∈ readyIdx 0 s.Procs := fun n hn => by
    obtain ⟨i, hi⟩ := List.mem_iff_getElem?.1 hn
    have := hq i n hi
    rw [Nat.zero_add] at this
    simp only [q7, Bool.and_eq_true, decide_eq_true_eq] at this
    obtain ⟨y, hy⟩ := wn_rd this.1.1
    have h0 : 0 ≤ n := by
      have := this.1.1
      simp only [wn, Bool.and_eq_true, decide_eq_true_eq] at this
      exact this.1
    have hk : stAt s n = y.State := by unfold stAt; rw [hy]
    refine readyIdx_mem.2 ⟨n.toNat, y, ?_, by rw [← hk]; exact this.2, by omega⟩
    unfold rdI at hy; rwa [if_pos h0] at hy
  have hle := nodup_sub_len hnd hsub
  rcases Bool.eq_false_or_eq_true (allI (q7b s) 0 s.Procs) with e2 | e2
  · rw [e2]
    have hq2 := allI_iff.1 e2
    have : ∀ n ∈ readyIdx 0 s.Procs, n ∈ s.Ready := fun n hn => by
      obtain ⟨i, x, g1, g2, g3⟩ := readyIdx_mem.1 hn
      have := hq2 i x g1
      simp only [q7b, Bool.or_eq_true, Bool.not_eq_true', decide_eq_false_iff_not, decide_eq_true_eq] at this
      rcases this with h | h
      · exact absurd g2 h
      · rw [g3]; exact h
    have := nodup_sub_len (readyIdx_nodup s.Procs 0) this
    exact decide_eq_true (by omega)
  · rw [e2]
    refine decide_eq_false fun hc => ?_
    have hall := nodup_sub_eq hnd hsub (by omega)
    have : allI (q7b s) 0 s.Procs = true := allI_iff.2 fun i x hx => by
      simp only [q7b, Bool.or_eq_true, Bool.not_eq_true', decide_eq_false_iff_not, decide_eq_true_eq]
      by_cases g : x.State = 1
      · exact .inr (hall _ (readyIdx_mem.2 ⟨i, x, hx, g, rfl⟩))
      · exact .inl g
    rw [this] at e2; cases e2
theorem dup_loop8 (s : GState) (hok : okSm s) (i : Nat) (t : GTimer) (hi : i < s.Timers.length) : iter (g_r11_rule8_L9 s i t) 0 = some (if decide (t.Proc ∈ (s.Timers.map GTimer.Proc).take i) = true then .inr false else .inl ()) := by
  have hlt : (s.Timers.take i).length = i := by rw [List.length_take]; omega
  have h := iter_allZ (L := g_r11_rule8_L9 s i t) (l := s.Timers.take i) (z := ()) (fun _ y => !decide (y.Proc = t.Proc)) (fun j y hj hy => by
    have hjl : j < i := by omega
    rw [List.getElem?_take_of_lt hjl] at hy
    have hr : rdI s.Timers (j : Int) = some y := by simp [rdI, hy]
    have hw : IntKind.i64.wrap ((j : Int) + 1) = ((j + 1 : Nat) : Int) := by have := hok.1.1; rw [wrap64_eq ⟨by omega, by omega⟩]; rfl
    have hc : (j : Int) < (i : Int) := by omega
    simp only [g_r11_rule8_L9, hc, hr, hw, decide_true, cond_true, Option.bind_some]
    by_cases e : y.Proc = t.Proc <;> simp [e]) (by rw [hlt]; simp [g_r11_rule8_L9])
  rw [h, allI_all, ← List.map_take]
  by_cases e : t.Proc ∈ (s.Timers.take i).map GTimer.Proc
  · have : ((s.Timers.take i).all fun y => !decide (y.Proc = t.Proc)) = false := by
      obtain ⟨y, hy, hyt⟩ := List.mem_map.1 e
      rw [List.all_eq_false]; exact ⟨y, hy, by simp [hyt]⟩
    rw [this]; simp only [e, decide_true, if_true]; rfl
  · have : ((s.Timers.take i).all fun y => !decide (y.Proc = t.Proc)) = true := by
      rw [List.all_eq_true]; intro y hy; simp; intro h; exact e (List.mem_map.2 ⟨y, hy, h⟩)
    rw [this]; simp only [e, decide_false, if_true]; rfl
theorem r11_rule8 (s : GState) (hok : okSm s) : g_r11_rule8 s = some (K8 s) := by
  have h1 := iter_allN (L := g_r11_rule8_L11 s) (l := s.Timers) (z := ()) (q8 s) (fun i x hi hx => by
    have hd := dup_loop8 s hok i x hi
    have hb : (((decide (x.Proc < 0) || decide (((s.Procs.length : Nat) : Int) ≤ x.Proc)) || decide (x.Due < 0)) || decide (1010000 < x.Due)) = !(wn x.Proc s.Procs.length && bt x.Due 0 1010000) := by
      unfold wn bt
      by_cases e1 : 0 ≤ x.Proc <;> by_cases e2 : x.Proc < ((s.Procs.length : Nat) : Int) <;> by_cases e3 : 0 ≤ x.Due <;> by_cases e4 : x.Due ≤ 1010000 <;> simp [e1, e2, e3, e4] <;> omega
    simp only [g_r11_rule8_L11, g_r11_rule8_J10, hi, hx, decide_true, cond_true, Option.bind_some, hb, hd, q8]
    rcases Bool.eq_false_or_eq_true (wn x.Proc s.Procs.length) with e | e
    · rcases Bool.eq_false_or_eq_true (bt x.Due 0 1010000) with e2 | e2
      · by_cases e1 : x.Proc ∈ (s.Timers.map GTimer.Proc).take i
        · simp [e, e1, e2]
        · cases i with
          | zero => simp [e, e2, ordok]
          | succ j =>
            have hj : j < s.Timers.length := by omega
            have hw : IntKind.i64.wrap (((j + 1 : Nat) : Int) - 1) = (j : Int) := by have := hok.1.1; rw [wrap64_eq ⟨by omega, by omega⟩]; omega
            obtain ⟨y, hy⟩ : ∃ y, s.Timers[j]? = some y := ⟨_, List.getElem?_eq_getElem hj⟩
            have hr : rdI s.Timers (j : Int) = some y := by simp [rdI, hy]
            have hpos : 0 < j + 1 := by omega
            rcases Bool.eq_false_or_eq_true (decide (x.Due < y.Due) || (decide (y.Due = x.Due) && decide (x.Proc ≤ y.Proc))) with e3 | e3
            · simp only [e, e1, e2, e3, hw, hr, hy, hpos, ordok, decide_true, decide_false, cond_true, cond_false, Option.bind_some, Bool.not_true, Bool.not_false, Bool.and_true, Bool.and_false, Bool.false_eq_true, if_false]
            · simp only [e, e1, e2, e3, hw, hr, hy, hpos, ordok, decide_true, decide_false, cond_true, cond_false, Option.bind_some, Bool.not_true, Bool.not_false, Bool.and_true, Bool.false_eq_true, if_true, if_false]
      · simp [e, e2]
    · simp [e]) (by simp [g_r11_rule8_L11])
  simp only [g_r11_rule8, h1, Option.bind_some, K8]
  rcases Bool.eq_false_or_eq_true (allI (q8 s) 0 s.Timers) with e | e <;> simp [e]
theorem has_loop (s : GState) (i : Nat) : iter (g_r11_rule9_L44 s i) (false, 0) = some (decide (((i : Nat) : Int) ∈ s.Timers.map GTimer.Proc)) := by
  have h := iter_fold (L := g_r11_rule9_L44 s i) (l := s.Timers) (g := fun (z : Bool) x => if x.Proc = ((i : Nat) : Int) then true else z) (I := fun _ _ => True) (z := false) trivial (fun j x z hj hx _ => ⟨by
    simp only [g_r11_rule9_L44, g_r11_rule9_J43, hj, hx, decide_true, cond_true, Option.bind_some]
    by_cases e : x.Proc = ((i : Nat) : Int) <;> simp [e], trivial⟩) (fun z _ => by simp [g_r11_rule9_L44])
  rw [h.1]
  congr 1
  have key : ∀ (l : List GTimer) (z : Bool), l.foldl (fun (z : Bool) x => if x.Proc = ((i : Nat) : Int) then true else z) z = (z || decide (((i : Nat) : Int) ∈ l.map GTimer.Proc)) := by
    intro l
    induction l with
    | nil => intro z; simp
    | cons x r ih =>
      intro z
      rw [List.foldl_cons, ih]
      by_cases e : x.Proc = ((i : Nat) : Int)
      · simp [e]
      · have e' : ¬ ((i : Nat) : Int) = x.Proc := fun h => e h.symm
        simp [e, e']
  rw [key]; simp
theorem r11_rule9 (s : GState) : g_r11_rule9 s = some (K9 s) := by
  have h1 := iter_allN (L := g_r11_rule9_L47 s) (l := s.Timers) (z := ()) (q9 s) (fun i x hi hx => by
    simp only [g_r11_rule9_L47, g_r11_rule9_J6, hi, hx, decide_true, cond_true, Option.bind_some, q9]
    by_cases e1 : 0 ≤ x.Proc
    · by_cases e2 : x.Proc < ((s.Procs.length : Nat) : Int)
      · have e : wn x.Proc s.Procs.length = true := by simp [wn, e1, e2]
        obtain ⟨y, hy⟩ := wn_rd e
        have hk : stAt s x.Proc = y.State := by unfold stAt; rw [hy]
        by_cases e3 : y.State = 2 <;> simp [e, e1, e2, hy, hk, e3]
      · have e : wn x.Proc s.Procs.length = false := by simp [wn, e2]
        simp [e, e1, e2]
    · have e : wn x.Proc s.Procs.length = false := by simp [wn, e1]
      simp [e, e1]) (by simp [g_r11_rule9_L47])
  have h2 := iter_allN (L := g_r11_rule9_L46 s) (l := s.Procs) (z := ()) (q9b s) (fun i x hi hx => by
    simp only [g_r11_rule9_L46, g_r11_rule9_J45, hi, hx, decide_true, cond_true, Option.bind_some, has_loop, q9b]
    by_cases e1 : x.Wait = 1
    · by_cases e2 : ((i : Nat) : Int) ∈ s.Timers.map GTimer.Proc
      · simp only [e1, e2, decide_true, cond_true, cond_false, Bool.not_true, Option.bind_some, Bool.or_true, if_true]
      · simp only [e1, e2, decide_true, decide_false, cond_true, cond_false, Bool.not_true, Bool.not_false, Option.bind_some, Bool.or_false, Bool.false_eq_true, if_false]
    · simp [e1]) (by simp [g_r11_rule9_L46])
  simp only [g_r11_rule9, h1, Option.bind_some, K9]
  rcases Bool.eq_false_or_eq_true (allI (q9 s) 0 s.Timers) with e | e
  · simp only [e, if_true, h2, Option.bind_some, Bool.true_and]
    rcases Bool.eq_false_or_eq_true (allI (q9b s) 0 s.Procs) with e3 | e3 <;> simp [e3]
  · simp [e]
/-! ### Ports, pages -/
theorem r11_both (a b : Int) : g_r11_both a b = some (if a < b then a else b) := by
  unfold g_r11_both; by_cases h : a < b <;> simp [h]
theorem both_len {α β : Type} (l : List α) (r : List β) : (if (r.length : Int) < (l.length : Int) then (r.length : Int) else (l.length : Int)) = ((l.zip r).length : Int) := by
  rw [List.length_zip]; split <;> omega
section
variable {p : GPlan} {s : GState} {i : Nat} {x : GPortPlan × GPort}
theorem zip_at (hok : okSm s) (hi : i < (p.Ports.zip s.Ports).length) (hx : (p.Ports.zip s.Ports)[i]? = some x) :
    rdI p.Ports (i : Int) = some x.1 ∧ rdI s.Ports (i : Int) = some x.2 ∧ IntKind.i64.wrap ((i : Int) + 1) = ((i + 1 : Nat) : Int) ∧ (i : Int) < ((p.Ports.zip s.Ports).length : Int) := by
  obtain ⟨h1, h2⟩ := List.getElem?_zip_eq_some.1 hx
  have hl : i < s.Ports.length := (List.getElem?_eq_some_iff.1 h2).1
  refine ⟨by simp [rdI, h1], by simp [rdI, h2], ?_, by omega⟩
  have := hok.1.2.1; rw [wrap64_eq ⟨by omega, by omega⟩]; rfl
end
theorem r11_rule11 (p : GPlan) (s : GState) (hok : okSm s) : g_r11_rule11 p s = some (K11 p s) := by
  have h := iter_allZ (L := g_r11_rule11_L5 p s) (l := p.Ports.zip s.Ports) (z := ()) (fun _ x => k11 x) (fun i x hi hx => by
    obtain ⟨g1, g2, g3, g4⟩ := zip_at hok hi hx
    have hin := iter_allN (L := g_r11_rule11_L4 p s (i : Int)) (l := x.2.Msgs) (z := ()) (fun _ m => !decide (x.1.Size < (m.size : Int))) (fun j m hj hm => by
      simp only [g_r11_rule11_L4, g1, g2, hj, hm, decide_true, cond_true, Option.bind_some]
      by_cases e : x.1.Size < (m.size : Int) <;> simp [e]) (by simp [g_r11_rule11_L4, g2])
    rw [allI_all] at hin
    simp only [g_r11_rule11_L5, r11_both, both_len, g1, g2, g3, g4, hin, decide_true, cond_true, Option.bind_some, k11]
    have ha : (x.2.Msgs.all fun m => !decide (x.1.Size < (m.size : Int))) = !(x.2.Msgs.any fun m => decide (x.1.Size < (m.size : Int))) := by
      rw [List.not_any_eq_all_not]
    rw [ha]
    by_cases e : x.1.Depth < (x.2.Msgs.length : Int)
    · have e' : ¬ (x.2.Msgs.length : Int) ≤ x.1.Depth := by omega
      simp [e, e']
    · have e' : (x.2.Msgs.length : Int) ≤ x.1.Depth := by omega
      rcases Bool.eq_false_or_eq_true (x.2.Msgs.any fun m => decide (x.1.Size < (m.size : Int))) with b | b <;> simp only [b, e, e', decide_true, decide_false, cond_false, Bool.not_true, Bool.not_false, Bool.and_true, Bool.and_false, Bool.false_eq_true, if_true, if_false]) (by simp only [g_r11_rule11_L5, r11_both, both_len, Option.bind_some, Int.lt_irrefl, decide_false, cond_false])
  rw [allI_all] at h
  simp only [g_r11_rule11, h, K11]
  generalize (List.all _ _ : Bool) = b
  cases b <;> simp
theorem r11_rule12 (p : GPlan) (s : GState) (hok : okSm s) : g_r11_rule12 p s = some (K12 p s) := by
  have h := iter_allZ (L := g_r11_rule12_L9 p s) (l := p.Ports.zip s.Ports) (z := ()) (fun _ x => k12 x) (fun i x hi hx => by
    obtain ⟨g1, g2, g3, g4⟩ := zip_at hok hi hx
    simp only [g_r11_rule12_L9, g_r11_rule12_J8, r11_both, both_len, g1, g2, g3, g4, decide_true, cond_true, Option.bind_some, k12]
    by_cases e1 : x.2.Age < 0
    · have e : bt x.2.Age 0 255 = false := by unfold bt; simp; omega
      simp [e, e1]
    · by_cases e2 : 255 < x.2.Age
      · have e : bt x.2.Age 0 255 = false := by unfold bt; simp; omega
        simp [e, e1, e2]
      · have e : bt x.2.Age 0 255 = true := by unfold bt; simp; omega
        by_cases e3 : x.2.Age = 0
        · have e' : bt 0 0 255 = true := rfl
          simp [e', e3]
        · by_cases e4 : x.1.Kind = 1
          · by_cases e5 : x.2.Msgs.length = 0
            · simp only [e, e1, e2, e3, e4, e5, decide_true, decide_false, cond_true, cond_false, Option.bind_some, Bool.not_true, Bool.not_false, Bool.true_and, Bool.and_true, Bool.false_or, Nat.lt_irrefl, Bool.false_eq_true, if_false]
            · have e6 : 0 < x.2.Msgs.length := by omega
              simp only [e, e1, e2, e3, e4, e5, e6, decide_true, decide_false, cond_true, cond_false, Option.bind_some, Bool.not_true, Bool.not_false, Bool.true_and, Bool.and_true, Bool.false_or, if_true]
          · simp [e, e1, e2, e3, e4]) (by simp only [g_r11_rule12_L9, r11_both, both_len, Option.bind_some, Int.lt_irrefl, decide_false, cond_false])
  rw [allI_all] at h
  simp only [g_r11_rule12, h, K12]
  generalize (List.all _ _ : Bool) = b
  cases b <;> simp
theorem r11_rule13 (p : GPlan) (s : GState) (hok : okSm s) : g_r11_rule13 p s = some (K13 p s) := by
  have h := iter_allZ (L := g_r11_rule13_L1 p s) (l := p.Pages.zip s.Pages) (z := ()) (fun _ x => decide (x.1.Rights = x.2.Rights)) (fun i x hi hx => by
    obtain ⟨h1, h2⟩ := List.getElem?_zip_eq_some.1 hx
    have hl : i < s.Pages.length := (List.getElem?_eq_some_iff.1 h2).1
    have g1 : rdI p.Pages (i : Int) = some x.1 := by simp [rdI, h1]
    have g2 : rdI s.Pages (i : Int) = some x.2 := by simp [rdI, h2]
    have g3 : IntKind.i64.wrap ((i : Int) + 1) = ((i + 1 : Nat) : Int) := by have := hok.1.2.2; rw [wrap64_eq ⟨by omega, by omega⟩]; rfl
    have g4 : (i : Int) < ((p.Pages.zip s.Pages).length : Int) := by omega
    have hcm : (x.2.Rights = x.1.Rights) = (x.1.Rights = x.2.Rights) := propext ⟨Eq.symm, Eq.symm⟩
    simp only [g_r11_rule13_L1, r11_both, both_len, g1, g2, g3, g4, hcm, decide_true, cond_true, Option.bind_some]
    by_cases e : x.1.Rights = x.2.Rights <;> simp [e]) (by simp only [g_r11_rule13_L1, r11_both, both_len, Option.bind_some, Int.lt_irrefl, decide_false, cond_false])
  rw [allI_all] at h
  simp only [g_r11_rule13, h, K13]
  generalize (List.all _ _ : Bool) = b
  cases b <;> simp
theorem mn_both (a b : Int) : (if a < b then a else b) = mn a b := by unfold mn; split <;> split <;> omega
theorem r11_rule14 (p : GPlan) (s : GState) : g_r11_rule14 p s = some (K14 p s) := by
  have h := iter_allN (L := g_r11_rule14_L7 p s) (l := s.Procs) (z := ()) (fun _ x => k14 p s x) (fun i x hi hx => by
    simp only [g_r11_rule14_L7, g_r11_rule14_J6, hi, hx, decide_true, cond_true, Option.bind_some, r11_both, mn_both, k14]
    by_cases e : x.Wait = 2
    · by_cases e1 : 0 ≤ x.Obj
      · by_cases e2 : x.Obj < mn s.Up.length p.Events
        · have e3 : wn x.Obj (mn s.Up.length p.Events) = true := by simp [wn, e1, e2]
          obtain ⟨y, hy⟩ := wn_rd (wn_le e3 (mn_le _ _).1)
          cases y <;> simp [e, e1, e2, e3, hy, upAt]
        · have e3 : wn x.Obj (mn s.Up.length p.Events) = false := by simp [wn, e2]
          simp [e, e1, e2, e3]
      · have e3 : wn x.Obj (mn s.Up.length p.Events) = false := by simp [wn, e1]
        simp [e, e1, e3]
    · simp [e]) (by simp [g_r11_rule14_L7])
  rw [allI_all] at h
  simp only [g_r11_rule14, h, K14]
  generalize (List.all _ _ : Bool) = b
  cases b <;> simp
theorem r11_rule15 (p : GPlan) (s : GState) : g_r11_rule15 p s = some (K15 p s) := by
  have h := iter_allN (L := g_r11_rule15_L7 p s) (l := s.Procs) (z := ()) (fun _ x => k15 p s x) (fun i x hi hx => by
    simp only [g_r11_rule15_L7, g_r11_rule15_J6, hi, hx, decide_true, cond_true, Option.bind_some, r11_both, mn_both, k15]
    by_cases e : x.Wait = 3
    · by_cases e1 : 0 ≤ x.Obj
      · by_cases e2 : x.Obj < mn s.Sems.length p.Sems.length
        · have e3 : wn x.Obj (mn s.Sems.length p.Sems.length) = true := by simp [wn, e1, e2]
          obtain ⟨y, hy⟩ := wn_rd (wn_le e3 (mn_le _ _).1)
          by_cases e4 : y = 0 <;> simp [e, e1, e2, e3, hy, smAt, e4]
        · have e3 : wn x.Obj (mn s.Sems.length p.Sems.length) = false := by simp [wn, e2]
          simp [e, e1, e2, e3]
      · have e3 : wn x.Obj (mn s.Sems.length p.Sems.length) = false := by simp [wn, e1]
        simp [e, e1, e3]
    · simp [e]) (by simp [g_r11_rule15_L7])
  rw [allI_all] at h
  simp only [g_r11_rule15, h, K15]
  generalize (List.all _ _ : Bool) = b
  cases b <;> simp
theorem r11_rule16 (p : GPlan) (s : GState) : g_r11_rule16 p s = some (K16 p s) := by
  have h := iter_allN (L := g_r11_rule16_L31 p s) (l := s.Procs) (z := ()) (fun _ x => k16 p s x) (fun i x hi hx => by
    simp only [g_r11_rule16_L31, g_r11_rule16_J30, g_r11_rule16_J29, g_r11_rule16_J28, hi, hx, decide_true, cond_true, Option.bind_some, r11_both, mn_both, k16, mn_comm (s.Ports.length : Int)]
    by_cases e : x.Wait = 4
    · by_cases e1 : x.Obj < 0
      · have e3 : wn x.Obj (mn p.Ports.length s.Ports.length) = false := by unfold wn; simp; omega
        simp [e, e1, e3]
      · by_cases e2 : mn p.Ports.length s.Ports.length ≤ x.Obj
        · have e3 : wn x.Obj (mn p.Ports.length s.Ports.length) = false := by unfold wn; simp; omega
          simp [e, e1, e2, e3]
        · have e3 : wn x.Obj (mn p.Ports.length s.Ports.length) = true := by unfold wn; simp; omega
          obtain ⟨y, hy⟩ := wn_rd (wn_le e3 (mn_le _ _).1)
          obtain ⟨z, hz⟩ := wn_rd (wn_le e3 (mn_le _ _).2)
          simp only [e, e1, e2, e3, hy, hz, decide_true, decide_false, cond_true, cond_false, Option.bind_some, Bool.not_true, Bool.not_false, Bool.and_self, if_true, k16i]
          by_cases e4 : y.Kind = 3
          · have e5 : ¬ y.Kind = 4 := by omega
            by_cases e6 : z.Msgs.length = 0
            · simp only [e4, e5, e6, decide_true, decide_false, cond_true, cond_false, Option.bind_some, Bool.not_true, if_true, show ¬ (3 : Int) = 4 by decide]
            · simp only [e4, e5, e6, decide_true, decide_false, cond_true, cond_false, Option.bind_some, Bool.not_false, Bool.false_eq_true, if_true, if_false]
          · by_cases e5 : y.Kind = 4
            · by_cases e6 : (z.Msgs.length : Int) = y.Depth
              · simp only [e5, e6, decide_true, decide_false, cond_true, cond_false, Option.bind_some, Bool.not_true, if_true, if_false, show ¬ (4 : Int) = 3 by decide]
              · simp only [e5, e6, decide_true, decide_false, cond_true, cond_false, Option.bind_some, Bool.not_false, Bool.false_eq_true, if_true, if_false, show ¬ (4 : Int) = 3 by decide]
            · simp only [e4, e5, decide_false, cond_false, Option.bind_some, if_false, if_true]
    · simp [e]) (by simp [g_r11_rule16_L31])
  rw [allI_all] at h
  simp only [g_r11_rule16, h, K16]
  generalize (List.all _ _ : Bool) = b
  cases b <;> simp
theorem r11_rule17 (p : GPlan) (s : GState) (hok : okSm s) : g_r11_rule17 p s = some (K17 p s) := by
  have h := iter_allZ (L := g_r11_rule17_L9 p s) (l := p.Ports.zip s.Ports) (z := ()) (fun _ x => k17 x) (fun i x hi hx => by
    obtain ⟨g1, g2, g3, g4⟩ := zip_at hok hi hx
    simp only [g_r11_rule17_L9, g_r11_rule17_J8, r11_both, both_len, g1, g2, g3, g4, decide_true, cond_true, Option.bind_some, k17]
    have e6 : decide (0 < x.2.Msgs.length) = !decide (x.2.Msgs.length = 0) := by
      by_cases e : x.2.Msgs.length = 0
      · rw [e]; rfl
      · have : 0 < x.2.Msgs.length := by omega
        simp [e, this]
    rw [e6]
    by_cases e7 : x.2.Msgs.length = 0
    · by_cases e2 : x.1.Kind = 2
      · simp only [e2, e7, decide_true, cond_true, cond_false, Option.bind_some, Bool.not_true, Bool.true_or, Bool.or_true, if_true]
      · by_cases e4 : x.1.Kind = 4
        · simp only [e2, e4, e7, decide_true, decide_false, cond_true, cond_false, Option.bind_some, Bool.not_true, Bool.false_or, Bool.or_true, if_true, show ¬ (4 : Int) = 2 by decide]
        · simp only [e2, e4, e7, decide_true, decide_false, cond_false, Option.bind_some, Bool.or_self, Bool.not_false, Bool.true_or, if_true]
    · by_cases e2 : x.1.Kind = 2
      · simp only [e2, e7, decide_true, decide_false, cond_true, Option.bind_some, Bool.not_true, Bool.not_false, Bool.true_or, Bool.or_false, Bool.false_eq_true, if_false]
      · by_cases e4 : x.1.Kind = 4
        · simp only [e2, e4, e7, decide_true, decide_false, cond_true, cond_false, Option.bind_some, Bool.not_true, Bool.not_false, Bool.false_or, Bool.or_false, Bool.false_eq_true, if_false, show ¬ (4 : Int) = 2 by decide]
        · simp only [e2, e4, e7, decide_false, cond_false, Option.bind_some, Bool.or_self, Bool.not_false, Bool.true_or, if_true]) (by simp only [g_r11_rule17_L9, r11_both, both_len, Option.bind_some, Int.lt_irrefl, decide_false, cond_false])
  rw [allI_all] at h
  simp only [g_r11_rule17, h, K17]
  generalize (List.all _ _ : Bool) = b
  cases b <;> simp
theorem r11_sems (s : GState) : iter (g_r11_kept_L7 s) 0 = some (if K10 s = true then .inl () else .inr false) := by
  have h := iter_allN (L := g_r11_kept_L7 s) (l := s.Sems) (z := ()) (fun _ n => bt n 0 255) (fun i x hi hx => by
    simp only [g_r11_kept_L7, g_r11_kept_J6, hi, hx, decide_true, cond_true, Option.bind_some]
    by_cases e1 : x < 0
    · have e : bt x 0 255 = false := by unfold bt; simp; omega
      simp [e, e1]
    · by_cases e2 : 255 < x
      · have e : bt x 0 255 = false := by unfold bt; simp; omega
        simp [e, e1, e2]
      · have e : bt x 0 255 = true := by unfold bt; simp; omega
        simp [e, e1, e2]) (by simp [g_r11_kept_L7])
  rw [allI_all] at h; exact h
theorem r11_kept (p : GPlan) (s : GState) (hok : okSm s) (k : Nat) (hk : k < 17) : g_r11_kept ((k + 1 : Nat) : Int) p s = some (kept p s)[k] := by
  have h4 := r11_rule4 s; have h5 := r11_rule5 s; have h6 := r11_rule6 p s; have h7 := r11_rule7 s hok; have h8 := r11_rule8 s hok; have h9 := r11_rule9 s; have h10 := r11_sems s
  have h11 := r11_rule11 p s hok; have h12 := r11_rule12 p s hok; have h13 := r11_rule13 p s hok; have h14 := r11_rule14 p s; have h15 := r11_rule15 p s; have h16 := r11_rule16 p s; have h17 := r11_rule17 p s hok
  match k, hk with
  | 0, _ => rfl
  | 1, _ => simp [g_r11_kept, kept, K2, bt, Bool.and_assoc]
  | 2, _ => rfl
  | 3, _ => simp [g_r11_kept, kept, h4]
  | 4, _ => simp [g_r11_kept, kept, h5]
  | 5, _ => simp [g_r11_kept, kept, h6]
  | 6, _ => simp [g_r11_kept, kept, h7]
  | 7, _ => simp [g_r11_kept, kept, h8]
  | 8, _ => simp [g_r11_kept, kept, h9]
  | 9, _ =>
    simp only [g_r11_kept, h10]
    have : (kept p s)[9] = K10 s := rfl
    rw [this]
    rcases Bool.eq_false_or_eq_true (K10 s) with e | e <;> simp [e]
  | 10, _ => simp [g_r11_kept, g_r11_keptMore, kept, h11]
  | 11, _ => simp [g_r11_kept, g_r11_keptMore, kept, h12]
  | 12, _ => simp [g_r11_kept, g_r11_keptMore, kept, h13]
  | 13, _ => simp [g_r11_kept, g_r11_keptMore, kept, h14]
  | 14, _ => simp [g_r11_kept, g_r11_keptMore, kept, h15]
  | 15, _ => simp [g_r11_kept, g_r11_keptMore, kept, h16]
  | 16, _ => simp [g_r11_kept, g_r11_keptMore, kept, h17]
  | k + 17, hk => exact absurd hk (by omega)
theorem r11_Faults (p : GPlan) (s : GState) (hok : okSm s) : g_r11_Faults p s = some (sFaults p s) := by
  unfold sFaults
  by_cases h : sPlan p = .nil
  rotate_left
  · rw [if_pos h]
    simp only [g_r11_Faults, r10_Good, h, decide_false, Bool.not_false, cond_true, Option.bind_some]
  rw [if_neg (by simpa using h)]
  have hkp := r11_kept p s hok
  generalize kept p s = v at hkp
  have h17 : v.toList.length = 17 := by simp
  have key : ∀ m k, k + m = 17 → iter (g_r11_Faults_L5 p s) (brk 0 (v.toList.take k), ((k + 1 : Nat) : Int)) = some (brk 0 v.toList) := by
    intro m
    induction m with
    | zero =>
      intro k hk
      obtain rfl : k = 17 := by omega
      rw [List.take_of_length_le (by omega)]
      exact iter_inr (by simp [g_r11_Faults_L5])
    | succ m ih =>
      intro k hk
      have hlt : k < 17 := by omega
      have hlt' : k < v.toList.length := by omega
      have hb : v.toList[k]? = some v[k] := by simp [hlt]
      have hrd := hkp k hlt
      have hl := brk_len (v.toList.take k) 0
      rw [List.length_take] at hl
      have hc : ((brk 0 (v.toList.take k)).length + [((k + 1 : Nat) : Int)].length) * 8 ≤ 140737488355328 := by
        simp only [List.length_cons, List.length_nil]; omega
      have hle : ((k + 1 : Nat) : Int) ≤ 17 := by omega
      have hw : IntKind.i64.wrap (((k + 1 : Nat) : Int) + 1) = ((k + 1 + 1 : Nat) : Int) := by rw [wrap64_eq ⟨by omega, by omega⟩]; rfl
      have hs : g_r11_Faults_L5 p s (brk 0 (v.toList.take k), ((k + 1 : Nat) : Int)) = some (.inl (brk 0 (v.toList.take (k + 1)), ((k + 1 + 1 : Nat) : Int))) := by
        rw [take_one_more hb, brk_snoc, List.length_take, Nat.min_eq_left (by omega), Nat.zero_add]
        simp only [g_r11_Faults_L5, g_r11_Faults_J4, hle, hrd, hw, decide_true, cond_true, Option.bind_some, chk, hc, if_true]
        rcases Bool.eq_false_or_eq_true v[k] with e | e <;> simp [e]
      rw [iter_inl hs]
      exact ih (k + 1) (by omega)
  have h0 := key 17 0 rfl
  rw [List.take_zero] at h0
  simp only [g_r11_Faults, r10_Good, h, decide_true, Bool.not_true, cond_false, Option.bind_some]
  exact (congrArg (fun o => Option.bind o fun l => some l) h0)
theorem r11_check (p : GPlan) (s : GState) (hok : okSm s) (last : Int) : g_r11_check p s last = some ((sUpTo p s last).code, (sUpTo p s last).place) := by
  simp only [g_r11_check, g_r11_check_J2, r11_Faults p s hok, Option.bind_some, sUpTo]
  cases h : sFaults p s with
  | nil => simp [cNil, pNil]
  | cons x r =>
    by_cases e : last < x
    · simp [e, cNil, pNil]
    · by_cases e2 : x = 0
      · subst e2; simp [e, cPlan, pV]
      · have c9 : (ErrM.pl x gState).code = 9 := by rw [cPl, cState]
        simp [e, e2, c9, pPl]
end Go.Proofs.YtpnmaabhjgiggaaGreatDoor
