/- Plain laws of states: each rule as the program asks it. -/
import Derived.Test.YtjoihegnjjjdaaaDoorPlanLVb
set_option linter.unusedVariables false
set_option linter.unusedSimpArgs false
set_option linter.unusedSectionVars false
namespace Go.Proofs.YtjoihegnjjjdaaaDoor
open Go Go.RowKit

/-! ### Loops that ask each element -/
section
variable {α σ τ : Type}
def allI (q : Nat → α → Bool) : Nat → List α → Bool
  | _, [] => true
  | k, x :: r => q k x && allI q (k + 1) r
theorem allI_all (q : α → Bool) : ∀ (l : List α) (k : Nat), allI (fun _ x => q x) k l = l.all q
  | [], _ => rfl
  | x :: r, k => by simp only [allI, List.all_cons, allI_all q r (k + 1)]
theorem allI_congr {q r : Nat → α → Bool} : ∀ (l : List α) (k : Nat), (∀ i x, l[i]? = some x → q (k + i) x = r (k + i) x) → allI q k l = allI r k l
  | [], _, _ => rfl
  | x :: t, k, h => by
    have h0 : q k x = r k x := h 0 x rfl
    have h1 := allI_congr t (k + 1) fun i y hy => (show k + (i + 1) = k + 1 + i by omega) ▸ h (i + 1) y (by simpa using hy)
    simp only [allI, h0, h1]
theorem allI_iff {q : Nat → α → Bool} : ∀ {l : List α} {k : Nat}, allI q k l = true ↔ ∀ i x, l[i]? = some x → q (k + i) x = true
  | [], k => by simp [allI]
  | x :: r, k => by
    rw [allI, Bool.and_eq_true, allI_iff]
    constructor
    · intro ⟨h1, h2⟩ i y hy
      cases i with
      | zero => have : x = y := by simpa using hy
                subst this; exact h1
      | succ j => have := h2 j y (by simpa using hy); rwa [show k + (j + 1) = k + 1 + j by omega]
    · intro h
      exact ⟨h 0 x rfl, fun i y hy => (show k + (i + 1) = k + 1 + i by omega) ▸ h (i + 1) y (by simpa using hy)⟩
theorem iter_allI {L : σ × Nat → Option ((σ × Nat) ⊕ (τ ⊕ Bool))} {l : List α} (st : Nat → σ) {z : τ} (q : Nat → α → Bool)
    (h : ∀ i x, i < l.length → l[i]? = some x → L (st i, i) = some (if q i x = true then .inl (st (i + 1), i + 1) else .inr (.inr false))) (h2 : L (st l.length, l.length) = some (.inr (.inl z))) :
    iter L (st 0, 0) = some (if allI q 0 l = true then .inl z else .inr false) := by
  have key : ∀ m k, k + m = l.length → iter L (st k, k) = some (if allI q k (l.drop k) = true then .inl z else .inr false) := by
    intro m
    induction m with
    | zero =>
      intro k hk
      obtain rfl : k = l.length := by omega
      rw [iter_inr h2, List.drop_length]; rfl
    | succ m ih =>
      intro k hk
      have hlt : k < l.length := by omega
      have hx : l[k]? = some l[k] := List.getElem?_eq_getElem hlt
      have hs := h k _ hlt hx
      rw [List.drop_eq_getElem_cons hlt, allI]
      rcases Bool.eq_false_or_eq_true (q k l[k]) with e | e
      · rw [if_pos e] at hs; rw [iter_inl hs, ih (k + 1) (by omega), e, Bool.true_and]
      · rw [if_neg (by simp [e])] at hs; rw [iter_inr hs, e]; rfl
  simpa using key l.length 0 (by omega)
theorem iter_allN {L : Nat → Option (Nat ⊕ (τ ⊕ Bool))} {l : List α} {z : τ} (q : Nat → α → Bool)
    (h : ∀ i x, i < l.length → l[i]? = some x → L i = some (if q i x = true then .inl (i + 1) else .inr (.inr false))) (h2 : L l.length = some (.inr (.inl z))) :
    iter L 0 = some (if allI q 0 l = true then .inl z else .inr false) := by
  have key : ∀ m k, k + m = l.length → iter L k = some (if allI q k (l.drop k) = true then .inl z else .inr false) := by
    intro m
    induction m with
    | zero =>
      intro k hk
      obtain rfl : k = l.length := by omega
      rw [iter_inr h2, List.drop_length]; rfl
    | succ m ih =>
      intro k hk
      have hlt : k < l.length := by omega
      have hx : l[k]? = some l[k] := List.getElem?_eq_getElem hlt
      have hs := h k _ hlt hx
      rw [List.drop_eq_getElem_cons hlt, allI]
      rcases Bool.eq_false_or_eq_true (q k l[k]) with e | e
      · rw [if_pos e] at hs; rw [iter_inl hs, ih (k + 1) (by omega), e, Bool.true_and]
      · rw [if_neg (by simp [e])] at hs; rw [iter_inr hs, e]; rfl
  simpa using key l.length 0 (by omega)
theorem iter_allZ {L : Int → Option (Int ⊕ (τ ⊕ Bool))} {l : List α} {z : τ} (q : Nat → α → Bool)
    (h : ∀ (i : Nat) x, i < l.length → l[i]? = some x → L (i : Int) = some (if q i x = true then .inl ((i + 1 : Nat) : Int) else .inr (.inr false))) (h2 : L (l.length : Int) = some (.inr (.inl z))) :
    iter L 0 = some (if allI q 0 l = true then .inl z else .inr false) := by
  have key : ∀ m (k : Nat), k + m = l.length → iter L (k : Int) = some (if allI q k (l.drop k) = true then .inl z else .inr false) := by
    intro m
    induction m with
    | zero =>
      intro k hk
      obtain rfl : k = l.length := by omega
      rw [iter_inr h2, List.drop_length]; rfl
    | succ m ih =>
      intro k hk
      have hlt : k < l.length := by omega
      have hx : l[k]? = some l[k] := List.getElem?_eq_getElem hlt
      have hs := h k _ hlt hx
      rw [List.drop_eq_getElem_cons hlt, allI]
      rcases Bool.eq_false_or_eq_true (q k l[k]) with e | e
      · rw [if_pos e] at hs; rw [iter_inl hs, ih (k + 1) (by omega), e, Bool.true_and]
      · rw [if_neg (by simp [e])] at hs; rw [iter_inr hs, e]; rfl
  simpa using key l.length 0 (by omega)
theorem any_first (b : α → Bool) : ∀ (l : List α) (k : Nat), match firstE (fun i x => if b x = true then some ((i : Nat) : Int) else none) k l with
    | none => l.any b = false
    | some e => l.any b = true ∧ 0 ≤ e
  | [], _ => rfl
  | x :: r, k => by
    by_cases h : b x = true
    · simp only [firstE, h, if_true, List.any_cons, Bool.true_or, true_and]; omega
    · have ih := any_first b r (k + 1)
      simp only [Bool.not_eq_true] at h
      simp only [firstE, h, Bool.false_eq_true, if_false, List.any_cons, Bool.false_or]
      exact ih
end
theorem contains_int (l : List Int) (f : Int → Option Bool) (b : Int → Bool) (hf : ∀ x, f x = some (b x)) : g_slices_ContainsFunc_int l f = some (l.any b) := by
  have h := iter_list (L := g_slices_IndexFunc_int_L1 l f) (l := l) (f := fun i x => if b x = true then some ((i : Nat) : Int) else none) (fun i x hi hx => by
    simp only [g_slices_IndexFunc_int_L1, hi, hx, decide_true, cond_true, Option.bind_some, hf, Bool.cond_eq_ite, nxt_ite, nxt_some, nxt_none, if_true]
    split <;> rfl) (by simp [g_slices_IndexFunc_int_L1])
  simp only [g_slices_ContainsFunc_int, g_slices_IndexFunc_int, h]
  have hk := any_first b l 0
  cases he : firstE (fun i x => if b x = true then some ((i : Nat) : Int) else none) 0 l with
  | none => rw [he] at hk; rw [hk]; rfl
  | some e => rw [he] at hk; rw [hk.1]; simp [fin, hk.2]
theorem contains_string (l : List ByteArray) (f : ByteArray → Option Bool) (b : ByteArray → Bool) (hf : ∀ x, f x = some (b x)) : g_slices_ContainsFunc_string l f = some (l.any b) := by
  have h := iter_list (L := g_slices_IndexFunc_string_L1 l f) (l := l) (f := fun i x => if b x = true then some ((i : Nat) : Int) else none) (fun i x hi hx => by
    simp only [g_slices_IndexFunc_string_L1, hi, hx, decide_true, cond_true, Option.bind_some, hf, Bool.cond_eq_ite, nxt_ite, nxt_some, nxt_none, if_true]
    split <;> rfl) (by simp [g_slices_IndexFunc_string_L1])
  simp only [g_slices_ContainsFunc_string, g_slices_IndexFunc_string, h]
  have hk := any_first b l 0
  cases he : firstE (fun i x => if b x = true then some ((i : Nat) : Int) else none) 0 l with
  | none => rw [he] at hk; rw [hk]; rfl
  | some e => rw [he] at hk; rw [hk.1]; simp [fin, hk.2]
/-! ### The words -/
def bt (n lo hi : Int) : Bool := decide (lo ≤ n) && decide (n ≤ hi)
def wn (n m : Int) : Bool := decide (0 ≤ n) && decide (n < m)
theorem valid_between (n lo hi : Int) : g_valid_between n lo hi = some (bt n lo hi) := rfl
theorem valid_within (n m : Int) : g_valid_within n m = some (wn n m) := rfl
theorem wn_rd {α : Type} {l : List α} {n : Int} (h : wn n l.length = true) : ∃ x, rdI l n = some x := by
  simp only [wn, Bool.and_eq_true, decide_eq_true_eq] at h
  have hz : n.toNat < l.length := by omega
  exact ⟨l[n.toNat], by simp [rdI, h.1, hz]⟩
theorem wn_le {n a b : Int} (h : wn n a = true) (hab : a ≤ b) : wn n b = true := by
  simp only [wn, Bool.and_eq_true, decide_eq_true_eq] at h ⊢; omega
def stAt (s : GState) (n : Int) : Int := match rdI s.Procs n with
  | some x => x.State
  | none => 0
def pkAt (p : GPlan) (n : Int) : Int := match rdI p.Ports n with
  | some x => x.Kind
  | none => 0
def mn (a b : Int) : Int := if b < a then b else a
theorem mn_le (a b : Int) : mn a b ≤ a ∧ mn a b ≤ b := by unfold mn; split <;> omega
theorem mn_comm (a b : Int) : mn a b = mn b a := by unfold mn; split <;> split <;> omega
/-! ### The rules -/
def K1 (p : GPlan) (s : GState) : Bool := decide (s.Id = p.Id)
def K2 (s : GState) : Bool := bt s.Frame 0 2147483647 && bt s.Epoch 0 2147483647
def K3 (p : GPlan) (s : GState) : Bool := decide (s.Procs.length = p.Procs.length) && decide (s.Ports.length = p.Ports.length) && decide (s.Pages.length = p.Pages.length) && decide ((s.Up.length : Int) = p.Events) && decide (s.Sems.length = p.Sems.length)
def k4 (x : GProc) : Bool := decide (x.Regs[0] = 0) && bt x.State 0 3 && bt x.Prio 0 255 && bt x.Wait 0 4
def K4 (s : GState) : Bool := s.Procs.all k4
def k5 (x : GProc) : Bool := (!decide (x.Wait = 0)) == decide (x.State = 2)
def K5 (s : GState) : Bool := s.Procs.all k5
def k6 (p : GPlan) (x : GProc) : Bool := if x.Wait = 2 then wn x.Obj p.Events else if x.Wait = 3 then wn x.Obj p.Sems.length else if x.Wait = 4 then wn x.Obj p.Ports.length && (decide (pkAt p x.Obj = 3) || decide (pkAt p x.Obj = 4)) else decide (x.Obj = 0)
def K6 (p : GPlan) (s : GState) : Bool := s.Procs.all (k6 p)
def q7 (s : GState) (i : Nat) (n : Int) : Bool := wn n s.Procs.length && !decide (n ∈ s.Ready.take i) && decide (stAt s n = 1)
def q7b (s : GState) (i : Nat) (x : GProc) : Bool := !decide (x.State = 1) || decide (((i : Nat) : Int) ∈ s.Ready)
def K7 (s : GState) : Bool := allI (q7 s) 0 s.Ready && allI (q7b s) 0 s.Procs
def ordok (s : GState) (i : Nat) (t : GTimer) : Bool := match i with
  | 0 => true
  | j + 1 => match s.Timers[j]? with
    | some y => !(decide (t.Due < y.Due) || (decide (y.Due = t.Due) && decide (t.Proc ≤ y.Proc)))
    | none => true
def q8 (s : GState) (i : Nat) (t : GTimer) : Bool := wn t.Proc s.Procs.length && !decide (t.Proc ∈ (s.Timers.map GTimer.Proc).take i) && bt t.Due 0 1010000 && ordok s i t
def K8 (s : GState) : Bool := allI (q8 s) 0 s.Timers
def q9 (s : GState) (_ : Nat) (t : GTimer) : Bool := !(wn t.Proc s.Procs.length && !decide (stAt s t.Proc = 2))
def q9b (s : GState) (i : Nat) (x : GProc) : Bool := !decide (x.Wait = 1) || decide (((i : Nat) : Int) ∈ s.Timers.map GTimer.Proc)
def K9 (s : GState) : Bool := allI (q9 s) 0 s.Timers && allI (q9b s) 0 s.Procs
def K10 (s : GState) : Bool := s.Sems.all fun n => bt n 0 255
def k11 (a : GPortPlan × GPort) : Bool := decide ((a.2.Msgs.length : Int) ≤ a.1.Depth) && !(a.2.Msgs.any fun m => decide (a.1.Size < (m.size : Int)))
def K11 (p : GPlan) (s : GState) : Bool := (p.Ports.zip s.Ports).all k11
def k12 (a : GPortPlan × GPort) : Bool := bt a.2.Age 0 255 && (decide (a.2.Age = 0) || (decide (a.1.Kind = 1) && decide (0 < a.2.Msgs.length)))
def K12 (p : GPlan) (s : GState) : Bool := (p.Ports.zip s.Ports).all k12
def K13 (p : GPlan) (s : GState) : Bool := (p.Pages.zip s.Pages).all fun a => decide (a.1.Rights = a.2.Rights)
def upAt (s : GState) (n : Int) : Bool := (rdI s.Up n).getD false
def smAt (s : GState) (n : Int) : Int := (rdI s.Sems n).getD 0
def k14 (p : GPlan) (s : GState) (x : GProc) : Bool := !(decide (x.Wait = 2) && wn x.Obj (mn s.Up.length p.Events) && upAt s x.Obj)
def K14 (p : GPlan) (s : GState) : Bool := s.Procs.all (k14 p s)
def k15 (p : GPlan) (s : GState) (x : GProc) : Bool := !(decide (x.Wait = 3) && wn x.Obj (mn s.Sems.length p.Sems.length) && !decide (smAt s x.Obj = 0))
def K15 (p : GPlan) (s : GState) : Bool := s.Procs.all (k15 p s)
def k16i (q : GPortPlan) (r : GPort) : Bool := if q.Kind = 3 then decide (r.Msgs.length = 0) else if q.Kind = 4 then decide ((r.Msgs.length : Int) = q.Depth) else true
def k16 (p : GPlan) (s : GState) (x : GProc) : Bool := if decide (x.Wait = 4) && wn x.Obj (mn p.Ports.length s.Ports.length) then (match rdI p.Ports x.Obj, rdI s.Ports x.Obj with
  | some q, some r => k16i q r
  | _, _ => true) else true
def K16 (p : GPlan) (s : GState) : Bool := s.Procs.all (k16 p s)
def k17 (a : GPortPlan × GPort) : Bool := !(decide (a.1.Kind = 2) || decide (a.1.Kind = 4)) || decide (a.2.Msgs.length = 0)
def K17 (p : GPlan) (s : GState) : Bool := (p.Ports.zip s.Ports).all k17
def okSt (s : GState) : Prop := s.Timers.length ≤ 140737488355328 ∧ s.Ports.length ≤ 140737488355328 ∧ s.Pages.length ≤ 140737488355328
/-! ### The program's -/
theorem valid_procs (a : GValidAsked) {f : GProc → Option Bool} {b : GProc → Bool} (hf : ∀ x, f x = some (b x)) : g_valid_asked_procs a f = some (a.s_.Procs.all b) := by
  have h := iter_allN (L := g_valid_asked_procs_L1 a f) (l := a.s_.Procs) (z := ()) (fun _ x => b x) (fun i x hi hx => by
    simp only [g_valid_asked_procs_L1, hi, hx, decide_true, cond_true, Option.bind_some, hf]
    rcases Bool.eq_false_or_eq_true (b x) with e | e <;> simp [e]) (by simp [g_valid_asked_procs_L1])
  rw [allI_all] at h
  simp only [g_valid_asked_procs, h]
  rcases Bool.eq_false_or_eq_true (a.s_.Procs.all b) with e | e <;> simp [e]
theorem zip_len {α β : Type} (l : List α) (r : List β) : ((l.zip r).length : Int) = if (r.length : Int) < (l.length : Int) then (r.length : Int) else (l.length : Int) := by
  rw [List.length_zip]; split <;> omega
theorem valid_ports (a : GValidAsked) {f : GPortPlan → GPort → Option Bool} {b : GPortPlan × GPort → Bool} (hok : okSt a.s_) (hf : ∀ x y, f x y = some (b (x, y))) : g_valid_asked_ports a f = some ((a.p_.Ports.zip a.s_.Ports).all b) := by
  have hz := zip_len a.p_.Ports a.s_.Ports
  have h := iter_allZ (L := g_valid_asked_ports_L1 a f) (l := a.p_.Ports.zip a.s_.Ports) (z := ()) (fun _ x => b x) (fun i x hi hx => by
    obtain ⟨h1, h2⟩ := List.getElem?_zip_eq_some.1 hx
    have hi' : ((i : Nat) : Int) < ((a.p_.Ports.zip a.s_.Ports).length : Int) := by omega
    rw [hz] at hi'
    have hl : i < a.s_.Ports.length := (List.getElem?_eq_some_iff.1 h2).1
    have hw : IntKind.i64.wrap ((i : Int) + 1) = ((i + 1 : Nat) : Int) := by have := hok.2.1; rw [wrap64_eq ⟨by omega, by omega⟩]; rfl
    have e1 : rdI a.p_.Ports (i : Int) = some x.1 := by simp [rdI, h1]
    have e2 : rdI a.s_.Ports (i : Int) = some x.2 := by simp [rdI, h2]
    simp only [g_valid_asked_ports_L1, hi', e1, e2, hw, decide_true, cond_true, Option.bind_some, hf]
    rcases Bool.eq_false_or_eq_true (b x) with e | e <;> simp [e]) (by
    rw [hz]; simp only [g_valid_asked_ports_L1, Int.lt_irrefl, decide_false, cond_false])
  rw [allI_all] at h
  simp only [g_valid_asked_ports, h]
  rcases Bool.eq_false_or_eq_true ((a.p_.Ports.zip a.s_.Ports).all b) with e | e <;> simp [e]
theorem valid_rights (a : GValidAsked) (hok : okSt a.s_) : g_valid_asked_rights a = some (K13 a.p_ a.s_) := by
  have hz := zip_len a.p_.Pages a.s_.Pages
  have h := iter_allZ (L := g_valid_asked_rights_L1 a) (l := a.p_.Pages.zip a.s_.Pages) (z := ()) (fun _ x => decide (x.1.Rights = x.2.Rights)) (fun i x hi hx => by
    obtain ⟨h1, h2⟩ := List.getElem?_zip_eq_some.1 hx
    have hi' : ((i : Nat) : Int) < ((a.p_.Pages.zip a.s_.Pages).length : Int) := by omega
    rw [hz] at hi'
    have hl : i < a.s_.Pages.length := (List.getElem?_eq_some_iff.1 h2).1
    have hw : IntKind.i64.wrap ((i : Int) + 1) = ((i + 1 : Nat) : Int) := by have := hok.2.2; rw [wrap64_eq ⟨by omega, by omega⟩]; rfl
    have e1 : rdI a.p_.Pages (i : Int) = some x.1 := by simp [rdI, h1]
    have e2 : rdI a.s_.Pages (i : Int) = some x.2 := by simp [rdI, h2]
    simp only [g_valid_asked_rights_L1, hi', e1, e2, hw, decide_true, cond_true, Option.bind_some]
    by_cases e : x.1.Rights = x.2.Rights <;> simp [e]) (by
    rw [hz]; simp only [g_valid_asked_rights_L1, Int.lt_irrefl, decide_false, cond_false])
  rw [allI_all] at h
  simp only [g_valid_asked_rights, h, K13]
  generalize (List.all _ _ : Bool) = b
  rcases Bool.eq_false_or_eq_true b with e | e <;> simp [e]
theorem valid_numbers (x : GProc) : g_valid_numbers x = some (k4 x) := by
  have h0 : rdV x.Regs 0 = some x.Regs[0] := by simp [rdV]
  simp only [g_valid_numbers, h0, valid_between, Option.bind_some, k4]
  by_cases e : x.Regs[0] = 0
  · rcases Bool.eq_false_or_eq_true (bt x.State 0 3) with e1 | e1 <;> rcases Bool.eq_false_or_eq_true (bt x.Prio 0 255) with e2 | e2 <;> rcases Bool.eq_false_or_eq_true (bt x.Wait 0 4) with e3 | e3 <;> simp [e, e1, e2, e3]
  · simp [e]
theorem valid_object (p : GPlan) (s : GState) (x : GProc) : g_valid_asked_object ⟨p, s⟩ x = some (k6 p x) := by
  simp only [g_valid_asked_object, valid_within, Option.bind_some, k6]
  by_cases e2 : x.Wait = 2
  · simp [e2]
  · by_cases e3 : x.Wait = 3
    · simp [e3]
    · by_cases e4 : x.Wait = 4
      · rcases Bool.eq_false_or_eq_true (wn x.Obj p.Ports.length) with e | e
        · obtain ⟨y, hy⟩ := wn_rd e
          have hk : pkAt p x.Obj = y.Kind := by unfold pkAt; rw [hy]
          by_cases e5 : y.Kind = 3 <;> simp [e4, e, hy, hk, e5]
        · simp [e4, e]
      · simp [e2, e3, e4]
theorem valid_rule5 (p : GPlan) (s : GState) (x : GProc) : g_valid_asked_rules_5 x s p = some (k14 p s x) := by
  have hm : (if p.Events < (s.Up.length : Int) then p.Events else (s.Up.length : Int)) = mn s.Up.length p.Events := rfl
  simp only [g_valid_asked_rules_5, valid_within, Option.bind_some, k14, hm]
  by_cases e : x.Wait = 2
  · rcases Bool.eq_false_or_eq_true (wn x.Obj (mn s.Up.length p.Events)) with e1 | e1
    · obtain ⟨y, hy⟩ := wn_rd (wn_le e1 (mn_le _ _).1)
      simp [e, e1, hy, upAt]
    · simp [e, e1]
  · simp [e]
theorem valid_rule6 (p : GPlan) (s : GState) (x : GProc) : g_valid_asked_rules_6 x s p = some (k15 p s x) := by
  have hm : (if (p.Sems.length : Int) < (s.Sems.length : Int) then (p.Sems.length : Int) else (s.Sems.length : Int)) = mn s.Sems.length p.Sems.length := rfl
  simp only [g_valid_asked_rules_6, valid_within, Option.bind_some, k15, hm]
  by_cases e : x.Wait = 3
  · rcases Bool.eq_false_or_eq_true (wn x.Obj (mn s.Sems.length p.Sems.length)) with e1 | e1
    · obtain ⟨y, hy⟩ := wn_rd (wn_le e1 (mn_le _ _).1)
      simp [e, e1, hy, smAt]
    · simp [e, e1]
  · simp [e]
theorem valid_queued (p : GPlan) (s : GState) (x : GProc) : g_valid_asked_queued ⟨p, s⟩ x = some (k16 p s x) := by
  have hm : (if (s.Ports.length : Int) < (p.Ports.length : Int) then (s.Ports.length : Int) else (p.Ports.length : Int)) = mn p.Ports.length s.Ports.length := rfl
  simp only [g_valid_asked_queued, g_valid_asked_queued_J3, g_valid_asked_queued_J2, valid_within, Option.bind_some, k16, hm]
  by_cases e : x.Wait = 4
  · rcases Bool.eq_false_or_eq_true (wn x.Obj (mn p.Ports.length s.Ports.length)) with e1 | e1
    · obtain ⟨y, hy⟩ := wn_rd (wn_le e1 (mn_le _ _).1)
      obtain ⟨z, hz⟩ := wn_rd (wn_le e1 (mn_le _ _).2)
      by_cases e3 : y.Kind = 3
      · simp [e, e1, hy, hz, k16i, e3]
      · by_cases e4 : y.Kind = 4 <;> simp [e, e1, hy, hz, k16i, e3, e4]
    · simp [e, e1]
  · simp [e]
theorem valid_rule3 (q : GPortPlan) (r : GPort) : g_valid_asked_rules_3 q r = some (k11 (q, r)) := by
  simp only [g_valid_asked_rules_3, contains_string r.Msgs (fun x0 => g_valid_asked_rules_3_1 x0 q) (fun m => decide (q.Size < (m.size : Int))) (fun _ => rfl), Option.bind_some, k11]
  by_cases e : (r.Msgs.length : Int) ≤ q.Depth <;> simp [e]
theorem valid_rule4 (q : GPortPlan) (r : GPort) : g_valid_asked_rules_4 q r = some (k12 (q, r)) := by
  simp only [g_valid_asked_rules_4, valid_between, Option.bind_some, k12]
  rcases Bool.eq_false_or_eq_true (bt r.Age 0 255) with e | e
  · by_cases e1 : r.Age = 0
    · have e' : bt 0 0 255 = true := rfl
      simp [e', e1]
    · by_cases e2 : q.Kind = 1 <;> simp [e, e1, e2]
  · simp [e]
theorem valid_rule7 (q : GPortPlan) (r : GPort) : g_valid_asked_rules_7 q r = some (k17 (q, r)) := by
  simp only [g_valid_asked_rules_7, g_valid_isOut, Option.bind_some, k17]
  by_cases e2 : q.Kind = 2
  · simp [e2]
  · by_cases e4 : q.Kind = 4 <;> simp [e2, e4]
theorem take_one_more {α : Type} {l : List α} {i : Nat} {x : α} (h : l[i]? = some x) : l.take (i + 1) = l.take i ++ [x] := by rw [List.take_add_one, h]; rfl
theorem valid_queue (p : GPlan) (s : GState) : g_valid_asked_queue ⟨p, s⟩ = some (K7 s) := by
  have h1 := iter_allI (L := g_valid_asked_queue_L20 ⟨p, s⟩) (l := s.Ready) (fun i => s.Ready.take i) (z := s.Ready) (q7 s) (fun i x hi hx => by
    simp only [g_valid_asked_queue_L20, g_valid_asked_queue_J12, hi, hx, decide_true, cond_true, Option.bind_some, valid_within, q7]
    rcases Bool.eq_false_or_eq_true (wn x s.Procs.length) with e | e
    · obtain ⟨y, hy⟩ := wn_rd e
      have hk : stAt s x = y.State := by unfold stAt; rw [hy]
      by_cases e1 : x ∈ s.Ready.take i
      · simp [e, e1]
      · by_cases e2 : y.State = 1 <;> simp [e, e1, e2, hy, hk, addK_out e1, take_one_more hx]
    · simp [e]) (by simp [g_valid_asked_queue_L20])
  have h2 := iter_allN (L := g_valid_asked_queue_L19 ⟨p, s⟩ s.Ready) (l := s.Procs) (z := ()) (q7b s) (fun i x hi hx => by
    simp only [g_valid_asked_queue_L19, g_valid_asked_queue_J18, hi, hx, decide_true, cond_true, Option.bind_some, q7b]
    by_cases e1 : x.State = 1
    · by_cases e2 : ((i : Nat) : Int) ∈ s.Ready <;> simp [e1, e2]
    · simp [e1]) (by simp [g_valid_asked_queue_L19])
  rw [List.take_zero] at h1
  simp only [g_valid_asked_queue, h1, Option.bind_some, K7]
  rcases Bool.eq_false_or_eq_true (allI (q7 s) 0 s.Ready) with e | e
  · simp only [e, if_true, h2, Option.bind_some, Bool.true_and]
    rcases Bool.eq_false_or_eq_true (allI (q7b s) 0 s.Procs) with e3 | e3 <;> simp [e3]
  · simp [e]
theorem valid_rise (p : GPlan) (s : GState) (hok : okSt s) : g_valid_asked_rise ⟨p, s⟩ = some (K8 s) := by
  have h1 := iter_allI (L := g_valid_asked_rise_L19 ⟨p, s⟩) (l := s.Timers) (fun i => (s.Timers.map GTimer.Proc).take i) (z := ()) (q8 s) (fun i x hi hx => by
    have hxm : (s.Timers.map GTimer.Proc)[i]? = some x.Proc := by rw [List.getElem?_map, hx]; rfl
    simp only [g_valid_asked_rise_L19, g_valid_asked_rise_J17, g_valid_asked_rise_J18, hi, hx, decide_true, cond_true, Option.bind_some, valid_within, valid_between, q8]
    rcases Bool.eq_false_or_eq_true (wn x.Proc s.Procs.length) with e | e
    · by_cases e1 : x.Proc ∈ (s.Timers.map GTimer.Proc).take i
      · simp [e, e1]
      · rcases Bool.eq_false_or_eq_true (bt x.Due 0 1010000) with e2 | e2
        · cases i with
          | zero => simp [e, e2, ordok, addK, take_one_more hxm]
          | succ j =>
            have hj : j < s.Timers.length := by omega
            have hw : IntKind.i64.wrap (((j + 1 : Nat) : Int) - 1) = (j : Int) := by have := hok.1; rw [wrap64_eq ⟨by omega, by omega⟩]; omega
            obtain ⟨y, hy⟩ : ∃ y, s.Timers[j]? = some y := ⟨_, List.getElem?_eq_getElem hj⟩
            have hr : rdI s.Timers (j : Int) = some y := by simp [rdI, hy]
            have hpos : 0 < j + 1 := by omega
            rcases Bool.eq_false_or_eq_true (decide (x.Due < y.Due) || (decide (y.Due = x.Due) && decide (x.Proc ≤ y.Proc))) with e3 | e3
            · simp only [e, e1, e2, e3, hw, hr, hy, hpos, ordok, decide_true, decide_false, cond_true, cond_false, Option.bind_some, Bool.not_true, Bool.not_false, Bool.and_true, Bool.and_false, Bool.false_eq_true, if_false]
            · simp only [e, e1, e2, e3, hw, hr, hy, hpos, ordok, decide_true, decide_false, cond_true, cond_false, Option.bind_some, Bool.not_true, Bool.not_false, Bool.and_true, if_true, addK_out e1, take_one_more hxm]
        · simp [e, e1, e2]
    · simp [e]) (by simp [g_valid_asked_rise_L19])
  rw [List.take_zero] at h1
  simp only [g_valid_asked_rise, h1, Option.bind_some, K8]
  rcases Bool.eq_false_or_eq_true (allI (q8 s) 0 s.Timers) with e | e <;> simp [e]
theorem addK_mem {k x : Int} {l : List Int} : x ∈ addK l k ↔ x ∈ l ∨ x = k := by
  by_cases h : k ∈ l
  · rw [addK_in h]
    constructor
    · exact .inl
    · rintro (h' | rfl)
      · exact h'
      · exact h
  · rw [addK_out h]; simp
theorem addK_fold {x : Int} : ∀ (l z : List Int), x ∈ l.foldl addK z ↔ x ∈ z ∨ x ∈ l
  | [], z => by simp
  | y :: r, z => by rw [List.foldl_cons, addK_fold r, addK_mem]; simp [or_assoc]
theorem valid_timed (p : GPlan) (s : GState) : g_valid_asked_timed ⟨p, s⟩ = some (K9 s) := by
  have h1 := iter_allI (L := g_valid_asked_timed_L20 ⟨p, s⟩) (l := s.Timers) (fun i => ((s.Timers.map GTimer.Proc).take i).foldl addK []) (z := (s.Timers.map GTimer.Proc).foldl addK []) (q9 s) (fun i x hi hx => by
    have hxm : (s.Timers.map GTimer.Proc)[i]? = some x.Proc := by rw [List.getElem?_map, hx]; rfl
    simp only [g_valid_asked_timed_L20, g_valid_asked_timed_J12, hi, hx, decide_true, cond_true, Option.bind_some, valid_within, q9, take_one_more hxm, List.foldl_append, List.foldl_cons, List.foldl_nil]
    rcases Bool.eq_false_or_eq_true (wn x.Proc s.Procs.length) with e | e
    · obtain ⟨y, hy⟩ := wn_rd e
      have hk : stAt s x.Proc = y.State := by unfold stAt; rw [hy]
      by_cases e2 : y.State = 2 <;> simp [e, e2, hy, hk]
    · simp [e]) (by
    have : (s.Timers.map GTimer.Proc).take s.Timers.length = s.Timers.map GTimer.Proc := List.take_of_length_le (by simp)
    simp [g_valid_asked_timed_L20, this])
  have h2 := iter_allN (L := g_valid_asked_timed_L19 ⟨p, s⟩ ((s.Timers.map GTimer.Proc).foldl addK [])) (l := s.Procs) (z := ()) (q9b s) (fun i x hi hx => by
    have hm : (((i : Nat) : Int) ∈ (s.Timers.map GTimer.Proc).foldl addK []) ↔ ((i : Nat) : Int) ∈ s.Timers.map GTimer.Proc := by rw [addK_fold]; simp
    simp only [g_valid_asked_timed_L19, g_valid_asked_timed_J18, hi, hx, decide_true, cond_true, Option.bind_some, q9b, hm]
    by_cases e1 : x.Wait = 1
    · by_cases e2 : ((i : Nat) : Int) ∈ s.Timers.map GTimer.Proc
      · simp only [e1, e2, decide_true, cond_true, cond_false, Bool.not_true, Option.bind_some, Bool.or_true, if_true]
      · simp only [e1, e2, decide_true, decide_false, cond_true, cond_false, Bool.not_true, Bool.not_false, Option.bind_some, Bool.or_false, Bool.false_eq_true, if_false]
    · simp [e1]) (by simp [g_valid_asked_timed_L19])
  rw [List.take_zero, List.foldl_nil] at h1
  simp only [g_valid_asked_timed, h1, Option.bind_some, K9]
  rcases Bool.eq_false_or_eq_true (allI (q9 s) 0 s.Timers) with e | e
  · simp only [e, if_true, h2, Option.bind_some, Bool.true_and]
    rcases Bool.eq_false_or_eq_true (allI (q9b s) 0 s.Procs) with e3 | e3 <;> simp [e3]
  · simp [e]
theorem any_not {α : Type} (b : α → Bool) : ∀ l : List α, (!(l.any fun x => !(b x))) = l.all b
  | [] => rfl
  | x :: r => by rw [List.any_cons, List.all_cons, ← any_not b r]; cases b x <;> simp
def kept (p : GPlan) (s : GState) : Vector Bool 17 := #v[K1 p s, K2 s, K3 p s, K4 s, K5 s, K6 p s, K7 s, K8 s, K9 s, K10 s, K11 p s, K12 p s, K13 p s, K14 p s, K15 p s, K16 p s, K17 p s]
theorem valid_rules (p : GPlan) (s : GState) (hok : okSt s) : g_valid_asked_rules ⟨p, s⟩ = some (kept p s) := by
  have c10 := contains_int s.Sems (fun x0 => g_valid_asked_rules_2 x0) (fun n => !(bt n 0 255)) (fun _ => rfl)
  have e10 := any_not (fun n => bt n 0 255) s.Sems
  simp only [g_valid_asked_rules, g_valid_asked_rules_J1, Option.bind_some, valid_between, valid_procs ⟨p, s⟩ valid_numbers, valid_procs ⟨p, s⟩ (f := fun x0 => g_valid_asked_rules_1 x0) (b := k5) (fun _ => rfl), valid_procs ⟨p, s⟩ (valid_object p s), valid_queue, valid_rise p s hok, valid_timed, c10,
    valid_ports ⟨p, s⟩ hok valid_rule3, valid_ports ⟨p, s⟩ hok valid_rule4, valid_rights ⟨p, s⟩ hok, valid_procs ⟨p, s⟩ (valid_rule5 p s), valid_procs ⟨p, s⟩ (valid_rule6 p s), valid_procs ⟨p, s⟩ (valid_queued p s), valid_ports ⟨p, s⟩ hok valid_rule7, e10]
  have e2 : (bif bt s.Frame 0 2147483647 then some (bt s.Epoch 0 2147483647) else some false : Option Bool) = some (K2 s) := by
    unfold K2; rcases Bool.eq_false_or_eq_true (bt s.Frame 0 2147483647) with e | e <;> simp [e]
  have ea : ∀ a b : Bool, (bif a then some b else some false : Option Bool) = some (a && b) := fun a b => by cases a <;> rfl
  simp only [ea, Option.bind_some]
  rfl
/-! ### Faults -/
def brk : Nat → List Bool → List Int
  | _, [] => []
  | k, b :: r => (if b = true then [] else [((k + 1 : Nat) : Int)]) ++ brk (k + 1) r
theorem brk_snoc (b : Bool) : ∀ (l : List Bool) (k : Nat), brk k (l ++ [b]) = brk k l ++ (if b = true then [] else [((k + l.length + 1 : Nat) : Int)])
  | [], k => by simp [brk]
  | x :: r, k => by
    have ih := brk_snoc b r (k + 1)
    rw [List.cons_append, brk, ih, brk, List.append_assoc, List.length_cons, show k + 1 + r.length + 1 = k + (r.length + 1) + 1 by omega]
theorem brk_len : ∀ (l : List Bool) (k : Nat), (brk k l).length ≤ l.length
  | [], _ => Nat.le_refl _
  | x :: r, k => by
    have := brk_len r (k + 1)
    rw [brk, List.length_append, List.length_cons]
    split <;> simp <;> omega
def sFaults (p : GPlan) (s : GState) : List Int := if sPlan p ≠ .nil then [0] else brk 0 (kept p s).toList
theorem valid_Faults (p : GPlan) (s : GState) (hok : okSt s) : g_valid_Faults p s = some (sFaults p s) := by
  unfold sFaults
  by_cases h : sPlan p = .nil
  rotate_left
  · rw [if_pos h]
    simp only [g_valid_Faults, plan_Check, h, decide_false, Bool.not_false, cond_true, Option.bind_some]
  rw [if_neg (by simpa using h)]
  generalize hv : kept p s = v
  have h17 : v.toList.length = 17 := by simp
  have key : ∀ m k, k + m = 17 → iter (g_valid_Faults_L4 v) (brk 0 (v.toList.take k), k) = some (brk 0 v.toList) := by
    intro m
    induction m with
    | zero =>
      intro k hk
      obtain rfl : k = 17 := by omega
      rw [List.take_of_length_le (by omega)]
      exact iter_inr (by simp [g_valid_Faults_L4])
    | succ m ih =>
      intro k hk
      have hlt : k < 17 := by omega
      have hlt' : k < v.toList.length := by omega
      obtain ⟨b, hb⟩ : ∃ b, v.toList[k]? = some b := ⟨_, List.getElem?_eq_getElem hlt'⟩
      have hrd : rdV v (k : Int) = some b := by
        rw [rdV_nat]; simpa using hb
      have hl := brk_len (v.toList.take k) 0
      rw [List.length_take] at hl
      have hc : ((brk 0 (v.toList.take k)).length + [((k + 1 : Nat) : Int)].length) * 8 ≤ 140737488355328 := by
        simp only [List.length_cons, List.length_nil]; omega
      have hs : g_valid_Faults_L4 v (brk 0 (v.toList.take k), k) = some (.inl (brk 0 (v.toList.take (k + 1)), k + 1)) := by
        rw [take_one_more hb, brk_snoc, List.length_take, Nat.min_eq_left (by omega), Nat.zero_add]
        simp only [g_valid_Faults_L4, g_valid_Faults_J3, hlt, hrd, decide_true, cond_true, Option.bind_some, chk, hc, if_true]
        rcases Bool.eq_false_or_eq_true b with e | e <;> simp [e]
      rw [iter_inl hs]
      exact ih (k + 1) (by omega)
  have h0 := key 17 0 rfl
  rw [List.take_zero] at h0
  simp only [g_valid_Faults, plan_Check, h, decide_true, Bool.not_true, cond_false, Option.bind_some, valid_rules p s hok, hv]
  exact (congrArg (fun o => Option.bind o fun l => some l) h0)
def sUpTo (p : GPlan) (s : GState) (last : Int) : ErrM := match sFaults p s with
  | [] => .nil
  | x :: _ => if last < x then .nil else if x = 0 then .v gPlan else .pl x gState
theorem valid_upTo (p : GPlan) (s : GState) (hok : okSt s) (last : Int) : g_valid_upTo p s last = some (sUpTo p s last) := by
  simp only [g_valid_upTo, g_valid_upTo_J2, valid_Faults p s hok, Option.bind_some, sUpTo]
  cases h : sFaults p s with
  | nil => simp
  | cons x r =>
    by_cases e : last < x
    · simp [e]
    · by_cases e2 : x = 0
      · subst e2; simp [e]
      · simp [e, e2]
theorem valid_Check (p : GPlan) (s : GState) (hok : okSt s) : g_valid_Check p s = some (sUpTo p s 16) := by simp only [g_valid_Check, valid_upTo p s hok, Option.bind_some]
theorem valid_Rest (p : GPlan) (s : GState) (hok : okSt s) : g_valid_Rest p s = some (sUpTo p s 17) := by simp only [g_valid_Rest, valid_upTo p s hok, Option.bind_some]
end Go.Proofs.YtjoihegnjjjdaaaDoor
