/- ValidBoots: what a plan boots keeps all rules; with another Id, a process or a port more, a page less, not. -/
import Derived.Test.YtjoihegnjjjdaaaDoorAwakeLVb
set_option linter.unusedVariables false
set_option linter.unusedSimpArgs false
set_option linter.unusedSectionVars false
namespace Go.Proofs.YtjoihegnjjjdaaaDoor
open Go Go.RowKit

section
variable {σ ρ α : Type}
theorem iter_ruleB {L : σ → Option (σ ⊕ ρ)} (I : σ → Prop) (Q : ρ → Prop) (μ : σ → Nat)
    (h : ∀ s, I s → (∃ s', L s = some (.inl s') ∧ I s' ∧ μ s' < μ s) ∨ (∃ r, L s = some (.inr r) ∧ Q r)) {s : σ} (h0 : I s) : ∃ r, iter L s = some r ∧ Q r := by
  have key : ∀ n s, μ s < n → I s → ∃ r, iter L s = some r ∧ Q r := by
    intro n
    induction n with
    | zero => intro s hs; omega
    | succ n ih =>
      intro s hs hI
      rcases h s hI with ⟨s', h1, h2, h3⟩ | ⟨r, h1, h2⟩
      · obtain ⟨r, h4, h5⟩ := ih s' (by omega) h2
        exact ⟨r, (iter_inl h1).trans h4, h5⟩
      · exact ⟨r, iter_inr h1, h2⟩
  exact key _ s (Nat.lt_succ_self _) h0
theorem orN_noneB {f : Nat → α → Option ErrM} (hf : ∀ i x, f i x ≠ some .nil) : ∀ {l : List α} {k : Nat}, orN (firstE f k l) = .nil → ∀ i x, l[i]? = some x → f (k + i) x = none
  | [], _, _, i, x, hx => by simp at hx
  | y :: r, k, h, i, x, hx => by
    cases hy : f k y with
    | some e =>
      simp only [firstE, hy, orN, Option.getD_some] at h
      subst h; exact absurd hy (hf k y)
    | none =>
      simp only [firstE, hy] at h
      cases i with
      | zero =>
        have : y = x := by simpa using hx
        subst this; exact hy
      | succ j =>
        have := orN_noneB hf h j x (by simpa using hx)
        rwa [show k + 1 + j = k + (j + 1) by omega] at this
end
theorem orE_nilB {a b : ErrM} (h : orE a b = .nil) : a = .nil ∧ b = .nil := by
  unfold orE at h
  by_cases c : a = .nil
  · rw [if_pos c] at h; exact ⟨c, h⟩
  · rw [if_neg c] at h; exact absurd h c
/-- What a good plan is like. -/
structure OkP (p : GPlan) : Prop where
  id0 : 0 ≤ p.Id
  id1 : p.Id ≤ 2147483647
  pg0 : 1 ≤ p.Pages.length
  pg1 : p.Pages.length ≤ 32
  pr0 : 1 ≤ p.Procs.length
  pr1 : p.Procs.length ≤ 8
  po1 : p.Ports.length ≤ 8
  ev0 : 0 ≤ p.Events
  ev1 : p.Events ≤ 8
  se1 : p.Sems.length ≤ 8
  prio : ∀ x ∈ p.Procs, 0 ≤ x.Prio ∧ x.Prio ≤ 255
  dep : ∀ x ∈ p.Ports, 1 ≤ x.Depth
  sem : ∀ n ∈ p.Sems, 0 ≤ n ∧ n ≤ 255
theorem okP_of {p : GPlan} (h : sPlan p = .nil) : OkP p := by
  unfold sPlan at h
  by_cases c0 : p.Id < 0 ∨ 2147483647 < p.Id
  · rw [if_pos c0] at h; cases h
  rw [if_neg c0] at h
  obtain ⟨h1, h2⟩ := orE_nilB h
  obtain ⟨h2, h3⟩ := orE_nilB h2
  unfold sRest at h3
  obtain ⟨h3, h4⟩ := orE_nilB h3
  obtain ⟨h4, _⟩ := orE_nilB h4
  unfold sPages at h1
  by_cases c1 : p.Pages.length < 1 ∨ 32 < p.Pages.length
  · rw [if_pos c1] at h1; cases h1
  unfold sProcs at h2
  by_cases c2 : p.Procs.length < 1 ∨ 8 < p.Procs.length
  · rw [if_pos c2] at h2; cases h2
  rw [if_neg c2] at h2
  unfold sPorts at h3
  by_cases c3 : 8 < p.Ports.length
  · rw [if_pos c3] at h3; cases h3
  rw [if_neg c3] at h3
  unfold sThings at h4
  by_cases c4 : p.Events < 0 ∨ 8 < p.Events
  · rw [if_pos c4] at h4; cases h4
  rw [if_neg c4] at h4
  by_cases c5 : 8 < p.Sems.length
  · rw [if_pos c5] at h4; cases h4
  rw [if_neg c5] at h4
  refine ⟨by omega, by omega, by omega, by omega, by omega, by omega, by omega, by omega, by omega, by omega, fun x hx => ?_, fun x hx => ?_, fun x hx => ?_⟩
  · obtain ⟨i, hi⟩ := List.mem_iff_getElem?.1 hx
    have := orN_noneB (f := sProc p.Pages.length) (fun i x => by unfold sProc; split <;> intro h <;> cases h) h2 i x hi
    unfold sProc at this
    split at this
    · cases this
    · omega
  · obtain ⟨i, hi⟩ := List.mem_iff_getElem?.1 hx
    have := orN_noneB (f := sPortE) (fun i x => by unfold sPortE; split <;> intro h <;> cases h) h3 i x hi
    unfold sPortE at this
    rcases sPort_cases x with e | ⟨g, e⟩
    · unfold sPort at e
      by_cases d0 : x.Kind < 1 ∨ 4 < x.Kind
      · rw [if_pos d0] at e; cases e
      rw [if_neg d0] at e
      by_cases d1 : x.Size < 1 ∨ 32 < x.Size
      · rw [if_pos d1] at e; cases e
      rw [if_neg d1] at e
      by_cases d2 : x.Depth < 1
      · rw [if_pos (.inl d2)] at e; cases e
      · omega
    · rw [e] at this; cases this
  · obtain ⟨i, hi⟩ := List.mem_iff_getElem?.1 hx
    have := orN_noneB (f := sSem) (fun i x => by unfold sSem; split <;> intro h <;> cases h) h4 i x hi
    unfold sSem at this
    split at this
    · cases this
    · omega
/-! ### What a plan boots -/
def bootP (x : GProcPlan) : GProc := ⟨Vector.replicate 16 0, IntKind.u32.wrap x.Entry, if x.Auto = true then 1 else 0, x.Prio, 0, 0⟩
def autoIdx : Nat → List GProcPlan → List Int
  | _, [] => []
  | k, x :: r => (if x.Auto = true then [((k : Nat) : Int)] else []) ++ autoIdx (k + 1) r
theorem auto_snoc (x : GProcPlan) : ∀ (l : List GProcPlan) (k : Nat), autoIdx k (l ++ [x]) = autoIdx k l ++ (if x.Auto = true then [((k + l.length : Nat) : Int)] else [])
  | [], k => by simp [autoIdx]
  | y :: r, k => by
    have ih := auto_snoc x r (k + 1)
    rw [List.cons_append, autoIdx, ih, autoIdx, List.append_assoc, List.length_cons, show k + 1 + r.length = k + (r.length + 1) by omega]
theorem auto_len : ∀ (l : List GProcPlan) (k : Nat), (autoIdx k l).length ≤ l.length
  | [], _ => Nat.le_refl _
  | y :: r, k => by
    have := auto_len r (k + 1)
    rw [autoIdx, List.length_append, List.length_cons]; split <;> simp <;> omega
theorem auto_mem : ∀ {l : List GProcPlan} {k : Nat} {n : Int}, n ∈ autoIdx k l ↔ ∃ i x, l[i]? = some x ∧ x.Auto = true ∧ n = ((k + i : Nat) : Int)
  | [], k, n => by simp [autoIdx]
  | y :: r, k, n => by
    rw [autoIdx, List.mem_append, auto_mem]
    constructor
    · rintro (h | ⟨i, x, h1, h2, h3⟩)
      · by_cases e : y.Auto = true
        · rw [if_pos e, List.mem_singleton] at h
          exact ⟨0, y, rfl, e, by simpa using h⟩
        · rw [if_neg e] at h; cases h
      · exact ⟨i + 1, x, by simpa using h1, h2, by rw [h3]; congr 1; omega⟩
    · rintro ⟨i, x, h1, h2, h3⟩
      cases i with
      | zero =>
        have : y = x := by simpa using h1
        subst this
        rw [if_pos h2]; exact .inl (by simpa using h3)
      | succ j => exact .inr ⟨j, x, by simpa using h1, h2, by rw [h3]; congr 1; omega⟩
theorem auto_pair : ∀ (l : List GProcPlan) (k : Nat), (autoIdx k l).Pairwise (· < ·)
  | [], k => List.Pairwise.nil
  | y :: r, k => by
    have ih := auto_pair r (k + 1)
    rw [autoIdx]
    split
    · rw [List.singleton_append, List.pairwise_cons]
      refine ⟨fun n hn => ?_, ih⟩
      obtain ⟨i, x, _, _, h3⟩ := auto_mem.1 hn
      omega
    · exact ih
theorem pair_take {l : List Int} (h : l.Pairwise (· < ·)) {i : Nat} {x : Int} (hx : l[i]? = some x) : x ∉ l.take i := by
  intro hm
  obtain ⟨j, hj, e⟩ := List.mem_take_iff_getElem.1 hm
  have hi : i < l.length := (List.getElem?_eq_some_iff.1 hx).1
  have hji : j < i := by omega
  have := (List.pairwise_iff_getElem.1 h) j i (by omega) hi hji
  have hx' : l[i] = x := by rw [List.getElem?_eq_getElem hi] at hx; exact Option.some.inj hx
  rw [e, hx'] at this; omega
def bootG (x : GPagePlan) : GPage := ⟨x.Rights, false, cpyV (Vector.replicate 64 0) x.Init⟩
def sBoot (p : GPlan) : GState := ⟨p.Id, 0, 0, p.Procs.map bootP, autoIdx 0 p.Procs, [], List.replicate p.Events.toNat false, p.Sems, List.replicate p.Ports.length ⟨[], 0⟩, p.Pages.map bootG⟩
theorem plan_Boot {p : GPlan} (h : sPlan p = .nil) : g_plan_Boot p = some (sBoot p, .nil) := by
  have ok := okP_of h
  have hA := iter_ruleB (L := g_plan_Boot_L8 p) (fun s : Nat × List GProc × List Int => s.1 ≤ p.Procs.length ∧ s.2.1 = (p.Procs.take s.1).map bootP ∧ s.2.2 = autoIdx 0 (p.Procs.take s.1)) (fun r => r = (p.Procs.map bootP, autoIdx 0 p.Procs)) (fun s => p.Procs.length - s.1) (fun s hI => by
    obtain ⟨i, l1, l2⟩ := s
    obtain ⟨hi, h1, h2⟩ := hI
    simp only at hi h1 h2
    by_cases hlt : i < p.Procs.length
    · have hx : p.Procs[i]? = some p.Procs[i] := List.getElem?_eq_getElem hlt
      generalize p.Procs[i] = x at hx
      have hl1 : l1.length = i := by rw [h1]; simp; omega
      have hl2 := auto_len (p.Procs.take i) 0
      rw [← h2, List.length_take] at hl2
      have hp := ok.pr1
      have c1 : ∀ t : GProc, (l1.length + [t].length) * 104 ≤ 140737488355328 := fun t => by simp only [List.length_cons, List.length_nil]; omega
      have c2 : (l2.length + [((i : Nat) : Int)].length) * 8 ≤ 140737488355328 := by simp only [List.length_cons, List.length_nil]; omega
      have e1 : (p.Procs.take (i + 1)).map bootP = l1 ++ [bootP x] := by rw [take_one_more hx, List.map_append, h1]; rfl
      have e2 : autoIdx 0 (p.Procs.take (i + 1)) = l2 ++ (if x.Auto = true then [((i : Nat) : Int)] else []) := by rw [take_one_more hx, auto_snoc, ← h2, List.length_take, Nat.min_eq_left (by omega), Nat.zero_add]
      refine .inl ⟨(i + 1, l1 ++ [bootP x], l2 ++ (if x.Auto = true then [((i : Nat) : Int)] else [])), ?_, ⟨by simp only; omega, e1.symm, e2.symm⟩, by simp only; omega⟩
      simp only [g_plan_Boot_L8, g_plan_Boot_J6, hlt, hx, decide_true, cond_true, Option.bind_some, bootP]
      rcases Bool.eq_false_or_eq_true x.Auto with e | e
      · simp only [e, cond_true, chk, c1, c2, if_true, Option.bind_some]
      · simp only [e, cond_false, chk, c1, if_true, Option.bind_some, Bool.false_eq_true, if_false, List.append_nil]
    · refine .inr ⟨(l1, l2), ?_, ?_⟩
      · simp only [g_plan_Boot_L8, hlt, decide_false, cond_false]
      · have : p.Procs.take i = p.Procs := List.take_of_length_le (by omega)
        rw [this] at h1 h2; rw [h1, h2]) (s := (0, [], [])) ⟨Nat.zero_le _, rfl, rfl⟩
  obtain ⟨_, hA, rfl⟩ := hA
  have hB := iter_ruleB (L := g_plan_Boot_L7 p) (fun s : Nat × List GPage => s.1 ≤ p.Pages.length ∧ s.2 = (p.Pages.take s.1).map bootG) (fun r => r = p.Pages.map bootG) (fun s => p.Pages.length - s.1) (fun s hI => by
    obtain ⟨i, l1⟩ := s
    obtain ⟨hi, h1⟩ := hI
    simp only at hi h1
    by_cases hlt : i < p.Pages.length
    · have hx : p.Pages[i]? = some p.Pages[i] := List.getElem?_eq_getElem hlt
      generalize p.Pages[i] = x at hx
      have hl1 : l1.length = i := by rw [h1]; simp; omega
      have hp := ok.pg1
      have c1 : ∀ t : GPage, (l1.length + [t].length) * 80 ≤ 140737488355328 := fun t => by simp only [List.length_cons, List.length_nil]; omega
      have e1 : (p.Pages.take (i + 1)).map bootG = l1 ++ [bootG x] := by rw [take_one_more hx, List.map_append, h1]; rfl
      refine .inl ⟨(i + 1, l1 ++ [bootG x]), ?_, ⟨by simp only; omega, e1.symm⟩, by simp only; omega⟩
      simp only [g_plan_Boot_L7, hlt, hx, decide_true, cond_true, Option.bind_some, chk, c1, if_true, bootG]
    · refine .inr ⟨l1, ?_, ?_⟩
      · simp only [g_plan_Boot_L7, hlt, decide_false, cond_false]
      · have : p.Pages.take i = p.Pages := List.take_of_length_le (by omega)
        rw [this] at h1; rw [h1]) (s := (0, [])) ⟨Nat.zero_le _, rfl⟩
  obtain ⟨_, hB, rfl⟩ := hB
  have c0 := ok.ev0
  have c1 : p.Events.toNat * 1 ≤ 140737488355328 := by have := ok.ev1; omega
  have c2 : (([] : List Int).length + p.Sems.length) * 8 ≤ 140737488355328 := by have := ok.se1; simp only [List.length_nil]; omega
  have c3 : p.Ports.length * 32 ≤ 140737488355328 := by have := ok.po1; omega
  simp only [g_plan_Boot, g_plan_Boot_J9, g_slices_Clone_int, plan_Check, h, chk, c0, c1, c2, c3, hA, hB, decide_true, Bool.not_true, cond_false, Option.bind_some, if_true, List.nil_append]
  rfl
/-! ### Copies -/
structure OkC (s : GState) : Prop where
  a : s.Procs.length ≤ 40
  b : s.Ready.length ≤ 40
  c : s.Timers.length ≤ 40
  d : s.Up.length ≤ 40
  e : s.Sems.length ≤ 40
  f : s.Pages.length ≤ 40
  g : s.Ports.length ≤ 40
  h : ∀ x ∈ s.Ports, x.Msgs.length ≤ 40
theorem r11_Copy {s : GState} (ok : OkC s) : g_r11_Copy s = some s := by
  obtain ⟨ha, hb, hc, hd, he, hf, hg, hh⟩ := ok
  have hL := iter_ruleB (L := g_r11_Copy_L1 s) (fun t : Nat × List GPort => t.1 ≤ s.Ports.length ∧ t.2 = s.Ports.take t.1) (fun r => r = s.Ports) (fun t => s.Ports.length - t.1) (fun t hI => by
    obtain ⟨i, l1⟩ := t
    obtain ⟨hi, h1⟩ := hI
    simp only at hi h1
    by_cases hlt : i < s.Ports.length
    · have hx : s.Ports[i]? = some s.Ports[i] := List.getElem?_eq_getElem hlt
      generalize s.Ports[i] = x at hx
      have hm := hh x (List.mem_of_getElem? hx)
      have hl1 : l1.length = i := by rw [h1]; simp; omega
      have c1 : (([] : List ByteArray).length + x.Msgs.length) * 16 ≤ 140737488355328 := by simp only [List.length_nil]; omega
      have c2 : (l1.length + 1) * 32 ≤ 140737488355328 := by omega
      refine .inl ⟨(i + 1, l1 ++ [x]), ?_, ⟨by simp only; omega, by simp only; rw [take_one_more hx, h1]⟩, by simp only; omega⟩
      simp only [g_r11_Copy_L1, hlt, hx, decide_true, cond_true, Option.bind_some, chk, c1, c2, if_true, List.nil_append]
    · refine .inr ⟨l1, ?_, ?_⟩
      · simp only [g_r11_Copy_L1, hlt, decide_false, cond_false]
      · rw [h1, List.take_of_length_le (by omega)]) (s := (0, [])) ⟨Nat.zero_le _, rfl⟩
  obtain ⟨_, hL, rfl⟩ := hL
  have c1 : (([] : List GProc).length + s.Procs.length) * 104 ≤ 140737488355328 := by simp only [List.length_nil]; omega
  have c2 : (([] : List Int).length + s.Ready.length) * 8 ≤ 140737488355328 := by simp only [List.length_nil]; omega
  have c3 : (([] : List GTimer).length + s.Timers.length) * 16 ≤ 140737488355328 := by simp only [List.length_nil]; omega
  have c4 : (([] : List Bool).length + s.Up.length) * 1 ≤ 140737488355328 := by simp only [List.length_nil]; omega
  have c5 : (([] : List Int).length + s.Sems.length) * 8 ≤ 140737488355328 := by simp only [List.length_nil]; omega
  have c6 : (([] : List GPage).length + s.Pages.length) * 80 ≤ 140737488355328 := by simp only [List.length_nil]; omega
  simp only [g_r11_Copy, chk, c1, c2, c3, c4, c5, c6, if_true, hL, Option.bind_some, List.nil_append]
/-! ### The rules of what is booted -/
/-- Processes that nobody has run. -/
def fresh (x : GProc) : Prop := x.Regs[0] = 0 ∧ (x.State = 0 ∨ x.State = 1) ∧ 0 ≤ x.Prio ∧ x.Prio ≤ 255 ∧ x.Wait = 0 ∧ x.Obj = 0
theorem fresh_boot {p : GPlan} (ok : OkP p) : ∀ x ∈ p.Procs.map bootP, fresh x := by
  intro x hx
  obtain ⟨y, hy, rfl⟩ := List.mem_map.1 hx
  have := ok.prio y hy
  refine ⟨by simp [bootP], ?_, this.1, this.2, rfl, rfl⟩
  unfold bootP
  by_cases e : y.Auto = true
  · exact .inr (if_pos e)
  · exact .inl (if_neg e)
theorem all_of {α : Type} {q : α → Bool} {l : List α} (h : ∀ x ∈ l, q x = true) : l.all q = true := List.all_eq_true.2 h
/-- A state of such a plan: processes that nobody has run, with those ready that the queue says; ports without messages. -/
structure Booted (p : GPlan) (s : GState) : Prop where
  fr : s.Frame = 0
  ep : s.Epoch = 0
  pr : ∀ x ∈ s.Procs, fresh x
  q1 : ∀ i n, s.Ready[i]? = some n → q7 s i n = true
  q2 : ∀ i x, s.Procs[i]? = some x → x.State = 1 → ((i : Nat) : Int) ∈ s.Ready
  ti : s.Timers = []
  se : s.Sems = p.Sems
  po : ∀ x ∈ s.Ports, x = ⟨[], 0⟩
theorem booted_kept {p : GPlan} {s : GState} (ok : OkP p) (b : Booted p s) :
    K2 s = true ∧ K4 s = true ∧ K5 s = true ∧ K6 p s = true ∧ K7 s = true ∧ K8 s = true ∧ K9 s = true ∧ K10 s = true ∧ K11 p s = true ∧ K12 p s = true ∧ K14 p s = true ∧ K15 p s = true ∧ K16 p s = true ∧ K17 p s = true := by
  obtain ⟨fr, ep, pr, q1, q2, ti, se, po⟩ := b
  have hz : ∀ x ∈ p.Ports.zip s.Ports, x.1 ∈ p.Ports ∧ x.2 = ⟨[], 0⟩ := fun x hx => by
    have h1 := List.of_mem_zip (a := x.1) (b := x.2) hx
    exact ⟨h1.1, po _ h1.2⟩
  refine ⟨?_, ?_, ?_, ?_, ?_, ?_, ?_, ?_, ?_, ?_, ?_, ?_, ?_, ?_⟩
  · unfold K2 bt; rw [fr, ep]; rfl
  · refine all_of fun x hx => ?_
    obtain ⟨h1, h2, h3, h4, h5, h6⟩ := pr x hx
    unfold k4 bt
    rw [h1, h5]
    rcases h2 with h2 | h2 <;> rw [h2] <;> simp <;> omega
  · refine all_of fun x hx => ?_
    obtain ⟨h1, h2, h3, h4, h5, h6⟩ := pr x hx
    unfold k5
    rw [h5]
    rcases h2 with h2 | h2 <;> rw [h2] <;> rfl
  · refine all_of fun x hx => ?_
    obtain ⟨h1, h2, h3, h4, h5, h6⟩ := pr x hx
    unfold k6
    rw [h5, h6]; rfl
  · unfold K7
    rw [Bool.and_eq_true]
    refine ⟨allI_iff.2 fun i n hn => by rw [Nat.zero_add]; exact q1 i n hn, allI_iff.2 fun i x hx => ?_⟩
    rw [Nat.zero_add]
    unfold q7b
    by_cases e : x.State = 1
    · have := q2 i x hx e
      rw [decide_eq_true this]; simp
    · simp [e]
  · unfold K8; rw [ti]; rfl
  · unfold K9; rw [ti]
    have : allI (q9b s) 0 s.Procs = true := allI_iff.2 fun i x hx => by
      have h5 := (pr x (List.mem_of_getElem? hx)).2.2.2.2.1
      unfold q9b; rw [h5]; rfl
    rw [this]; rfl
  · unfold K10; rw [se]
    refine all_of fun n hn => ?_
    have := ok.sem n hn
    unfold bt; simp; omega
  · refine all_of fun x hx => ?_
    obtain ⟨h1, h2⟩ := hz x hx
    have := ok.dep x.1 h1
    unfold k11; rw [h2]; simp; omega
  · refine all_of fun x hx => ?_
    obtain ⟨h1, h2⟩ := hz x hx
    unfold k12; rw [h2]; rfl
  · refine all_of fun x hx => ?_
    have h5 := (pr x hx).2.2.2.2.1
    unfold k14; rw [h5]; rfl
  · refine all_of fun x hx => ?_
    have h5 := (pr x hx).2.2.2.2.1
    unfold k15; rw [h5]; rfl
  · refine all_of fun x hx => ?_
    have h5 := (pr x hx).2.2.2.2.1
    unfold k16; rw [h5]; rfl
  · refine all_of fun x hx => ?_
    obtain ⟨h1, h2⟩ := hz x hx
    unfold k17; rw [h2]; simp
theorem stAt_map (p : GPlan) (s : GState) (more : List GProc) (hs : s.Procs = p.Procs.map bootP ++ more) {i : Nat} {x : GProcPlan} (hx : p.Procs[i]? = some x) : stAt s ((i : Nat) : Int) = if x.Auto = true then 1 else 0 := by
  have hi : i < p.Procs.length := (List.getElem?_eq_some_iff.1 hx).1
  have : rdI s.Procs ((i : Nat) : Int) = some (bootP x) := by
    unfold rdI; rw [if_pos (by omega), hs, Int.toNat_natCast, List.getElem?_append_left (by simpa using hi), List.getElem?_map, hx]; rfl
  unfold stAt; rw [this]; rfl
theorem booted_of {p : GPlan} (ok : OkP p) (s : GState) (more : List GProc) (hm : ∀ x ∈ more, fresh x ∧ x.State = 0) (h1 : s.Frame = 0) (h2 : s.Epoch = 0) (h3 : s.Procs = p.Procs.map bootP ++ more) (h4 : s.Ready = autoIdx 0 p.Procs) (h5 : s.Timers = []) (h6 : s.Sems = p.Sems) (h7 : ∀ x ∈ s.Ports, x = ⟨[], 0⟩) : Booted p s := by
  refine ⟨h1, h2, fun x hx => ?_, fun i n hn => ?_, fun i x hx hs => ?_, h5, h6, h7⟩
  · rw [h3, List.mem_append] at hx
    rcases hx with hx | hx
    · exact fresh_boot ok x hx
    · exact (hm x hx).1
  · have hmem : n ∈ s.Ready := List.mem_of_getElem? hn
    rw [h4] at hmem
    obtain ⟨j, y, g1, g2, g3⟩ := auto_mem.1 hmem
    rw [Nat.zero_add] at g3
    have hj : j < p.Procs.length := (List.getElem?_eq_some_iff.1 g1).1
    have hlen : s.Procs.length = p.Procs.length + more.length := by rw [h3]; simp
    have hst := stAt_map p s more h3 g1
    rw [if_pos g2] at hst
    have hnt : n ∉ s.Ready.take i := pair_take (by rw [h4]; exact auto_pair _ _) hn
    subst g3
    unfold q7 wn
    rw [hst, decide_eq_false hnt, hlen]
    simp; omega
  · rw [h3] at hx
    by_cases hi : i < p.Procs.length
    · rw [List.getElem?_append_left (by simpa using hi), List.getElem?_map] at hx
      have hy : p.Procs[i]? = some p.Procs[i] := List.getElem?_eq_getElem hi
      generalize p.Procs[i] = y at hy
      rw [hy] at hx
      have : bootP y = x := by simpa using hx
      subst this
      rw [h4]
      refine auto_mem.2 ⟨i, y, hy, ?_, by rw [Nat.zero_add]⟩
      by_cases e : y.Auto = true
      · exact e
      · unfold bootP at hs; rw [if_neg e] at hs; cases hs
    · rw [List.getElem?_append_right (by simp; omega)] at hx
      have := (hm x (List.mem_of_getElem? hx)).2
      rw [this] at hs; cases hs
theorem faults_of {p : GPlan} {s : GState} (h : sPlan p = .nil) (b : Booted p s) (h13 : K13 p s = true) : sFaults p s = (if K1 p s = true then [] else [1]) ++ (if K3 p s = true then [] else [3]) := by
  obtain ⟨k2, k4, k5, k6, k7, k8, k9, k10, k11, k12, k14, k15, k16, k17⟩ := booted_kept (okP_of h) b
  have e : (kept p s).toList = [K1 p s, true, K3 p s, true, true, true, true, true, true, true, true, true, true, true, true, true, true] := by
    unfold kept
    rw [k2, k4, k5, k6, k7, k8, k9, k10, k11, k12, h13, k14, k15, k16, k17]
    rfl
  unfold sFaults
  rw [if_neg (by simpa using h), e]
  rcases Bool.eq_false_or_eq_true (K1 p s) with e1 | e1 <;> rcases Bool.eq_false_or_eq_true (K3 p s) with e3 | e3 <;> rw [e1, e3] <;> rfl
theorem rights_of {p : GPlan} {s : GState} (h : s.Pages = p.Pages.map bootG) : K13 p s = true := by
  unfold K13; rw [h]
  refine all_of fun x hx => ?_
  obtain ⟨i, hi⟩ := List.mem_iff_getElem?.1 hx
  obtain ⟨h1, h2⟩ := List.getElem?_zip_eq_some.1 hi
  rw [List.getElem?_map, h1] at h2
  have : bootG x.1 = x.2 := by simpa using h2
  rw [← this]; simp [bootG]
theorem law11_ValidBoots (p : GPlan) : g_law11_ValidBoots p = some true := by
  simp only [g_law11_ValidBoots, law11_awake, r10_Good, Option.bind_some, Bool.not_true, cond_false]
  by_cases h : sPlan p = .nil
  rotate_left
  · simp only [h, decide_false, Bool.not_false, cond_true]
  have ok := okP_of h
  obtain ⟨id0, id1, pg0, pg1, pr0, pr1, po1, ev0, ev1, se1, _, _, _⟩ := ok
  have ok := okP_of h
  have hal := auto_len p.Procs 0
  have cz : OkC (sBoot p) := ⟨by simp [sBoot]; omega, by simp only [sBoot]; omega, by simp [sBoot], by simp only [sBoot, List.length_replicate]; omega, by simp only [sBoot]; omega, by simp [sBoot]; omega, by simp [sBoot]; omega, fun x hx => by
    rw [List.eq_of_mem_replicate hx]; simp⟩
  have hpo : ∀ x ∈ (sBoot p).Ports, x = (⟨[], 0⟩ : GPort) := fun x hx => List.eq_of_mem_replicate hx
  have b0 : Booted p (sBoot p) := booted_of ok (sBoot p) [] (fun _ hx => by cases hx) rfl rfl (by simp [sBoot]) rfl rfl rfl hpo
  have k3 : K3 p (sBoot p) = true := by
    unfold K3 sBoot; simp; omega
  have f0 : sFaults p (sBoot p) = [] := by
    rw [faults_of h b0 (rights_of rfl), k3]
    have : K1 p (sBoot p) = true := by simp [K1, sBoot]
    rw [this]; rfl
  have o0 : okSt (sBoot p) := ⟨by simp [sBoot], by simp [sBoot]; omega, by simp [sBoot]; omega⟩
  have r0 : g_valid_Rest p (sBoot p) = some .nil := by rw [valid_Rest _ _ o0]; unfold sUpTo; rw [f0]
  have v0 := valid_Faults p (sBoot p) o0
  rw [f0] at v0
  -- another Id
  have hw : IntKind.i64.wrap ((sBoot p).Id + 1) = p.Id + 1 := by
    show IntKind.i64.wrap (p.Id + 1) = p.Id + 1
    exact wrap64_eq ⟨by omega, by omega⟩
  have v1 : ∀ t : GState, t = ⟨p.Id + 1, (sBoot p).Frame, (sBoot p).Epoch, (sBoot p).Procs, (sBoot p).Ready, (sBoot p).Timers, (sBoot p).Up, (sBoot p).Sems, (sBoot p).Ports, (sBoot p).Pages⟩ → g_valid_Faults p t = some [1] := fun t ht => by
    subst ht
    refine (valid_Faults p _ ?_).trans (congrArg some ((faults_of h ?_ ?_).trans ?_))
    · exact ⟨o0.1, o0.2.1, o0.2.2⟩
    · exact booted_of ok _ [] (fun _ hx => by cases hx) rfl rfl (by simp [sBoot]) rfl rfl rfl hpo
    · exact rights_of rfl
    have e1 : K1 p ⟨p.Id + 1, (sBoot p).Frame, (sBoot p).Epoch, (sBoot p).Procs, (sBoot p).Ready, (sBoot p).Timers, (sBoot p).Up, (sBoot p).Sems, (sBoot p).Ports, (sBoot p).Pages⟩ = false := by
      unfold K1; exact decide_eq_false (by simp only; omega)
    have e3 : K3 p ⟨p.Id + 1, (sBoot p).Frame, (sBoot p).Epoch, (sBoot p).Procs, (sBoot p).Ready, (sBoot p).Timers, (sBoot p).Up, (sBoot p).Sems, (sBoot p).Ports, (sBoot p).Pages⟩ = true := k3
    rw [e1, e3]; rfl
  -- a process more
  have v2 : g_valid_Faults p ⟨(sBoot p).Id, (sBoot p).Frame, (sBoot p).Epoch, ((sBoot p).Procs ++ [(⟨(Vector.replicate 16 0), 0, 0, 0, 0, 0⟩ : GProc)]), (sBoot p).Ready, (sBoot p).Timers, (sBoot p).Up, (sBoot p).Sems, (sBoot p).Ports, (sBoot p).Pages⟩ = some [3] := by
    refine (valid_Faults p _ ?_).trans (congrArg some ((faults_of h ?_ ?_).trans ?_))
    · exact ⟨o0.1, o0.2.1, o0.2.2⟩
    · exact booted_of ok _ [(⟨(Vector.replicate 16 0), 0, 0, 0, 0, 0⟩ : GProc)] (fun x hx => by
        rw [List.mem_singleton.1 hx]; exact ⟨⟨by simp, .inl rfl, by simp, by simp, rfl, rfl⟩, rfl⟩) rfl rfl rfl rfl rfl rfl hpo
    · exact rights_of rfl
    have e1 : K1 p ⟨(sBoot p).Id, (sBoot p).Frame, (sBoot p).Epoch, ((sBoot p).Procs ++ [(⟨(Vector.replicate 16 0), 0, 0, 0, 0, 0⟩ : GProc)]), (sBoot p).Ready, (sBoot p).Timers, (sBoot p).Up, (sBoot p).Sems, (sBoot p).Ports, (sBoot p).Pages⟩ = true := by simp [K1, sBoot]
    have e3 : K3 p ⟨(sBoot p).Id, (sBoot p).Frame, (sBoot p).Epoch, ((sBoot p).Procs ++ [(⟨(Vector.replicate 16 0), 0, 0, 0, 0, 0⟩ : GProc)]), (sBoot p).Ready, (sBoot p).Timers, (sBoot p).Up, (sBoot p).Sems, (sBoot p).Ports, (sBoot p).Pages⟩ = false := by simp [K3, sBoot]
    rw [e1, e3]; rfl
  -- a port more
  have hpo2 : ∀ x ∈ (sBoot p).Ports ++ [(⟨([] : List ByteArray), 0⟩ : GPort)], x = (⟨[], 0⟩ : GPort) := fun x hx => by
    rcases List.mem_append.1 hx with hx | hx
    · exact hpo x hx
    · exact List.mem_singleton.1 hx
  have v3 : g_valid_Faults p ⟨(sBoot p).Id, (sBoot p).Frame, (sBoot p).Epoch, (sBoot p).Procs, (sBoot p).Ready, (sBoot p).Timers, (sBoot p).Up, (sBoot p).Sems, ((sBoot p).Ports ++ [(⟨([] : List ByteArray), 0⟩ : GPort)]), (sBoot p).Pages⟩ = some [3] := by
    refine (valid_Faults p _ ?_).trans (congrArg some ((faults_of h ?_ ?_).trans ?_))
    · exact ⟨o0.1, by simp [sBoot]; omega, o0.2.2⟩
    · exact booted_of ok _ [] (fun _ hx => by cases hx) rfl rfl (by simp [sBoot]) rfl rfl rfl hpo2
    · exact rights_of rfl
    have e1 : K1 p ⟨(sBoot p).Id, (sBoot p).Frame, (sBoot p).Epoch, (sBoot p).Procs, (sBoot p).Ready, (sBoot p).Timers, (sBoot p).Up, (sBoot p).Sems, ((sBoot p).Ports ++ [(⟨([] : List ByteArray), 0⟩ : GPort)]), (sBoot p).Pages⟩ = true := by simp [K1, sBoot]
    have e3 : K3 p ⟨(sBoot p).Id, (sBoot p).Frame, (sBoot p).Epoch, (sBoot p).Procs, (sBoot p).Ready, (sBoot p).Timers, (sBoot p).Up, (sBoot p).Sems, ((sBoot p).Ports ++ [(⟨([] : List ByteArray), 0⟩ : GPort)]), (sBoot p).Pages⟩ = false := by simp [K3, sBoot]
    rw [e1, e3]; rfl
  -- a page less
  have hpl : (sBoot p).Pages.length = p.Pages.length := by simp [sBoot]
  have v4 : ∃ r, g_valid_Faults p ⟨(sBoot p).Id, (sBoot p).Frame, (sBoot p).Epoch, (sBoot p).Procs, (sBoot p).Ready, (sBoot p).Timers, (sBoot p).Up, (sBoot p).Sems, (sBoot p).Ports, (((sBoot p).Pages.drop (1 : Int).toNat).take ((((sBoot p).Pages.length : Nat) : Int).toNat - (1 : Int).toNat))⟩ = some (3 :: r) := by
    generalize hpg : (((sBoot p).Pages.drop (1 : Int).toNat).take ((((sBoot p).Pages.length : Nat) : Int).toNat - (1 : Int).toNat)) = pg
    have hlen : pg.length = p.Pages.length - 1 := by
      rw [← hpg, List.length_take, List.length_drop, hpl]; simp
    have hok : okSt ⟨(sBoot p).Id, (sBoot p).Frame, (sBoot p).Epoch, (sBoot p).Procs, (sBoot p).Ready, (sBoot p).Timers, (sBoot p).Up, (sBoot p).Sems, (sBoot p).Ports, pg⟩ := ⟨o0.1, o0.2.1, by simp only; omega⟩
    rw [valid_Faults p _ hok]
    clear hok
    generalize hs : (⟨(sBoot p).Id, (sBoot p).Frame, (sBoot p).Epoch, (sBoot p).Procs, (sBoot p).Ready, (sBoot p).Timers, (sBoot p).Up, (sBoot p).Sems, (sBoot p).Ports, pg⟩ : GState) = s
    have e1 : K1 p s = true := by rw [← hs]; simp [K1, sBoot]
    have e2 : K2 s = true := by rw [← hs]; rfl
    have e3 : K3 p s = false := by
      rw [← hs]; unfold K3
      have : ¬ pg.length = p.Pages.length := by omega
      simp [this]
    unfold sFaults
    rw [if_neg (by simpa using h)]
    unfold kept
    rw [e1, e2, e3]
    exact ⟨_, congrArg some rfl⟩
  obtain ⟨r4, v4⟩ := v4
  have c1 : ((sBoot p).Procs.length + [(⟨(Vector.replicate 16 0), 0, 0, 0, 0, 0⟩ : GProc)].length) * 104 ≤ 140737488355328 := by simp [sBoot]; omega
  have c1' := c1
  simp only [List.length_cons, List.length_nil] at c1'
  have c2 : ((sBoot p).Ports.length + 1) * 32 ≤ 140737488355328 := by simp [sBoot]; omega
  have c3 : (0 : Int) ≤ 1 ∧ (1 : Int) ≤ (((sBoot p).Pages.length : Nat) : Int) ∧ (((sBoot p).Pages.length : Nat) : Int) ≤ (((sBoot p).Pages.length : Nat) : Int) := by rw [hpl]; omega
  simp only [h, plan_Boot h, r0, v0, g_law11_ValidBoots_J2, r11_Copy cz, hw, v1 _ rfl, v2, v3, v4, ints_self, chk, c1, c1', c2, c3, and_self, if_true, decide_true, Bool.not_true, cond_false, cond_true, Option.bind_some, List.length_nil, List.length_cons, Nat.zero_lt_succ, List.getElem?_cons_zero]
end Go.Proofs.YtjoihegnjjjdaaaDoor
