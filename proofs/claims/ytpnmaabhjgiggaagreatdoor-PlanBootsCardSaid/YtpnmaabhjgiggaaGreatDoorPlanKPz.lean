/- Plain laws of plans: what a good plan is like, what it boots, its bytes; the fixed answers. -/
import Derived.Test.YtpnmaabhjgiggaaGreatDoorWireLPz
set_option linter.unusedVariables false
set_option linter.unusedSimpArgs false
set_option linter.unusedSectionVars false
namespace Go.Proofs.YtpnmaabhjgiggaaGreatDoor
open Go Go.RowKit

theorem take_oneK {α : Type} {l : List α} {i : Nat} {x : α} (h : l[i]? = some x) : l.take (i + 1) = l.take i ++ [x] := by rw [List.take_add_one, h]; rfl
section
variable {σ ρ α : Type}
theorem iter_ruleK {L : σ → Option (σ ⊕ ρ)} (I : σ → Prop) (Q : ρ → Prop) (μ : σ → Nat)
    (h : ∀ s, I s → (∃ s', L s = some (.inl s') ∧ I s' ∧ μ s' < μ s) ∨ (∃ r, L s = some (.inr r) ∧ Q r)) {s : σ} (h0 : I s) : ∃ r, iter L s = some r ∧ Q r := by
  have key : ∀ n s, μ s < n → I s → ∃ r, iter L s = some r ∧ Q r := by
    intro n
    induction n with
    | zero => intro s hs; omega
    | succ n ih =>
      intro s hs hI
      rcases h s hI with ⟨s', h1, h2, h3⟩ | ⟨r, h1, h2⟩
      · obtain ⟨r, h4, h5⟩ := ih s' (by omega) h2
        exact ⟨r, (iter_inl h1).trans h4, h5⟩
      · exact ⟨r, iter_inr h1, h2⟩
  exact key _ s (Nat.lt_succ_self _) h0
theorem orN_noneK {f : Nat → α → Option ErrM} (hf : ∀ i x, f i x ≠ some .nil) : ∀ {l : List α} {k : Nat}, orN (firstE f k l) = .nil → ∀ i x, l[i]? = some x → f (k + i) x = none
  | [], _, _, i, x, hx => by simp at hx
  | y :: r, k, h, i, x, hx => by
    cases hy : f k y with
    | some e =>
      simp only [firstE, hy, orN, Option.getD_some] at h
      subst h; exact absurd hy (hf k y)
    | none =>
      simp only [firstE, hy] at h
      cases i with
      | zero =>
        have : y = x := by simpa using hx
        subst this; exact hy
      | succ j =>
        have := orN_noneK hf h j x (by simpa using hx)
        rwa [show k + 1 + j = k + (j + 1) by omega] at this
end
theorem orE_nilK {a b : ErrM} (h : orE a b = .nil) : a = .nil ∧ b = .nil := by
  unfold orE at h
  by_cases c : a = .nil
  · rw [if_pos c] at h; exact ⟨c, h⟩
  · rw [if_neg c] at h; exact absurd h c
/-- What a good plan is like. -/
structure OkK (p : GPlan) : Prop where
  id0 : 0 ≤ p.Id
  id1 : p.Id ≤ 2147483647
  pg0 : 1 ≤ p.Pages.length
  pg1 : p.Pages.length ≤ 32
  pr0 : 1 ≤ p.Procs.length
  pr1 : p.Procs.length ≤ 8
  po1 : p.Ports.length ≤ 8
  ev0 : 0 ≤ p.Events
  ev1 : p.Events ≤ 8
  se1 : p.Sems.length ≤ 8
  pag : ∀ x ∈ p.Pages, 0 ≤ x.Rights ∧ x.Rights ≤ 7 ∧ x.Init.size ≤ 64
  prio : ∀ x ∈ p.Procs, 0 ≤ x.Prio ∧ x.Prio ≤ 255 ∧ 0 ≤ x.Entry ∧ x.Entry < 2048 ∧ x.Entry < 64 * (p.Pages.length : Int) ∧ Int.tmod x.Entry 4 = 0
  dep : ∀ x ∈ p.Ports, sPort x = .nil ∧ 1 ≤ x.Kind ∧ x.Kind ≤ 4 ∧ 1 ≤ x.Size ∧ x.Size ≤ 32 ∧ 1 ≤ x.Depth ∧ x.Depth ≤ 8 ∧ 0 ≤ x.Refresh ∧ x.Refresh ≤ 255
  bnd : sBound p ≤ 4096
  sem : ∀ n ∈ p.Sems, 0 ≤ n ∧ n ≤ 255
theorem okK_of {p : GPlan} (h : sPlan p = .nil) : OkK p := by
  unfold sPlan at h
  by_cases c0 : p.Id < 0 ∨ 2147483647 < p.Id
  · rw [if_pos c0] at h; cases h
  rw [if_neg c0] at h
  obtain ⟨h1, h2⟩ := orE_nilK h
  obtain ⟨h2, h3⟩ := orE_nilK h2
  unfold sRest at h3
  obtain ⟨h3, h4⟩ := orE_nilK h3
  obtain ⟨h4, h5⟩ := orE_nilK h4
  unfold sPages at h1
  by_cases c1 : p.Pages.length < 1 ∨ 32 < p.Pages.length
  · rw [if_pos c1] at h1; cases h1
  rw [if_neg c1] at h1
  have c6 : ¬ 4096 < sBound p := fun h => by rw [if_pos h] at h5; cases h5
  have hw : IntKind.i64.wrap (64 * (p.Pages.length : Int)) = 64 * (p.Pages.length : Int) := wrap64_eq ⟨by omega, by omega⟩
  unfold sProcs at h2
  by_cases c2 : p.Procs.length < 1 ∨ 8 < p.Procs.length
  · rw [if_pos c2] at h2; cases h2
  rw [if_neg c2] at h2
  unfold sPorts at h3
  by_cases c3 : 8 < p.Ports.length
  · rw [if_pos c3] at h3; cases h3
  rw [if_neg c3] at h3
  unfold sThings at h4
  by_cases c4 : p.Events < 0 ∨ 8 < p.Events
  · rw [if_pos c4] at h4; cases h4
  rw [if_neg c4] at h4
  by_cases c5 : 8 < p.Sems.length
  · rw [if_pos c5] at h4; cases h4
  rw [if_neg c5] at h4
  refine ⟨by omega, by omega, by omega, by omega, by omega, by omega, by omega, by omega, by omega, by omega, fun x hx => ?_, fun x hx => ?_, fun x hx => ?_, by omega, fun x hx => ?_⟩
  · obtain ⟨i, hi⟩ := List.mem_iff_getElem?.1 hx
    have := orN_noneK (f := sPage) (fun i x => by unfold sPage; repeat' split
                                                  all_goals intro h; cases h) h1 i x hi
    unfold sPage at this
    repeat' split at this
    all_goals first | (cases this; done) | omega
  · obtain ⟨i, hi⟩ := List.mem_iff_getElem?.1 hx
    have := orN_noneK (f := sProc p.Pages.length) (fun i x => by unfold sProc; split <;> intro h <;> cases h) h2 i x hi
    unfold sProc at this
    rw [hw] at this
    split at this
    · cases this
    · omega
  · obtain ⟨i, hi⟩ := List.mem_iff_getElem?.1 hx
    have := orN_noneK (f := sPortE) (fun i x => by unfold sPortE; split <;> intro h <;> cases h) h3 i x hi
    unfold sPortE at this
    rcases sPort_cases x with e | ⟨g, e⟩
    · refine ⟨e, ?_⟩
      unfold sPort at e
      repeat' split at e
      all_goals first | (cases e; done) | omega
    · rw [e] at this; cases this
  · obtain ⟨i, hi⟩ := List.mem_iff_getElem?.1 hx
    have := orN_noneK (f := sSem) (fun i x => by unfold sSem; split <;> intro h <;> cases h) h4 i x hi
    unfold sSem at this
    split at this
    · cases this
    · omega
/-! ### What a plan boots -/
def bootPK (x : GProcPlan) : GProc := ⟨Vector.replicate 16 0, IntKind.u32.wrap x.Entry, if x.Auto = true then 1 else 0, x.Prio, 0, 0⟩
def autoK : Nat → List GProcPlan → List Int
  | _, [] => []
  | k, x :: r => (if x.Auto = true then [((k : Nat) : Int)] else []) ++ autoK (k + 1) r
theorem autoK_snoc (x : GProcPlan) : ∀ (l : List GProcPlan) (k : Nat), autoK k (l ++ [x]) = autoK k l ++ (if x.Auto = true then [((k + l.length : Nat) : Int)] else [])
  | [], k => by simp [autoK]
  | y :: r, k => by
    have ih := autoK_snoc x r (k + 1)
    rw [List.cons_append, autoK, ih, autoK, List.append_assoc, List.length_cons, show k + 1 + r.length = k + (r.length + 1) by omega]
theorem autoK_len : ∀ (l : List GProcPlan) (k : Nat), (autoK k l).length ≤ l.length
  | [], _ => Nat.le_refl _
  | y :: r, k => by
    have := autoK_len r (k + 1)
    rw [autoK, List.length_append, List.length_cons]; split <;> simp <;> omega
def bootGK (x : GPagePlan) : GPage := ⟨x.Rights, false, cpyV (Vector.replicate 64 0) x.Init⟩
def sBootK (p : GPlan) : GState := ⟨p.Id, 0, 0, p.Procs.map bootPK, autoK 0 p.Procs, [], List.replicate p.Events.toNat false, p.Sems, List.replicate p.Ports.length ⟨[], 0⟩, p.Pages.map bootGK⟩
theorem plan_BootK {p : GPlan} (h : sPlan p = .nil) : g_plan_Boot p = some (sBootK p, .nil) := by
  have ok := okK_of h
  have hA := iter_ruleK (L := g_plan_Boot_L8 p) (fun s : Nat × List GProc × List Int => s.1 ≤ p.Procs.length ∧ s.2.1 = (p.Procs.take s.1).map bootPK ∧ s.2.2 = autoK 0 (p.Procs.take s.1)) (fun r => r = (p.Procs.map bootPK, autoK 0 p.Procs)) (fun s => p.Procs.length - s.1) (fun s hI => by
    obtain ⟨i, l1, l2⟩ := s
    obtain ⟨hi, h1, h2⟩ := hI
    simp only at hi h1 h2
    by_cases hlt : i < p.Procs.length
    · have hx : p.Procs[i]? = some p.Procs[i] := List.getElem?_eq_getElem hlt
      generalize p.Procs[i] = x at hx
      have hl1 : l1.length = i := by rw [h1]; simp; omega
      have hl2 := autoK_len (p.Procs.take i) 0
      rw [← h2, List.length_take] at hl2
      have hp := ok.pr1
      have c1 : ∀ t : GProc, (l1.length + [t].length) * 104 ≤ 140737488355328 := fun t => by simp only [List.length_cons, List.length_nil]; omega
      have c2 : (l2.length + [((i : Nat) : Int)].length) * 8 ≤ 140737488355328 := by simp only [List.length_cons, List.length_nil]; omega
      have e1 : (p.Procs.take (i + 1)).map bootPK = l1 ++ [bootPK x] := by rw [take_oneK hx, List.map_append, h1]; rfl
      have e2 : autoK 0 (p.Procs.take (i + 1)) = l2 ++ (if x.Auto = true then [((i : Nat) : Int)] else []) := by rw [take_oneK hx, autoK_snoc, ← h2, List.length_take, Nat.min_eq_left (by omega), Nat.zero_add]
      refine .inl ⟨(i + 1, l1 ++ [bootPK x], l2 ++ (if x.Auto = true then [((i : Nat) : Int)] else [])), ?_, ⟨by simp only; omega, e1.symm, e2.symm⟩, by simp only; omega⟩
      simp only [g_plan_Boot_L8, g_plan_Boot_J6, hlt, hx, decide_true, cond_true, Option.bind_some, bootPK]
      rcases Bool.eq_false_or_eq_true x.Auto with e | e
      · simp only [e, cond_true, chk, c1, c2, if_true, Option.bind_some]
      · simp only [e, cond_false, chk, c1, if_true, Option.bind_some, Bool.false_eq_true, if_false, List.append_nil]
    · refine .inr ⟨(l1, l2), ?_, ?_⟩
      · simp only [g_plan_Boot_L8, hlt, decide_false, cond_false]
      · have : p.Procs.take i = p.Procs := List.take_of_length_le (by omega)
        rw [this] at h1 h2; rw [h1, h2]) (s := (0, [], [])) ⟨Nat.zero_le _, rfl, rfl⟩
  obtain ⟨_, hA, rfl⟩ := hA
  have hB := iter_ruleK (L := g_plan_Boot_L7 p) (fun s : Nat × List GPage => s.1 ≤ p.Pages.length ∧ s.2 = (p.Pages.take s.1).map bootGK) (fun r => r = p.Pages.map bootGK) (fun s => p.Pages.length - s.1) (fun s hI => by
    obtain ⟨i, l1⟩ := s
    obtain ⟨hi, h1⟩ := hI
    simp only at hi h1
    by_cases hlt : i < p.Pages.length
    · have hx : p.Pages[i]? = some p.Pages[i] := List.getElem?_eq_getElem hlt
      generalize p.Pages[i] = x at hx
      have hl1 : l1.length = i := by rw [h1]; simp; omega
      have hp := ok.pg1
      have c1 : ∀ t : GPage, (l1.length + [t].length) * 80 ≤ 140737488355328 := fun t => by simp only [List.length_cons, List.length_nil]; omega
      have e1 : (p.Pages.take (i + 1)).map bootGK = l1 ++ [bootGK x] := by rw [take_oneK hx, List.map_append, h1]; rfl
      refine .inl ⟨(i + 1, l1 ++ [bootGK x]), ?_, ⟨by simp only; omega, e1.symm⟩, by simp only; omega⟩
      simp only [g_plan_Boot_L7, hlt, hx, decide_true, cond_true, Option.bind_some, chk, c1, if_true, bootGK]
    · refine .inr ⟨l1, ?_, ?_⟩
      · simp only [g_plan_Boot_L7, hlt, decide_false, cond_false]
      · have : p.Pages.take i = p.Pages := List.take_of_length_le (by omega)
        rw [this] at h1; rw [h1]) (s := (0, [])) ⟨Nat.zero_le _, rfl⟩
  obtain ⟨_, hB, rfl⟩ := hB
  have c0 := ok.ev0
  have c1 : p.Events.toNat * 1 ≤ 140737488355328 := by have := ok.ev1; omega
  have c2 : (([] : List Int).length + p.Sems.length) * 8 ≤ 140737488355328 := by have := ok.se1; simp only [List.length_nil]; omega
  have c3 : p.Ports.length * 32 ≤ 140737488355328 := by have := ok.po1; omega
  simp only [g_plan_Boot, g_plan_Boot_J9, g_slices_Clone_int, plan_Check, h, chk, c0, c1, c2, c3, hA, hB, decide_true, Bool.not_true, cond_false, Option.bind_some, if_true, List.nil_append]
  rfl
/-! ### The bytes of a plan -/
theorem u8_wr {n : Int} (a : List UInt8) (ha : a.length ≤ 900000) (h0 : 0 ≤ n) (h1 : n ≤ 255) : g_wire_Writer_U8 (wr a) n = some (wr (a ++ be n 1)) := by
  have h : g_wire_Writer_num (wr a) n 1 = some (wr (a ++ be n 1)) := num_wr (k := 1) most1 a (by omega) ha h0 h1
  simp only [g_wire_Writer_U8, h, Option.bind_some]
theorem u16_wr {n : Int} (a : List UInt8) (ha : a.length ≤ 900000) (h0 : 0 ≤ n) (h1 : n ≤ 65535) : g_wire_Writer_U16 (wr a) n = some (wr (a ++ be n 2)) := by
  have h : g_wire_Writer_num (wr a) n 2 = some (wr (a ++ be n 2)) := num_wr (k := 2) most2 a (by omega) ha h0 h1
  simp only [g_wire_Writer_U16, h, Option.bind_some]
theorem u32_wr {n : Int} (a : List UInt8) (ha : a.length ≤ 900000) (h0 : 0 ≤ n) (h1 : n ≤ 4294967295) : g_wire_Writer_U32 (wr a) n = some (wr (a ++ be n 4)) := by
  have h : g_wire_Writer_num (wr a) n 4 = some (wr (a ++ be n 4)) := num_wr (k := 4) most4 a (by omega) ha h0 h1
  simp only [g_wire_Writer_U32, h, Option.bind_some]
theorem raw_wr (a b : List UInt8) (ha : a.length + b.length ≤ 100000000) : g_wire_Writer_Raw (wr a) b = some (wr (a ++ b)) := by
  simp only [g_wire_Writer_Raw, put_wr a b ha, Option.bind_some]
def flagB (b : Bool) : List UInt8 := if b = true then [byteOf 1] else [byteOf 0]
theorem flag_wr (a : List UInt8) (b : Bool) (ha : a.length ≤ 900000) : g_wire_Writer_Flag (wr a) b = some (wr (a ++ flagB b)) := by
  have h : ∀ c : UInt8, g_wire_Writer_put (wr a) [c] = some (wr (a ++ [c])) := fun c => put_wr a [c] (by simp; omega)
  cases b <;> simp [g_wire_Writer_Flag, h, flagB]
theorem done_wr (a : List UInt8) (ha : a.length ≤ 900000) : g_wire_Writer_Done (wr a) = some (a, .nil, wr a) := by
  have c : (([] : List UInt8).length + a.length) * 1 ≤ 140737488355328 := by simp; omega
  simp only [g_wire_Writer_Done, g_slices_Clone_byte, chk, c, if_true, Option.bind_some, decide_true, Bool.not_true, cond_false, List.nil_append]
def recB (t : Int) (b : List UInt8) : List UInt8 := be t 1 ++ (be (b.length : Int) 2 ++ b)
theorem recB_len (t : Int) (b : List UInt8) : (recB t b).length = 3 + b.length := by simp [recB, be_len]; omega
theorem record_wr {t : Int} (a b : List UInt8) (ha : a.length ≤ 500000) (h0 : 1 ≤ t) (h1 : t ≤ 255) (hb : b.length ≤ 65535) : g_wire_Writer_Record (wr a) t b = some (wr (a ++ recB t b)) := by
  have e1 : ¬ t < 1 := by omega
  have e2 : ¬ 255 < t := by omega
  have e3 : ¬ 65535 < b.length := by omega
  have n1 : g_wire_Writer_num (wr a) t 1 = some (wr (a ++ be t 1)) := num_wr (k := 1) most1 a (by omega) (by omega) (by omega) h1
  have n2 : g_wire_Writer_num (wr (a ++ be t 1)) (b.length : Int) 2 = some (wr (a ++ be t 1 ++ be (b.length : Int) 2)) := num_wr (k := 2) most2 _ (by omega) (by simp [be_len]; omega) (by omega) (by omega)
  have n3 := put_wr (a ++ be t 1 ++ be (b.length : Int) 2) b (by simp [be_len]; omega)
  simp only [g_wire_Writer_Record, g_wire_Writer_Record_J1, most1, e1, e2, e3, n1, n2, n3, decide_false, cond_false, Option.bind_some]
  simp only [recB, List.append_assoc]
theorem precord_wr {t : Int} {f : GWireWriter → Option GWireWriter} {b : List UInt8} (hf : f (wr []) = some (wr b)) (a : List UInt8) (ha : a.length ≤ 500000) (h0 : 1 ≤ t) (h1 : t ≤ 255) (hb : b.length ≤ 65535) : g_plan_record (wr a) t f = some (wr (a ++ recB t b)) := by
  have e : g_wire_NewWriter = some (wr []) := rfl
  simp only [g_plan_record, e, hf, done_wr b (by omega), record_wr a b ha h0 h1 hb, Option.bind_some]
theorem iter_app {α : Type} {L : Nat × List UInt8 × ErrM → Option ((Nat × List UInt8 × ErrM) ⊕ (List UInt8 × ErrM))} {l : List α} {f : α → List UInt8} (B M : Nat)
    (h : ∀ i x a, i < l.length → l[i]? = some x → a.length ≤ M → L (i, a, .nil) = some (.inl (i + 1, a ++ f x, .nil))) (h2 : ∀ a, L (l.length, a, .nil) = some (.inr (a, .nil)))
    (hB : ∀ x ∈ l, (f x).length ≤ B) (a : List UInt8) (ha : a.length + l.length * B ≤ M) : iter L (0, a, .nil) = some (a ++ l.flatMap f, .nil) := by
  have key : ∀ m k a, k + m = l.length → a.length + m * B ≤ M → iter L (k, a, .nil) = some (a ++ (l.drop k).flatMap f, .nil) := by
    intro m
    induction m with
    | zero =>
      intro k a hk _
      obtain rfl : k = l.length := by omega
      rw [iter_inr (h2 a), List.drop_length]; simp
    | succ m ih =>
      intro k a hk ha
      have hlt : k < l.length := by omega
      have hx : l[k]? = some l[k] := List.getElem?_eq_getElem hlt
      have hd : l.drop k = l[k] :: l.drop (k + 1) := List.drop_eq_getElem_cons hlt
      have hb := hB l[k] (List.getElem_mem hlt)
      rw [Nat.succ_mul] at ha
      rw [iter_inl (h k _ a hlt hx (by omega)), ih (k + 1) _ (by omega) (by rw [List.length_append]; omega), hd, List.flatMap_cons, List.append_assoc]
  simpa using key l.length 0 a (by omega) ha
def pageB (x : GPagePlan) : List UInt8 := be x.Rights 1 ++ x.Init.data.toList
def procB (x : GProcPlan) : List UInt8 := be x.Entry 4 ++ (be x.Prio 1 ++ flagB x.Auto)
def portB (x : GPortPlan) : List UInt8 := be x.Kind 1 ++ (be x.Size 1 ++ (be x.Depth 1 ++ be x.Refresh 1))
def semB (x : Int) : List UInt8 := be x 1
def sRecs (p : GPlan) : List UInt8 := p.Pages.flatMap (fun x => recB 1 (pageB x)) ++ (p.Procs.flatMap (fun x => recB 2 (procB x)) ++ (p.Ports.flatMap (fun x => recB 3 (portB x)) ++ (recB 4 (be p.Events 1) ++ recB 5 (p.Sems.flatMap semB))))
theorem flagB_len (b : Bool) : (flagB b).length = 1 := by cases b <;> rfl
theorem pageB_len (x : GPagePlan) : (pageB x).length = 1 + x.Init.size := by
  have : x.Init.data.toList.length = x.Init.size := rfl
  rw [pageB, List.length_append, be_len, this]
theorem procB_len (x : GProcPlan) : (procB x).length = 6 := by simp [procB, be_len, flagB_len]
theorem portB_len (x : GPortPlan) : (portB x).length = 4 := by simp [portB, be_len]
theorem flat_len {α : Type} {f : α → List UInt8} {B : Nat} : ∀ {l : List α}, (∀ x ∈ l, (f x).length ≤ B) → (l.flatMap f).length ≤ l.length * B
  | [], _ => by simp
  | x :: l, h => by
    have h1 := h x (List.mem_cons_self ..)
    have h2 := flat_len (l := l) fun y hy => h y (List.mem_cons_of_mem _ hy)
    rw [List.flatMap_cons, List.length_append, List.length_cons, Nat.succ_mul]; omega
theorem page_rec (x : GPagePlan) (hx : 0 ≤ x.Rights ∧ x.Rights ≤ 7 ∧ x.Init.size ≤ 64) : g_plan_records_1 (wr []) x = some (wr (pageB x)) := by
  obtain ⟨h0, h1, h2⟩ := hx
  have c : x.Init.size ≤ 9223372036854775807 := by omega
  have e : x.Init.data.toList.length = x.Init.size := rfl
  have u := u8_wr (n := x.Rights) [] (by simp) h0 (by omega)
  have v := raw_wr ([] ++ be x.Rights 1) x.Init.data.toList (by simp [be_len]; omega)
  simp only [g_plan_records_1, u, v, chk, c, if_true, Option.bind_some]
  simp only [List.nil_append, pageB]
theorem proc_rec (x : GProcPlan) (hx : 0 ≤ x.Prio ∧ x.Prio ≤ 255 ∧ 0 ≤ x.Entry ∧ x.Entry < 2048) : g_plan_records_2 (wr []) x = some (wr (procB x)) := by
  obtain ⟨h0, h1, h2, h3⟩ := hx
  have u := u32_wr (n := x.Entry) [] (by simp) h2 (by omega)
  have v := u8_wr (n := x.Prio) ([] ++ be x.Entry 4) (by simp [be_len]) h0 h1
  have z := flag_wr ([] ++ be x.Entry 4 ++ be x.Prio 1) x.Auto (by simp [be_len])
  simp only [g_plan_records_2, u, v, z, Option.bind_some]
  simp only [List.nil_append, List.append_assoc, procB]
theorem port_rec (x : GPortPlan) (hx : 1 ≤ x.Kind ∧ x.Kind ≤ 4 ∧ 1 ≤ x.Size ∧ x.Size ≤ 32 ∧ 1 ≤ x.Depth ∧ x.Depth ≤ 8 ∧ 0 ≤ x.Refresh ∧ x.Refresh ≤ 255) : g_plan_records_3 (wr []) x = some (wr (portB x)) := by
  have u1 := u8_wr (n := x.Kind) [] (by simp) (by omega) (by omega)
  have u2 := u8_wr (n := x.Size) ([] ++ be x.Kind 1) (by simp [be_len]) (by omega) (by omega)
  have u3 := u8_wr (n := x.Depth) ([] ++ be x.Kind 1 ++ be x.Size 1) (by simp [be_len]) (by omega) (by omega)
  have u4 := u8_wr (n := x.Refresh) ([] ++ be x.Kind 1 ++ be x.Size 1 ++ be x.Depth 1) (by simp [be_len]) (by omega) (by omega)
  simp only [g_plan_records_3, u1, u2, u3, u4, Option.bind_some]
  simp only [List.nil_append, List.append_assoc, portB]
theorem plan_records {p : GPlan} (ok : OkK p) : g_plan_records p = some (wr (sRecs p)) := by
  have e0 : g_wire_NewWriter = some (wr []) := rfl
  have b1 : ∀ x ∈ p.Pages, (recB 1 (pageB x)).length ≤ 68 := fun x hx => by have := ok.pag x hx; rw [recB_len, pageB_len]; omega
  have b2 : ∀ x ∈ p.Procs, (recB 2 (procB x)).length ≤ 9 := fun x hx => by rw [recB_len, procB_len]; omega
  have b3 : ∀ x ∈ p.Ports, (recB 3 (portB x)).length ≤ 7 := fun x hx => by rw [recB_len, portB_len]; omega
  have b5 : ∀ x ∈ p.Sems, (semB x).length ≤ 1 := fun x hx => by rw [semB, be_len]; omega
  have l1 := flat_len b1
  have l2 := flat_len b2
  have l3 := flat_len b3
  have l5 := flat_len b5
  have k1 := ok.pg1; have k2 := ok.pr1; have k3 := ok.po1; have k5 := ok.se1
  have hA := iter_app (L := g_plan_records_L3 p) (l := p.Pages) (f := fun x => recB 1 (pageB x)) 68 10000 (fun i x a hi hx ha => by
    have hb := ok.pag x (List.mem_of_getElem? hx)
    have hr := precord_wr (t := 1) (f := fun x0 => g_plan_records_1 x0 x) (b := pageB x) (page_rec x hb) a (by omega) (by decide) (by decide) (by rw [pageB_len]; omega)
    simp only [g_plan_records_L3, hi, hx, hr, decide_true, cond_true, Option.bind_some]) (fun a => by simp [g_plan_records_L3]) b1 [] (by simp; omega)
  rw [List.nil_append] at hA
  have hB := iter_app (L := g_plan_records_L2 p) (l := p.Procs) (f := fun x => recB 2 (procB x)) 9 10000 (fun i x a hi hx ha => by
    have hb := ok.prio x (List.mem_of_getElem? hx)
    have hr := precord_wr (t := 2) (f := fun x0 => g_plan_records_2 x0 x) (b := procB x) (proc_rec x ⟨hb.1, hb.2.1, hb.2.2.1, hb.2.2.2.1⟩) a (by omega) (by decide) (by decide) (by rw [procB_len]; omega)
    simp only [g_plan_records_L2, hi, hx, hr, decide_true, cond_true, Option.bind_some]) (fun a => by simp [g_plan_records_L2]) b2 (p.Pages.flatMap (fun x => recB 1 (pageB x))) (by omega)
  have hC := iter_app (L := g_plan_records_L1 p) (l := p.Ports) (f := fun x => recB 3 (portB x)) 7 10000 (fun i x a hi hx ha => by
    have hb := ok.dep x (List.mem_of_getElem? hx)
    have hr := precord_wr (t := 3) (f := fun x0 => g_plan_records_3 x0 x) (b := portB x) (port_rec x hb.2) a (by omega) (by decide) (by decide) (by rw [portB_len]; omega)
    simp only [g_plan_records_L1, hi, hx, hr, decide_true, cond_true, Option.bind_some]) (fun a => by simp [g_plan_records_L1]) b3 (p.Pages.flatMap (fun x => recB 1 (pageB x)) ++ p.Procs.flatMap (fun x => recB 2 (procB x))) (by rw [List.length_append]; omega)
  have hD : g_plan_records_4 (wr []) p = some (wr (be p.Events 1)) := by
    have u := u8_wr (n := p.Events) [] (by simp) ok.ev0 (by have := ok.ev1; omega)
    simp only [g_plan_records_4, u, Option.bind_some, List.nil_append]
  have hE : g_plan_records_5 (wr []) p = some (wr (p.Sems.flatMap semB)) := by
    have h := iter_app (L := g_plan_records_5_L1 p) (l := p.Sems) (f := semB) 1 10000 (fun i x a hi hx ha => by
      have hb := ok.sem x (List.mem_of_getElem? hx)
      have hr := u8_wr (n := x) a (by omega) hb.1 hb.2
      simp only [g_plan_records_5_L1, hi, hx, hr, decide_true, cond_true, Option.bind_some, semB]) (fun a => by simp [g_plan_records_5_L1]) b5 [] (by simp; omega)
    simp only [g_plan_records_5, h, Option.bind_some, List.nil_append]
  have d1 := precord_wr (t := 4) (f := fun x0 => g_plan_records_4 x0 p) (b := be p.Events 1) hD (p.Pages.flatMap (fun x => recB 1 (pageB x)) ++ p.Procs.flatMap (fun x => recB 2 (procB x)) ++ p.Ports.flatMap (fun x => recB 3 (portB x))) (by rw [List.length_append, List.length_append]; omega) (by decide) (by decide) (by rw [be_len]; omega)
  have d2 := precord_wr (t := 5) (f := fun x0 => g_plan_records_5 x0 p) (b := p.Sems.flatMap semB) hE (p.Pages.flatMap (fun x => recB 1 (pageB x)) ++ p.Procs.flatMap (fun x => recB 2 (procB x)) ++ p.Ports.flatMap (fun x => recB 3 (portB x)) ++ recB 4 (be p.Events 1)) (by simp only [List.length_append, recB_len, be_len]; omega) (by decide) (by decide) (by omega)
  simp only [g_plan_records, e0, hA, hB, hC, d1, d2, Option.bind_some]
  simp only [sRecs, List.append_assoc]
theorem sRecs_len {p : GPlan} (ok : OkK p) : (sRecs p).length ≤ 4000 := by
  have b1 : ∀ x ∈ p.Pages, (recB 1 (pageB x)).length ≤ 68 := fun x hx => by have := ok.pag x hx; rw [recB_len, pageB_len]; omega
  have b2 : ∀ x ∈ p.Procs, (recB 2 (procB x)).length ≤ 9 := fun x hx => by rw [recB_len, procB_len]; omega
  have b3 : ∀ x ∈ p.Ports, (recB 3 (portB x)).length ≤ 7 := fun x hx => by rw [recB_len, portB_len]; omega
  have b5 : ∀ x ∈ p.Sems, (semB x).length ≤ 1 := fun x hx => by rw [semB, be_len]; omega
  have l1 := flat_len b1
  have l2 := flat_len b2
  have l3 := flat_len b3
  have l5 := flat_len b5
  have k1 := ok.pg1; have k2 := ok.pr1; have k3 := ok.po1; have k5 := ok.se1
  simp only [sRecs, List.length_append, recB_len, be_len]; omega
def magicB : List UInt8 := [byteOf 70, byteOf 80, byteOf 76, byteOf 78]
def sHead (p : GPlan) : List UInt8 := magicB ++ (be 1 2 ++ (be (((15 + (sRecs p).length + 4 : Nat)) : Int) 4 ++ (be p.Id 4 ++ flagB p.Mobile)))
def sBody (p : GPlan) : List UInt8 := sHead p ++ sRecs p
def sLaid (z : Int) : List UInt8 := [byteOf z, byteOf (shR .u32 z 8), byteOf (shR .u32 z 16), byteOf (shR .u32 z 24)]
def sBytes (p : GPlan) : List UInt8 := sBody p ++ sLaid (sSum (sBody p))
theorem sHead_len (p : GPlan) : (sHead p).length = 15 := by simp [sHead, magicB, be_len, flagB_len]
theorem crc_Seal (b : List UInt8) (h : b.length ≤ 100000000) : g_crc_Seal b = some (b ++ sLaid (sSum b)) := by
  have c1 : (([] : List UInt8).length + b.length) * 1 ≤ 140737488355328 := by simp; omega
  have c2 : (([] ++ b).length + (sLaid (sSum b)).length) * 1 ≤ 140737488355328 := by simp [sLaid]; omega
  have e : g_crc_laid (sSum b) = some (sLaid (sSum b)) := rfl
  simp only [g_crc_Seal, g_bytes_Clone, crc_Sum, e, chk, c1, c2, if_true, Option.bind_some]
  rfl
theorem plan_Bytes {p : GPlan} (h : sPlan p = .nil) : g_plan_Bytes p = some (sBytes p, .nil) := by
  have ok := okK_of h
  have hl := sRecs_len ok
  have e0 : g_wire_NewWriter = some (wr []) := rfl
  have w1 : IntKind.i64.wrap (IntKind.i64.wrap (15 + (((sRecs p).length : Nat) : Int)) + 4) = (((15 + (sRecs p).length + 4 : Nat)) : Int) := by
    rw [wrap64_eq (z := 15 + (((sRecs p).length : Nat) : Int)) ⟨by omega, by omega⟩, wrap64_eq ⟨by omega, by omega⟩]; omega
  have a1 := raw_wr [] magicB (by simp [magicB])
  have a2 := u16_wr (n := 1) ([] ++ magicB) (by simp [magicB]) (by decide) (by decide)
  have a3 := u32_wr (n := (((15 + (sRecs p).length + 4 : Nat)) : Int)) ([] ++ magicB ++ be 1 2) (by simp [magicB, be_len]) (by omega) (by omega)
  have a4 := u32_wr (n := p.Id) ([] ++ magicB ++ be 1 2 ++ be (((15 + (sRecs p).length + 4 : Nat)) : Int) 4) (by simp [magicB, be_len]) ok.id0 (by have := ok.id1; omega)
  have a5 := flag_wr ([] ++ magicB ++ be 1 2 ++ be (((15 + (sRecs p).length + 4 : Nat)) : Int) 4 ++ be p.Id 4) p.Mobile (by simp [magicB, be_len])
  have hh : [] ++ magicB ++ be 1 2 ++ be (((15 + (sRecs p).length + 4 : Nat)) : Int) 4 ++ be p.Id 4 ++ flagB p.Mobile = sHead p := by simp only [sHead, List.append_assoc, List.nil_append]
  rw [hh] at a5
  have a6 := raw_wr (sHead p) (sRecs p) (by rw [sHead_len]; omega)
  have a7 := done_wr (sHead p ++ sRecs p) (by rw [List.length_append, sHead_len]; omega)
  have a8 := crc_Seal (sBody p) (by rw [sBody, List.length_append, sHead_len]; omega)
  simp only [magicB] at a1 a2 a3 a4 a5
  simp only [sBody] at a8
  simp only [g_plan_Bytes, plan_Check, h, plan_records ok, done_wr (sRecs p) (by omega), e0, w1, a1, a2, a3, a4, a5, a6, a7, a8, decide_true, Bool.not_true, cond_false, Option.bind_some, sBytes, sBody]
/-! ### The fixed answers -/
def smallP : GPlan := ⟨3, true, [(⟨5, ⟨#[97, 98]⟩⟩ : GPagePlan), (⟨3, ⟨#[]⟩⟩ : GPagePlan)], [(⟨0, 7, true⟩ : GProcPlan), (⟨64, 9, false⟩ : GProcPlan)], [(⟨1, 4, 1, 2⟩ : GPortPlan), (⟨4, 8, 2, 0⟩ : GPortPlan)], 1, [2]⟩
theorem small_check : sPlan smallP = .nil := by kernel_rfl
theorem small_bound : sBound smallP = 363 := by kernel_rfl
theorem small_len : (sBytes smallP).length = 69 := by kernel_rfl
theorem small_head : strB ((sBytes smallP).take 15) = ⟨#[70, 80, 76, 78, 0, 1, 0, 0, 0, 69, 0, 0, 0, 3, 1]⟩ := by kernel_rfl
theorem small_bad : sPlan ⟨3, true, smallP.Pages, smallP.Procs.set 1 ⟨66, 9, false⟩, smallP.Ports, 1, [2]⟩ = .pl 1 gRange := by kernel_rfl
theorem plan_BoundK (p : GPlan) : g_plan_Bound p = some (if sPlan p = .nil then (sBound p, .nil) else (0, .v gPlan)) := by
  by_cases h : sPlan p = .nil <;> simp [g_plan_Bound, plan_Check, plan_bound, h]
theorem law10_fixed : g_law10_fixed = some true := by
  have e0 : g_law10_small = some smallP := rfl
  have e1 := plan_BoundK smallP
  rw [if_pos small_check, small_bound] at e1
  have e2 := plan_BootK small_check
  have e3 := plan_Bytes small_check
  have e4 : g_plan_Check smallP = some .nil := by rw [plan_Check, small_check]
  have e5 : g_plan_Check ⟨smallP.Id, smallP.Mobile, smallP.Pages, smallP.Procs.set 1 ⟨66, 9, false⟩, smallP.Ports, smallP.Events, smallP.Sems⟩ = some (.pl 1 gRange) := by
    rw [plan_Check]; exact congrArg some small_bad
  have f1 : (sBootK smallP).Procs.length = 2 := by kernel_rfl
  have f2 : (sBootK smallP).Ready.length = 1 := by kernel_rfl
  have f3 : (sBootK smallP).Pages.length = 2 := by kernel_rfl
  have f4 : (sBootK smallP).Pages[0]? = some (bootGK ⟨5, ⟨#[97, 98]⟩⟩) := rfl
  have f5 : rdV (bootGK ⟨5, ⟨#[97, 98]⟩⟩).Data 1 = some 98 := by kernel_rfl
  have f6 : smallP.Procs[1]? = some ⟨64, 9, false⟩ := rfl
  have f7 : (0 : Int) ≤ (15 : Int) ∧ (15 : Int) ≤ (((sBytes smallP).length : Nat) : Int) := by rw [small_len]; decide
  have f8 : strB ((sBytes smallP).take (15 : Int).toNat) = ⟨#[70, 80, 76, 78, 0, 1, 0, 0, 0, 69, 0, 0, 0, 3, 1]⟩ := small_head
  have c4 : (ErrM.pl 1 gRange).code = 4 := by rw [cPl, cRange]
  have f10 : (15 : Int) ≤ ((69 : Nat) : Int) := by decide
  have f11 : (0 : Int) ≤ 15 := by decide
  have f9 : (((98 : UInt8).toNat : Nat) : Int) = 98 := by decide
  simp only [g_law10_fixed, g_law10_fixed_J4, g_law10_fixed_J3, e0, e1, e2, e3, e4, e5, f1, f2, f3, f4, f5, f6, f10, f11, f8, f9, small_len, c4, pPl, chk, if_true, and_self, decide_true, Bool.not_true, cond_true, cond_false, Option.bind_some]
end Go.Proofs.YtpnmaabhjgiggaaGreatDoor
