/- Plain laws of frames: copies, windows, what the channels bring. -/
import Derived.Test.YtjoihegnjjjdaaaGreatDoorFrameLFa
set_option linter.unusedVariables false
set_option linter.unusedSimpArgs false
set_option linter.unusedSectionVars false
namespace Go.Proofs.YtjoihegnjjjdaaaGreatDoor
open Go Go.RowKit

section
variable {α : Type}
theorem firstE_all (q : α → Bool) : ∀ (l : List α) (k : Nat), firstE (fun _ x => if q x = true then none else some false) k l = if l.all q = true then none else some false
  | [], _ => rfl
  | x :: r, k => by
    have ih := firstE_all q r (k + 1)
    rcases Bool.eq_false_or_eq_true (q x) with h | h <;> simp [firstE, h, ih]
theorem iter_eqs {L : Nat → Option (Nat ⊕ (Unit ⊕ Bool))} {a b : List α} (q : α → α → Bool) (hl : a.length = b.length)
    (h : ∀ i x y, i < a.length → a[i]? = some x → b[i]? = some y → L i = some (if q x y = true then .inl (i + 1) else .inr (.inr false))) (h2 : L a.length = some (.inr (.inl ()))) :
    iter L 0 = some (if (a.zip b).all (fun p => q p.1 p.2) = true then .inl () else .inr false) := by
  have hz : (a.zip b).length = a.length := by rw [List.length_zip, ← hl, Nat.min_self]
  have hL := iter_list (L := L) (l := a.zip b) (f := fun _ p => if q p.1 p.2 = true then none else some false) (fun i p hi hp => by
    obtain ⟨h3, h4⟩ := List.getElem?_zip_eq_some.1 hp
    rw [h i p.1 p.2 (by omega) h3 h4, nxt_ite, nxt_none, nxt_some]) (by rw [hz]; exact h2)
  rw [hL, firstE_all (fun p : α × α => q p.1 p.2)]
  split <;> rfl
theorem zip_eq [DecidableEq α] : ∀ {a b : List α}, a.length = b.length → (((a.zip b).all fun p => decide (p.1 = p.2)) = true ↔ a = b)
  | [], [], _ => by simp
  | [], y :: b, h => by simp at h
  | x :: a, [], h => by simp at h
  | x :: a, y :: b, h => by
    have ih := zip_eq (a := a) (b := b) (by simpa using h)
    simp only [List.zip_cons_cons, List.all_cons, Bool.and_eq_true, decide_eq_true_eq, List.cons.injEq, ih]
theorem eqs_res {L : Nat → Option (Nat ⊕ (Unit ⊕ Bool))} {a b : List α} [DecidableEq α] (hl : a.length = b.length)
    (h : ∀ i x y, i < a.length → a[i]? = some x → b[i]? = some y → L i = some (if decide (x = y) = true then .inl (i + 1) else .inr (.inr false))) (h2 : L a.length = some (.inr (.inl ()))) :
    iter L 0 = some (if a = b then .inl () else .inr false) := by
  rw [iter_eqs (fun x y => decide (x = y)) hl h h2]
  congr 1
  by_cases e : a = b
  · rw [if_pos e, if_pos ((zip_eq hl).2 e)]
  · rw [if_neg e, if_neg (fun h => e ((zip_eq hl).1 h))]
end
theorem ne_len {α : Type} {a b : List α} (h : ¬ a.length = b.length) : ¬ a = b := fun e => h (by rw [e])
/-! ### Copies -/
abbrev maxB : Nat := 140737488355328
def okPlan (p : GPlan) : Prop := p.Pages.length * 24 ≤ maxB ∧ p.Procs.length * 24 ≤ maxB ∧ p.Ports.length * 32 ≤ maxB ∧ p.Sems.length * 8 ≤ maxB
def okConf (c : GConfig) : Prop := c.Parts.length * 120 ≤ maxB ∧ c.Homes.length * 8 ≤ maxB ∧ c.Windows.length * 24 ≤ maxB ∧ c.Links.length * 32 ≤ maxB ∧ ∀ p ∈ c.Parts, okPlan p
theorem r10_Copy (p : GPlan) (h : okPlan p) : g_r10_Copy p = some p := by
  obtain ⟨h1, h2, h3, h4⟩ := h
  simp only [maxB] at *
  simp only [g_r10_Copy, List.nil_append, List.length_nil, Nat.zero_add, chk, h1, h2, h3, h4, if_true]
theorem r14_Copy (c : GConfig) (h : okConf c) : g_r14_Copy c = some c := by
  obtain ⟨h1, h2, h3, h4, h5⟩ := h
  simp only [maxB] at *
  have hL := iter_fold (L := g_r14_Copy_L1 c) (l := c.Parts) (g := fun z x => z ++ [x]) (I := fun z i => z.length = i) (z := []) rfl (fun i x z hi hx hI => ⟨by
    have hx5 := h5 x (List.mem_of_getElem? hx)
    have hz : (z.length + 1) * 120 ≤ 140737488355328 := by
      have := Nat.mul_le_mul_right 120 (show z.length + 1 ≤ c.Parts.length by omega); omega
    simp only [g_r14_Copy_L1, hi, hx, decide_true, cond_true, Option.bind_some, r10_Copy x hx5, chk, hz, if_true], by simp [hI]⟩) (fun z _ => by simp [g_r14_Copy_L1])
  have e : c.Parts.foldl (fun z x => z ++ [x]) [] = c.Parts := by
    have key : ∀ (l z : List GPlan), l.foldl (fun z x => z ++ [x]) z = z ++ l := by
      intro l
      induction l with
      | nil => intro z; simp
      | cons x r ih => intro z; rw [List.foldl_cons, ih]; simp
    simpa using key c.Parts []
  rw [e] at hL
  simp only [g_r14_Copy, hL.1, Option.bind_some, List.nil_append, List.length_nil, Nat.zero_add, chk, h2, h3, h4, if_true]
/-! ### Windows, sums, the next tick -/
def winsOf (c : GConfig) (p : Int) : List GWindow := c.Windows.filter fun w => decide (w.Part = p)
def sWindows (c : GConfig) (p : Int) : List GWindow × ErrM := if sCheck c ≠ .nil then ([], .v gPlan) else if ¬ own c p then ([], .v gArg) else (winsOf c p, .nil)
theorem sCheck_parts {c : GConfig} (h : sCheck c = .nil) : ¬ badTicks c ∧ sParts c = .nil ∧ sWins c = .nil ∧ sLinks c = .nil := by
  unfold sCheck orE at h
  by_cases c0 : badTicks c
  · rw [if_pos c0] at h; cases h
  rw [if_neg c0] at h
  by_cases c1 : sParts c = .nil
  · rw [if_pos c1] at h
    by_cases c2 : sWins c = .nil
    · rw [if_pos c2] at h; exact ⟨c0, c1, c2, h⟩
    · rw [if_neg c2] at h; exact absurd h c2
  · rw [if_neg c1] at h; exact absurd h c1
theorem filter_fold {α : Type} (b : α → Bool) : ∀ (l z : List α), l.foldl (fun z x => if b x = true then z ++ [x] else z) z = z ++ l.filter b
  | [], z => by simp
  | x :: r, z => by
    rw [List.foldl_cons, filter_fold b r]
    rcases Bool.eq_false_or_eq_true (b x) with h | h <;> simp [h, List.filter_cons]
theorem frame_Windows (c : GConfig) (p : Int) : g_frame_Windows c p = some (sWindows c p) := by
  simp only [g_frame_Windows, frame_Check, frame_owner, Option.bind_some, Bool.cond_eq_ite, Bool.not_eq_true', decide_eq_false_iff_not, sWindows]
  by_cases c1 : sCheck c = .nil
  · have hl := sWins_short (sCheck_parts c1).2.2.1
    by_cases c2 : own c p
    · have h := iter_fold (L := g_frame_Windows_L4 c p) (l := c.Windows) (g := fun z x => if decide (x.Part = p) = true then z ++ [x] else z) (I := fun z i => z.length ≤ i) (z := []) (Nat.le_refl _) (fun i x z hi hx hI => ⟨by
        have hz : (z.length + [x].length) * 24 ≤ 140737488355328 := by
          simp only [List.length_cons, List.length_nil]
          have := Nat.mul_le_mul_right 24 (show z.length + 1 ≤ 32 by omega); omega
        simp only [g_frame_Windows_L4, g_frame_Windows_J3, hi, hx, decide_true, cond_true, Option.bind_some, chk, hz, if_true]
        by_cases e : x.Part = p <;> simp [e], by
        by_cases e : x.Part = p <;> simp [e] <;> omega⟩) (fun z _ => by simp [g_frame_Windows_L4])
      rw [filter_fold] at h
      simp only [c1, c2, not_true_eq_false, if_false, h.1, Option.bind_some, List.nil_append, ne_eq]; rfl
    · simp only [c1, c2, not_true_eq_false, not_false_eq_true, if_false, if_true, ne_eq]
  · simp only [c1, not_false_eq_true, if_true, ne_eq]
def wsum (l : List GWindow) : Int := l.foldl (fun z x => IntKind.i64.wrap (z + x.Len)) 0
theorem frame_sum (l : List GWindow) : g_frame_sum l = some (wsum l) := by
  have h := iter_fold (L := g_frame_sum_L1 l) (l := l) (g := fun z x => IntKind.i64.wrap (z + x.Len)) (I := fun _ _ => True) (z := 0) trivial (fun i x z hi hx _ => ⟨by
    simp only [g_frame_sum_L1, hi, hx, decide_true, cond_true, Option.bind_some], trivial⟩) (fun z _ => by simp [g_frame_sum_L1])
  simp only [g_frame_sum, h.1, Option.bind_some]; rfl
theorem frame_Load (c : GConfig) (p : Int) : g_frame_Load c p = some (wsum (sWindows c p).1, (sWindows c p).2) := by
  simp only [g_frame_Load, frame_Windows, frame_sum, Option.bind_some]
def nextE (t : Int) (_ : Nat) (x : GWindow) : Option (Int × ErrM) := if t < IntKind.i64.wrap (x.Start + x.Len) then some (if x.Start > t then x.Start else t, .nil) else none
def sNext (c : GConfig) (p t : Int) : Int × ErrM := if (sWindows c p).2 ≠ .nil then (0, (sWindows c p).2) else if t < 0 ∨ c.Ticks ≤ t then (0, .v gArg) else (firstE (nextE t) 0 (sWindows c p).1).getD (0, .v gNone)
theorem frame_Next (c : GConfig) (p t : Int) : g_frame_Next c p t = some (sNext c p t) := by
  have h := iter_list (L := g_frame_Next_L1 t (sWindows c p)) (l := (sWindows c p).1) (f := nextE t) (fun i x hi hx => by
    simp only [g_frame_Next_L1, hi, hx, decide_true, cond_true, Option.bind_some, nextE]
    by_cases e : t < IntKind.i64.wrap (x.Start + x.Len) <;> simp [e, nxt_some, nxt_none]) (by simp [g_frame_Next_L1])
  simp only [g_frame_Next, frame_Windows, h, Option.bind_some, Bool.cond_eq_ite, Bool.not_eq_true', decide_eq_false_iff_not, Bool.or_eq_true, decide_eq_true_eq, sNext, ne_eq]
  by_cases c1 : (sWindows c p).2 = .nil
  · by_cases c2 : t < 0 ∨ c.Ticks ≤ t
    · simp only [c1, c2, not_true_eq_false, if_false, if_true]
    · simp only [c1, c2, not_true_eq_false, if_false]
      cases firstE (nextE t) 0 (sWindows c p).1 <;> rfl
  · simp only [c1, not_false_eq_true, if_true]
/-! ### Carry -/
def rowAt (out : List (List GMsg)) (p : Int) : List GMsg := (out[p.toNat]?).getD []
def carryRow (x : GLink) (out : List (List GMsg)) (m : GMsg) : List (List GMsg) := if m.Port = x.Out then out.set x.To.toNat (rowAt out x.To ++ [⟨x.In, m.Data⟩]) else out
def isHere (here : List Bool) (p : Int) : Bool := (here[p.toNat]?).getD false
def carryLink (here : List Bool) (em : List (List GMsg)) (out : List (List GMsg)) (x : GLink) : List (List GMsg) :=
  if isHere here x.From = true ∧ isHere here x.To = true then (rowAt em x.From).foldl (carryRow x) out else out
def sCarry (c : GConfig) (here : List Bool) (em : List (List GMsg)) : List (List GMsg) := c.Links.foldl (carryLink here em) (List.replicate c.Parts.length [])
theorem links_ok {c : GConfig} (h : sCheck c = .nil) : c.Links.length ≤ 16 ∧ ∀ l ∈ c.Links, there c l.From ∧ there c l.To := by
  have h4 := (sCheck_parts h).2.2.2
  have h0 : sLinks0 c = .nil := by
    unfold sLinks orE at h4
    by_cases c1 : sLinks0 c = .nil
    · exact c1
    · rw [if_neg c1] at h4; exact absurd h4 c1
  unfold sLinks0 at h0
  by_cases c1 : 16 < c.Links.length
  · rw [if_pos c1] at h0; cases h0
  rw [if_neg c1] at h0
  refine ⟨by omega, ?_⟩
  have key : ∀ (l : List GLink) k, orN (firstE (sLink c) k l) = .nil → ∀ x ∈ l, there c x.From ∧ there c x.To := by
    intro l
    induction l with
    | nil => intro k _ x hx; cases hx
    | cons y r ih =>
      intro k hk x hx
      cases hy : sLink c k y with
      | some e =>
        simp only [firstE, hy, orN, Option.getD_some] at hk
        exact absurd hk (sLink_no c _ _ _ hy)
      | none =>
        rcases List.mem_cons.1 hx with rfl | hx
        · unfold sLink at hy
          by_cases e1 : there c x.From
          · by_cases e2 : there c x.To
            · exact ⟨e1, e2⟩
            · rw [if_pos (.inr (.inl e2))] at hy; cases hy
          · rw [if_pos (.inl e1)] at hy; cases hy
        · simp only [firstE, hy] at hk
          exact ih _ hk x hx
  exact key _ _ h0
def rowsLe (out : List (List GMsg)) (k : Nat) : Prop := ∀ r ∈ out, r.length ≤ k
theorem rowAt_le {out : List (List GMsg)} {k : Nat} (h : rowsLe out k) (p : Int) : (rowAt out p).length ≤ k := by
  unfold rowAt
  cases hp : out[p.toNat]? with
  | none => exact Nat.zero_le _
  | some r => exact h r (List.mem_of_getElem? hp)
theorem carryRow_len (x : GLink) (out : List (List GMsg)) (m : GMsg) : (carryRow x out m).length = out.length := by
  unfold carryRow; split <;> simp
theorem carryRow_le {x : GLink} {out : List (List GMsg)} {m : GMsg} {k : Nat} (h : rowsLe out k) : rowsLe (carryRow x out m) (k + 1) := by
  unfold carryRow
  split
  · intro r hr
    rcases List.mem_or_eq_of_mem_set hr with hr | rfl
    · exact Nat.le_succ_of_le (h r hr)
    · have := rowAt_le h x.To; simp; exact this
  · exact fun r hr => Nat.le_succ_of_le (h r hr)
theorem rdI_row {out : List (List GMsg)} {p : Int} (h0 : 0 ≤ p) (h1 : p < out.length) : rdI out p = some (rowAt out p) := by
  have hz : p.toNat < out.length := by omega
  simp [rdI, h0, rowAt, List.getElem?_eq_getElem hz]
theorem rdI_here {out : List Bool} {p : Int} (h0 : 0 ≤ p) (h1 : p < out.length) : rdI out p = some (isHere out p) := by
  have hz : p.toNat < out.length := by omega
  simp [rdI, h0, isHere, List.getElem?_eq_getElem hz]
theorem frame_Carry {c : GConfig} {here : List Bool} {em : List (List GMsg)} (h : sCheck c = .nil) (h1 : here.length = c.Parts.length) (h2 : em.length = c.Parts.length) (hs : rowsLe em 1048576) :
    g_frame_Carry c here em = some (sCarry c here em, .nil) := by
  obtain ⟨hl, hk⟩ := links_ok h
  have hn : c.Parts.length ≤ 8 := by
    have := (sCheck_parts h).2.1
    unfold sParts at this
    by_cases c1 : c.Parts.length < 1 ∨ 8 < c.Parts.length
    · rw [if_pos c1] at this; cases this
    · omega
  have hL := iter_fold (L := g_frame_Carry_L58 c here em) (l := c.Links) (g := carryLink here em) (I := fun z i => z.length = c.Parts.length ∧ rowsLe z (i * 1048576)) (z := List.replicate c.Parts.length [])
    ⟨by simp, fun r hr => by rw [List.eq_of_mem_replicate hr]; simp⟩ (fun i x z hi hx hI => by
      obtain ⟨hz, hle⟩ := hI
      obtain ⟨k1, k2⟩ := hk x (List.mem_of_getElem? hx)
      have e1 := rdI_here (out := here) k1.1 (by rw [h1]; exact k1.2)
      have e2 := rdI_here (out := here) k2.1 (by rw [h1]; exact k2.2)
      have e3 := rdI_row (out := em) k1.1 (by rw [h2]; exact k1.2)
      have hem := rowAt_le hs x.From
      have hin := iter_fold (L := g_frame_Carry_L55 x (rowAt em x.From)) (l := rowAt em x.From) (g := carryRow x) (I := fun y j => y.length = c.Parts.length ∧ rowsLe y (i * 1048576 + j)) (z := z) ⟨hz, by rw [Nat.add_zero]; exact hle⟩ (fun j m y hj hm hJ => ⟨by
          have e4 := rdI_row (out := y) k2.1 (by rw [hJ.1]; exact k2.2)
          have e5 : (rowAt y x.To).length ≤ i * 1048576 + j := rowAt_le hJ.2 x.To
          have e6 : ((rowAt y x.To).length + [(⟨x.In, m.Data⟩ : GMsg)].length) * 24 ≤ 140737488355328 := by
            simp only [List.length_cons, List.length_nil]
            have : (rowAt y x.To).length + 1 ≤ 17 * 1048576 := by omega
            have := Nat.mul_le_mul_right 24 this
            omega
          simp only [g_frame_Carry_L55, g_frame_Carry_J54, hj, hm, decide_true, cond_true, Option.bind_some, e4, chk, e6, if_true, carryRow]
          by_cases e : m.Port = x.Out <;> simp [e], ⟨by rw [carryRow_len]; exact hJ.1, by rw [← Nat.add_assoc]; exact carryRow_le hJ.2⟩⟩) (fun y _ => by simp [g_frame_Carry_L55])
      refine ⟨?_, ?_, ?_⟩
      · simp only [g_frame_Carry_L58, g_frame_Carry_J57, g_frame_Carry_J56, hi, hx, decide_true, cond_true, Option.bind_some, e1, e2, e3, carryLink]
        rcases Bool.eq_false_or_eq_true (isHere here x.From) with c1 | c1 <;> rcases Bool.eq_false_or_eq_true (isHere here x.To) with c2 | c2 <;> simp [c1, c2, hin.1]
      · unfold carryLink; split
        · exact hin.2.1
        · exact hz
      · unfold carryLink; split
        · intro r hr
          have := hin.2.2 r hr
          rw [Nat.succ_mul]; exact Nat.le_trans this (Nat.add_le_add_left hem _)
        · intro r hr
          have := hle r hr
          rw [Nat.succ_mul]; exact Nat.le_trans this (Nat.le_add_right _ _)) (fun z _ => by simp [g_frame_Carry_L58])
  have hm : c.Parts.length * 24 ≤ 140737488355328 := by omega
  simp only [g_frame_Carry, frame_Check, h, h1, h2, hL.1, Option.bind_some, decide_true, Bool.not_true, cond_false, Bool.or_self, chk, hm, if_true]
  rfl
/-! ### The fixed answers -/
def small : GConfig := ⟨100, [(⟨0, false, [(⟨5, ⟨#[]⟩⟩ : GPagePlan)], [(⟨0, 0, false⟩ : GProcPlan)], [(⟨4, 4, 2, 0⟩ : GPortPlan)], 0, ([] : List Int)⟩ : GPlan), (⟨1, false, [(⟨5, ⟨#[]⟩⟩ : GPagePlan)], [(⟨0, 0, false⟩ : GProcPlan)], [(⟨3, 4, 2, 0⟩ : GPortPlan)], 0, ([] : List Int)⟩ : GPlan)], [0, 0], [(⟨0, 0, 40⟩ : GWindow), (⟨(-1), 50, 10⟩ : GWindow), (⟨1, 60, 20⟩ : GWindow), (⟨0, 80, 20⟩ : GWindow)], [(⟨0, 0, 1, 0⟩ : GLink)], 5⟩
theorem small_check : sCheck small = .nil := by kernel_rfl
theorem small_load : (wsum (sWindows small 0).1, (sWindows small 0).2) = (60, .nil) := by kernel_rfl
theorem small_next : sNext small 0 40 = (80, .nil) := by kernel_rfl
theorem small_carry : sCarry small [true, true] [[(⟨0, ⟨#[97]⟩⟩ : GMsg)], ([] : List GMsg)] = [[], [⟨0, ⟨#[97]⟩⟩]] := by kernel_rfl
theorem small_short : sCheck ⟨99, small.Parts, small.Homes, small.Windows, small.Links, small.Tries⟩ = .pl 3 gRange := by kernel_rfl
theorem law14_fixed : g_law14_fixed = some true := by
  have e0 : g_law14_small = some small := rfl
  have e1 := frame_Carry (c := small) (here := [true, true]) (em := [[(⟨0, ⟨#[97]⟩⟩ : GMsg)], ([] : List GMsg)]) small_check rfl rfl (fun r hr => by
    rcases List.mem_cons.1 hr with rfl | hr
    · simp
    · rw [List.mem_singleton.1 hr]; simp)
  rw [small_carry] at e1
  have e2 : g_frame_Load small 0 = some (60, .nil) := by rw [frame_Load, small_load]
  have e3 : g_frame_Next small 0 40 = some (80, .nil) := by rw [frame_Next, small_next]
  have e4 : g_frame_Check small = some .nil := by rw [frame_Check, small_check]
  have e5 : g_frame_Check ⟨99, small.Parts, small.Homes, small.Windows, small.Links, small.Tries⟩ = some (.pl 3 gRange) := by rw [frame_Check, small_short]
  simp only [g_law14_fixed, g_law14_fixed_J4, g_law14_fixed_J3, e0, e1, e2, e3, e4, e5, Option.bind_some]
  have c4 : (ErrM.pl 3 gRange).code = 4 := by rw [cPl, cRange]
  simp [c4, pPl]
end Go.Proofs.YtjoihegnjjjdaaaGreatDoor
