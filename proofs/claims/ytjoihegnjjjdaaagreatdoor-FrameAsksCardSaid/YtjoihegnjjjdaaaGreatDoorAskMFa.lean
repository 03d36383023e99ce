/- FrameAsks: windows, boots, ticks, loads, joined, as the program and the document have them. -/
import Derived.Test.YtjoihegnjjjdaaaGreatDoorAskLFa
set_option linter.unusedVariables false
set_option linter.unusedSimpArgs false
set_option linter.unusedSectionVars false
namespace Go.Proofs.YtjoihegnjjjdaaaGreatDoor
open Go Go.RowKit

theorem r14_Good (c : GConfig) : g_r14_Good c = some (decide (sCheck c = .nil)) := by
  have : ((eR14 (sCheck c)).Code = 0) = (sCheck c = .nil) := propext code_zero
  simp only [g_r14_Good, r14_Check, Option.bind_some, this]
theorem frame_Idle (c : GConfig) : g_frame_Idle c = some (if sCheck c ≠ .nil then (0, .v gPlan) else (IntKind.i64.wrap (c.Ticks - wsum c.Windows), .nil)) := by
  simp only [g_frame_Idle, frame_Check, frame_sum, Option.bind_some]
  by_cases c1 : sCheck c = .nil
  · simp [c1]
  · simp [c1]
theorem frame_At (c : GConfig) (t : Int) : g_frame_At c t = some (sAt c t) := by
  have h := iter_list (L := g_frame_At_L1 c t) (l := c.Windows) (f := atE t) (fun i x hi hx => by
    simp only [g_frame_At_L1, hi, hx, decide_true, cond_true, Option.bind_some, atE]
    by_cases e1 : x.Start ≤ t <;> by_cases e2 : t < IntKind.i64.wrap (x.Start + x.Len) <;> simp [e1, e2, nxt_some, nxt_none]) (by simp [g_frame_At_L1])
  simp only [g_frame_At, frame_Check, h, Option.bind_some, sAt]
  by_cases c1 : sCheck c = .nil
  · by_cases c2 : t < 0
    · simp [c1, c2]
    · by_cases c3 : c.Ticks ≤ t
      · simp [c1, c2, c3]
      · simp only [c1, c2, c3, decide_true, decide_false, Bool.not_true, cond_false, Bool.or_self, ne_eq, not_true_eq_false, if_false, or_self]
        cases firstE (atE t) 0 c.Windows <;> rfl
  · simp [c1]
/-! ### The document's owners -/
def ownTo (c : GConfig) (k : Nat) : List Int := (List.range c.Ticks.toNat).map fun t => if t < k then ownerOf c.Windows (t : Int) else 0
theorem ownTo_len (c : GConfig) (k : Nat) : (ownTo c k).length = c.Ticks.toNat := by simp [ownTo]
theorem ownTo_zero (c : GConfig) : ownTo c 0 = List.replicate c.Ticks.toNat 0 := by
  unfold ownTo; simp [List.map_const']
theorem ownTo_set (c : GConfig) (k : Nat) (hk : k < c.Ticks.toNat) : (ownTo c k).set k (ownerOf c.Windows (k : Int)) = ownTo c (k + 1) := by
  apply List.ext_getElem?
  intro i
  by_cases hi : i < c.Ticks.toNat
  · by_cases e : i = k
    · subst e
      rw [List.getElem?_set_self (by rw [ownTo_len]; exact hk)]
      simp [ownTo, hi]
    · rw [List.getElem?_set_ne (fun h => e h.symm)]
      simp only [ownTo, List.getElem?_map, List.getElem?_range hi, Option.map_some]
      by_cases g : i < k
      · have : i < k + 1 := by omega
        simp [g, this]
      · have : ¬ i < k + 1 := by omega
        simp [g, this]
  · rw [List.getElem?_eq_none (by rw [List.length_set, ownTo_len]; omega), List.getElem?_eq_none (by rw [ownTo_len]; omega)]
theorem owner_loop {c : GConfig} (h : sCheck c = .nil) (l : List Int) (k : Nat) (hk : k < l.length) :
    iter (g_r14_Owners_L16 c (k : Int)) (l.set k (-2), 0) = some (l.set k (ownerOf c.Windows (k : Int))) := by
  obtain ⟨t1, t2⟩ := ticks_ok h
  have hf := iter_fold (L := g_r14_Owners_L16 c (k : Int)) (l := c.Windows) (g := fun (z : List Int) x => if covers (k : Int) x = true then z.set k x.Part else z) (I := fun z _ => z.length = l.length) (z := l.set k (-2)) (by simp) (fun i x z hi hx hI => ⟨by
    obtain ⟨_, w1, w2, w3, _⟩ := wins_ok h i x hx
    have hw : IntKind.i64.wrap (x.Start + x.Len) = x.Start + x.Len := wrapS (by omega) (by omega)
    have hc : (decide (x.Start ≤ (k : Int)) && decide ((k : Int) < x.Start + x.Len)) = covers (k : Int) x := rfl
    obtain ⟨y, hy⟩ := rdI_at (l := z) (z := (k : Int)) (by omega) (by rw [hI]; omega)
    simp only [g_r14_Owners_L16, g_r14_Owners_J15, hi, hx, hw, hc, hy, decide_true, cond_true, Option.bind_some, Int.toNat_natCast]
    rcases Bool.eq_false_or_eq_true (covers (k : Int) x) with e | e <;> simp [e], by
    rcases Bool.eq_false_or_eq_true (covers (k : Int) x) with e | e <;> simp [e, hI]⟩) (fun z _ => by simp [g_r14_Owners_L16])
  rw [hf.1]
  congr 1
  have key : ∀ (ws : List GWindow) (v : Int), ws.foldl (fun (z : List Int) x => if covers (k : Int) x = true then z.set k x.Part else z) (l.set k v) = l.set k (ws.foldl (ownStep (k : Int)) v) := by
    intro ws
    induction ws with
    | nil => intro v; rfl
    | cons x r ih =>
      intro v
      rw [List.foldl_cons, List.foldl_cons, ← ih]
      congr 1
      unfold ownStep
      split
      · rw [List.set_set]
      · rfl
  exact key c.Windows (-2)
theorem r14_Owners {c : GConfig} (h : sCheck c = .nil) : g_r14_Owners c = some (ownTo c c.Ticks.toNat) := by
  obtain ⟨t1, t2⟩ := ticks_ok h
  have hT : ((c.Ticks.toNat : Nat) : Int) = c.Ticks := Int.toNat_of_nonneg (by omega)
  have key : ∀ m k, k + m = c.Ticks.toNat → iter (g_r14_Owners_L17 c) (ownTo c k, (k : Int)) = some (ownTo c c.Ticks.toNat) := by
    intro m
    induction m with
    | zero =>
      intro k hk
      obtain rfl : k = c.Ticks.toNat := by omega
      have hn : ¬ ((c.Ticks.toNat : Nat) : Int) < c.Ticks := by omega
      exact iter_inr (by simp only [g_r14_Owners_L17, hn, decide_false, cond_false])
    | succ m ih =>
      intro k hk
      have hlt : k < c.Ticks.toNat := by omega
      have hlt' : ((k : Nat) : Int) < c.Ticks := by omega
      obtain ⟨y, hy⟩ := rdI_at (l := ownTo c k) (z := (k : Int)) (by omega) (by rw [ownTo_len]; omega)
      have hw : IntKind.i64.wrap ((k : Int) + 1) = ((k + 1 : Nat) : Int) := by rw [wrapS (by omega) (by omega)]; rfl
      have hs : g_r14_Owners_L17 c (ownTo c k, (k : Int)) = some (.inl (ownTo c (k + 1), ((k + 1 : Nat) : Int))) := by
        simp only [g_r14_Owners_L17, hlt', hy, hw, decide_true, cond_true, Option.bind_some, Int.toNat_natCast, owner_loop h (ownTo c k) k (by rw [ownTo_len]; exact hlt), ownTo_set c k hlt]
      rw [iter_inl hs]
      exact ih (k + 1) (by omega)
  have h0 := key c.Ticks.toNat 0 (Nat.zero_add _)
  rw [ownTo_zero] at h0
  have g1 : 0 ≤ c.Ticks := by omega
  have g2 : c.Ticks.toNat * 8 ≤ 140737488355328 := by omega
  simp only [g_r14_Owners, chk, g1, g2, if_true]
  exact (congrArg (fun o => Option.bind o fun l => some l) h0)
theorem own_at (c : GConfig) {t : Int} (h0 : 0 ≤ t) (h1 : t < c.Ticks) : rdI (ownTo c c.Ticks.toNat) t = some (ownerOf c.Windows t) := by
  have hlt : t.toNat < c.Ticks.toNat := by omega
  unfold rdI
  rw [if_pos h0]
  simp only [ownTo, List.getElem?_map, List.getElem?_range hlt, Option.map_some, hlt, if_true]
  rw [Int.toNat_of_nonneg h0]
theorem countP_snoc (q : Int → Bool) : ∀ (m : Nat) (t : Int), countP q t (m + 1) = countP q t m + (if q (t + m) = true then 1 else 0)
  | 0, t => by simp [countP]
  | m + 1, t => by
    have ih := countP_snoc q m (t + 1)
    rw [countP, ih, countP, show t + 1 + (m : Int) = t + ((m + 1 : Nat) : Int) by omega]; omega
theorem r14_ticks {c : GConfig} (h : sCheck c = .nil) (p : Int) : g_r14_ticks c p = some (countP (fun s => decide (ownerOf c.Windows s = p)) 0 c.Ticks.toNat) := by
  obtain ⟨t1, t2⟩ := ticks_ok h
  have key : ∀ m k, k + m = c.Ticks.toNat → iter (g_r14_ticks_L5 p (ownTo c c.Ticks.toNat)) (countP (fun s => decide (ownerOf c.Windows s = p)) 0 k, k) = some (countP (fun s => decide (ownerOf c.Windows s = p)) 0 c.Ticks.toNat) := by
    intro m
    induction m with
    | zero =>
      intro k hk
      obtain rfl : k = c.Ticks.toNat := by omega
      exact iter_inr (by simp only [g_r14_ticks_L5, ownTo_len, Nat.lt_irrefl, decide_false, cond_false])
    | succ m ih =>
      intro k hk
      have hlt : k < c.Ticks.toNat := by omega
      have hx : (ownTo c c.Ticks.toNat)[k]? = some (ownerOf c.Windows (k : Int)) := by
        simp only [ownTo, List.getElem?_map, List.getElem?_range hlt, Option.map_some, hlt, if_true]
      have hle := count_le (fun s => decide (ownerOf c.Windows s = p)) k 0
      have hw : IntKind.i64.wrap (countP (fun s => decide (ownerOf c.Windows s = p)) 0 k + 1) = countP (fun s => decide (ownerOf c.Windows s = p)) 0 k + 1 := wrapS (by omega) (by omega)
      have hsn := countP_snoc (fun s => decide (ownerOf c.Windows s = p)) k 0
      rw [Int.zero_add] at hsn
      have hs : g_r14_ticks_L5 p (ownTo c c.Ticks.toNat) (countP (fun s => decide (ownerOf c.Windows s = p)) 0 k, k) = some (.inl (countP (fun s => decide (ownerOf c.Windows s = p)) 0 (k + 1), k + 1)) := by
        simp only [g_r14_ticks_L5, g_r14_ticks_J4, ownTo_len, hlt, hx, hw, decide_true, cond_true, Option.bind_some]
        rw [hsn]
        by_cases e : ownerOf c.Windows (k : Int) = p <;> simp [e]
      rw [iter_inl hs]
      exact ih (k + 1) (by omega)
  have h0 := key c.Ticks.toNat 0 (Nat.zero_add _)
  simp only [g_r14_ticks, r14_Owners h, Option.bind_some]
  exact (congrArg (fun o => Option.bind o fun l => some l) h0)
/-- An answer and the document's: the same, the error told by its number, no place. -/
def agree {α : Type} (a : α × ErrM) : α × Int := (a.1, a.2.code)
theorem law14_same (e : ErrM) (hp : e.place = -1) : g_law14_same e e.code = some true := by
  simp [g_law14_same, hp]
def sIdle (c : GConfig) : Int × ErrM := if sCheck c ≠ .nil then (0, .v gPlan) else (c.Ticks - lsum c.Windows, .nil)
theorem frame_IdleS (c : GConfig) : g_frame_Idle c = some (sIdle c) := by
  rw [frame_Idle]; unfold sIdle
  by_cases h : sCheck c = .nil
  · obtain ⟨t1, t2⟩ := ticks_ok h
    have hs := sorted_wins h
    have := lsum_le hs
    rw [if_neg (by simpa using h), if_neg (by simpa using h), wsum_eq hs t2, wrapS (by omega) (by omega)]
  · rw [if_pos h, if_pos h]
theorem r14_IdleS (c : GConfig) : g_r14_Idle c = some (agree (sIdle c)) := by
  unfold sIdle agree
  by_cases h : sCheck c = .nil
  · simp only [g_r14_Idle, r14_Good, h, r14_ticks h, idle_count h, decide_true, Bool.not_true, cond_false, Option.bind_some, ne_eq, not_true_eq_false, if_false, cNil]
  · simp only [g_r14_Idle, r14_Good, h, decide_false, Bool.not_false, cond_true, Option.bind_some, ne_eq, not_false_eq_true, if_true, cPlan]
/-! ### Boots -/
def bootsOf : Nat → List Int → Int → List Int
  | _, [], _ => []
  | k, x :: r, m => (if x = m then [((k : Nat) : Int)] else []) ++ bootsOf (k + 1) r m
theorem boots_snoc (m x : Int) : ∀ (l : List Int) (k : Nat), bootsOf k (l ++ [x]) m = bootsOf k l m ++ (if x = m then [((k + l.length : Nat) : Int)] else [])
  | [], k => by simp [bootsOf]
  | y :: r, k => by
    have ih := boots_snoc m x r (k + 1)
    rw [List.cons_append, bootsOf, ih, bootsOf, List.append_assoc, List.length_cons, show k + 1 + r.length = k + (r.length + 1) by omega]
theorem boots_len (m : Int) : ∀ (l : List Int) (k : Nat), (bootsOf k l m).length ≤ l.length
  | [], _ => Nat.le_refl _
  | y :: r, k => by
    have := boots_len m r (k + 1)
    rw [bootsOf, List.length_append, List.length_cons]; split <;> simp <;> omega
theorem homes_short {c : GConfig} (h : sCheck c = .nil) : c.Homes.length ≤ 8 := by
  have := (sCheck_parts h).2.1
  unfold sParts at this
  by_cases c1 : c.Parts.length < 1 ∨ 8 < c.Parts.length
  · rw [if_pos c1] at this; cases this
  rw [if_neg c1] at this
  have h2 := (orE_nils this).2
  by_cases c2 : c.Homes.length ≠ c.Parts.length
  · rw [if_pos c2] at h2; cases h2
  · omega
theorem boots_step (l : List Int) (m : Int) (k : Nat) (hl : l.length ≤ 8) (hk : k < l.length) : ((bootsOf 0 (l.take k) m).length + [((k : Nat) : Int)].length) * 8 ≤ 140737488355328 := by
  have := boots_len m (l.take k) 0
  rw [List.length_take] at this
  simp only [List.length_cons, List.length_nil]; omega
theorem take_oneA {α : Type} {l : List α} {i : Nat} {x : α} (h : l[i]? = some x) : l.take (i + 1) = l.take i ++ [x] := by rw [List.take_add_one, h]; rfl
theorem frame_boots {c : GConfig} (h : sCheck c = .nil) (m : Int) : iter (g_frame_Boots_L4 c m) (([] : List Int), 0) = some (bootsOf 0 c.Homes m) := by
  have hl := homes_short h
  have key : ∀ n k, k + n = c.Homes.length → iter (g_frame_Boots_L4 c m) (bootsOf 0 (c.Homes.take k) m, k) = some (bootsOf 0 c.Homes m) := by
    intro n
    induction n with
    | zero =>
      intro k hk
      obtain rfl : k = c.Homes.length := by omega
      rw [List.take_length]
      exact iter_inr (by simp [g_frame_Boots_L4])
    | succ n ih =>
      intro k hk
      have hlt : k < c.Homes.length := by omega
      have hx : c.Homes[k]? = some c.Homes[k] := List.getElem?_eq_getElem hlt
      have hc := boots_step c.Homes m k hl hlt
      have hs : g_frame_Boots_L4 c m (bootsOf 0 (c.Homes.take k) m, k) = some (.inl (bootsOf 0 (c.Homes.take (k + 1)) m, k + 1)) := by
        rw [take_oneA hx, boots_snoc, List.length_take, Nat.min_eq_left (by omega), Nat.zero_add]
        simp only [g_frame_Boots_L4, g_frame_Boots_J3, hlt, hx, decide_true, cond_true, Option.bind_some, chk, hc, if_true]
        by_cases e : c.Homes[k] = m <;> simp [e]
      rw [iter_inl hs]
      exact ih (k + 1) (by omega)
  have h0 := key c.Homes.length 0 (Nat.zero_add _)
  rw [List.take_zero] at h0
  exact h0
theorem r14_boots {c : GConfig} (h : sCheck c = .nil) (m : Int) : iter (g_r14_Boots_L4 c m) (([] : List Int), 0) = some (bootsOf 0 c.Homes m) := by
  have hl := homes_short h
  have key : ∀ n k, k + n = c.Homes.length → iter (g_r14_Boots_L4 c m) (bootsOf 0 (c.Homes.take k) m, k) = some (bootsOf 0 c.Homes m) := by
    intro n
    induction n with
    | zero =>
      intro k hk
      obtain rfl : k = c.Homes.length := by omega
      rw [List.take_length]
      exact iter_inr (by simp [g_r14_Boots_L4])
    | succ n ih =>
      intro k hk
      have hlt : k < c.Homes.length := by omega
      have hx : c.Homes[k]? = some c.Homes[k] := List.getElem?_eq_getElem hlt
      have hc := boots_step c.Homes m k hl hlt
      have hs : g_r14_Boots_L4 c m (bootsOf 0 (c.Homes.take k) m, k) = some (.inl (bootsOf 0 (c.Homes.take (k + 1)) m, k + 1)) := by
        rw [take_oneA hx, boots_snoc, List.length_take, Nat.min_eq_left (by omega), Nat.zero_add]
        simp only [g_r14_Boots_L4, g_r14_Boots_J3, hlt, hx, decide_true, cond_true, Option.bind_some, chk, hc, if_true]
        by_cases e : c.Homes[k] = m <;> simp [e]
      rw [iter_inl hs]
      exact ih (k + 1) (by omega)
  have h0 := key c.Homes.length 0 (Nat.zero_add _)
  rw [List.take_zero] at h0
  exact h0
def sBoots (c : GConfig) (m : Int) : List Int × ErrM := if sCheck c ≠ .nil then ([], .v gPlan) else if m ≠ 0 ∧ m ≠ 1 then ([], .v gArg) else (bootsOf 0 c.Homes m, .nil)
theorem frame_BootsS (c : GConfig) (m : Int) : g_frame_Boots c m = some (sBoots c m) := by
  unfold sBoots
  by_cases h : sCheck c = .nil
  · by_cases h0 : m = 0
    · subst h0
      simp [g_frame_Boots, frame_Check, h, frame_boots h]
    · by_cases h1 : m = 1
      · subst h1
        simp [g_frame_Boots, frame_Check, h, frame_boots h]
      · simp [g_frame_Boots, frame_Check, h, h0, h1]
  · simp [g_frame_Boots, frame_Check, h]
theorem r14_BootsS (c : GConfig) (m : Int) : g_r14_Boots c m = some (agree (sBoots c m)) := by
  unfold sBoots agree
  by_cases h : sCheck c = .nil
  · by_cases h0 : m = 0
    · subst h0
      simp [g_r14_Boots, r14_Good, h, r14_boots h, cNil]
    · by_cases h1 : m = 1
      · subst h1
        simp [g_r14_Boots, r14_Good, h, r14_boots h, cNil]
      · simp [g_r14_Boots, r14_Good, h, h0, h1, cArg]
  · simp [g_r14_Boots, r14_Good, h, cPlan]
/-! ### Windows -/
theorem r14_WindowsS (c : GConfig) (p : Int) : g_r14_Windows c p = some (agree (sWindows c p)) := by
  unfold agree sWindows
  simp only [g_r14_Windows, r14_Good, r14_owner, Option.bind_some]
  by_cases c1 : sCheck c = .nil
  · have hl := sWins_short (sCheck_parts c1).2.2.1
    by_cases c2 : own c p
    · have h := iter_fold (L := g_r14_Windows_L4 c p) (l := c.Windows) (g := fun z x => if decide (x.Part = p) = true then z ++ [x] else z) (I := fun z i => z.length ≤ i) (z := []) (Nat.le_refl _) (fun i x z hi hx hI => ⟨by
        have hz : (z.length + [x].length) * 24 ≤ 140737488355328 := by
          simp only [List.length_cons, List.length_nil]
          have := Nat.mul_le_mul_right 24 (show z.length + 1 ≤ 32 by omega); omega
        simp only [g_r14_Windows_L4, g_r14_Windows_J3, hi, hx, decide_true, cond_true, Option.bind_some, chk, hz, if_true]
        by_cases e : x.Part = p <;> simp [e], by
        by_cases e : x.Part = p <;> simp [e] <;> omega⟩) (fun z _ => by simp [g_r14_Windows_L4])
      rw [filter_fold] at h
      simp only [c1, c2, decide_true, Bool.not_true, cond_false, not_true_eq_false, if_false, h.1, Option.bind_some, List.nil_append, ne_eq, cNil]; rfl
    · simp only [c1, c2, decide_true, decide_false, Bool.not_true, Bool.not_false, cond_false, cond_true, not_true_eq_false, not_false_eq_true, if_false, if_true, ne_eq, cArg]
  · simp only [c1, decide_false, Bool.not_false, cond_true, not_false_eq_true, if_true, ne_eq, cPlan]
/-! ### At, Next, Load -/
theorem r14_AtS (c : GConfig) (t : Int) : g_r14_At c t = some (agree (sAt c t)) := by
  unfold agree
  by_cases h : sCheck c = .nil
  · by_cases h0 : t < 0 ∨ c.Ticks ≤ t
    · have : sAt c t = (0, .v gArg) := by unfold sAt; rw [if_neg (by simpa using h), if_pos h0]
      rw [this]
      have hb : (decide (t < 0) || decide (c.Ticks ≤ t)) = true := by rcases h0 with e | e <;> simp [e]
      simp only [g_r14_At, r14_Good, h, hb, decide_true, Bool.not_true, cond_false, cond_true, Option.bind_some, cArg]
    · have g0 : 0 ≤ t := by omega
      have g1 : t < c.Ticks := by omega
      have hb : (decide (t < 0) || decide (c.Ticks ≤ t)) = false := by simp; omega
      rw [sAt_ok h g0 g1]
      simp only [g_r14_At, r14_Good, h, hb, r14_Owners h, own_at c g0 g1, decide_true, Bool.not_true, cond_false, Option.bind_some]
      rcases Bool.eq_false_or_eq_true (cov c.Windows t) with e | e
      · have hne : ¬ ownerOf c.Windows t = -2 := fun he => by have := (owner_own h e).1; omega
        rw [if_pos e]
        simp only [hne, decide_false, cond_false, cNil]
      · rw [if_neg (by simp [e])]
        simp only [owner_no e, decide_true, cond_true, cNone]
  · have : sAt c t = (0, .v gPlan) := by unfold sAt; rw [if_pos h]
    rw [this]
    simp only [g_r14_At, r14_Good, h, decide_false, Bool.not_false, cond_true, Option.bind_some, cPlan]
theorem r14_NextS (c : GConfig) (p t : Int) : g_r14_Next c p t = some (agree (sNext c p t)) := by
  unfold agree
  by_cases h : sCheck c = .nil
  rotate_left
  · have hsw : sWindows c p = ([], .v gPlan) := by unfold sWindows; rw [if_pos h]
    have : sNext c p t = (0, .v gPlan) := by unfold sNext; rw [hsw, if_pos (by simp)]
    rw [this]
    simp only [g_r14_Next, r14_Good, h, decide_false, Bool.not_false, cond_true, Option.bind_some, cPlan]
  by_cases hp : own c p
  rotate_left
  · have hsw : sWindows c p = ([], .v gArg) := by unfold sWindows; rw [if_neg (by simpa using h), if_pos hp]
    have : sNext c p t = (0, .v gArg) := by unfold sNext; rw [hsw, if_pos (by simp)]
    rw [this]
    simp only [g_r14_Next, g_r14_Next_J3, r14_Good, r14_owner, h, hp, decide_true, decide_false, Bool.not_true, Bool.not_false, cond_false, cond_true, Option.bind_some, cArg]
  by_cases h0 : t < 0 ∨ c.Ticks ≤ t
  · have : sNext c p t = (0, .v gArg) := by unfold sNext; rw [sWindows_ok h hp, if_neg (by simp), if_pos h0]
    rw [this]
    rcases h0 with e | e
    · simp only [g_r14_Next, g_r14_Next_J3, r14_Good, r14_owner, h, hp, e, decide_true, Bool.not_true, cond_false, cond_true, Option.bind_some, cArg]
    · by_cases e2 : t < 0
      · simp only [g_r14_Next, g_r14_Next_J3, r14_Good, r14_owner, h, hp, e2, decide_true, Bool.not_true, cond_false, cond_true, Option.bind_some, cArg]
      · simp only [g_r14_Next, g_r14_Next_J3, r14_Good, r14_owner, h, hp, e, e2, decide_true, decide_false, Bool.not_true, cond_false, cond_true, Option.bind_some, cArg]
  obtain ⟨t1, t2⟩ := ticks_ok h
  have g0 : 0 ≤ t := by omega
  have g1 : t < c.Ticks := by omega
  have hn : (decide (t < 0)) = false := decide_eq_false (by omega)
  have hn2 : (decide (c.Ticks ≤ t)) = false := decide_eq_false (by omega)
  have hp2 : p ≠ -2 := fun e => by have := hp.1; omega
  have hown : ∀ s, ownerOf c.Windows s = p ↔ cov (winsOf c p) s = true := fun s => owner_filter (sorted_wins h) hp2
  rw [sNext_ok h hp g0 g1]
  have hres : ∃ r, iter (g_r14_Next_L2 c p (ownTo c c.Ticks.toNat)) t = some r ∧ (match r with | .inl _ => some ((0 : Int), (17 : Int)) | .inr q => some q) = some (((firstE (nextE t) 0 (winsOf c p)).getD (0, .v gNone)).1, ((firstE (nextE t) 0 (winsOf c p)).getD (0, .v gNone)).2.code) := by
    rcases next_spec t2 0 (sorted_of h p) (Int.le_refl _) (t := t) with ⟨v, k1, k2, k3, k4, k5⟩ | ⟨k1, k2⟩
    · rw [k1]
      refine iter_rule (L := g_r14_Next_L2 c p (ownTo c c.Ticks.toNat)) (fun s => t ≤ s ∧ s ≤ v) _ (fun s => (v - s).toNat) (fun s hs => ?_) (s := t) ⟨Int.le_refl _, k2⟩
      have e1 : s < c.Ticks := by omega
      have e2 := own_at c (t := s) (by omega) e1
      by_cases e : s = v
      · subst e
        refine .inr ⟨.inr (s, 0), ?_, by simp [cNil]⟩
        simp only [g_r14_Next_L2, e1, e2, (hown s).2 k4, decide_true, cond_true, Option.bind_some]
      · have hno : ¬ ownerOf c.Windows s = p := fun hh => by
          have := (hown s).1 hh
          rw [k5 s hs.1 (by omega)] at this; cases this
        have hw : IntKind.i64.wrap (s + 1) = s + 1 := wrapS (by omega) (by omega)
        refine .inl ⟨s + 1, ?_, ⟨by omega, by omega⟩, by omega⟩
        simp only [g_r14_Next_L2, e1, e2, hno, hw, decide_true, decide_false, cond_true, cond_false, Option.bind_some]
    · rw [k1]
      refine iter_rule (L := g_r14_Next_L2 c p (ownTo c c.Ticks.toNat)) (fun s => t ≤ s ∧ s ≤ c.Ticks) _ (fun s => (c.Ticks - s).toNat) (fun s hs => ?_) (s := t) ⟨Int.le_refl _, by omega⟩
      by_cases e1 : s < c.Ticks
      · have e2 := own_at c (t := s) (by omega) e1
        have hno : ¬ ownerOf c.Windows s = p := fun hh => by
          have := (hown s).1 hh
          rw [k2 s hs.1] at this; cases this
        have hw : IntKind.i64.wrap (s + 1) = s + 1 := wrapS (by omega) (by omega)
        refine .inl ⟨s + 1, ?_, ⟨by omega, by omega⟩, by omega⟩
        simp only [g_r14_Next_L2, e1, e2, hno, hw, decide_true, decide_false, cond_true, cond_false, Option.bind_some]
      · refine .inr ⟨.inl (), ?_, by simp [cNone]⟩
        simp only [g_r14_Next_L2, e1, decide_false, cond_false]
  obtain ⟨r, hr, hq⟩ := hres
  simp only [g_r14_Next, g_r14_Next_J3, r14_Good, r14_owner, h, hp, hn, hn2, r14_Owners h, hr, decide_true, Bool.not_true, cond_false, Option.bind_some]
  exact hq
def sLoad (c : GConfig) (p : Int) : Int × ErrM := if sCheck c ≠ .nil then (0, .v gPlan) else if ¬ own c p then (0, .v gArg) else (lsum (winsOf c p), .nil)
theorem frame_LoadS (c : GConfig) (p : Int) : g_frame_Load c p = some (sLoad c p) := by
  rw [frame_Load]; unfold sLoad
  by_cases h : sCheck c = .nil
  · by_cases hp : own c p
    · rw [sWindows_ok h hp, if_neg (by simpa using h), if_neg (by simpa using hp), wsum_eq (sorted_of h p) (ticks_ok h).2]
    · unfold sWindows; rw [if_neg (by simpa using h), if_pos hp, if_neg (by simpa using h), if_pos hp]; rfl
  · unfold sWindows; rw [if_pos h, if_pos h]; rfl
theorem r14_LoadS (c : GConfig) (p : Int) : g_r14_Load c p = some (agree (sLoad c p)) := by
  unfold sLoad agree
  by_cases h : sCheck c = .nil
  · by_cases hp : own c p
    · have hp2 : p ≠ -2 := fun e => by have := hp.1; omega
      simp only [g_r14_Load, r14_Good, r14_owner, h, hp, r14_ticks h, load_count h hp2, decide_true, Bool.not_true, cond_false, Option.bind_some, ne_eq, not_true_eq_false, if_false, cNil]
    · simp only [g_r14_Load, r14_Good, r14_owner, h, hp, decide_true, decide_false, Bool.not_true, Bool.not_false, cond_false, cond_true, Option.bind_some, ne_eq, not_true_eq_false, not_false_eq_true, if_false, if_true, cArg]
  · simp only [g_r14_Load, r14_Good, h, decide_false, Bool.not_false, cond_true, Option.bind_some, ne_eq, not_false_eq_true, if_true, cPlan]
/-! ### Joined -/
def joins (p : Int) (l : GLink) : Bool := decide (l.From = p) || decide (l.To = p)
theorem contains_Link (l : List GLink) (f : GLink → Option Bool) (b : GLink → Bool) (hf : ∀ x, f x = some (b x)) : g_slices_ContainsFunc_Link l f = some (l.any b) := by
  have h := iter_list (L := g_slices_IndexFunc_Link_L1 l f) (l := l) (f := fun i x => if b x = true then some ((i : Nat) : Int) else none) (fun i x hi hx => by
    simp only [g_slices_IndexFunc_Link_L1, hi, hx, decide_true, cond_true, Option.bind_some, hf, Bool.cond_eq_ite, nxt_ite, nxt_some, nxt_none, if_true]
    split <;> rfl) (by simp [g_slices_IndexFunc_Link_L1])
  simp only [g_slices_ContainsFunc_Link, g_slices_IndexFunc_Link, h]
  have hk := firstE_any b l 0
  cases he : firstE (fun i x => if b x = true then some ((i : Nat) : Int) else none) 0 l with
  | none => rw [he] at hk; rw [hk]; rfl
  | some e => rw [he] at hk; rw [hk.1]; simp [fin, hk.2]
def sJoined (c : GConfig) (p : Int) : Bool × ErrM := if sCheck c ≠ .nil then (false, .v gPlan) else if ¬ there c p then (false, .v gArg) else (c.Links.any (joins p), .nil)
theorem frame_JoinedS (c : GConfig) (p : Int) : g_frame_Joined c p = some (sJoined c p) := by
  unfold sJoined
  have hc := contains_Link c.Links (fun x0 => g_frame_Joined_1 x0 p) (joins p) (fun _ => rfl)
  by_cases h : sCheck c = .nil
  · by_cases hp : there c p
    · simp only [g_frame_Joined, frame_Check, frame_there, h, hp, hc, decide_true, Bool.not_true, cond_false, Option.bind_some, ne_eq, not_true_eq_false, if_false]
    · simp only [g_frame_Joined, frame_Check, frame_there, h, hp, decide_true, decide_false, Bool.not_true, Bool.not_false, cond_false, cond_true, Option.bind_some, ne_eq, not_true_eq_false, not_false_eq_true, if_false, if_true]
  · simp only [g_frame_Joined, frame_Check, h, decide_false, Bool.not_false, cond_true, Option.bind_some, ne_eq, not_false_eq_true, if_true]
theorem first_joins (p : Int) : ∀ (l : List GLink) (k : Nat), firstE (fun _ x => if joins p x = true then some ((true, (0 : Int))) else none) k l = if l.any (joins p) = true then some (true, 0) else none
  | [], _ => rfl
  | x :: r, k => by
    have ih := first_joins p r (k + 1)
    rcases Bool.eq_false_or_eq_true (joins p x) with e | e
    · simp [firstE, e]
    · simp only [firstE, e, Bool.false_eq_true, if_false, ih, List.any_cons, Bool.false_or]
theorem r14_JoinedS (c : GConfig) (p : Int) : g_r14_Joined c p = some (agree (sJoined c p)) := by
  unfold sJoined agree
  by_cases h : sCheck c = .nil
  rotate_left
  · simp only [g_r14_Joined, r14_Good, h, decide_false, Bool.not_false, cond_true, Option.bind_some, ne_eq, not_false_eq_true, if_true, cPlan]
  have hL := iter_list (L := g_r14_Joined_L8 c p) (l := c.Links) (f := fun _ x => if joins p x = true then some ((true, (0 : Int))) else none) (fun i x hi hx => by
    simp only [g_r14_Joined_L8, g_r14_Joined_J7, hi, hx, decide_true, cond_true, Option.bind_some, joins]
    by_cases e1 : x.From = p
    · simp [e1, nxt_some]
    · by_cases e2 : x.To = p <;> simp [e1, e2, nxt_some, nxt_none]) (by simp [g_r14_Joined_L8])
  rw [first_joins] at hL
  by_cases hp : there c p
  · have e0 : ¬ p < 0 := by have := hp.1; omega
    have e1 : own c p := ⟨by have := hp.1; omega, hp.2⟩
    simp only [g_r14_Joined, g_r14_Joined_J9, r14_Good, r14_owner, h, hp, e0, e1, hL, decide_true, decide_false, Bool.not_true, cond_false, Option.bind_some, ne_eq, not_true_eq_false, if_false, cNil]
    rcases Bool.eq_false_or_eq_true (c.Links.any (joins p)) with e | e <;> simp [e, fin]
  · by_cases e0 : p < 0
    · simp only [g_r14_Joined, g_r14_Joined_J9, r14_Good, h, hp, e0, decide_true, Bool.not_true, cond_false, cond_true, Option.bind_some, ne_eq, not_true_eq_false, not_false_eq_true, if_false, if_true, cArg]
    · have e1 : ¬ own c p := fun hh => hp ⟨by omega, hh.2⟩
      simp only [g_r14_Joined, g_r14_Joined_J9, r14_Good, r14_owner, h, hp, e0, e1, decide_true, decide_false, Bool.not_true, Bool.not_false, cond_false, cond_true, Option.bind_some, ne_eq, not_true_eq_false, not_false_eq_true, if_false, if_true, cArg]
/-! ### The law -/
theorem sameInts_self (l : List Int) : g_law14_sameInts l l = some true := by
  have h := iter_list (L := g_law14_sameInts_L1 l l) (l := l) (f := fun _ _ => (none : Option Bool)) (fun i x hi hx => by
    simp only [g_law14_sameInts_L1, hi, hx, decide_true, cond_true, Option.bind_some, Bool.not_true, cond_false, nxt_none]) (by simp [g_law14_sameInts_L1])
  rw [firstE_all_none fun _ _ _ => rfl] at h
  simp only [g_law14_sameInts, h, fin, decide_true, Bool.not_true, cond_false, Option.bind_some]
theorem sameWindows_self (l : List GWindow) : g_law14_sameWindows l l = some true := by
  have h := iter_list (L := g_law14_sameWindows_L1 l l) (l := l) (f := fun _ _ => (none : Option Bool)) (fun i x hi hx => by
    simp only [g_law14_sameWindows_L1, hi, hx, decide_true, cond_true, Option.bind_some, Bool.not_true, cond_false, nxt_none]) (by simp [g_law14_sameWindows_L1])
  rw [firstE_all_none fun _ _ _ => rfl] at h
  simp only [g_law14_sameWindows, h, fin, decide_true, Bool.not_true, cond_false, Option.bind_some]
theorem pl_windows (c : GConfig) (p : Int) : (sWindows c p).2.place = -1 := by
  unfold sWindows
  repeat' split
  all_goals rfl
theorem pl_boots (c : GConfig) (p : Int) : (sBoots c p).2.place = -1 := by
  unfold sBoots
  repeat' split
  all_goals rfl
theorem pl_load (c : GConfig) (p : Int) : (sLoad c p).2.place = -1 := by
  unfold sLoad
  repeat' split
  all_goals rfl
theorem pl_idle (c : GConfig) : (sIdle c).2.place = -1 := by unfold sIdle; split <;> rfl
theorem pl_joined (c : GConfig) (p : Int) : (sJoined c p).2.place = -1 := by
  unfold sJoined
  repeat' split
  all_goals rfl
theorem pl_getD {α : Type} {o : Option (α × ErrM)} {z : α × ErrM} (h : ∀ x, o = some x → x.2.place = -1) (hz : z.2.place = -1) : (o.getD z).2.place = -1 := by
  cases o with
  | none => exact hz
  | some x => exact h x rfl
theorem pl_first {α ε : Type} {f : Nat → α → Option ε} {P : ε → Prop} (hf : ∀ i x e, f i x = some e → P e) : ∀ (l : List α) (k : Nat) (e : ε), firstE f k l = some e → P e
  | [], _, _, h => by cases h
  | x :: r, k, e, h => by
    cases hx : f k x with
    | some y =>
      simp only [firstE, hx, Option.some.injEq] at h
      exact h ▸ hf k x y hx
    | none => simp only [firstE, hx] at h; exact pl_first hf r (k + 1) e h
theorem pl_at (c : GConfig) (t : Int) : (sAt c t).2.place = -1 := by
  unfold sAt
  split
  · rfl
  · split
    · rfl
    · refine pl_getD (fun x hx => pl_first (P := fun e : Int × ErrM => e.2.place = -1) (fun i y e he => ?_) _ _ _ hx) rfl
      unfold atE at he; split at he
      · cases he; rfl
      · cases he
theorem pl_next (c : GConfig) (p t : Int) : (sNext c p t).2.place = -1 := by
  unfold sNext
  split
  · exact pl_windows c p
  · split
    · rfl
    · refine pl_getD (fun x hx => pl_first (P := fun e : Int × ErrM => e.2.place = -1) (fun i y e he => ?_) _ _ _ hx) rfl
      unfold nextE at he; split at he
      · cases he; rfl
      · cases he
theorem law14_asks (c : GConfig) (hC : okConf c) (n m : Int) : g_law14_asks c n m = some true := by
  simp only [g_law14_asks, g_law14_asks_J10, g_law14_asks_J9, g_law14_asks_J8, g_law14_asks_J7, g_law14_asks_J6, r14_Copy c hC, r14_WindowsS, frame_Windows, r14_BootsS, frame_BootsS, r14_AtS, frame_At, r14_NextS, frame_Next, r14_LoadS, frame_LoadS, r14_JoinedS, frame_JoinedS, agree, sameInts_self, sameWindows_self,
    law14_same _ (pl_windows c n), law14_same _ (pl_boots c n), law14_same _ (pl_at c m), law14_same _ (pl_next c n m), law14_same _ (pl_load c n), law14_same _ (pl_joined c n), Option.bind_some, decide_true, Bool.not_true, cond_false, cond_true, beq_self_eq_true]
theorem law14_FrameAsks (x : GL14Case) (hC : okConf x.C) (hN : x.Numbers.length ≤ 140737488355328) : g_law14_FrameAsks x = some true := by
  have hL := iter_rule (L := g_law14_FrameAsks_L2 x) (fun s => 0 ≤ s ∧ s ≤ x.Numbers.length) (fun r => r = .inl ()) (fun s => ((x.Numbers.length : Int) - s).toNat) (fun s hs => by
    have hw : IntKind.i64.wrap (s + 1) = s + 1 := wrap64_eq ⟨by omega, by omega⟩
    by_cases e : s + 1 < ((x.Numbers.length : Nat) : Int)
    · obtain ⟨a, ha⟩ := rdI_at (l := x.Numbers) hs.1 (by omega)
      obtain ⟨b, hb⟩ := rdI_at (l := x.Numbers) (z := s + 1) (by omega) e
      refine .inl ⟨s + 1, ?_, ⟨by omega, by omega⟩, by omega⟩
      simp only [g_law14_FrameAsks_L2, hw, e, ha, hb, law14_asks x.C hC, decide_true, cond_true, Option.bind_some, Bool.not_true, cond_false]
    · refine .inr ⟨.inl (), ?_, rfl⟩
      simp only [g_law14_FrameAsks_L2, hw, e, decide_false, cond_false]) (s := 0) ⟨Int.le_refl _, by omega⟩
  obtain ⟨_, hL, rfl⟩ := hL
  simp only [g_law14_FrameAsks, g_law14_FrameAsks_J3, law14_fixed, r14_IdleS, frame_IdleS, r14_Copy x.C hC, agree, law14_same _ (pl_idle x.C), hL, Option.bind_some, decide_true, Bool.not_true, cond_false, cond_true]
end Go.Proofs.YtjoihegnjjjdaaaGreatDoor
