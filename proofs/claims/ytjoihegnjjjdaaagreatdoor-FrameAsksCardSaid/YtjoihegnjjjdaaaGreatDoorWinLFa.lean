/- Plain laws of windows: sorted lists of windows, what they take of a frame, the next tick, links by the words. -/
import Derived.Test.YtjoihegnjjjdaaaGreatDoorFrameMFa
set_option linter.unusedVariables false
set_option linter.unusedSimpArgs false
set_option linter.unusedSectionVars false
namespace Go.Proofs.YtjoihegnjjjdaaaGreatDoor
open Go Go.RowKit

section
variable {α ε σ ρ : Type}
/-- A loop by its invariant and what falls. -/
theorem iter_rule {L : σ → Option (σ ⊕ ρ)} (I : σ → Prop) (Q : ρ → Prop) (μ : σ → Nat)
    (h : ∀ s, I s → (∃ s', L s = some (.inl s') ∧ I s' ∧ μ s' < μ s) ∨ (∃ r, L s = some (.inr r) ∧ Q r)) {s : σ} (h0 : I s) : ∃ r, iter L s = some r ∧ Q r := by
  have key : ∀ n s, μ s < n → I s → ∃ r, iter L s = some r ∧ Q r := by
    intro n
    induction n with
    | zero => intro s hs; omega
    | succ n ih =>
      intro s hs hI
      rcases h s hI with ⟨s', h1, h2, h3⟩ | ⟨r, h1, h2⟩
      · obtain ⟨r, h4, h5⟩ := ih s' (by omega) h2
        exact ⟨r, (iter_inl h1).trans h4, h5⟩
      · exact ⟨r, iter_inr h1, h2⟩
  exact key _ s (Nat.lt_succ_self _) h0
theorem firstE_none {f : Nat → α → Option ε} : ∀ {l : List α} {k : Nat}, firstE f k l = none → ∀ i x, l[i]? = some x → f (k + i) x = none
  | [], _, _, i, x, hx => by simp at hx
  | y :: r, k, h, i, x, hx => by
    cases hy : f k y with
    | some e => simp only [firstE, hy] at h; cases h
    | none =>
      simp only [firstE, hy] at h
      cases i with
      | zero =>
        have : y = x := by simpa using hx
        subst this; exact hy
      | succ j =>
        have := firstE_none h j x (by simpa using hx)
        rwa [show k + 1 + j = k + (j + 1) by omega] at this
theorem firstE_all_none {f : Nat → α → Option ε} : ∀ {l : List α} {k : Nat}, (∀ i, ∀ x ∈ l, f i x = none) → firstE f k l = none
  | [], _, _ => rfl
  | y :: r, k, h => by
    simp only [firstE, h k y List.mem_cons_self]
    exact firstE_all_none fun i x hx => h i x (List.mem_cons_of_mem _ hx)
end
theorem orE_nils {a b : ErrM} (h : orE a b = .nil) : a = .nil ∧ b = .nil := by
  unfold orE at h
  by_cases c : a = .nil
  · rw [if_pos c] at h; exact ⟨c, h⟩
  · rw [if_neg c] at h; exact absurd h c
theorem orN_nil {α : Type} {f : Nat → α → Option ErrM} (hf : noNil f) {l : List α} {k : Nat} (h : orN (firstE f k l) = .nil) : firstE f k l = none := by
  cases he : firstE f k l with
  | none => rfl
  | some e => rw [he] at h; exact absurd h (firstE_noNil hf _ _ _ he)
theorem wrapS {z : Int} (h0 : -1000000 ≤ z) (h1 : z ≤ 1000000) : IntKind.i64.wrap z = z := wrap64_eq ⟨by omega, by omega⟩
theorem ticks_ok {c : GConfig} (h : sCheck c = .nil) : 1 ≤ c.Ticks ∧ c.Ticks ≤ 10000 := by
  have := (sCheck_parts h).1
  unfold badTicks at this; omega
/-- A good configuration's window. -/
theorem wins_ok {c : GConfig} (h : sCheck c = .nil) (i : Nat) (x : GWindow) (hx : c.Windows[i]? = some x) :
    own c x.Part ∧ 0 ≤ x.Start ∧ 1 ≤ x.Len ∧ x.Start + x.Len ≤ c.Ticks ∧ (0 < i → prevEnd c.Windows i ≤ x.Start) := by
  obtain ⟨t1, t2⟩ := ticks_ok h
  have hw := (sCheck_parts h).2.2.1
  unfold sWins at hw
  by_cases c1 : 32 < c.Windows.length
  · rw [if_pos c1] at hw; cases hw
  rw [if_neg c1] at hw
  have h1 := firstE_none (orN_nil (sWin_no c) (orE_nils hw).1) i x hx
  rw [Nat.zero_add] at h1
  unfold sWin at h1
  by_cases e1 : own c x.Part
  · rw [if_neg (by simpa using e1)] at h1
    by_cases e2 : x.Start < 0 ∨ x.Len < 1 ∨ c.Ticks ≤ x.Start ∨ IntKind.i64.wrap (c.Ticks - x.Start) < x.Len
    · rw [if_pos e2] at h1; cases h1
    rw [if_neg e2] at h1
    by_cases e3 : 0 < i ∧ x.Start < prevEnd c.Windows i
    · rw [if_pos e3] at h1; cases h1
    have e4 : IntKind.i64.wrap (c.Ticks - x.Start) = c.Ticks - x.Start := wrapS (by omega) (by omega)
    rw [e4] at e2
    exact ⟨e1, by omega, by omega, by omega, fun hi => by omega⟩
  · rw [if_pos e1] at h1; cases h1
theorem prevEnd_of {l : List GWindow} {i : Nat} {x : GWindow} (hx : l[i]? = some x) : prevEnd l (i + 1) = IntKind.i64.wrap (x.Start + x.Len) := by simp only [prevEnd, hx]
/-- Windows that stand one behind the other, from a tick on, up to another. -/
def sorted : Int → List GWindow → Int → Prop
  | a, [], T => a ≤ T
  | a, x :: r, T => a ≤ x.Start ∧ 1 ≤ x.Len ∧ sorted (x.Start + x.Len) r T
theorem sorted_le : ∀ {l : List GWindow} {a T : Int}, sorted a l T → a ≤ T
  | [], _, _, h => h
  | x :: r, a, T, h => by have := sorted_le h.2.2; have := h.1; have := h.2.1; omega
theorem sorted_mono : ∀ {l : List GWindow} {a b T : Int}, sorted a l T → b ≤ a → sorted b l T
  | [], _, _, _, h, hb => Int.le_trans hb h
  | x :: r, a, b, T, h, hb => ⟨Int.le_trans hb h.1, h.2⟩
theorem sorted_mem : ∀ {l : List GWindow} {a T : Int}, sorted a l T → ∀ x ∈ l, a ≤ x.Start ∧ 1 ≤ x.Len ∧ x.Start + x.Len ≤ T
  | [], _, _, _, x, hx => by cases hx
  | y :: r, a, T, h, x, hx => by
    rcases List.mem_cons.1 hx with rfl | hx
    · exact ⟨h.1, h.2.1, sorted_le h.2.2⟩
    · obtain ⟨h1, h2, h3⟩ := sorted_mem h.2.2 x hx
      have := h.1; have := h.2.1
      exact ⟨by omega, h2, h3⟩
theorem sorted_filter (q : GWindow → Bool) : ∀ {l : List GWindow} {a T : Int}, sorted a l T → sorted a (l.filter q) T
  | [], _, _, h => h
  | x :: r, a, T, h => by
    have ih := sorted_filter q h.2.2
    rcases Bool.eq_false_or_eq_true (q x) with e | e
    · rw [List.filter_cons_of_pos e]; exact ⟨h.1, h.2.1, ih⟩
    · rw [List.filter_cons_of_neg (by simp [e])]
      exact sorted_mono ih (by have := h.1; have := h.2.1; omega)
theorem sorted_wins {c : GConfig} (h : sCheck c = .nil) : sorted 0 c.Windows c.Ticks := by
  obtain ⟨t1, t2⟩ := ticks_ok h
  have hw := wins_ok h
  have key : ∀ m k, k + m = c.Windows.length → sorted (prevEnd c.Windows k) (c.Windows.drop k) c.Ticks := by
    intro m
    induction m with
    | zero =>
      intro k hk
      obtain rfl : k = c.Windows.length := by omega
      rw [List.drop_length]
      cases hl : c.Windows.length with
      | zero => show (0 : Int) ≤ c.Ticks; omega
      | succ j =>
        have hlt : j < c.Windows.length := by omega
        have hx : c.Windows[j]? = some c.Windows[j] := List.getElem?_eq_getElem hlt
        obtain ⟨_, h1, h2, h3, _⟩ := hw j _ hx
        show prevEnd c.Windows (j + 1) ≤ c.Ticks
        rw [prevEnd_of hx, wrapS (by omega) (by omega)]; exact h3
    | succ m ih =>
      intro k hk
      have hlt : k < c.Windows.length := by omega
      have hx : c.Windows[k]? = some c.Windows[k] := List.getElem?_eq_getElem hlt
      obtain ⟨_, h1, h2, h3, h4⟩ := hw k _ hx
      rw [List.drop_eq_getElem_cons hlt]
      have := ih (k + 1) (by omega)
      rw [prevEnd_of hx, wrapS (by omega) (by omega)] at this
      refine ⟨?_, h2, this⟩
      cases k with
      | zero => exact h1
      | succ j => exact h4 (by omega)
  exact key _ 0 (Nat.zero_add _)
theorem sorted_of {c : GConfig} (h : sCheck c = .nil) (p : Int) : sorted 0 (winsOf c p) c.Ticks := sorted_filter _ (sorted_wins h)
/-- The ticks of windows. -/
def lsum : List GWindow → Int
  | [] => 0
  | x :: r => x.Len + lsum r
theorem lsum_le : ∀ {l : List GWindow} {a T : Int}, sorted a l T → 0 ≤ lsum l ∧ a + lsum l ≤ T
  | [], a, T, h => ⟨Int.le_refl _, by have h1 : a ≤ T := h; simp only [lsum]; omega⟩
  | x :: r, a, T, h => by
    obtain ⟨h1, h2⟩ := lsum_le h.2.2
    have := h.1; have := h.2.1
    simp only [lsum]; omega
theorem wsum_go {T : Int} (hT : T ≤ 10000) : ∀ {l : List GWindow} {a z : Int}, sorted a l T → 0 ≤ z → z ≤ a → l.foldl (fun z x => IntKind.i64.wrap (z + x.Len)) z = z + lsum l
  | [], _, _, _, _, _ => by simp [lsum]
  | x :: r, a, z, h, h0, h1 => by
    have := sorted_le h.2.2
    have := h.1; have := h.2.1
    rw [List.foldl_cons, wrapS (by omega) (by omega), wsum_go hT h.2.2 (by omega) (by omega)]
    simp only [lsum]; omega
theorem wsum_eq {l : List GWindow} {T : Int} (h : sorted 0 l T) (hT : T ≤ 10000) : wsum l = lsum l := by
  unfold wsum; rw [wsum_go hT h (Int.le_refl _) (Int.le_refl _)]; omega
/-- The parts' windows add up. -/
theorem lsum_split (k : Int) : ∀ l : List GWindow, lsum (l.filter fun w => decide (w.Part < k + 1)) = lsum (l.filter fun w => decide (w.Part < k)) + lsum (l.filter fun w => decide (w.Part = k))
  | [] => rfl
  | x :: r => by
    have ih := lsum_split k r
    by_cases e1 : x.Part < k
    · have e2 : x.Part < k + 1 := by omega
      have e3 : ¬ x.Part = k := by omega
      simp only [List.filter_cons, e1, e2, e3, decide_true, decide_false, if_true, Bool.false_eq_true, if_false, lsum]; omega
    · by_cases e3 : x.Part = k
      · have e2 : x.Part < k + 1 := by omega
        simp only [List.filter_cons, e1, e2, decide_true, decide_false, if_true, Bool.false_eq_true, if_false, lsum, decide_eq_true e3]; omega
      · have e2 : ¬ x.Part < k + 1 := by omega
        simp only [List.filter_cons, e1, e2, e3, decide_false, Bool.false_eq_true, if_false]; exact ih
theorem filter_all {α : Type} {q : α → Bool} : ∀ {l : List α}, (∀ x ∈ l, q x = true) → l.filter q = l
  | [], _ => rfl
  | x :: r, h => by rw [List.filter_cons_of_pos (h x List.mem_cons_self), filter_all fun y hy => h y (List.mem_cons_of_mem _ hy)]
theorem filter_no {α : Type} {q : α → Bool} : ∀ {l : List α}, (∀ x ∈ l, q x = false) → l.filter q = []
  | [], _ => rfl
  | x :: r, h => by rw [List.filter_cons_of_neg (by simp [h x List.mem_cons_self]), filter_no fun y hy => h y (List.mem_cons_of_mem _ hy)]
/-- How many of so many ticks are nobody's. -/
def cov (l : List GWindow) (t : Int) : Bool := l.any fun w => decide (w.Start ≤ t) && decide (t < w.Start + w.Len)
def unc (l : List GWindow) : Int → Nat → Int
  | _, 0 => 0
  | t, m + 1 => (if cov l t = true then 0 else 1) + unc l (t + 1) m
theorem unc_nonneg (l : List GWindow) : ∀ (m : Nat) (t : Int), 0 ≤ unc l t m
  | 0, _ => Int.le_refl _
  | m + 1, t => by have := unc_nonneg l m (t + 1); simp only [unc]; split <;> omega
theorem unc_split (l : List GWindow) : ∀ (m n : Nat) (t : Int), unc l t (m + n) = unc l t m + unc l (t + m) n
  | 0, n, t => by simp [unc]
  | m + 1, n, t => by
    have ih := unc_split l m n (t + 1)
    rw [show m + 1 + n = (m + n) + 1 by omega]
    simp only [unc, ih]
    rw [show t + 1 + (m : Int) = t + ((m + 1 : Nat) : Int) by omega]; omega
theorem unc_all {l : List GWindow} : ∀ (m : Nat) (t : Int), (∀ s, t ≤ s → s < t + m → cov l s = true) → unc l t m = 0
  | 0, _, _ => rfl
  | m + 1, t, h => by
    have ih := unc_all m (t + 1) fun s h1 h2 => h s (by omega) (by omega)
    simp only [unc, h t (by omega) (by omega), if_true, ih]; rfl
theorem unc_none {l : List GWindow} : ∀ (m : Nat) (t : Int), (∀ s, t ≤ s → s < t + m → cov l s = false) → unc l t m = m
  | 0, _, _ => rfl
  | m + 1, t, h => by
    have ih := unc_none m (t + 1) fun s h1 h2 => h s (by omega) (by omega)
    simp only [unc, h t (by omega) (by omega), Bool.false_eq_true, if_false, ih]; omega
theorem unc_congr {l k : List GWindow} : ∀ (m : Nat) (t : Int), (∀ s, t ≤ s → s < t + m → cov l s = cov k s) → unc l t m = unc k t m
  | 0, _, _ => rfl
  | m + 1, t, h => by
    have ih := unc_congr m (t + 1) fun s h1 h2 => h s (by omega) (by omega)
    simp only [unc, h t (by omega) (by omega), ih]
theorem cov_before {l : List GWindow} {a T s : Int} (h : sorted a l T) (hs : s < a) : cov l s = false := by
  unfold cov
  rw [List.any_eq_false]
  intro x hx
  obtain ⟨h1, h2, h3⟩ := sorted_mem h x hx
  simp; omega
theorem cov_cons (x : GWindow) (r : List GWindow) (s : Int) : cov (x :: r) s = ((decide (x.Start ≤ s) && decide (s < x.Start + x.Len)) || cov r s) := rfl
theorem unc_sorted : ∀ {l : List GWindow} {a : Int} (m : Nat), sorted a l (a + m) → unc l a m = m - lsum l
  | [], a, m, h => by rw [unc_none m a fun s _ _ => rfl]; simp [lsum]
  | x :: r, a, m, h => by
    obtain ⟨h1, h2, h3⟩ := h
    have h4 := sorted_le h3
    obtain ⟨m1, e1⟩ : ∃ n : Nat, x.Start = a + n := ⟨(x.Start - a).toNat, by omega⟩
    obtain ⟨m2, e2⟩ : ∃ n : Nat, x.Len = n := ⟨x.Len.toNat, by omega⟩
    obtain ⟨m3, e3⟩ : ∃ n : Nat, a + (m : Int) = x.Start + x.Len + n := ⟨(a + m - (x.Start + x.Len)).toNat, by omega⟩
    have em : m = m1 + (m2 + m3) := by omega
    rw [e3] at h3
    have ih := unc_sorted m3 h3
    rw [em, unc_split, unc_split]
    rw [unc_none m1 a fun s s1 s2 => by rw [cov_cons, cov_before h3 (by omega)]; simp; omega]
    rw [unc_all m2 _ fun s s1 s2 => by rw [cov_cons]; simp; omega]
    rw [unc_congr (k := r) m3 _ fun s s1 s2 => by
      rw [cov_cons]
      have : ¬ s < x.Start + x.Len := by omega
      simp [this]]
    rw [show a + (m1 : Int) + (m2 : Int) = x.Start + x.Len by omega, ih]
    simp only [lsum]; omega
/-! ### The next tick -/
theorem sWindows_ok {c : GConfig} {p : Int} (h : sCheck c = .nil) (hp : own c p) : sWindows c p = (winsOf c p, .nil) := by
  unfold sWindows; rw [if_neg (by simpa using h), if_neg (by simpa using hp)]
theorem sNext_ok {c : GConfig} {p t : Int} (h : sCheck c = .nil) (hp : own c p) (h0 : 0 ≤ t) (h1 : t < c.Ticks) : sNext c p t = (firstE (nextE t) 0 (winsOf c p)).getD (0, .v gNone) := by
  unfold sNext; rw [sWindows_ok h hp, if_neg (by simp), if_neg (by omega)]
theorem next_none {l : List GWindow} {T t : Int} (hs : sorted 0 l T) (hT : T ≤ 10000) (h : ∀ x ∈ l, x.Start + x.Len ≤ t) (k : Nat) : firstE (nextE t) k l = none := by
  refine firstE_all_none fun i x hx => ?_
  obtain ⟨h1, h2, h3⟩ := sorted_mem hs x hx
  have := h x hx
  unfold nextE; rw [wrapS (by omega) (by omega), if_neg (by omega)]
theorem next_at {T t : Int} (hT : T ≤ 10000) : ∀ {l : List GWindow} {a : Int} {i : Nat} {x : GWindow} (k : Nat), sorted a l T → 0 ≤ a → l[i]? = some x → (∀ j y, j < i → l[j]? = some y → y.Start + y.Len ≤ t) → t < x.Start + x.Len →
    firstE (nextE t) k l = some (if x.Start > t then x.Start else t, .nil)
  | [], _, i, x, _, _, _, hx, _, _ => by simp at hx
  | y :: r, a, 0, x, k, hs, ha, hx, _, ht => by
    have : y = x := by simpa using hx
    subst this
    obtain ⟨h1, h2, h3⟩ := hs
    have := sorted_le h3
    have hn : nextE t k y = some (if y.Start > t then y.Start else t, .nil) := by unfold nextE; rw [wrapS (by omega) (by omega), if_pos ht]
    simp only [firstE, hn]
  | y :: r, a, i + 1, x, k, hs, ha, hx, hb, ht => by
    obtain ⟨h1, h2, h3⟩ := hs
    have := sorted_le h3
    have h0 := hb 0 y (by omega) (by simp)
    have hn : nextE t k y = none := by unfold nextE; rw [wrapS (by omega) (by omega), if_neg (by omega)]
    simp only [firstE, hn]
    exact next_at hT (k + 1) h3 (by omega) (by simpa using hx) (fun j z hj hz => hb (j + 1) z (by omega) (by simpa using hz)) ht
/-- The window that covers a tick: nothing ends behind the tick ahead of it. -/
theorem next_cov {T t : Int} (hT : T ≤ 10000) : ∀ {l : List GWindow} {a : Int} {x : GWindow} (k : Nat), sorted a l T → 0 ≤ a → x ∈ l → x.Start ≤ t → t < x.Start + x.Len → firstE (nextE t) k l = some (t, .nil)
  | [], _, x, _, _, _, hx, _, _ => by cases hx
  | y :: r, a, x, k, hs, ha, hx, ht0, ht => by
    obtain ⟨h1, h2, h3⟩ := hs
    have := sorted_le h3
    rcases List.mem_cons.1 hx with rfl | hx
    · have hn : nextE t k x = some (t, .nil) := by
        unfold nextE; rw [wrapS (by omega) (by omega), if_pos ht, if_neg (by omega)]
      simp only [firstE, hn]
    · obtain ⟨g1, g2, g3⟩ := sorted_mem h3 x hx
      have hn : nextE t k y = none := by unfold nextE; rw [wrapS (by omega) (by omega), if_neg (by omega)]
      simp only [firstE, hn]
      exact next_cov hT (k + 1) h3 (by omega) hx ht0 ht
/-! ### Links by the words -/
theorem carry_rows (l : GLink) (n : Nat) (hp : l.To.toNat < n) : ∀ (ms : List GMsg) (z : List GMsg), ms.foldl (carryRow l) ((List.replicate n []).set l.To.toNat z) = (List.replicate n []).set l.To.toNat (z ++ (ms.filter fun m => decide (m.Port = l.Out)).map fun m => (⟨l.In, m.Data⟩ : GMsg))
  | [], z => by simp
  | m :: r, z => by
    rw [List.foldl_cons]
    have hr : rowAt ((List.replicate n []).set l.To.toNat z) l.To = z := by
      unfold rowAt
      rw [List.getElem?_set_self (by simpa using hp)]; rfl
    by_cases e : m.Port = l.Out
    · have h1 : carryRow l ((List.replicate n []).set l.To.toNat z) m = (List.replicate n []).set l.To.toNat (z ++ [⟨l.In, m.Data⟩]) := by
        unfold carryRow; rw [if_pos e, hr, List.set_set]
      rw [h1, carry_rows l n hp r]
      simp [List.filter_cons, e]
    · have h1 : carryRow l ((List.replicate n []).set l.To.toNat z) m = (List.replicate n []).set l.To.toNat z := by
        unfold carryRow; rw [if_neg e]
      rw [h1, carry_rows l n hp r]
      simp [List.filter_cons, e]
theorem one_link {c : GConfig} (h : sCheck c = .nil) {l : GLink} (hl : l ∈ c.Links) : sCheck ⟨c.Ticks, c.Parts, c.Homes, c.Windows, [l], c.Tries⟩ = .nil := by
  obtain ⟨h1, h2, h3, h4⟩ := sCheck_parts h
  obtain ⟨h5, h6⟩ := orE_nils h4
  have h7 : sLinks0 ⟨c.Ticks, c.Parts, c.Homes, c.Windows, [l], c.Tries⟩ = .nil := by
    unfold sLinks0 at h5 ⊢
    by_cases c1 : 16 < c.Links.length
    · rw [if_pos c1] at h5; cases h5
    rw [if_neg c1] at h5
    obtain ⟨i, hi⟩ := List.mem_iff_getElem?.1 hl
    have h8 := firstE_none (orN_nil (sLink_no c) h5) i l hi
    have h9 : sLink ⟨c.Ticks, c.Parts, c.Homes, c.Windows, [l], c.Tries⟩ 0 l = none := by
      unfold sLink at h8 ⊢
      by_cases e1 : ¬ there c l.From ∨ ¬ there c l.To ∨ l.From = l.To
      · rw [if_pos e1] at h8; cases h8
      rw [if_neg e1] at h8
      by_cases e2 : mob c l.From = true ∨ mob c l.To = true
      · rw [if_pos e2] at h8; cases h8
      rw [if_neg e2] at h8
      by_cases e3 : (kindA c l.From l.Out ≠ 2 ∧ kindA c l.From l.Out ≠ 4) ∨ (kindA c l.To l.In ≠ 1 ∧ kindA c l.To l.In ≠ 3)
      · rw [if_pos e3] at h8; cases h8
      exact (if_neg e1).trans ((if_neg e2).trans (if_neg e3))
    rw [if_neg (by simp)]
    simp only [firstE, h9]; rfl
  have h10 : sLinks ⟨c.Ticks, c.Parts, c.Homes, c.Windows, [l], c.Tries⟩ = .nil := by
    unfold sLinks orE; rw [if_pos h7]; exact h6
  have h11 : ¬ badTicks ⟨c.Ticks, c.Parts, c.Homes, c.Windows, [l], c.Tries⟩ := h1
  unfold sCheck
  rw [if_neg h11]
  have h12 : sParts ⟨c.Ticks, c.Parts, c.Homes, c.Windows, [l], c.Tries⟩ = .nil := h2
  have h13 : sWins ⟨c.Ticks, c.Parts, c.Homes, c.Windows, [l], c.Tries⟩ = .nil := h3
  unfold orE
  rw [if_pos h12, if_pos h13]; exact h10
end Go.Proofs.YtjoihegnjjjdaaaGreatDoor
