/- Plain laws of ticks: whose each tick is, by windows and tick by tick. -/
import Derived.Test.YtjoihegnjjjdaaaGreatDoorWinLFa
set_option linter.unusedVariables false
set_option linter.unusedSimpArgs false
set_option linter.unusedSectionVars false
namespace Go.Proofs.YtjoihegnjjjdaaaGreatDoor
open Go Go.RowKit

def covers (t : Int) (w : GWindow) : Bool := decide (w.Start ≤ t) && decide (t < w.Start + w.Len)
def ownStep (t : Int) (z : Int) (w : GWindow) : Int := if covers t w = true then w.Part else z
def ownerOf (l : List GWindow) (t : Int) : Int := l.foldl (ownStep t) (-2)
theorem own_go (t : Int) : ∀ (l : List GWindow) (z : Int), l.foldl (ownStep t) z = if cov l t = true then ownerOf l t else z
  | [], z => rfl
  | x :: r, z => by
    have h1 := own_go t r (ownStep t z x)
    have h2 := own_go t r (ownStep t (-2) x)
    rw [List.foldl_cons, h1]
    show _ = if cov (x :: r) t = true then r.foldl (ownStep t) (ownStep t (-2) x) else z
    rw [h2, cov_cons]
    rcases Bool.eq_false_or_eq_true (cov r t) with e | e
    · simp [e]
    · rcases Bool.eq_false_or_eq_true (covers t x) with e2 | e2
      · have e3 : (decide (x.Start ≤ t) && decide (t < x.Start + x.Len)) = true := e2
        simp [e, e3, ownStep, e2]
      · have e3 : (decide (x.Start ≤ t) && decide (t < x.Start + x.Len)) = false := e2
        simp [e, e3, ownStep, e2]
theorem owner_cons (x : GWindow) (r : List GWindow) (t : Int) : ownerOf (x :: r) t = if cov r t = true then ownerOf r t else if covers t x = true then x.Part else -2 := own_go t r _
theorem owner_no {l : List GWindow} {t : Int} (h : cov l t = false) : ownerOf l t = -2 := by
  have := own_go t l (-2); rw [h] at this; exact this
theorem cov_covers (x : GWindow) (r : List GWindow) (t : Int) : cov (x :: r) t = (covers t x || cov r t) := rfl
theorem covers_rest {x : GWindow} {r : List GWindow} {a T t : Int} (h : sorted a (x :: r) T) (hc : covers t x = true) : cov r t = false := by
  simp only [covers, Bool.and_eq_true, decide_eq_true_eq] at hc
  exact cov_before h.2.2 hc.2
/-- A tick's owner has a window that covers it. -/
theorem owner_some {t : Int} : ∀ {l : List GWindow}, cov l t = true → ∃ w ∈ l, covers t w = true ∧ ownerOf l t = w.Part
  | [], h => by cases h
  | x :: r, h => by
    rw [owner_cons]
    rcases Bool.eq_false_or_eq_true (cov r t) with e | e
    · obtain ⟨w, h1, h2, h3⟩ := owner_some e
      exact ⟨w, List.mem_cons_of_mem _ h1, h2, by rw [if_pos e, h3]⟩
    · rw [cov_covers, e, Bool.or_false] at h
      exact ⟨x, List.mem_cons_self, h, by rw [if_neg (by simp [e]), if_pos h]⟩
theorem cov_mem {l : List GWindow} {t : Int} {w : GWindow} (h : w ∈ l) (hc : covers t w = true) : cov l t = true := List.any_eq_true.2 ⟨w, h, hc⟩
/-- In a sorted list one window at most covers a tick. -/
theorem owner_of_mem {t : Int} : ∀ {l : List GWindow} {a T : Int} {w : GWindow}, sorted a l T → w ∈ l → covers t w = true → ownerOf l t = w.Part
  | [], _, _, w, _, h, _ => by cases h
  | x :: r, a, T, w, hs, h, hc => by
    rw [owner_cons]
    rcases List.mem_cons.1 h with rfl | h
    · rw [if_neg (by simp [covers_rest hs hc]), if_pos hc]
    · rw [if_pos (cov_mem h hc)]; exact owner_of_mem hs.2.2 h hc
theorem owner_filter {l : List GWindow} {a T t p : Int} (hs : sorted a l T) (hp : p ≠ -2) : ownerOf l t = p ↔ cov (l.filter fun w => decide (w.Part = p)) t = true := by
  constructor
  · intro h
    rcases Bool.eq_false_or_eq_true (cov l t) with e | e
    · obtain ⟨w, h1, h2, h3⟩ := owner_some e
      exact cov_mem (List.mem_filter.2 ⟨h1, by simp [← h3, h]⟩) h2
    · rw [owner_no e] at h; exact absurd h.symm hp
  · intro h
    obtain ⟨w, h1, h2⟩ := List.any_eq_true.1 h
    obtain ⟨h3, h4⟩ := List.mem_filter.1 h1
    have h5 : w.Part = p := by simpa using h4
    rw [owner_of_mem hs h3 h2, h5]
/-! ### At -/
def atE (t : Int) (_ : Nat) (x : GWindow) : Option (Int × ErrM) := if x.Start ≤ t ∧ t < IntKind.i64.wrap (x.Start + x.Len) then some (x.Part, .nil) else none
theorem atE_eq {T : Int} (hT : T ≤ 10000) {x : GWindow} {t : Int} (h0 : 0 ≤ x.Start) (h1 : 1 ≤ x.Len) (h2 : x.Start + x.Len ≤ T) (k : Nat) : atE t k x = if covers t x = true then some (x.Part, .nil) else none := by
  unfold atE covers; rw [wrapS (by omega) (by omega)]
  by_cases e1 : x.Start ≤ t <;> by_cases e2 : t < x.Start + x.Len <;> simp [e1, e2]
theorem at_first {T t : Int} (hT : T ≤ 10000) : ∀ {l : List GWindow} {a : Int} (k : Nat), sorted a l T → 0 ≤ a → firstE (atE t) k l = if cov l t = true then some (ownerOf l t, .nil) else none
  | [], _, _, _, _ => rfl
  | x :: r, a, k, hs, ha => by
    obtain ⟨h1, h2, h3⟩ := hs
    have hle := sorted_le h3
    have hx := atE_eq (t := t) hT (x := x) (by omega) h2 hle k
    rcases Bool.eq_false_or_eq_true (covers t x) with e | e
    · rw [e, if_pos rfl] at hx
      have h4 : cov r t = false := covers_rest (a := a) (T := T) ⟨h1, h2, h3⟩ e
      simp only [firstE, hx, cov_covers, e, h4, Bool.or_false, if_true, owner_cons, Bool.false_eq_true, if_false]
    · rw [e, if_neg (by simp)] at hx
      have ih := at_first (t := t) hT (k + 1) h3 (show 0 ≤ x.Start + x.Len by omega)
      simp only [firstE, hx, ih, cov_covers, e, Bool.false_or, owner_cons, Bool.false_eq_true, if_false]
      split <;> rfl
def sAt (c : GConfig) (t : Int) : Int × ErrM := if sCheck c ≠ .nil then (0, .v gPlan) else if t < 0 ∨ c.Ticks ≤ t then (0, .v gArg) else (firstE (atE t) 0 c.Windows).getD (0, .v gNone)
theorem sAt_ok {c : GConfig} {t : Int} (h : sCheck c = .nil) (h0 : 0 ≤ t) (h1 : t < c.Ticks) : sAt c t = if cov c.Windows t = true then (ownerOf c.Windows t, .nil) else (0, .v gNone) := by
  unfold sAt; rw [if_neg (by simpa using h), if_neg (by omega), at_first (ticks_ok h).2 0 (sorted_wins h) (Int.le_refl _)]
  split <;> rfl
/-- A covered tick's owner is one. -/
theorem owner_own {c : GConfig} {t : Int} (h : sCheck c = .nil) (hc : cov c.Windows t = true) : own c (ownerOf c.Windows t) := by
  obtain ⟨w, h1, _, h3⟩ := owner_some hc
  obtain ⟨i, hi⟩ := List.mem_iff_getElem?.1 h1
  rw [h3]; exact (wins_ok h i w hi).1
/-! ### Next -/
theorem next_spec {T t : Int} (hT : T ≤ 10000) : ∀ {l : List GWindow} {a : Int} (k : Nat), sorted a l T → 0 ≤ a →
    (∃ v, firstE (nextE t) k l = some (v, .nil) ∧ t ≤ v ∧ v < T ∧ cov l v = true ∧ ∀ s, t ≤ s → s < v → cov l s = false) ∨ (firstE (nextE t) k l = none ∧ ∀ s, t ≤ s → cov l s = false)
  | [], _, _, _, _ => .inr ⟨rfl, fun _ _ => rfl⟩
  | x :: r, a, k, hs, ha => by
    obtain ⟨h1, h2, h3⟩ := hs
    have hle := sorted_le h3
    by_cases e : t < x.Start + x.Len
    · refine .inl ⟨if x.Start > t then x.Start else t, ?_, ?_, ?_, ?_, fun s h4 h5 => ?_⟩
      · have hn : nextE t k x = some (if x.Start > t then x.Start else t, .nil) := by unfold nextE; rw [wrapS (by omega) (by omega), if_pos e]
        simp only [firstE, hn]
      · split <;> omega
      · split <;> omega
      · rw [cov_covers]
        have : covers (if x.Start > t then x.Start else t) x = true := by
          unfold covers; split <;> simp <;> omega
        rw [this]; rfl
      · split at h5
        · rw [cov_cons, cov_before h3 (by omega)]
          have : ¬ x.Start ≤ s := by omega
          simp [this]
        · omega
    · have hn : nextE t k x = none := by unfold nextE; rw [wrapS (by omega) (by omega), if_neg e]
      have hx : ∀ s, t ≤ s → cov (x :: r) s = cov r s := fun s hs => by
        rw [cov_cons]
        have : ¬ s < x.Start + x.Len := by omega
        simp [this]
      rcases next_spec hT (k + 1) h3 (show 0 ≤ x.Start + x.Len by omega) with ⟨v, g1, g2, g3, g4, g5⟩ | ⟨g1, g2⟩
      · exact .inl ⟨v, by simp only [firstE, hn]; exact g1, g2, g3, by rw [hx v g2]; exact g4, fun s s1 s2 => by rw [hx s s1]; exact g5 s s1 s2⟩
      · exact .inr ⟨by simp only [firstE, hn]; exact g1, fun s s1 => by rw [hx s s1]; exact g2 s s1⟩
/-! ### How many -/
def countP (q : Int → Bool) : Int → Nat → Int
  | _, 0 => 0
  | t, m + 1 => (if q t = true then 1 else 0) + countP q (t + 1) m
theorem countP_congr {q r : Int → Bool} : ∀ (m : Nat) (t : Int), (∀ s, q s = r s) → countP q t m = countP r t m
  | 0, _, _ => rfl
  | m + 1, t, h => by simp only [countP, h t, countP_congr m (t + 1) h]
theorem count_unc (l : List GWindow) : ∀ (m : Nat) (t : Int), countP (fun s => !(cov l s)) t m = unc l t m
  | 0, _ => rfl
  | m + 1, t => by
    simp only [countP, unc, count_unc l m (t + 1)]
    rcases Bool.eq_false_or_eq_true (cov l t) with e | e <;> simp [e]
theorem count_cov (l : List GWindow) : ∀ (m : Nat) (t : Int), countP (fun s => cov l s) t m = m - unc l t m
  | 0, _ => rfl
  | m + 1, t => by
    simp only [countP, unc, count_cov l m (t + 1)]
    rcases Bool.eq_false_or_eq_true (cov l t) with e | e <;> simp [e] <;> omega
theorem count_le (q : Int → Bool) : ∀ (m : Nat) (t : Int), 0 ≤ countP q t m ∧ countP q t m ≤ m
  | 0, _ => ⟨Int.le_refl _, Int.le_refl _⟩
  | m + 1, t => by
    have := count_le q m (t + 1)
    simp only [countP]; split <;> omega
theorem load_count {c : GConfig} (h : sCheck c = .nil) {p : Int} (hp : p ≠ -2) : countP (fun s => decide (ownerOf c.Windows s = p)) 0 c.Ticks.toNat = lsum (winsOf c p) := by
  obtain ⟨t1, t2⟩ := ticks_ok h
  have hs := sorted_of h p
  have hT : ((c.Ticks.toNat : Nat) : Int) = c.Ticks := Int.toNat_of_nonneg (by omega)
  rw [countP_congr (r := fun s => cov (winsOf c p) s) _ _ fun s => by
    rcases Bool.eq_false_or_eq_true (cov (winsOf c p) s) with e | e
    · rw [e]; exact decide_eq_true ((owner_filter (sorted_wins h) hp).2 e)
    · rw [e]; exact decide_eq_false fun h' => by have := (owner_filter (sorted_wins h) hp).1 h'; unfold winsOf at e; rw [e] at this; cases this]
  rw [count_cov, unc_sorted _ (by rw [hT]; simpa using hs)]; omega
theorem idle_count {c : GConfig} (h : sCheck c = .nil) : countP (fun s => decide (ownerOf c.Windows s = -2)) 0 c.Ticks.toNat = c.Ticks - lsum c.Windows := by
  obtain ⟨t1, t2⟩ := ticks_ok h
  have hs := sorted_wins h
  have hT : ((c.Ticks.toNat : Nat) : Int) = c.Ticks := Int.toNat_of_nonneg (by omega)
  rw [countP_congr (r := fun s => !(cov c.Windows s)) _ _ fun s => by
    rcases Bool.eq_false_or_eq_true (cov c.Windows s) with e | e
    · rw [e]; exact decide_eq_false fun h' => by have := (owner_own h e).1; omega
    · rw [e]; exact decide_eq_true (owner_no e)]
  rw [count_unc, unc_sorted _ (by rw [hT]; simpa using hs), hT]
end Go.Proofs.YtjoihegnjjjdaaaGreatDoor
