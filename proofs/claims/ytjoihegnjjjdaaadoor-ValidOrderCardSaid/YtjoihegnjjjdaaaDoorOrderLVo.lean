/- ValidOrder: Check and Rest follow from Faults. -/
import Derived.Test.YtjoihegnjjjdaaaDoorRuleLVo
set_option linter.unusedVariables false
set_option linter.unusedSimpArgs false
set_option linter.unusedSectionVars false
namespace Go.Proofs.YtjoihegnjjjdaaaDoor
open Go Go.RowKit

theorem cState : (ErrM.v gState).code = 9 := by decide
theorem brk_mem : ∀ (l : List Bool) (k : Nat) (x : Int), x ∈ brk k l → (k : Int) + 1 ≤ x ∧ x ≤ k + l.length
  | [], k, x, h => by cases h
  | b :: r, k, x, h => by
    rw [brk, List.mem_append] at h
    rcases h with h | h
    · split at h
      · cases h
      · rw [List.mem_singleton] at h; subst h; simp; omega
    · have := brk_mem r (k + 1) x h
      simp only [List.length_cons]; omega
theorem brk_pair : ∀ (l : List Bool) (k : Nat), (brk k l).Pairwise (· < ·)
  | [], k => List.Pairwise.nil
  | b :: r, k => by
    have ih := brk_pair r (k + 1)
    rw [brk]
    split
    · exact ih
    · rw [List.singleton_append, List.pairwise_cons]
      exact ⟨fun y hy => by have := (brk_mem r (k + 1) y hy).1; omega, ih⟩
theorem ints_self (l : List Int) : g_law11_ints l l = some true := by
  have h := iter_allN (L := g_law11_ints_L1 l l) (l := l) (z := ()) (fun _ _ => true) (fun i x hi hx => by
    simp only [g_law11_ints_L1, hi, hx, decide_true, cond_true, Option.bind_some, Bool.not_true, cond_false, if_true]) (by simp [g_law11_ints_L1])
  have ha : allI (fun (_ : Nat) (_ : Int) => true) 0 l = true := by rw [allI_all]; simp
  rw [ha, if_pos rfl] at h
  simp only [g_law11_ints, h, decide_true, Bool.not_true, cond_false, Option.bind_some]
def awP : GPlan := ⟨7, false, [(⟨7, ⟨#[]⟩⟩ : GPagePlan)], [(⟨0, 0, true⟩ : GProcPlan), (⟨0, 0, true⟩ : GProcPlan)], [(⟨3, 4, 2, 0⟩ : GPortPlan)], 2, [0]⟩
def awS (id : Int) : GState := ⟨id, 0, 0, [(⟨(Vector.replicate 16 0), 0, 1, 0, 0, 0⟩ : GProc), (⟨(Vector.replicate 16 0), 0, 1, 0, 0, 0⟩ : GProc)], [0, 1], ([] : List GTimer), [false, false], [0], [(⟨([] : List ByteArray), 0⟩ : GPort)], [(⟨7, false, (Vector.replicate 64 0)⟩ : GPage)]⟩
theorem aw_ok (id : Int) : okSt (awS id) := ⟨by simp [awS], by simp [awS], by simp [awS]⟩
theorem aw_plan : sPlan awP = .nil := by kernel_rfl
theorem aw7 : sFaults awP (awS 7) = [] := by kernel_rfl
theorem aw8 : sFaults awP (awS 8) = [1] := by kernel_rfl
theorem law11_awake : g_law11_awake = some true := by
  have e0 : g_law11_some = some (awP, awS 7) := rfl
  have f7 := valid_Faults awP (awS 7) (aw_ok 7)
  have f8 := valid_Faults awP (awS 8) (aw_ok 8)
  have c7 : g_valid_Check awP (awS 7) = some .nil := by rw [valid_Check _ _ (aw_ok 7)]; unfold sUpTo; rw [aw7]
  have r8 : g_valid_Rest awP (awS 8) = some (.pl 1 gState) := by rw [valid_Rest _ _ (aw_ok 8)]; unfold sUpTo; rw [aw8]; rfl
  rw [aw7] at f7; rw [aw8] at f8
  have e8 : (⟨8, (awS 7).Frame, (awS 7).Epoch, (awS 7).Procs, (awS 7).Ready, (awS 7).Timers, (awS 7).Up, (awS 7).Sems, (awS 7).Ports, (awS 7).Pages⟩ : GState) = awS 8 := rfl
  have cS : (ErrM.pl 1 gState).code = 9 := by rw [cPl, cState]
  simp only [g_law11_awake, g_law11_awake_J2, e0, f7, c7, e8, f8, r8, ints_self, Option.bind_some, List.length_nil, decide_true, Bool.not_true, cond_false, cond_true, cS, pPl]
theorem law11_ValidOrder (p : GPlan) (s : GState) (hok : okSt s) : g_law11_ValidOrder p s = some true := by
  simp only [g_law11_ValidOrder, law11_awake, valid_Faults p s hok, valid_Check p s hok, valid_Rest p s hok, Option.bind_some, Bool.not_true, cond_false]
  -- what the list is like
  have hl : (sFaults p s = [0]) ∨ ((∀ x ∈ sFaults p s, 1 ≤ x ∧ x ≤ 17) ∧ (sFaults p s).Pairwise (· < ·) ∧ (sFaults p s).length ≤ 17) := by
    unfold sFaults
    by_cases h : sPlan p = .nil
    · rw [if_neg (by simpa using h)]
      refine .inr ⟨fun x hx => ?_, brk_pair _ _, ?_⟩
      · have := brk_mem _ _ x hx; simp at this; omega
      · exact Nat.le_trans (brk_len _ _) (by simp)
    · rw [if_pos h]; exact .inl rfl
  unfold sUpTo
  generalize sFaults p s = l at hl
  rcases hl with rfl | ⟨h1, h2, h3⟩
  · have hL := iter_allN (L := g_law11_ValidOrder_L10 [0]) (l := [(0 : Int)]) (z := ()) (fun _ _ => true) (fun i x hi hx => by
      have hi0 : i = 0 := by simp at hi; omega
      subst hi0
      have : x = 0 := by simpa using hx.symm
      subst this
      simp [g_law11_ValidOrder_L10, g_law11_ValidOrder_J6]) (by simp [g_law11_ValidOrder_L10])
    have ha : allI (fun (_ : Nat) (_ : Int) => true) 0 [(0 : Int)] = true := rfl
    rw [ha, if_pos rfl] at hL
    have c8 : (ErrM.v gPlan).code = 8 := cPlan
    simp [hL, c8, pV, g_law11_ValidOrder_J7]
  · have hL := iter_allN (L := g_law11_ValidOrder_L10 l) (l := l) (z := ()) (fun _ _ => true) (fun i x hi hx => by
      obtain ⟨g1, g2⟩ := h1 x (List.mem_of_getElem? hx)
      have n1 : ¬ x < 0 := by omega
      have n2 : ¬ 17 < x := by omega
      have n3 : ¬ x = 0 := by omega
      cases i with
      | zero => simp only [g_law11_ValidOrder_L10, g_law11_ValidOrder_J6, hi, hx, n1, n2, n3, Nat.lt_irrefl, decide_true, decide_false, cond_true, cond_false, Option.bind_some, if_true]
      | succ j =>
        have hj : j < l.length := by omega
        have hy : l[j]? = some l[j] := List.getElem?_eq_getElem hj
        have hlt : l[j] < x := by
          have := (List.pairwise_iff_getElem.1 h2) j (j + 1) hj hi (by omega)
          have hx' : l[j + 1] = x := by rw [List.getElem?_eq_getElem hi] at hx; exact Option.some.inj hx
          rwa [hx'] at this
        have hw : IntKind.i64.wrap (((j + 1 : Nat) : Int) - 1) = (j : Int) := by rw [wrap64_eq ⟨by omega, by omega⟩]; omega
        have hr : rdI l (j : Int) = some l[j] := by simp [rdI]
        have n4 : ¬ x ≤ l[j] := by omega
        have n5 : 0 < j + 1 := by omega
        simp only [g_law11_ValidOrder_L10, g_law11_ValidOrder_J6, hi, hx, n1, n2, n3, n4, n5, hw, hr, decide_true, decide_false, cond_true, cond_false, Option.bind_some, if_true]) (by simp [g_law11_ValidOrder_L10])
    have ha : allI (fun (_ : Nat) (_ : Int) => true) 0 l = true := by rw [allI_all]; simp
    rw [ha, if_pos rfl] at hL
    cases l with
    | nil => simp [hL]
    | cons x r =>
      obtain ⟨g1, g2⟩ := h1 x List.mem_cons_self
      have n1 : ¬ x = 0 := by omega
      have n2 : ¬ 17 < x := by omega
      have c9 : (ErrM.pl x gState).code = 9 := by rw [cPl, cState]
      by_cases e : x = 17
      · subst e
        simp [hL, c9, pPl, g_law11_ValidOrder_J9]
      · have n3 : ¬ 16 < x := by omega
        simp [hL, c9, pPl, n1, n2, n3, e, g_law11_ValidOrder_J9]
end Go.Proofs.YtjoihegnjjjdaaaDoor
