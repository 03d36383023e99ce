/- Plain laws of states: the small state of the laws. -/
import Derived.Test.YtjoihegnjjjdaaaDoorRuleLVb
set_option linter.unusedVariables false
set_option linter.unusedSimpArgs false
set_option linter.unusedSectionVars false
namespace Go.Proofs.YtjoihegnjjjdaaaDoor
open Go Go.RowKit

theorem cState : (ErrM.v gState).code = 9 := by decide
theorem brk_mem : ∀ (l : List Bool) (k : Nat) (x : Int), x ∈ brk k l → (k : Int) + 1 ≤ x ∧ x ≤ k + l.length
  | [], k, x, h => by cases h
  | b :: r, k, x, h => by
    rw [brk, List.mem_append] at h
    rcases h with h | h
    · split at h
      · cases h
      · rw [List.mem_singleton] at h; subst h; simp; omega
    · have := brk_mem r (k + 1) x h
      simp only [List.length_cons]; omega
theorem brk_pair : ∀ (l : List Bool) (k : Nat), (brk k l).Pairwise (· < ·)
  | [], k => List.Pairwise.nil
  | b :: r, k => by
    have ih := brk_pair r (k + 1)
    rw [brk]
    split
    · exact ih
    · rw [List.singleton_append, List.pairwise_cons]
      exact ⟨fun y hy => by have := (brk_mem r (k + 1) y hy).1; omega, ih⟩
theorem ints_self (l : List Int) : g_law11_ints l l = some true := by
  have h := iter_allN (L := g_law11_ints_L1 l l) (l := l) (z := ()) (fun _ _ => true) (fun i x hi hx => by
    simp only [g_law11_ints_L1, hi, hx, decide_true, cond_true, Option.bind_some, Bool.not_true, cond_false, if_true]) (by simp [g_law11_ints_L1])
  have ha : allI (fun (_ : Nat) (_ : Int) => true) 0 l = true := by rw [allI_all]; simp
  rw [ha, if_pos rfl] at h
  simp only [g_law11_ints, h, decide_true, Bool.not_true, cond_false, Option.bind_some]
def awP : GPlan := ⟨7, false, [(⟨7, ⟨#[]⟩⟩ : GPagePlan)], [(⟨0, 0, true⟩ : GProcPlan), (⟨0, 0, true⟩ : GProcPlan)], [(⟨3, 4, 2, 0⟩ : GPortPlan)], 2, [0]⟩
def awS (id : Int) : GState := ⟨id, 0, 0, [(⟨(Vector.replicate 16 0), 0, 1, 0, 0, 0⟩ : GProc), (⟨(Vector.replicate 16 0), 0, 1, 0, 0, 0⟩ : GProc)], [0, 1], ([] : List GTimer), [false, false], [0], [(⟨([] : List ByteArray), 0⟩ : GPort)], [(⟨7, false, (Vector.replicate 64 0)⟩ : GPage)]⟩
theorem aw_ok (id : Int) : okSt (awS id) := ⟨by simp [awS], by simp [awS], by simp [awS]⟩
theorem aw_plan : sPlan awP = .nil := by kernel_rfl
theorem aw7 : sFaults awP (awS 7) = [] := by kernel_rfl
theorem aw8 : sFaults awP (awS 8) = [1] := by kernel_rfl
theorem law11_awake : g_law11_awake = some true := by
  have e0 : g_law11_some = some (awP, awS 7) := rfl
  have f7 := valid_Faults awP (awS 7) (aw_ok 7)
  have f8 := valid_Faults awP (awS 8) (aw_ok 8)
  have c7 : g_valid_Check awP (awS 7) = some .nil := by rw [valid_Check _ _ (aw_ok 7)]; unfold sUpTo; rw [aw7]
  have r8 : g_valid_Rest awP (awS 8) = some (.pl 1 gState) := by rw [valid_Rest _ _ (aw_ok 8)]; unfold sUpTo; rw [aw8]; rfl
  rw [aw7] at f7; rw [aw8] at f8
  have e8 : (⟨8, (awS 7).Frame, (awS 7).Epoch, (awS 7).Procs, (awS 7).Ready, (awS 7).Timers, (awS 7).Up, (awS 7).Sems, (awS 7).Ports, (awS 7).Pages⟩ : GState) = awS 8 := rfl
  have cS : (ErrM.pl 1 gState).code = 9 := by rw [cPl, cState]
  simp only [g_law11_awake, g_law11_awake_J2, e0, f7, c7, e8, f8, r8, ints_self, Option.bind_some, List.length_nil, decide_true, Bool.not_true, cond_false, cond_true, cS, pPl]
end Go.Proofs.YtjoihegnjjjdaaaDoor
