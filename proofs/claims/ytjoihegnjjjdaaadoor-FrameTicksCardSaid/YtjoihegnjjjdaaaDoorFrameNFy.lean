/- Plain laws of frames: the document's Carry, copies of what was emitted; FrameCarries. -/
import Derived.Test.YtjoihegnjjjdaaaDoorFrameMFy
set_option linter.unusedVariables false
set_option linter.unusedSimpArgs false
set_option linter.unusedSectionVars false
namespace Go.Proofs.YtjoihegnjjjdaaaDoor
open Go Go.RowKit

section
variable {α σ : Type}
/-- A loop over a list by a number that is no index of its own. -/
theorem iter_foldZ {L : σ × Int → Option ((σ × Int) ⊕ σ)} {l : List α} {g : σ → α → σ} {I : σ → Nat → Prop} {z : σ} (h0 : I z 0)
    (h : ∀ (i : Nat) x z, i < l.length → l[i]? = some x → I z i → L (z, (i : Int)) = some (.inl (g z x, ((i + 1 : Nat) : Int))) ∧ I (g z x) (i + 1)) (h2 : ∀ z, I z l.length → L (z, (l.length : Int)) = some (.inr z)) :
    iter L (z, 0) = some (l.foldl g z) ∧ I (l.foldl g z) l.length := by
  have key : ∀ m (k : Nat) z, k + m = l.length → I z k → iter L (z, (k : Int)) = some ((l.drop k).foldl g z) ∧ I ((l.drop k).foldl g z) l.length := by
    intro m
    induction m with
    | zero =>
      intro k z hk hI
      obtain rfl : k = l.length := by omega
      rw [iter_inr (h2 z hI), List.drop_length]; exact ⟨rfl, hI⟩
    | succ m ih =>
      intro k z hk hI
      have hlt : k < l.length := by omega
      have hx : l[k]? = some l[k] := List.getElem?_eq_getElem hlt
      have hd : l.drop k = l[k] :: l.drop (k + 1) := List.drop_eq_getElem_cons hlt
      have hs := h k _ z hlt hx hI
      rw [hd, iter_inl hs.1, List.foldl_cons]
      exact ih (k + 1) _ (by omega) hs.2
  simpa using key l.length 0 z (by omega) h0
end
theorem r14_Good (c : GConfig) : g_r14_Good c = some (decide (sCheck c = .nil)) := by
  have : ((eR14 (sCheck c)).Code = 0) = (sCheck c = .nil) := propext code_zero
  simp only [g_r14_Good, r14_Check, Option.bind_some, this]
theorem parts_short {c : GConfig} (h : sCheck c = .nil) : c.Parts.length ≤ 8 := by
  have := (sCheck_parts h).2.1
  unfold sParts at this
  by_cases c1 : c.Parts.length < 1 ∨ 8 < c.Parts.length
  · rw [if_pos c1] at this; cases this
  · omega
theorem r14_Carry {c : GConfig} {here : List Bool} {em : List (List GMsg)} (h : sCheck c = .nil) (h1 : here.length = c.Parts.length) (h2 : em.length = c.Parts.length) (hs : rowsLe em 1048576) :
    g_r14_Carry c here em = some (sCarry c here em, 0) := by
  obtain ⟨hl, hk⟩ := links_ok h
  have hn := parts_short h
  have hL := iter_fold (L := g_r14_Carry_L40 c here em) (l := c.Links) (g := carryLink here em) (I := fun z i => z.length = c.Parts.length ∧ rowsLe z (i * 1048576)) (z := List.replicate c.Parts.length [])
    ⟨by simp, fun r hr => by rw [List.eq_of_mem_replicate hr]; simp⟩ (fun i x z hi hx hI => by
      obtain ⟨hz, hle⟩ := hI
      obtain ⟨k1, k2⟩ := hk x (List.mem_of_getElem? hx)
      have e1 := rdI_here (out := here) k1.1 (by rw [h1]; exact k1.2)
      have e2 := rdI_here (out := here) k2.1 (by rw [h1]; exact k2.2)
      have e3 := rdI_row (out := em) k1.1 (by rw [h2]; exact k1.2)
      have hem := rowAt_le hs x.From
      have hin : ∃ o, iter (g_r14_Carry_L39 here em x) (z, 0) = some o ∧ o = carryLink here em z x ∧ (o.length = c.Parts.length ∧ rowsLe o ((i + 1) * 1048576)) := by
        by_cases ch : isHere here x.From = true ∧ isHere here x.To = true
        · have hf := iter_foldZ (L := g_r14_Carry_L39 here em x) (l := rowAt em x.From) (g := carryRow x) (I := fun y j => y.length = c.Parts.length ∧ rowsLe y (i * 1048576 + j)) (z := z) ⟨hz, by rw [Nat.add_zero]; exact hle⟩ (fun j m y hj hm hJ => ⟨by
              have e4 := rdI_row (out := y) k2.1 (by rw [hJ.1]; exact k2.2)
              have e5 : (rowAt y x.To).length ≤ i * 1048576 + j := rowAt_le hJ.2 x.To
              have e6 : ((rowAt y x.To).length + [(⟨x.In, m.Data⟩ : GMsg)].length) * 24 ≤ 140737488355328 := by
                simp only [List.length_cons, List.length_nil]
                have : (rowAt y x.To).length + 1 ≤ 17 * 1048576 := by omega
                have := Nat.mul_le_mul_right 24 this
                omega
              have e7 : ((j : Nat) : Int) < (((rowAt em x.From).length : Nat) : Int) := by omega
              have e8 : rdI (rowAt em x.From) (j : Int) = some m := by simp [rdI, hm]
              have e9 : IntKind.i64.wrap ((j : Int) + 1) = ((j + 1 : Nat) : Int) := by rw [wrap64_eq ⟨by omega, by omega⟩]; rfl
              simp only [g_r14_Carry_L39, g_r14_Carry_J38, g_r14_Carry_J37, e1, e2, e3, e4, e7, e8, e9, ch.1, ch.2, decide_true, cond_true, Option.bind_some, chk, e6, if_true, carryRow]
              by_cases e : m.Port = x.Out <;> simp [e], ⟨by rw [carryRow_len]; exact hJ.1, by rw [← Nat.add_assoc]; exact carryRow_le hJ.2⟩⟩) (fun y _ => by
              have e7 : ¬ (((rowAt em x.From).length : Nat) : Int) < (((rowAt em x.From).length : Nat) : Int) := by omega
              simp only [g_r14_Carry_L39, g_r14_Carry_J38, e3, Option.bind_some, e7, decide_false, cond_false])
          refine ⟨_, hf.1, ?_, hf.2.1, fun r hr => ?_⟩
          · unfold carryLink; rw [if_pos ch]
          · have := hf.2.2 r hr
            rw [Nat.succ_mul]; exact Nat.le_trans this (Nat.add_le_add_left hem _)
        · refine ⟨z, iter_inr ?_, ?_, hz, fun r hr => ?_⟩
          · simp only [g_r14_Carry_L39, g_r14_Carry_J38, e1, e2, e3, Option.bind_some]
            rcases Bool.eq_false_or_eq_true (decide ((0 : Int) < ((rowAt em x.From).length : Int))) with c0 | c0 <;> rcases Bool.eq_false_or_eq_true (isHere here x.From) with c1 | c1 <;> rcases Bool.eq_false_or_eq_true (isHere here x.To) with c2 | c2 <;> simp_all
          · unfold carryLink; rw [if_neg ch]
          · have := hle r hr
            rw [Nat.succ_mul]; exact Nat.le_trans this (Nat.le_add_right _ _)
      obtain ⟨o, g1, g2, g3, g4⟩ := hin
      subst g2
      refine ⟨?_, g3, g4⟩
      simp only [g_r14_Carry_L40, hi, hx, decide_true, cond_true, Option.bind_some, g1]) (fun z _ => by simp [g_r14_Carry_L40])
  have hm : c.Parts.length * 24 ≤ 140737488355328 := by omega
  simp only [g_r14_Carry, r14_Good, h, h1, h2, hL.1, Option.bind_some, decide_true, Bool.not_true, cond_false, Bool.or_self, chk, hm, if_true]
  rfl
def sCarryR (c : GConfig) (here : List Bool) (em : List (List GMsg)) : List (List GMsg) × ErrM :=
  if sCheck c ≠ .nil then ([], .v gPlan) else if here.length ≠ c.Parts.length ∨ em.length ≠ c.Parts.length then ([], .v gArg) else (sCarry c here em, .nil)
theorem frame_CarryR {c : GConfig} {here : List Bool} {em : List (List GMsg)} (hs : rowsLe em 1048576) : g_frame_Carry c here em = some (sCarryR c here em) := by
  unfold sCarryR
  by_cases h : sCheck c = .nil
  · rw [if_neg (by simpa using h)]
    by_cases h1 : here.length = c.Parts.length
    · by_cases h2 : em.length = c.Parts.length
      · rw [if_neg (by simp [h1, h2]), frame_Carry h h1 h2 hs]
      · rw [if_pos (.inr h2)]
        simp only [g_frame_Carry, frame_Check, h, h1, h2, Option.bind_some, decide_true, decide_false, Bool.not_true, Bool.not_false, cond_false, cond_true, Bool.false_or, Bool.or_true]
    · rw [if_pos (.inl h1)]
      simp only [g_frame_Carry, frame_Check, h, h1, Option.bind_some, decide_true, decide_false, Bool.not_true, Bool.not_false, cond_false, cond_true, Bool.true_or]
  · rw [if_pos h]
    simp only [g_frame_Carry, frame_Check, h, Option.bind_some, decide_false, Bool.not_false, cond_true]
theorem r14_CarryR {c : GConfig} {here : List Bool} {em : List (List GMsg)} (hs : rowsLe em 1048576) : g_r14_Carry c here em = some ((sCarryR c here em).1, (sCarryR c here em).2.code) := by
  unfold sCarryR
  by_cases h : sCheck c = .nil
  · rw [if_neg (by simpa using h)]
    by_cases h1 : here.length = c.Parts.length
    · by_cases h2 : em.length = c.Parts.length
      · rw [if_neg (by simp [h1, h2]), r14_Carry h h1 h2 hs]; rfl
      · rw [if_pos (.inr h2)]
        simp only [g_r14_Carry, r14_Good, h, h1, h2, Option.bind_some, decide_true, decide_false, Bool.not_true, Bool.not_false, cond_false, cond_true, Bool.false_or, Bool.or_true, cArg]
    · rw [if_pos (.inl h1)]
      simp only [g_r14_Carry, r14_Good, h, h1, Option.bind_some, decide_true, decide_false, Bool.not_true, Bool.not_false, cond_false, cond_true, Bool.true_or, cArg]
  · rw [if_pos h]
    simp only [g_r14_Carry, r14_Good, h, Option.bind_some, decide_false, Bool.not_false, cond_true, cPlan]
theorem r14_SameMsgs (a b : List GMsg) : g_r14_SameMsgs a b = some (decide (a = b)) := by
  by_cases hl : a.length = b.length
  · have h := eqs_res (L := g_r14_SameMsgs_L1 a b) hl (fun i x y hi hx hy => by
      simp only [g_r14_SameMsgs_L1, hi, hx, hy, decide_true, cond_true, Option.bind_some]
      by_cases e : x = y <;> simp [e]) (by simp [g_r14_SameMsgs_L1])
    simp only [g_r14_SameMsgs, hl, decide_true, Bool.not_true, cond_false, h, Option.bind_some]
    by_cases e : a = b <;> simp [e]
  · simp only [g_r14_SameMsgs, hl, decide_false, Bool.not_false, cond_true, ne_len hl]
theorem snoc_fold {α : Type} : ∀ (l z : List α), l.foldl (fun z x => z ++ [x]) z = z ++ l
  | [], z => by simp
  | x :: r, z => by rw [List.foldl_cons, snoc_fold r]; simp
theorem law14_copied {em : List (List GMsg)} (h0 : em.length ≤ 1048576) (hs : rowsLe em 1048576) : g_law14_copied em = some em := by
  have hL := iter_fold (L := g_law14_copied_L1 em) (l := em) (g := fun z x => z ++ [x]) (I := fun z i => z.length = i) (z := []) rfl (fun i x z hi hx hI => ⟨by
    have h1 : x.length ≤ 1048576 := hs x (List.mem_of_getElem? hx)
    have h2 : (([] : List GMsg).length + x.length) * 24 ≤ 140737488355328 := by simp only [List.length_nil]; omega
    have h3 : (z.length + 1) * 24 ≤ 140737488355328 := by omega
    simp only [g_law14_copied_L1, hi, hx, decide_true, cond_true, Option.bind_some, chk, h2, h3, if_true, List.nil_append], by simp [hI]⟩) (fun z _ => by simp [g_law14_copied_L1])
  rw [snoc_fold] at hL
  simp only [g_law14_copied, hL.1, Option.bind_some, List.nil_append]
theorem law14_same (e : ErrM) (hp : e.place = -1) : g_law14_same e e.code = some true := by
  simp [g_law14_same, hp]
theorem sCarryR_place (c : GConfig) (here : List Bool) (em : List (List GMsg)) : (sCarryR c here em).2.place = -1 := by
  unfold sCarryR
  repeat' split
  all_goals rfl
theorem law14_FrameCarries (x : GL14Case) (hC : okConf x.C) (hh : x.Here.length ≤ 1048576) (he : x.Emitted.length ≤ 1048576) (hr : rowsLe x.Emitted 1048576) : g_law14_FrameCarries x = some true := by
  have h1 : (([] : List Bool).length + x.Here.length) * 1 ≤ 140737488355328 := by simp only [List.length_nil]; omega
  have hL := iter_list (L := g_law14_FrameCarries_L2 ((sCarryR x.C x.Here x.Emitted).1, (sCarryR x.C x.Here x.Emitted).2.code) (sCarryR x.C x.Here x.Emitted).1) (l := (sCarryR x.C x.Here x.Emitted).1) (f := fun _ _ => none) (fun i y hi hy => by
    simp only [g_law14_FrameCarries_L2, hi, hy, decide_true, cond_true, Option.bind_some, r14_SameMsgs, Bool.not_true, cond_false, nxt_none]) (by simp [g_law14_FrameCarries_L2])
  have hf : ∀ (l : List (List GMsg)) k, firstE (fun (_ : Nat) (_ : List GMsg) => (none : Option Bool)) k l = none := by
    intro l
    induction l with
    | nil => intro k; rfl
    | cons y r ih => intro k; exact ih _
  rw [hf] at hL
  simp only [g_law14_FrameCarries, g_law14_FrameCarries_J4, g_law14_FrameCarries_J3, law14_fixed, r14_CarryR hr, r14_Copy x.C hC, chk, h1, if_true, law14_copied he hr, List.nil_append, frame_CarryR hr, Option.bind_some, Bool.not_true, cond_false, law14_same _ (sCarryR_place _ _ _), decide_true, hL, fin]
end Go.Proofs.YtjoihegnjjjdaaaDoor
