/- FrameLinks: what one link brings, by the words. -/
import Derived.Test.YtjoihegnjjjdaaaDoorFrameNFy
import Derived.Test.YtjoihegnjjjdaaaDoorWinLFy
set_option linter.unusedVariables false
set_option linter.unusedSimpArgs false
set_option linter.unusedSectionVars false
namespace Go.Proofs.YtjoihegnjjjdaaaDoor
open Go Go.RowKit

theorem wrapU_pos (z : Int) : 0 ≤ IntKind.u64.wrap z := by
  have h : IntKind.u64.wrap z = z % (2 ^ 64 : Int) := by simp [IntKind.wrap, IntKind.signed, IntKind.bits]
  rw [h]; exact Int.emod_nonneg _ (by decide)
theorem wrapU_eq {z : Int} (h0 : 0 ≤ z) (h1 : z < 1000000) : IntKind.u64.wrap z = z := by
  have h : IntKind.u64.wrap z = z % (2 ^ 64 : Int) := by simp [IntKind.wrap, IntKind.signed, IntKind.bits]
  rw [h]; exact Int.emod_eq_of_lt h0 (by omega)
/-- What one link brings. -/
def brings (l : GLink) (ms : List GMsg) : List GMsg := (ms.filter fun m => decide (m.Port = l.Out)).map fun m => (⟨l.In, m.Data⟩ : GMsg)
theorem carry_one (c : GConfig) (l : GLink) (here : List Bool) (em : List (List GMsg)) (hp : l.To.toNat < c.Parts.length) :
    sCarry ⟨c.Ticks, c.Parts, c.Homes, c.Windows, [l], c.Tries⟩ here em = (List.replicate c.Parts.length []).set l.To.toNat (if isHere here l.From = true ∧ isHere here l.To = true then brings l (rowAt em l.From) else []) := by
  have h0 : (List.replicate c.Parts.length ([] : List GMsg)).set l.To.toNat [] = List.replicate c.Parts.length [] := by
    apply List.ext_getElem?
    intro i
    by_cases hi : i = l.To.toNat
    · subst hi
      rw [List.getElem?_set_self (by simpa using hp)]
      simp [List.getElem?_replicate, hp]
    · rw [List.getElem?_set_ne (Ne.symm hi)]
  show carryLink here em (List.replicate c.Parts.length []) l = _
  unfold carryLink
  by_cases ch : isHere here l.From = true ∧ isHere here l.To = true
  · rw [if_pos ch, if_pos ch]
    have := carry_rows l c.Parts.length hp (rowAt em l.From) []
    rw [h0] at this
    rw [this]; rfl
  · rw [if_neg ch, if_neg ch, h0]
theorem brings_take (l : GLink) (ms : List GMsg) (i : Nat) (m : GMsg) (hm : ms[i]? = some m) : brings l (ms.take (i + 1)) = brings l (ms.take i) ++ (if m.Port = l.Out then [(⟨l.In, m.Data⟩ : GMsg)] else []) := by
  have h1 : ms.take (i + 1) = ms.take i ++ [m] := by rw [List.take_add_one, hm]; rfl
  rw [h1]; unfold brings
  rw [List.filter_append, List.map_append]
  by_cases e : m.Port = l.Out <;> simp [List.filter_cons, e]
theorem brings_pre (l : GLink) (ms : List GMsg) (i : Nat) : ∃ t, brings l ms = brings l (ms.take i) ++ t := by
  refine ⟨brings l (ms.drop i), ?_⟩
  unfold brings
  rw [← List.map_append, ← List.filter_append, List.take_append_drop]
theorem law14_FrameLinks (x : GL14Case) (k : Int) (hC : okConf x.C) (hr : rowsLe x.Emitted 1048576) : g_law14_FrameLinks x k = some true := by
  simp only [g_law14_FrameLinks, law14_fixed, r14_Copy x.C hC, r14_Good, Option.bind_some, Bool.not_true, cond_false]
  by_cases c0 : x.C.Links.length = 0
  · simp only [c0, decide_true, cond_true, Option.bind_some, g_law14_FrameLinks_J62]
  by_cases c1 : sCheck x.C = .nil
  rotate_left
  · simp only [c0, c1, decide_false, cond_false, Bool.not_false, cond_true, Option.bind_some, g_law14_FrameLinks_J62]
  by_cases c2 : x.Emitted.length = x.C.Parts.length
  rotate_left
  · simp only [c0, c1, c2, decide_false, decide_true, Bool.not_true, cond_false, Bool.not_false, cond_true, Option.bind_some, g_law14_FrameLinks_J62]
  by_cases c3 : x.Here.length = x.C.Parts.length
  rotate_left
  · simp only [c0, c1, c2, c3, decide_false, decide_true, Bool.not_true, cond_false, Bool.not_false, cond_true, Option.bind_some, g_law14_FrameLinks_J62]
  obtain ⟨hl, hk⟩ := links_ok c1
  have hwl : IntKind.u64.wrap ((x.C.Links.length : Nat) : Int) = ((x.C.Links.length : Nat) : Int) := wrapU_eq (by omega) (by omega)
  have hne : IntKind.u64.wrap ((x.C.Links.length : Nat) : Int) ≠ 0 := by rw [hwl]; omega
  have hne2 : ¬ ((x.C.Links.length : Nat) : Int) = 0 := by omega
  have hk0 := wrapU_pos k
  have hd0 : 0 ≤ Int.tmod (IntKind.u64.wrap k) ((x.C.Links.length : Nat) : Int) := Int.tmod_nonneg _ hk0
  have hd1 : Int.tmod (IntKind.u64.wrap k) ((x.C.Links.length : Nat) : Int) < ((x.C.Links.length : Nat) : Int) := Int.tmod_lt_of_pos _ (by omega)
  have hix : IntKind.i64.wrap (Int.tmod (IntKind.u64.wrap k) ((x.C.Links.length : Nat) : Int)) = Int.tmod (IntKind.u64.wrap k) ((x.C.Links.length : Nat) : Int) := wrapS (by omega) (by omega)
  obtain ⟨l, hlx⟩ := rdI_at hd0 hd1
  have hmem : l ∈ x.C.Links := by
    unfold rdI at hlx
    rw [if_pos hd0] at hlx
    exact List.mem_of_getElem? hlx
  obtain ⟨k1, k2⟩ := hk l hmem
  have hcl := one_link c1 hmem
  have hcar := frame_Carry (c := ⟨x.C.Ticks, x.C.Parts, x.C.Homes, x.C.Windows, [l], x.C.Tries⟩) (here := x.Here) (em := x.Emitted) hcl c3 c2 hr
  have hto : l.To.toNat < x.C.Parts.length := by have := k2.1; have := k2.2; omega
  rw [carry_one x.C l x.Here x.Emitted hto] at hcar
  generalize hB : (if isHere x.Here l.From = true ∧ isHere x.Here l.To = true then brings l (rowAt x.Emitted l.From) else []) = B at hcar
  have e1 := rdI_here (out := x.Here) k1.1 (by rw [c3]; exact k1.2)
  have e2 := rdI_here (out := x.Here) k2.1 (by rw [c3]; exact k2.2)
  have e3 := rdI_row (out := x.Emitted) k1.1 (by rw [c2]; exact k1.2)
  have hlen : ((List.replicate x.C.Parts.length ([] : List GMsg)).set l.To.toNat B).length = x.C.Parts.length := by simp
  have e4 : rdI ((List.replicate x.C.Parts.length ([] : List GMsg)).set l.To.toNat B) l.To = some B := by
    unfold rdI; rw [if_pos k2.1, List.getElem?_set_self (by simpa using hto)]
  have hrl : (rowAt x.Emitted l.From).length ≤ 1048576 := rowAt_le hr l.From
  have hBl : B.length ≤ 1048576 := by
    rw [← hB]; split
    · unfold brings; rw [List.length_map]; exact Nat.le_trans (List.length_filter_le _ _) hrl
    · exact Nat.zero_le _
  -- the first loop
  have hL1 := iter_rule (L := g_law14_FrameLinks_L61 x l ((List.replicate x.C.Parts.length ([] : List GMsg)).set l.To.toNat B, .nil))
    (fun s : Int × Nat => s.2 ≤ (rowAt x.Emitted l.From).length ∧ s.1 = (if isHere x.Here l.From = true ∧ isHere x.Here l.To = true then ((brings l ((rowAt x.Emitted l.From).take s.2)).length : Int) else 0))
    (fun r => r = .inl (B.length : Int)) (fun s => (rowAt x.Emitted l.From).length - s.2) (fun s hI => by
      obtain ⟨z, i⟩ := s
      obtain ⟨hi, hz⟩ := hI
      simp only at hi hz
      by_cases hlt : i < (rowAt x.Emitted l.From).length
      · refine .inl ?_
        have hm : (rowAt x.Emitted l.From)[i]? = some (rowAt x.Emitted l.From)[i] := List.getElem?_eq_getElem hlt
        generalize (rowAt x.Emitted l.From)[i] = m at hm
        have htk := brings_take l (rowAt x.Emitted l.From) i m hm
        by_cases ch : isHere x.Here l.From = true ∧ isHere x.Here l.To = true
        · rw [if_pos ch] at hz hB
          by_cases ep : m.Port = l.Out
          · rw [if_pos ep] at htk
            obtain ⟨t, ht⟩ := brings_pre l (rowAt x.Emitted l.From) (i + 1)
            rw [htk, hB] at ht
            have hBi : rdI B z = some ⟨l.In, m.Data⟩ := by
              unfold rdI
              rw [if_pos (by omega), hz, Int.toNat_natCast, ht]; simp
            have hzl : ¬ ((B.length : Nat) : Int) ≤ z := by
              rw [hz, ht]; simp; omega
            have hw : IntKind.i64.wrap (z + 1) = z + 1 := wrap64_eq ⟨by omega, by omega⟩
            refine ⟨(z + 1, i + 1), ?_, ⟨by simp only; omega, ?_⟩, by simp only; omega⟩
            · simp only [g_law14_FrameLinks_L61, g_law14_FrameLinks_J52, g_law14_FrameLinks_J51, g_law14_FrameLinks_J53, e1, e2, e3, e4, hlt, hm, ep, ch.1, ch.2, hzl, hBi, hw, decide_true, decide_false, cond_true, cond_false, Option.bind_some, Bool.not_true]
            · simp only; rw [if_pos ch, htk, hz]; simp
          · rw [if_neg ep, List.append_nil] at htk
            refine ⟨(z, i + 1), ?_, ⟨by simp only; omega, ?_⟩, by simp only; omega⟩
            · simp only [g_law14_FrameLinks_L61, g_law14_FrameLinks_J52, g_law14_FrameLinks_J53, e1, e2, e3, hlt, hm, ep, decide_true, decide_false, cond_true, cond_false, Option.bind_some, Bool.not_false]
            · simp only; rw [if_pos ch, htk, hz]
        · rw [if_neg ch] at hz
          refine ⟨(z, i + 1), ?_, ⟨by simp only; omega, by simp only; rw [if_neg ch, hz]⟩, by simp only; omega⟩
          simp only [g_law14_FrameLinks_L61, e3, hlt, hm, e1, e2, decide_true, cond_true, Option.bind_some]
          by_cases ep : m.Port = l.Out
          · rcases Bool.eq_false_or_eq_true (isHere x.Here l.From) with c1 | c1 <;> rcases Bool.eq_false_or_eq_true (isHere x.Here l.To) with c2 | c2 <;> simp_all [g_law14_FrameLinks_J52, g_law14_FrameLinks_J53]
          · simp [ep, g_law14_FrameLinks_J52, g_law14_FrameLinks_J53]
      · refine .inr ⟨.inl z, ?_, ?_⟩
        · simp only [g_law14_FrameLinks_L61, e3, hlt, decide_false, cond_false, Option.bind_some]
        · have : (rowAt x.Emitted l.From).take i = rowAt x.Emitted l.From := List.take_of_length_le (by omega)
          rw [hz, this, ← hB]
          split <;> simp) (s := (0, 0)) ⟨Nat.zero_le _, by simp [brings]⟩
  obtain ⟨_, hL1, rfl⟩ := hL1
  have hL2 := iter_list (L := g_law14_FrameLinks_L60 l ((List.replicate x.C.Parts.length ([] : List GMsg)).set l.To.toNat B, .nil) (B.length : Int)) (l := (List.replicate x.C.Parts.length ([] : List GMsg)).set l.To.toNat B) (f := fun _ _ => none) (fun i y hi hy => by
    rw [nxt_none]
    by_cases ei : ((i : Nat) : Int) = l.To
    · have ei' : i = l.To.toNat := by omega
      have : y = B := by
        rw [ei', List.getElem?_set_self (by simpa using hto)] at hy
        exact (Option.some.inj hy).symm
      subst this
      simp only [g_law14_FrameLinks_L60, g_law14_FrameLinks_J59, hi, hy, ei, decide_true, cond_true, cond_false, Option.bind_some, Bool.not_true]
    · have ei' : l.To.toNat ≠ i := by have := k2.1; omega
      have : y = [] := by
        rw [List.getElem?_set_ne ei'] at hy
        have := List.mem_of_getElem? hy
        exact List.eq_of_mem_replicate this
      subst this
      simp only [g_law14_FrameLinks_L60, g_law14_FrameLinks_J59, hi, hy, ei, decide_true, decide_false, cond_true, cond_false, Option.bind_some, Bool.not_true, Bool.not_false, List.length_nil]) (by
    simp only [g_law14_FrameLinks_L60, Nat.lt_irrefl, decide_false, cond_false])
  rw [firstE_all_none fun _ _ _ => rfl] at hL2
  simp only [c0, c1, c2, c3, decide_false, decide_true, Bool.not_true, cond_false, Option.bind_some, g_law14_FrameLinks_J62, chk, hne, hne2, hwl, hix, hlx, hcar, hlen, Bool.or_self, ne_eq, not_false_eq_true, if_true, hL1, hL2, fin]
end Go.Proofs.YtjoihegnjjjdaaaDoor
