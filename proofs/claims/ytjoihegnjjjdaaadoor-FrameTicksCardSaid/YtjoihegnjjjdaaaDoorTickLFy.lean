/- FrameTicks: one owner a tick; windows, At, Next, Load agree; all adds up. -/
import Derived.Test.YtjoihegnjjjdaaaDoorFrameNFy
import Derived.Test.YtjoihegnjjjdaaaDoorAskLFy
set_option linter.unusedVariables false
set_option linter.unusedSimpArgs false
set_option linter.unusedSectionVars false
namespace Go.Proofs.YtjoihegnjjjdaaaDoor
open Go Go.RowKit

theorem frame_Idle (c : GConfig) : g_frame_Idle c = some (if sCheck c ≠ .nil then (0, .v gPlan) else (IntKind.i64.wrap (c.Ticks - wsum c.Windows), .nil)) := by
  simp only [g_frame_Idle, frame_Check, frame_sum, Option.bind_some]
  by_cases c1 : sCheck c = .nil
  · simp [c1]
  · simp [c1]
theorem frame_At (c : GConfig) (t : Int) : g_frame_At c t = some (sAt c t) := by
  have h := iter_list (L := g_frame_At_L1 c t) (l := c.Windows) (f := atE t) (fun i x hi hx => by
    simp only [g_frame_At_L1, hi, hx, decide_true, cond_true, Option.bind_some, atE]
    by_cases e1 : x.Start ≤ t <;> by_cases e2 : t < IntKind.i64.wrap (x.Start + x.Len) <;> simp [e1, e2, nxt_some, nxt_none]) (by simp [g_frame_At_L1])
  simp only [g_frame_At, frame_Check, h, Option.bind_some, sAt]
  by_cases c1 : sCheck c = .nil
  · by_cases c2 : t < 0
    · simp [c1, c2]
    · by_cases c3 : c.Ticks ≤ t
      · simp [c1, c2, c3]
      · simp only [c1, c2, c3, decide_true, decide_false, Bool.not_true, cond_false, Bool.or_self, ne_eq, not_true_eq_false, if_false, or_self]
        cases firstE (atE t) 0 c.Windows <;> rfl
  · simp [c1]
theorem none_code : (ErrM.v gNone).code = 17 := cNone
theorem law14_walks {c : GConfig} {p : Int} (h : sCheck c = .nil) (hp : own c p) : g_law14_walks c p (winsOf c p) = some true := by
  obtain ⟨t1, t2⟩ := ticks_ok h
  have hs := sorted_of h p
  have hL := iter_rule (L := g_law14_walks_L17 c p (winsOf c p))
    (fun s : Int × Nat => s.2 ≤ (winsOf c p).length ∧ 0 ≤ s.1 ∧ s.1 < c.Ticks ∧ sorted s.1 ((winsOf c p).drop s.2) c.Ticks ∧ ∀ j y, j < s.2 → (winsOf c p)[j]? = some y → y.Start + y.Len ≤ s.1)
    (fun r => r = .inr true ∨ ∃ z, r = .inl z ∧ 0 ≤ z ∧ z < c.Ticks ∧ ∀ y ∈ winsOf c p, y.Start + y.Len ≤ z) (fun s => (winsOf c p).length - s.2) (fun s hI => by
      obtain ⟨z, i⟩ := s
      obtain ⟨hi, z0, z1, hd, hb⟩ := hI
      simp only at hi z0 z1 hd hb
      have hn : g_frame_Next c p z = some ((firstE (nextE z) 0 (winsOf c p)).getD (0, .v gNone)) := by rw [frame_Next, sNext_ok h hp z0 z1]
      by_cases hlt : i < (winsOf c p).length
      · have hx : (winsOf c p)[i]? = some (winsOf c p)[i] := List.getElem?_eq_getElem hlt
        rw [List.drop_eq_getElem_cons hlt] at hd
        generalize (winsOf c p)[i] = x at hx hd
        obtain ⟨d1, d2, d3⟩ := hd
        have d4 := sorted_le d3
        rw [next_at t2 0 hs (Int.le_refl _) hx hb (by omega)] at hn
        have hv : (if x.Start > z then x.Start else z) = x.Start := by split <;> omega
        rw [hv] at hn
        have hw : IntKind.i64.wrap (x.Start + x.Len) = x.Start + x.Len := wrapS (by omega) (by omega)
        by_cases he : c.Ticks ≤ x.Start + x.Len
        · refine .inr ⟨.inr true, ?_, .inl rfl⟩
          have hl : i + 1 = (winsOf c p).length := by
            cases hq : (winsOf c p).drop (i + 1) with
            | nil => have := List.drop_eq_nil_iff.1 hq; omega
            | cons y r =>
              rw [hq] at d3
              obtain ⟨g1, g2, g3⟩ := d3
              have := sorted_le g3; omega
          simp only [g_law14_walks_L17, g_law14_walks_J16, hlt, hn, hx, hw, he, hl, Option.getD_some, decide_true, cond_true, cond_false, Option.bind_some, Bool.not_true]
        · refine .inl ⟨(x.Start + x.Len, i + 1), ?_, ⟨by simp only; omega, by simp only; omega, by simp only; omega, d3, ?_⟩, by simp only; omega⟩
          · simp only [g_law14_walks_L17, g_law14_walks_J16, hlt, hn, hx, hw, he, Option.getD_some, decide_true, decide_false, cond_true, cond_false, Option.bind_some, Bool.not_true]
          · intro j y hj hy
            simp only at hj ⊢
            by_cases hji : j = i
            · subst hji
              have : x = y := Option.some.inj (hx.symm.trans hy)
              subst this; exact Int.le_refl _
            · have := hb j y (by omega) hy; omega
      · refine .inr ⟨.inl z, ?_, .inr ⟨z, rfl, z0, z1, fun y hy => ?_⟩⟩
        · simp only [g_law14_walks_L17, hlt, decide_false, cond_false]
        · obtain ⟨j, hj⟩ := List.mem_iff_getElem?.1 hy
          have : j < (winsOf c p).length := (List.getElem?_eq_some_iff.1 hj).1
          exact hb j y (by omega) hj) (s := (0, 0)) ⟨Nat.zero_le _, Int.le_refl _, by simp only; omega, by simpa using hs, fun j y hj _ => absurd hj (Nat.not_lt_zero _)⟩
  obtain ⟨r, hr, hq⟩ := hL
  rcases hq with rfl | ⟨z, rfl, z0, z1, hz⟩
  · simp only [g_law14_walks, hr, Option.bind_some]
  · have hn : g_frame_Next c p z = some (0, .v gNone) := by rw [frame_Next, sNext_ok h hp z0 z1, next_none hs t2 hz]; rfl
    simp only [g_law14_walks, hr, hn, Option.bind_some, none_code, decide_true]
theorem frame_Load_ok {c : GConfig} {p : Int} (h : sCheck c = .nil) (hp : own c p) : g_frame_Load c p = some (lsum (winsOf c p), .nil) := by
  rw [frame_Load, sWindows_ok h hp, wsum_eq (sorted_of h p) (ticks_ok h).2]
theorem minus_loop {c : GConfig} {p : Int} (h : sCheck c = .nil) : iter (g_law14_FrameTicks_L12 p (winsOf c p, .nil)) (lsum (winsOf c p), 0) = some (.inl 0) := by
  obtain ⟨t1, t2⟩ := ticks_ok h
  have hL := iter_rule (L := g_law14_FrameTicks_L12 p (winsOf c p, .nil))
    (fun s : Int × Nat => s.2 ≤ (winsOf c p).length ∧ s.1 = lsum ((winsOf c p).drop s.2) ∧ ∃ a, 0 ≤ a ∧ sorted a ((winsOf c p).drop s.2) c.Ticks)
    (fun r => r = .inl 0) (fun s => (winsOf c p).length - s.2) (fun s hI => by
      obtain ⟨z, i⟩ := s
      obtain ⟨hi, hz, a, ha, hd⟩ := hI
      simp only at hi hz hd
      by_cases hlt : i < (winsOf c p).length
      · have hx : (winsOf c p)[i]? = some (winsOf c p)[i] := List.getElem?_eq_getElem hlt
        rw [List.drop_eq_getElem_cons hlt] at hd hz
        have hmem := List.mem_of_getElem? hx
        generalize (winsOf c p)[i] = x at hx hd hz hmem
        have hp : x.Part = p := by simpa [winsOf] using (List.mem_filter.1 hmem).2
        obtain ⟨d1, d2, d3⟩ := hd
        have := lsum_le d3
        simp only [lsum] at hz
        have hw : IntKind.i64.wrap (z - x.Len) = lsum ((winsOf c p).drop (i + 1)) := by rw [wrapS (by omega) (by omega)]; omega
        refine .inl ⟨(lsum ((winsOf c p).drop (i + 1)), i + 1), ?_, ⟨by simp only; omega, rfl, x.Start + x.Len, by omega, d3⟩, by simp only; omega⟩
        simp only [g_law14_FrameTicks_L12, hlt, hx, hp, hw, decide_true, cond_true, cond_false, Option.bind_some, Bool.not_true]
      · refine .inr ⟨.inl z, ?_, ?_⟩
        · simp only [g_law14_FrameTicks_L12, hlt, decide_false, cond_false]
        · rw [hz, List.drop_of_length_le (by omega)]; rfl) (s := (lsum (winsOf c p), 0)) ⟨Nat.zero_le _, by simp, 0, Int.le_refl _, by simpa using sorted_of h p⟩
  obtain ⟨r, hr, rfl⟩ := hL
  exact hr
theorem law14_FrameTicks (x : GL14Case) : g_law14_FrameTicks x = some true := by
  simp only [g_law14_FrameTicks, law14_fixed, r14_Good, Option.bind_some, Bool.not_true, cond_false]
  by_cases h : sCheck x.C = .nil
  rotate_left
  · simp only [h, frame_Check, decide_false, Bool.not_false, cond_true, Option.bind_some]
  obtain ⟨t1, t2⟩ := ticks_ok h
  have hs := sorted_wins h
  have hls := lsum_le hs
  have hidle : g_frame_Idle x.C = some (x.C.Ticks - lsum x.C.Windows, .nil) := by
    rw [frame_Idle, if_neg (by simpa using h), wsum_eq hs t2, wrapS (by omega) (by omega)]
  have hnp := parts_short h
  have hown : ∀ w ∈ x.C.Windows, -1 ≤ w.Part ∧ w.Part < x.C.Parts.length := fun w hw => by
    obtain ⟨i, hi⟩ := List.mem_iff_getElem?.1 hw
    exact (wins_ok h i w hi).1
  have hsub : ∀ k : Int, 0 ≤ lsum (x.C.Windows.filter fun w => decide (w.Part < k)) ∧ lsum (x.C.Windows.filter fun w => decide (w.Part < k)) ≤ x.C.Ticks := fun k => by
    have := lsum_le (sorted_filter (fun w => decide (w.Part < k)) hs); omega
  have hA := iter_rule (L := g_law14_FrameTicks_L18 x)
    (fun s : Int × Int => -1 ≤ s.2 ∧ s.2 ≤ x.C.Parts.length ∧ s.1 = x.C.Ticks - lsum x.C.Windows + lsum (x.C.Windows.filter fun w => decide (w.Part < s.2)))
    (fun r => r = .inl x.C.Ticks) (fun s => ((x.C.Parts.length : Int) - s.2).toNat) (fun s hI => by
      obtain ⟨z, k⟩ := s
      obtain ⟨k0, k1, hz⟩ := hI
      simp only at k0 k1 hz
      by_cases hlt : k < (x.C.Parts.length : Int)
      · have hp : own x.C k := ⟨k0, hlt⟩
        have hload := frame_Load_ok h hp
        have hwin : g_frame_Windows x.C k = some (winsOf x.C k, .nil) := by rw [frame_Windows, sWindows_ok h hp]
        have hsp := lsum_split k x.C.Windows
        have hb := hsub (k + 1)
        have hb0 := hsub k
        have hw1 : IntKind.i64.wrap (z + lsum (winsOf x.C k)) = x.C.Ticks - lsum x.C.Windows + lsum (x.C.Windows.filter fun w => decide (w.Part < k + 1)) := by
          have e : lsum (winsOf x.C k) = lsum (x.C.Windows.filter fun w => decide (w.Part = k)) := rfl
          rw [wrapS (by omega) (by omega)]; omega
        have hw2 : IntKind.i64.wrap (k + 1) = k + 1 := wrapS (by omega) (by omega)
        refine .inl ⟨(x.C.Ticks - lsum x.C.Windows + lsum (x.C.Windows.filter fun w => decide (w.Part < k + 1)), k + 1), ?_, ⟨by simp only; omega, by simp only; omega, rfl⟩, by simp only; omega⟩
        simp only [g_law14_FrameTicks_L18, g_law14_FrameTicks_J11, hlt, hload, hwin, minus_loop h, law14_walks h hp, hw1, hw2, decide_true, cond_true, cond_false, Option.bind_some, Bool.not_true, Bool.or_self]
      · refine .inr ⟨.inl z, ?_, ?_⟩
        · simp only [g_law14_FrameTicks_L18, hlt, decide_false, cond_false]
        · rw [filter_all fun w hw => decide_eq_true (by have := (hown w hw).2; omega)] at hz
          rw [hz]; congr 1; omega) (s := (x.C.Ticks - lsum x.C.Windows, -1)) ⟨by simp only; omega, by simp only; omega, by
      simp only
      rw [filter_no fun w hw => decide_eq_false (by have := (hown w hw).1; omega)]
      simp [lsum]⟩
  obtain ⟨_, hA, rfl⟩ := hA
  have hstep : ∃ d : Int, IntKind.i64.wrap (1 + IntKind.i64.wrap (Int.tdiv x.C.Ticks 97)) = d ∧ 1 ≤ d ∧ d ≤ 10001 := by
    have g0 : 0 ≤ Int.tdiv x.C.Ticks 97 := Int.tdiv_nonneg (by omega) (by decide)
    have g1 : Int.tdiv x.C.Ticks 97 ≤ x.C.Ticks := by
      rw [Int.tdiv_eq_ediv_of_nonneg (by omega)]; omega
    refine ⟨1 + Int.tdiv x.C.Ticks 97, ?_, by omega, by omega⟩
    rw [wrapS (z := Int.tdiv x.C.Ticks 97) (by omega) (by omega), wrapS (by omega) (by omega)]
  obtain ⟨d, hd, d1, d2⟩ := hstep
  have hB := iter_rule (L := g_law14_FrameTicks_L17 x)
    (fun s : Int × Int => 0 ≤ s.2 ∧ s.2 ≤ 20001 ∧ s.1 ≤ 10000 ∧ unc x.C.Windows s.2 (x.C.Ticks - s.2).toNat ≤ s.1)
    (fun r => ∃ z, r = .inl z ∧ 0 ≤ z) (fun s => (x.C.Ticks - s.2).toNat) (fun s hI => by
      obtain ⟨z, t⟩ := s
      obtain ⟨h0, h1, h2, h3⟩ := hI
      simp only at h0 h1 h2 h3
      have hz0 := unc_nonneg x.C.Windows (x.C.Ticks - t).toNat t
      by_cases hlt : t < x.C.Ticks
      · have hw2 : IntKind.i64.wrap (t + d) = t + d := wrapS (by omega) (by omega)
        -- what stands behind the step
        obtain ⟨n, hn⟩ : ∃ n, (x.C.Ticks - t).toNat = n + 1 := ⟨(x.C.Ticks - t).toNat - 1, by omega⟩
        have hrest : unc x.C.Windows (t + d) (x.C.Ticks - (t + d)).toNat ≤ unc x.C.Windows (t + 1) n := by
          by_cases hq : t + d ≤ x.C.Ticks
          · obtain ⟨m, hm⟩ : ∃ m : Nat, d = 1 + m := ⟨(d - 1).toNat, by omega⟩
            have e1 : n = m + (x.C.Ticks - (t + d)).toNat := by omega
            have e2 := unc_split x.C.Windows m (x.C.Ticks - (t + d)).toNat (t + 1)
            rw [e1, e2, show t + 1 + (m : Int) = t + d by omega]
            have := unc_nonneg x.C.Windows m (t + 1); omega
          · rw [show (x.C.Ticks - (t + d)).toNat = 0 by omega]
            exact unc_nonneg _ _ _
        have hu : unc x.C.Windows t (n + 1) = (if cov x.C.Windows t = true then 0 else 1) + unc x.C.Windows (t + 1) n := rfl
        rw [hn, hu] at h3
        have hat : g_frame_At x.C t = some (if cov x.C.Windows t = true then (ownerOf x.C.Windows t, .nil) else (0, .v gNone)) := by rw [frame_At, sAt_ok h h0 hlt]
        rcases Bool.eq_false_or_eq_true (cov x.C.Windows t) with e | e
        · rw [if_pos e] at hat h3
          have hp := owner_own h e
          obtain ⟨w, g1, g2, g3⟩ := owner_some e
          have hcw : w.Start ≤ t ∧ t < w.Start + w.Len := by simpa [covers] using g2
          have hnx : g_frame_Next x.C (ownerOf x.C.Windows t) t = some (t, .nil) := by
            rw [frame_Next, sNext_ok h hp h0 hlt]
            have hmem : w ∈ winsOf x.C (ownerOf x.C.Windows t) := List.mem_filter.2 ⟨g1, by simp [g3]⟩
            rw [next_cov t2 0 (sorted_of h _) (Int.le_refl _) hmem hcw.1 hcw.2]; rfl
          refine .inl ⟨(z, t + d), ?_, ⟨by simp only; omega, by simp only; omega, h2, by simp only; omega⟩, by simp only; omega⟩
          simp only [g_law14_FrameTicks_L17, g_law14_FrameTicks_J16, hlt, hat, hnx, hd, hw2, decide_true, cond_true, cond_false, Option.bind_some, Bool.not_true, Bool.or_self]
        · rw [e, if_neg (by simp)] at hat
          rw [e, if_neg (by simp)] at h3
          have := unc_nonneg x.C.Windows n (t + 1)
          have hw3 : IntKind.i64.wrap (z - 1) = z - 1 := wrapS (by omega) (by omega)
          refine .inl ⟨(z - 1, t + d), ?_, ⟨by simp only; omega, by simp only; omega, by simp only; omega, by simp only; omega⟩, by simp only; omega⟩
          have hne : ¬ (ErrM.v gNone = ErrM.nil) := fun hh => by cases hh
          simp only [g_law14_FrameTicks_L17, g_law14_FrameTicks_J16, hlt, hat, hd, hw2, hw3, none_code, hne, decide_true, decide_false, cond_true, cond_false, Option.bind_some, Bool.not_true, Bool.not_false]
      · refine .inr ⟨.inl z, ?_, z, rfl, by omega⟩
        simp only [g_law14_FrameTicks_L17, hlt, decide_false, cond_false]) (s := (x.C.Ticks - lsum x.C.Windows, 0)) ⟨Int.le_refl _, by simp only; omega, by simp only; omega, by
      have hT : ((x.C.Ticks.toNat : Nat) : Int) = x.C.Ticks := Int.toNat_of_nonneg (by omega)
      simp only
      rw [Int.sub_zero, unc_sorted _ (by rw [hT]; simpa using hs), hT]; exact Int.le_refl _⟩
  obtain ⟨_, hB, z, rfl, hz⟩ := hB
  simp only [h, decide_true, Bool.not_true, cond_false, Option.bind_some, hidle, hA, hB, hz]
end Go.Proofs.YtjoihegnjjjdaaaDoor
