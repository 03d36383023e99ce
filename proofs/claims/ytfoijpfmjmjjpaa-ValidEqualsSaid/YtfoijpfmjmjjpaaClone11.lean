/- slices.Clone at the types of a state (written by wip/tools) -/
import Derived.Test.YtfoijpfmjmjjpaaRef11
import Derived.Test.YtfoijpfmjmjjpaaCopy
set_option linter.unusedVariables false
set_option linter.unusedSimpArgs false
set_option maxRecDepth 10000
namespace Go.Proofs.Ytfoijpfmjmjjpaa
open Go Go.RowKit
theorem el3 : ElemOk Try.prog 3 1 8 [.int .i64 0] := ⟨by kernel_rfl, by kernel_rfl, by kernel_rfl, rfl, by decide⟩
theorem el4 : ElemOk Try.prog 4 1 1 [.bool false] := ⟨by kernel_rfl, by kernel_rfl, by kernel_rfl, rfl, by decide⟩
theorem el40 : ElemOk Try.prog 40 66 80 [.int .i64 0, .bool false, .int .u8 0, .int .u8 0, .int .u8 0, .int .u8 0, .int .u8 0, .int .u8 0, .int .u8 0, .int .u8 0, .int .u8 0, .int .u8 0, .int .u8 0, .int .u8 0, .int .u8 0, .int .u8 0, .int .u8 0, .int .u8 0, .int .u8 0, .int .u8 0, .int .u8 0, .int .u8 0, .int .u8 0, .int .u8 0, .int .u8 0, .int .u8 0, .int .u8 0, .int .u8 0, .int .u8 0, .int .u8 0, .int .u8 0, .int .u8 0, .int .u8 0, .int .u8 0, .int .u8 0, .int .u8 0, .int .u8 0, .int .u8 0, .int .u8 0, .int .u8 0, .int .u8 0, .int .u8 0, .int .u8 0, .int .u8 0, .int .u8 0, .int .u8 0, .int .u8 0, .int .u8 0, .int .u8 0, .int .u8 0, .int .u8 0, .int .u8 0, .int .u8 0, .int .u8 0, .int .u8 0, .int .u8 0, .int .u8 0, .int .u8 0, .int .u8 0, .int .u8 0, .int .u8 0, .int .u8 0, .int .u8 0, .int .u8 0, .int .u8 0, .int .u8 0] := ⟨by kernel_rfl, by kernel_rfl, by kernel_rfl, rfl, by decide⟩
theorem el52 : ElemOk Try.prog 52 21 104 [.int .u32 0, .int .u32 0, .int .u32 0, .int .u32 0, .int .u32 0, .int .u32 0, .int .u32 0, .int .u32 0, .int .u32 0, .int .u32 0, .int .u32 0, .int .u32 0, .int .u32 0, .int .u32 0, .int .u32 0, .int .u32 0, .int .u32 0, .int .i64 0, .int .i64 0, .int .i64 0, .int .i64 0] := ⟨by kernel_rfl, by kernel_rfl, by kernel_rfl, rfl, by decide⟩
theorem el55 : ElemOk Try.prog 55 2 32 [.slice none 0 0, .int .i64 0] := ⟨by kernel_rfl, by kernel_rfl, by kernel_rfl, rfl, by decide⟩
theorem el63 : ElemOk Try.prog 63 2 16 [.int .i64 0, .int .i64 0] := ⟨by kernel_rfl, by kernel_rfl, by kernel_rfl, rfl, by decide⟩
theorem el9 : ElemOk Try.prog 9 1 16 [.string ⟨#[]⟩] := ⟨by kernel_rfl, by kernel_rfl, by kernel_rfl, rfl, by decide⟩
theorem ze3 : zeroB Try.prog 3 = some [.int .i64 0] := by kernel_rfl
theorem ze4 : zeroB Try.prog 4 = some [.bool false] := by kernel_rfl
theorem ze52 : zeroB Try.prog 52 = some [.int .u32 0, .int .u32 0, .int .u32 0, .int .u32 0, .int .u32 0, .int .u32 0, .int .u32 0, .int .u32 0, .int .u32 0, .int .u32 0, .int .u32 0, .int .u32 0, .int .u32 0, .int .u32 0, .int .u32 0, .int .u32 0, .int .u32 0, .int .i64 0, .int .i64 0, .int .i64 0, .int .i64 0] := by kernel_rfl
theorem ze63 : zeroB Try.prog 63 = some [.int .i64 0, .int .i64 0] := by kernel_rfl
theorem ze9 : zeroB Try.prog 9 = some [.string ⟨#[]⟩] := by kernel_rfl

theorem clone_int {w : World} {v : Value} {xs : List Int} (h : Sl w 1 8 (Flat eI) v xs) :
    Calls Try.prog 18 [v].toArray w (Ret fun u w' => Own w' 3 1 u xs.length (xs.flatMap eI) ∧ Ext w w' ∧ ∀ b ∈ blks u, w.heap.size ≤ b) := by
  obtain ⟨A1, c1, rfl, hl1, hm1, hn1⟩ := h.r.form
  have hbb := h.b
  simp only [lim] at hbb
  refine enter Try.func18 rfl rfl rfl ?_
  intro a H
  dsimp only [enumL, Nat.zero_add, Nat.reduceAdd] at H
  refine wp_seq ?_
  refine wp_region_lit ?_
  refine n_q H (q_assign rfl) rfl ?_
  clear H a; intro a H
  refine n_nil ?_
  refine then_normal ?_
  refine wp_seq ?_
  refine wp_seq ?_
  refine wp_region_lit ?_
  refine n_q H (q_move rfl) rfl ?_
  clear H a; intro a H
  refine n_q H (q_nilSl Try.underlying23 rfl rfl) rfl ?_
  clear H a; intro a H
  refine n_nil ?_
  refine then_normal ?_
  refine c_cond H rfl (fun hc4 => ?_) (fun hc4 => ?_)
  · (try simp only [decide_eq_true_eq, decide_eq_false_iff_not, Bool.and_eq_true, Bool.or_eq_true, Bool.and_eq_false_iff, Bool.or_eq_false_iff, beq_iff_eq, bne_iff_ne, beq_eq_false_iff_ne, bne_eq_false_iff_eq, ne_eq, Bool.not_eq_true', Bool.not_eq_false', Int.not_lt, Int.not_le, Bool.not_eq_true, Bool.not_eq_false] at hc4)
    refine wp_seq ?_
    refine wp_region_lit ?_
    refine n_q H (q_assign rfl) rfl ?_
    clear H a; intro a H
    refine n_nil ?_
    refine then_normal ?_
    refine wp_ret ?_
    refine then_ret ?_
    refine ret1 H (.inr rfl) rfl rfl ?_
    exact ⟨by cases A1 with | none => (obtain ⟨rfl, _⟩ := hn1 rfl; exact Own.nil _ _ _) | some ad => simp at hc4, Ext.rfl', by simp [blks]⟩
  · (try simp only [decide_eq_true_eq, decide_eq_false_iff_not, Bool.and_eq_true, Bool.or_eq_true, Bool.and_eq_false_iff, Bool.or_eq_false_iff, beq_iff_eq, bne_iff_ne, beq_eq_false_iff_ne, bne_eq_false_iff_eq, ne_eq, Bool.not_eq_true', Bool.not_eq_false', Int.not_lt, Int.not_le, Bool.not_eq_true, Bool.not_eq_false] at hc4)
    refine wp_skip ?_
    refine then_normal ?_
    refine wp_seq ?_
    refine wp_region_lit ?_
    refine n_buildSlice H Try.underlying23 sz3 ze3 rfl rfl rfl (cs := []) (by kernel_rfl) rfl ?_
    clear H; intro b5 w1 hB5 hE2 hs_b5; clear a; intro a H
    have hw_b5 : w.heap.size ≤ b5 := by omega
    have hX := hE2
    refine n_q H (q_move rfl) rfl ?_
    clear H a; intro a H
    refine n_append H rfl rfl Try.underlying23 Try.underlying23 (by simp) el3 (Own.ofBlk (n := 0) hB5 rfl (by simp [maxLen])) ((h.r.ext (Flat.mono _) hX).src h.r.lens) (flat_one eI_one xs) (by omega) (by simp only [maxLen]; omega) rfl ?_
    clear H; intro v7 w3 hO7 hC4 hb7 hnil7; clear a; intro a H
    have hX' := hX
    have hfr := fresh_of hb7 (by simp [blks]; omega) (by have := hX'.size; omega)
    simp only [List.nil_append, Nat.zero_add] at hO7
    replace hX := Chg.below hX hC4 (Nat.le_refl _) (by simp [blks] <;> omega)
    refine n_q H (q_assign rfl) rfl ?_
    clear H a; intro a H
    refine n_nil ?_
    refine then_normal ?_
    refine wp_ret ?_
    refine ret1 H (.inr rfl) rfl rfl ?_
    exact ⟨hO7, hX, hfr⟩

theorem clone_bool {w : World} {v : Value} {xs : List Bool} (h : Sl w 1 1 (Flat eF) v xs) :
    Calls Try.prog 20 [v].toArray w (Ret fun u w' => Own w' 4 1 u xs.length (xs.flatMap eF) ∧ Ext w w' ∧ ∀ b ∈ blks u, w.heap.size ≤ b) := by
  obtain ⟨A1, c1, rfl, hl1, hm1, hn1⟩ := h.r.form
  have hbb := h.b
  simp only [lim] at hbb
  refine enter Try.func20 rfl rfl rfl ?_
  intro a H
  dsimp only [enumL, Nat.zero_add, Nat.reduceAdd] at H
  refine wp_seq ?_
  refine wp_region_lit ?_
  refine n_q H (q_assign rfl) rfl ?_
  clear H a; intro a H
  refine n_nil ?_
  refine then_normal ?_
  refine wp_seq ?_
  refine wp_seq ?_
  refine wp_region_lit ?_
  refine n_q H (q_move rfl) rfl ?_
  clear H a; intro a H
  refine n_q H (q_nilSl Try.underlying25 rfl rfl) rfl ?_
  clear H a; intro a H
  refine n_nil ?_
  refine then_normal ?_
  refine c_cond H rfl (fun hc4 => ?_) (fun hc4 => ?_)
  · (try simp only [decide_eq_true_eq, decide_eq_false_iff_not, Bool.and_eq_true, Bool.or_eq_true, Bool.and_eq_false_iff, Bool.or_eq_false_iff, beq_iff_eq, bne_iff_ne, beq_eq_false_iff_ne, bne_eq_false_iff_eq, ne_eq, Bool.not_eq_true', Bool.not_eq_false', Int.not_lt, Int.not_le, Bool.not_eq_true, Bool.not_eq_false] at hc4)
    refine wp_seq ?_
    refine wp_region_lit ?_
    refine n_q H (q_assign rfl) rfl ?_
    clear H a; intro a H
    refine n_nil ?_
    refine then_normal ?_
    refine wp_ret ?_
    refine then_ret ?_
    refine ret1 H (.inr rfl) rfl rfl ?_
    exact ⟨by cases A1 with | none => (obtain ⟨rfl, _⟩ := hn1 rfl; exact Own.nil _ _ _) | some ad => simp at hc4, Ext.rfl', by simp [blks]⟩
  · (try simp only [decide_eq_true_eq, decide_eq_false_iff_not, Bool.and_eq_true, Bool.or_eq_true, Bool.and_eq_false_iff, Bool.or_eq_false_iff, beq_iff_eq, bne_iff_ne, beq_eq_false_iff_ne, bne_eq_false_iff_eq, ne_eq, Bool.not_eq_true', Bool.not_eq_false', Int.not_lt, Int.not_le, Bool.not_eq_true, Bool.not_eq_false] at hc4)
    refine wp_skip ?_
    refine then_normal ?_
    refine wp_seq ?_
    refine wp_region_lit ?_
    refine n_buildSlice H Try.underlying25 sz4 ze4 rfl rfl rfl (cs := []) (by kernel_rfl) rfl ?_
    clear H; intro b5 w1 hB5 hE2 hs_b5; clear a; intro a H
    have hw_b5 : w.heap.size ≤ b5 := by omega
    have hX := hE2
    refine n_q H (q_move rfl) rfl ?_
    clear H a; intro a H
    refine n_append H rfl rfl Try.underlying25 Try.underlying25 (by simp) el4 (Own.ofBlk (n := 0) hB5 rfl (by simp [maxLen])) ((h.r.ext (Flat.mono _) hX).src h.r.lens) (flat_one eF_one xs) (by omega) (by simp only [maxLen]; omega) rfl ?_
    clear H; intro v7 w3 hO7 hC4 hb7 hnil7; clear a; intro a H
    have hX' := hX
    have hfr := fresh_of hb7 (by simp [blks]; omega) (by have := hX'.size; omega)
    simp only [List.nil_append, Nat.zero_add] at hO7
    replace hX := Chg.below hX hC4 (Nat.le_refl _) (by simp [blks] <;> omega)
    refine n_q H (q_assign rfl) rfl ?_
    clear H a; intro a H
    refine n_nil ?_
    refine then_normal ?_
    refine wp_ret ?_
    refine ret1 H (.inr rfl) rfl rfl ?_
    exact ⟨hO7, hX, hfr⟩

theorem clone_string {w : World} {v : Value} {xs : List ByteArray} (h : Sl w 1 16 (Flat eS) v xs) :
    Calls Try.prog 23 [v].toArray w (Ret fun u w' => Own w' 9 1 u xs.length (xs.flatMap eS) ∧ Ext w w' ∧ ∀ b ∈ blks u, w.heap.size ≤ b) := by
  obtain ⟨A1, c1, rfl, hl1, hm1, hn1⟩ := h.r.form
  have hbb := h.b
  simp only [lim] at hbb
  refine enter Try.func23 rfl rfl rfl ?_
  intro a H
  dsimp only [enumL, Nat.zero_add, Nat.reduceAdd] at H
  refine wp_seq ?_
  refine wp_region_lit ?_
  refine n_q H (q_assign rfl) rfl ?_
  clear H a; intro a H
  refine n_nil ?_
  refine then_normal ?_
  refine wp_seq ?_
  refine wp_seq ?_
  refine wp_region_lit ?_
  refine n_q H (q_move rfl) rfl ?_
  clear H a; intro a H
  refine n_q H (q_nilSl Try.underlying53 rfl rfl) rfl ?_
  clear H a; intro a H
  refine n_nil ?_
  refine then_normal ?_
  refine c_cond H rfl (fun hc4 => ?_) (fun hc4 => ?_)
  · (try simp only [decide_eq_true_eq, decide_eq_false_iff_not, Bool.and_eq_true, Bool.or_eq_true, Bool.and_eq_false_iff, Bool.or_eq_false_iff, beq_iff_eq, bne_iff_ne, beq_eq_false_iff_ne, bne_eq_false_iff_eq, ne_eq, Bool.not_eq_true', Bool.not_eq_false', Int.not_lt, Int.not_le, Bool.not_eq_true, Bool.not_eq_false] at hc4)
    refine wp_seq ?_
    refine wp_region_lit ?_
    refine n_q H (q_assign rfl) rfl ?_
    clear H a; intro a H
    refine n_nil ?_
    refine then_normal ?_
    refine wp_ret ?_
    refine then_ret ?_
    refine ret1 H (.inr rfl) rfl rfl ?_
    exact ⟨by cases A1 with | none => (obtain ⟨rfl, _⟩ := hn1 rfl; exact Own.nil _ _ _) | some ad => simp at hc4, Ext.rfl', by simp [blks]⟩
  · (try simp only [decide_eq_true_eq, decide_eq_false_iff_not, Bool.and_eq_true, Bool.or_eq_true, Bool.and_eq_false_iff, Bool.or_eq_false_iff, beq_iff_eq, bne_iff_ne, beq_eq_false_iff_ne, bne_eq_false_iff_eq, ne_eq, Bool.not_eq_true', Bool.not_eq_false', Int.not_lt, Int.not_le, Bool.not_eq_true, Bool.not_eq_false] at hc4)
    refine wp_skip ?_
    refine then_normal ?_
    refine wp_seq ?_
    refine wp_region_lit ?_
    refine n_buildSlice H Try.underlying53 sz9 ze9 rfl rfl rfl (cs := []) (by kernel_rfl) rfl ?_
    clear H; intro b5 w1 hB5 hE2 hs_b5; clear a; intro a H
    have hw_b5 : w.heap.size ≤ b5 := by omega
    have hX := hE2
    refine n_q H (q_move rfl) rfl ?_
    clear H a; intro a H
    refine n_append H rfl rfl Try.underlying53 Try.underlying53 (by simp) el9 (Own.ofBlk (n := 0) hB5 rfl (by simp [maxLen])) ((h.r.ext (Flat.mono _) hX).src h.r.lens) (flat_one eS_one xs) (by omega) (by simp only [maxLen]; omega) rfl ?_
    clear H; intro v7 w3 hO7 hC4 hb7 hnil7; clear a; intro a H
    have hX' := hX
    have hfr := fresh_of hb7 (by simp [blks]; omega) (by have := hX'.size; omega)
    simp only [List.nil_append, Nat.zero_add] at hO7
    replace hX := Chg.below hX hC4 (Nat.le_refl _) (by simp [blks] <;> omega)
    refine n_q H (q_assign rfl) rfl ?_
    clear H a; intro a H
    refine n_nil ?_
    refine then_normal ?_
    refine wp_ret ?_
    refine ret1 H (.inr rfl) rfl rfl ?_
    exact ⟨hO7, hX, hfr⟩

theorem clone_timer {w : World} {v : Value} {xs : List TimerM} (h : Sl w 2 16 (Flat eTimer) v xs) :
    Calls Try.prog 19 [v].toArray w (Ret fun u w' => Own w' 63 2 u xs.length (xs.flatMap eTimer) ∧ Ext w w' ∧ ∀ b ∈ blks u, w.heap.size ≤ b) := by
  obtain ⟨A1, c1, rfl, hl1, hm1, hn1⟩ := h.r.form
  have hbb := h.b
  simp only [lim] at hbb
  refine enter Try.func19 rfl rfl rfl ?_
  intro a H
  dsimp only [enumL, Nat.zero_add, Nat.reduceAdd] at H
  refine wp_seq ?_
  refine wp_region_lit ?_
  refine n_q H (q_assign rfl) rfl ?_
  clear H a; intro a H
  refine n_nil ?_
  refine then_normal ?_
  refine wp_seq ?_
  refine wp_seq ?_
  refine wp_region_lit ?_
  refine n_q H (q_move rfl) rfl ?_
  clear H a; intro a H
  refine n_q H (q_nilSl Try.underlying24 rfl rfl) rfl ?_
  clear H a; intro a H
  refine n_nil ?_
  refine then_normal ?_
  refine c_cond H rfl (fun hc4 => ?_) (fun hc4 => ?_)
  · (try simp only [decide_eq_true_eq, decide_eq_false_iff_not, Bool.and_eq_true, Bool.or_eq_true, Bool.and_eq_false_iff, Bool.or_eq_false_iff, beq_iff_eq, bne_iff_ne, beq_eq_false_iff_ne, bne_eq_false_iff_eq, ne_eq, Bool.not_eq_true', Bool.not_eq_false', Int.not_lt, Int.not_le, Bool.not_eq_true, Bool.not_eq_false] at hc4)
    refine wp_seq ?_
    refine wp_region_lit ?_
    refine n_q H (q_assign rfl) rfl ?_
    clear H a; intro a H
    refine n_nil ?_
    refine then_normal ?_
    refine wp_ret ?_
    refine then_ret ?_
    refine ret1 H (.inr rfl) rfl rfl ?_
    exact ⟨by cases A1 with | none => (obtain ⟨rfl, _⟩ := hn1 rfl; exact Own.nil _ _ _) | some ad => simp at hc4, Ext.rfl', by simp [blks]⟩
  · (try simp only [decide_eq_true_eq, decide_eq_false_iff_not, Bool.and_eq_true, Bool.or_eq_true, Bool.and_eq_false_iff, Bool.or_eq_false_iff, beq_iff_eq, bne_iff_ne, beq_eq_false_iff_ne, bne_eq_false_iff_eq, ne_eq, Bool.not_eq_true', Bool.not_eq_false', Int.not_lt, Int.not_le, Bool.not_eq_true, Bool.not_eq_false] at hc4)
    refine wp_skip ?_
    refine then_normal ?_
    refine wp_seq ?_
    refine wp_region_lit ?_
    refine n_buildSlice H Try.underlying24 sz63 ze63 rfl rfl rfl (cs := []) (by kernel_rfl) rfl ?_
    clear H; intro b5 w1 hB5 hE2 hs_b5; clear a; intro a H
    have hw_b5 : w.heap.size ≤ b5 := by omega
    have hX := hE2
    refine n_q H (q_move rfl) rfl ?_
    clear H a; intro a H
    refine n_append H rfl rfl Try.underlying24 Try.underlying24 (by simp) el63 (Own.ofBlk (n := 0) hB5 rfl (by simp [maxLen])) ((h.r.ext (Flat.mono _) hX).src h.r.lens) (flat_one eTimer_one xs) (by omega) (by simp only [maxLen]; omega) rfl ?_
    clear H; intro v7 w3 hO7 hC4 hb7 hnil7; clear a; intro a H
    have hX' := hX
    have hfr := fresh_of hb7 (by simp [blks]; omega) (by have := hX'.size; omega)
    simp only [List.nil_append, Nat.zero_add] at hO7
    replace hX := Chg.below hX hC4 (Nat.le_refl _) (by simp [blks] <;> omega)
    refine n_q H (q_assign rfl) rfl ?_
    clear H a; intro a H
    refine n_nil ?_
    refine then_normal ?_
    refine wp_ret ?_
    refine ret1 H (.inr rfl) rfl rfl ?_
    exact ⟨hO7, hX, hfr⟩

theorem clone_proc {w : World} {v : Value} {xs : List ProcM} (h : Sl w 21 104 (Flat eProc) v xs) :
    Calls Try.prog 17 [v].toArray w (Ret fun u w' => Own w' 52 21 u xs.length (xs.flatMap eProc) ∧ Ext w w' ∧ ∀ b ∈ blks u, w.heap.size ≤ b) := by
  obtain ⟨A1, c1, rfl, hl1, hm1, hn1⟩ := h.r.form
  have hbb := h.b
  simp only [lim] at hbb
  refine enter Try.func17 rfl rfl rfl ?_
  intro a H
  dsimp only [enumL, Nat.zero_add, Nat.reduceAdd] at H
  refine wp_seq ?_
  refine wp_region_lit ?_
  refine n_q H (q_assign rfl) rfl ?_
  clear H a; intro a H
  refine n_nil ?_
  refine then_normal ?_
  refine wp_seq ?_
  refine wp_seq ?_
  refine wp_region_lit ?_
  refine n_q H (q_move rfl) rfl ?_
  clear H a; intro a H
  refine n_q H (q_nilSl Try.underlying22 rfl rfl) rfl ?_
  clear H a; intro a H
  refine n_nil ?_
  refine then_normal ?_
  refine c_cond H rfl (fun hc4 => ?_) (fun hc4 => ?_)
  · (try simp only [decide_eq_true_eq, decide_eq_false_iff_not, Bool.and_eq_true, Bool.or_eq_true, Bool.and_eq_false_iff, Bool.or_eq_false_iff, beq_iff_eq, bne_iff_ne, beq_eq_false_iff_ne, bne_eq_false_iff_eq, ne_eq, Bool.not_eq_true', Bool.not_eq_false', Int.not_lt, Int.not_le, Bool.not_eq_true, Bool.not_eq_false] at hc4)
    refine wp_seq ?_
    refine wp_region_lit ?_
    refine n_q H (q_assign rfl) rfl ?_
    clear H a; intro a H
    refine n_nil ?_
    refine then_normal ?_
    refine wp_ret ?_
    refine then_ret ?_
    refine ret1 H (.inr rfl) rfl rfl ?_
    exact ⟨by cases A1 with | none => (obtain ⟨rfl, _⟩ := hn1 rfl; exact Own.nil _ _ _) | some ad => simp at hc4, Ext.rfl', by simp [blks]⟩
  · (try simp only [decide_eq_true_eq, decide_eq_false_iff_not, Bool.and_eq_true, Bool.or_eq_true, Bool.and_eq_false_iff, Bool.or_eq_false_iff, beq_iff_eq, bne_iff_ne, beq_eq_false_iff_ne, bne_eq_false_iff_eq, ne_eq, Bool.not_eq_true', Bool.not_eq_false', Int.not_lt, Int.not_le, Bool.not_eq_true, Bool.not_eq_false] at hc4)
    refine wp_skip ?_
    refine then_normal ?_
    refine wp_seq ?_
    refine wp_region_lit ?_
    refine n_buildSlice H Try.underlying22 sz52 ze52 rfl rfl rfl (cs := []) (by kernel_rfl) rfl ?_
    clear H; intro b5 w1 hB5 hE2 hs_b5; clear a; intro a H
    have hw_b5 : w.heap.size ≤ b5 := by omega
    have hX := hE2
    refine n_q H (q_move rfl) rfl ?_
    clear H a; intro a H
    refine n_append H rfl rfl Try.underlying22 Try.underlying22 (by simp) el52 (Own.ofBlk (n := 0) hB5 rfl (by simp [maxLen])) ((h.r.ext (Flat.mono _) hX).src h.r.lens) (flat_one eProc_one xs) (by omega) (by simp only [maxLen]; omega) rfl ?_
    clear H; intro v7 w3 hO7 hC4 hb7 hnil7; clear a; intro a H
    have hX' := hX
    have hfr := fresh_of hb7 (by simp [blks]; omega) (by have := hX'.size; omega)
    simp only [List.nil_append, Nat.zero_add] at hO7
    replace hX := Chg.below hX hC4 (Nat.le_refl _) (by simp [blks] <;> omega)
    refine n_q H (q_assign rfl) rfl ?_
    clear H a; intro a H
    refine n_nil ?_
    refine then_normal ?_
    refine wp_ret ?_
    refine ret1 H (.inr rfl) rfl rfl ?_
    exact ⟨hO7, hX, hfr⟩

theorem clone_page {w : World} {v : Value} {xs : List PageM} (h : Sl w 66 80 (Flat ePage) v xs) :
    Calls Try.prog 22 [v].toArray w (Ret fun u w' => Own w' 40 66 u xs.length (xs.flatMap ePage) ∧ Ext w w' ∧ ∀ b ∈ blks u, w.heap.size ≤ b) := by
  obtain ⟨A1, c1, rfl, hl1, hm1, hn1⟩ := h.r.form
  have hbb := h.b
  simp only [lim] at hbb
  refine enter Try.func22 rfl rfl rfl ?_
  intro a H
  dsimp only [enumL, Nat.zero_add, Nat.reduceAdd] at H
  refine wp_seq ?_
  refine wp_region_lit ?_
  refine n_q H (q_assign rfl) rfl ?_
  clear H a; intro a H
  refine n_nil ?_
  refine then_normal ?_
  refine wp_seq ?_
  refine wp_seq ?_
  refine wp_region_lit ?_
  refine n_q H (q_move rfl) rfl ?_
  clear H a; intro a H
  refine n_q H (q_nilSl Try.underlying27 rfl rfl) rfl ?_
  clear H a; intro a H
  refine n_nil ?_
  refine then_normal ?_
  refine c_cond H rfl (fun hc4 => ?_) (fun hc4 => ?_)
  · (try simp only [decide_eq_true_eq, decide_eq_false_iff_not, Bool.and_eq_true, Bool.or_eq_true, Bool.and_eq_false_iff, Bool.or_eq_false_iff, beq_iff_eq, bne_iff_ne, beq_eq_false_iff_ne, bne_eq_false_iff_eq, ne_eq, Bool.not_eq_true', Bool.not_eq_false', Int.not_lt, Int.not_le, Bool.not_eq_true, Bool.not_eq_false] at hc4)
    refine wp_seq ?_
    refine wp_region_lit ?_
    refine n_q H (q_assign rfl) rfl ?_
    clear H a; intro a H
    refine n_nil ?_
    refine then_normal ?_
    refine wp_ret ?_
    refine then_ret ?_
    refine ret1 H (.inr rfl) rfl rfl ?_
    exact ⟨by cases A1 with | none => (obtain ⟨rfl, _⟩ := hn1 rfl; exact Own.nil _ _ _) | some ad => simp at hc4, Ext.rfl', by simp [blks]⟩
  · (try simp only [decide_eq_true_eq, decide_eq_false_iff_not, Bool.and_eq_true, Bool.or_eq_true, Bool.and_eq_false_iff, Bool.or_eq_false_iff, beq_iff_eq, bne_iff_ne, beq_eq_false_iff_ne, bne_eq_false_iff_eq, ne_eq, Bool.not_eq_true', Bool.not_eq_false', Int.not_lt, Int.not_le, Bool.not_eq_true, Bool.not_eq_false] at hc4)
    refine wp_skip ?_
    refine then_normal ?_
    refine wp_seq ?_
    refine wp_region_lit ?_
    refine n_buildSlice H Try.underlying27 sz40 ze40 rfl rfl rfl (cs := []) (by kernel_rfl) rfl ?_
    clear H; intro b5 w1 hB5 hE2 hs_b5; clear a; intro a H
    have hw_b5 : w.heap.size ≤ b5 := by omega
    have hX := hE2
    refine n_q H (q_move rfl) rfl ?_
    clear H a; intro a H
    refine n_append H rfl rfl Try.underlying27 Try.underlying27 (by simp) el40 (Own.ofBlk (n := 0) hB5 rfl (by simp [maxLen])) ((h.r.ext (Flat.mono _) hX).src h.r.lens) (flat_one ePage_one' xs) (by omega) (by simp only [maxLen]; omega) rfl ?_
    clear H; intro v7 w3 hO7 hC4 hb7 hnil7; clear a; intro a H
    have hX' := hX
    have hfr := fresh_of hb7 (by simp [blks]; omega) (by have := hX'.size; omega)
    simp only [List.nil_append, Nat.zero_add] at hO7
    replace hX := Chg.below hX hC4 (Nat.le_refl _) (by simp [blks] <;> omega)
    refine n_q H (q_assign rfl) rfl ?_
    clear H a; intro a H
    refine n_nil ?_
    refine then_normal ?_
    refine wp_ret ?_
    refine ret1 H (.inr rfl) rfl rfl ?_
    exact ⟨hO7, hX, hfr⟩

theorem clone_port {w0 w : World} {v : Value} {xs : List PortM} (h : Sl w0 2 32 RPort v xs) (h0 : Ext w0 w) :
    Calls Try.prog 21 [v].toArray w (Ret fun u w' => (∃ qs, PortsIn w0 qs xs ∧ Own w' 55 2 u xs.length (portCells qs xs)) ∧ Ext w w' ∧ ∀ b ∈ blks u, w.heap.size ≤ b) := by
  obtain ⟨qs, hqs, hsrc⟩ := h.r.srcP
  obtain ⟨A1, c1, rfl, hl1, hm1, hn1⟩ := h.r.form
  have hbb := h.b
  simp only [lim] at hbb
  refine enter Try.func21 rfl rfl rfl ?_
  intro a H
  dsimp only [enumL, Nat.zero_add, Nat.reduceAdd] at H
  refine wp_seq ?_
  refine wp_region_lit ?_
  refine n_q H (q_assign rfl) rfl ?_
  clear H a; intro a H
  refine n_nil ?_
  refine then_normal ?_
  refine wp_seq ?_
  refine wp_seq ?_
  refine wp_region_lit ?_
  refine n_q H (q_move rfl) rfl ?_
  clear H a; intro a H
  refine n_q H (q_nilSl Try.underlying26 rfl rfl) rfl ?_
  clear H a; intro a H
  refine n_nil ?_
  refine then_normal ?_
  refine c_cond H rfl (fun hc4 => ?_) (fun hc4 => ?_)
  · (try simp only [decide_eq_true_eq, decide_eq_false_iff_not, Bool.and_eq_true, Bool.or_eq_true, Bool.and_eq_false_iff, Bool.or_eq_false_iff, beq_iff_eq, bne_iff_ne, beq_eq_false_iff_ne, bne_eq_false_iff_eq, ne_eq, Bool.not_eq_true', Bool.not_eq_false', Int.not_lt, Int.not_le, Bool.not_eq_true, Bool.not_eq_false] at hc4)
    refine wp_seq ?_
    refine wp_region_lit ?_
    refine n_q H (q_assign rfl) rfl ?_
    clear H a; intro a H
    refine n_nil ?_
    refine then_normal ?_
    refine wp_ret ?_
    refine then_ret ?_
    refine ret1 H (.inr rfl) rfl rfl ?_
    exact ⟨⟨qs, hqs, by cases A1 with | none => (obtain ⟨rfl, _⟩ := hn1 rfl; cases qs with | nil => exact Own.nil _ _ _ | cons q qs => simp [PortsIn] at hqs) | some ad => simp at hc4⟩, Ext.rfl', by simp [blks]⟩
  · (try simp only [decide_eq_true_eq, decide_eq_false_iff_not, Bool.and_eq_true, Bool.or_eq_true, Bool.and_eq_false_iff, Bool.or_eq_false_iff, beq_iff_eq, bne_iff_ne, beq_eq_false_iff_ne, bne_eq_false_iff_eq, ne_eq, Bool.not_eq_true', Bool.not_eq_false', Int.not_lt, Int.not_le, Bool.not_eq_true, Bool.not_eq_false] at hc4)
    refine wp_skip ?_
    refine then_normal ?_
    refine wp_seq ?_
    refine wp_region_lit ?_
    refine n_buildSlice H Try.underlying26 sz55 ze55 rfl rfl rfl (cs := []) (by kernel_rfl) rfl ?_
    clear H; intro b5 w1 hB5 hE2 hs_b5; clear a; intro a H
    have hw_b5 : w.heap.size ≤ b5 := by omega
    have hX := hE2
    refine n_q H (q_move rfl) rfl ?_
    clear H a; intro a H
    refine n_append H rfl rfl Try.underlying26 Try.underlying26 (by simp) el55 (Own.ofBlk (n := 0) hB5 rfl (by simp [maxLen])) (hsrc.ext (Ext.trans' h0 hX)) (portCells_one hqs) (by omega) (by simp only [maxLen]; omega) rfl ?_
    clear H; intro v7 w3 hO7 hC4 hb7 hnil7; clear a; intro a H
    have hX' := hX
    have hfr := fresh_of hb7 (by simp [blks]; omega) (by have := hX'.size; omega)
    simp only [List.nil_append, Nat.zero_add] at hO7
    replace hX := Chg.below hX hC4 (Nat.le_refl _) (by simp [blks] <;> omega)
    refine n_q H (q_assign rfl) rfl ?_
    clear H a; intro a H
    refine n_nil ?_
    refine then_normal ?_
    refine wp_ret ?_
    refine ret1 H (.inr rfl) rfl rfl ?_
    exact ⟨⟨qs, hqs, hO7⟩, hX, hfr⟩

end Go.Proofs.Ytfoijpfmjmjjpaa
