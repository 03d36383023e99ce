/- What was put into a writer is read back: the walks (written by wip/tools) -/
import Derived.Test.YtdglaodhmlocdaaDoorBack
set_option linter.unusedVariables false
set_option linter.unusedSimpArgs false
set_option maxRecDepth 10000
namespace Go.Proofs.YtdglaodhmlocdaaDoor
open Go Go.RowKit
theorem en112 : entersB Tryd.prog 112 = true := by kernel_rfl
theorem en24 : entersB Tryd.prog 24 = true := by kernel_rfl
theorem en26 : entersB Tryd.prog 26 = true := by kernel_rfl
theorem en27 : entersB Tryd.prog 27 = true := by kernel_rfl
theorem en67 : entersB Tryd.prog 67 = true := by kernel_rfl
theorem en68 : entersB Tryd.prog 68 = true := by kernel_rfl
theorem en70 : entersB Tryd.prog 70 = true := by kernel_rfl
theorem en71 : entersB Tryd.prog 71 = true := by kernel_rfl
theorem en79 : entersB Tryd.prog 79 = true := by kernel_rfl
theorem en80 : entersB Tryd.prog 80 = true := by kernel_rfl
theorem sz4 : sizeB Tryd.prog 4 = some 1 := by kernel_rfl
theorem ze29 : zeroB Tryd.prog 29 = some [.int .i64 0, .bool false, .int .i64 0, .int .i64 0, .int .i64 0, .int .i64 0, .string ⟨#[]⟩] := by kernel_rfl

set_option maxHeartbeats 2000000 in
theorem fits_w {w : World} {o : OpM} : Calls Tryd.prog 79 [opV o].toArray w (Ret fun r w' => r = .bool (fitsM o) ∧ Ext w w') := by
  have hS := St.begin NB w
  refine enter Tryd.func79 rfl rfl rfl ?_
  intro a H
  dsimp only [enumL, Nat.zero_add, Nat.reduceAdd] at H
  refine wp_seq ?_
  refine wp_region_lit ?_
  refine n_box H rfl (cs := (eOp o)) rfl rfl ?_
  clear H; intro b1 w1 hN hE2 hs_b1; clear a; intro a H
  replace hS := hS.newBlk hN hE2 hs_b1; clear hN hE2
  refine n_q H (q_assign rfl) rfl ?_
  clear H a; intro a H
  refine n_nil ?_
  refine then_normal ?_
  refine wp_seq ?_
  refine wp_seq ?_
  refine wp_region_lit ?_
  refine n_q H (q_fieldAddr0 rfl fo29_0) rfl ?_
  clear H a; intro a H
  refine n_q H (q_load rfl ((hS.blk 0 rfl).ld ag3 rfl)) rfl ?_
  clear H a; intro a H
  refine n_nil ?_
  refine then_normal ?_
  refine wp_block ?_
  refine wp_seq ?_
  refine wp_seq ?_
  refine wp_region_lit ?_
  refine n_q H (q_eql rfl rfl) rfl ?_
  clear H a; intro a H
  refine n_q H (q_assign rfl) rfl ?_
  clear H a; intro a H
  refine n_nil ?_
  refine then_normal ?_
  refine c_cond H rfl (fun hc5 => ?_) (fun hc5 => ?_)
  · skip
    refine wp_skip ?_
    refine then_normal ?_
    refine c_cond H rfl (fun hc5 => ?_) (fun hc5 => ?_)
    · skip
      refine wp_seq ?_
      refine wp_region_lit ?_
      refine n_c H (fun HC => ?_); clear H
      refine nc_q HC (q_fieldAddr0 rfl fo29_3) rfl (by kernel_rfl) ?_
      clear HC a; intro a HC
      refine nc_q HC (q_load rfl ((hS.blk 0 rfl).ld ag3 rfl)) rfl (by kernel_rfl) ?_
      clear HC a; intro a HC
      refine nc_q HC (q_geq rfl rfl) rfl (by kernel_rfl) ?_
      clear HC a; intro a HC
      refine nc_q HC (q_move rfl) rfl (by kernel_rfl) ?_
      clear HC a; intro a HC
      refine nc_g HC (q_fieldAddr0 rfl fo29_3) (by kernel_rfl) (by kernel_rfl) (by kernel_rfl) ?_
      clear HC a; intro a HC
      refine nc_g HC (q_load rfl ((hS.blk 0 rfl).ld ag3 rfl)) (by kernel_rfl) (by kernel_rfl) (by kernel_rfl) ?_
      clear HC a; intro a HC
      refine nc_g HC (q_leq rfl rfl) (by kernel_rfl) (by kernel_rfl) (by kernel_rfl) ?_
      clear HC a; intro a HC
      refine nc_and (j := 3) HC rfl rfl rfl (by kernel_rfl) (by kernel_rfl) ?_
      clear HC a; intro a HC
      refine nc_q HC (q_move rfl) rfl (by kernel_rfl) ?_
      clear HC a; intro a HC
      refine nc_g HC (q_fieldAddr0 rfl fo29_0) (by kernel_rfl) (by kernel_rfl) (by kernel_rfl) ?_
      clear HC a; intro a HC
      refine nc_g HC (q_load rfl ((hS.blk 0 rfl).ld ag3 rfl)) (by kernel_rfl) (by kernel_rfl) (by kernel_rfl) ?_
      clear HC a; intro a HC
      refine nc_g HC (q_eql rfl rfl) (by kernel_rfl) (by kernel_rfl) (by kernel_rfl) ?_
      clear HC a; intro a HC
      refine nc_g HC (q_move rfl) (by kernel_rfl) (by kernel_rfl) (by kernel_rfl) ?_
      clear HC a; intro a HC
      refine nc_g HC (q_fieldAddr0 rfl fo29_3) (by kernel_rfl) (by kernel_rfl) (by kernel_rfl) ?_
      clear HC a; intro a HC
      refine nc_g HC (q_load rfl ((hS.blk 0 rfl).ld ag3 rfl)) (by kernel_rfl) (by kernel_rfl) (by kernel_rfl) ?_
      clear HC a; intro a HC
      refine nc_g HC (q_geq rfl rfl) (by kernel_rfl) (by kernel_rfl) (by kernel_rfl) ?_
      clear HC a; intro a HC
      refine nc_andg (j := 12) HC rfl rfl rfl (by kernel_rfl) (by kernel_rfl) (by kernel_rfl) ?_
      clear HC a; intro a HC
      refine nc_g HC (q_move rfl) (by kernel_rfl) (by kernel_rfl) (by kernel_rfl) ?_
      clear HC a; intro a HC
      refine nc_g HC (q_fieldAddr0 rfl fo29_3) (by kernel_rfl) (by kernel_rfl) (by kernel_rfl) ?_
      clear HC a; intro a HC
      refine nc_g HC (q_load rfl ((hS.blk 0 rfl).ld ag3 rfl)) (by kernel_rfl) (by kernel_rfl) (by kernel_rfl) ?_
      clear HC a; intro a HC
      refine nc_g HC (q_leq rfl rfl) (by kernel_rfl) (by kernel_rfl) (by kernel_rfl) ?_
      clear HC a; intro a HC
      refine nc_andg (j := 17) HC rfl rfl rfl (by kernel_rfl) (by kernel_rfl) (by kernel_rfl) ?_
      clear HC a; intro a HC
      refine nc_or (j := 8) HC rfl rfl rfl (by kernel_rfl) (by kernel_rfl) ?_
      clear HC a; intro a HC
      refine nc_q HC (q_assign rfl) rfl (by kernel_rfl) ?_
      clear HC a; intro a HC
      have H := HC.has; clear HC
      refine n_nil ?_
      refine then_normal ?_
      refine wp_ret ?_
      refine block_ret ?_
      refine then_ret ?_
      refine ret1 H (.inr rfl) rfl rfl ?_
      exact ⟨congrArg Value.bool (by simp only [beq_iff_eq, beq_eq_false_iff_ne, ne_eq] at *; rw [Bool.eq_iff_iff]; unfold fitsM; simp [*] <;> omega), hS.x⟩
    · skip
      refine wp_seq ?_
      refine wp_region_lit ?_
      refine n_q H (q_eql rfl rfl) rfl ?_
      clear H a; intro a H
      refine n_q H (q_assign rfl) rfl ?_
      clear H a; intro a H
      refine n_nil ?_
      refine then_normal ?_
      refine c_cond H rfl (fun hc31 => ?_) (fun hc31 => ?_)
      · skip
        refine wp_seq ?_
        refine wp_region_lit ?_
        refine n_c H (fun HC => ?_); clear H
        refine nc_q HC (q_fieldAddr0 rfl fo29_3) rfl (by kernel_rfl) ?_
        clear HC a; intro a HC
        refine nc_q HC (q_load rfl ((hS.blk 0 rfl).ld ag3 rfl)) rfl (by kernel_rfl) ?_
        clear HC a; intro a HC
        refine nc_q HC (q_geq rfl rfl) rfl (by kernel_rfl) ?_
        clear HC a; intro a HC
        refine nc_q HC (q_move rfl) rfl (by kernel_rfl) ?_
        clear HC a; intro a HC
        refine nc_g HC (q_fieldAddr0 rfl fo29_3) (by kernel_rfl) (by kernel_rfl) (by kernel_rfl) ?_
        clear HC a; intro a HC
        refine nc_g HC (q_load rfl ((hS.blk 0 rfl).ld ag3 rfl)) (by kernel_rfl) (by kernel_rfl) (by kernel_rfl) ?_
        clear HC a; intro a HC
        refine nc_g HC (q_leq rfl rfl) (by kernel_rfl) (by kernel_rfl) (by kernel_rfl) ?_
        clear HC a; intro a HC
        refine nc_and (j := 3) HC rfl rfl rfl (by kernel_rfl) (by kernel_rfl) ?_
        clear HC a; intro a HC
        refine nc_q HC (q_assign rfl) rfl (by kernel_rfl) ?_
        clear HC a; intro a HC
        have H := HC.has; clear HC
        refine n_nil ?_
        refine then_normal ?_
        refine wp_ret ?_
        refine block_ret ?_
        refine then_ret ?_
        refine ret1 H (.inr rfl) rfl rfl ?_
        exact ⟨congrArg Value.bool (by simp only [beq_iff_eq, beq_eq_false_iff_ne, ne_eq] at *; rw [Bool.eq_iff_iff]; unfold fitsM; simp [*] <;> omega), hS.x⟩
      · skip
        refine wp_seq ?_
        refine wp_region_lit ?_
        refine n_q H (q_eql rfl rfl) rfl ?_
        clear H a; intro a H
        refine n_q H (q_assign rfl) rfl ?_
        clear H a; intro a H
        refine n_nil ?_
        refine then_normal ?_
        refine c_cond H rfl (fun hc41 => ?_) (fun hc41 => ?_)
        · skip
          refine wp_seq ?_
          refine wp_region_lit ?_
          refine n_q H (q_fieldAddr0 rfl fo29_6) rfl ?_
          clear H a; intro a H
          refine n_q H (q_load rfl ((hS.blk 0 rfl).ld ag9 rfl)) rfl ?_
          clear H a; intro a H
          refine n_q H (q_lenS Tryd.underlying9 rfl) rfl ?_
          clear H a; intro a H
          refine n_q H (q_leq rfl rfl) rfl ?_
          clear H a; intro a H
          refine n_q H (q_assign rfl) rfl ?_
          clear H a; intro a H
          refine n_nil ?_
          refine then_normal ?_
          refine wp_ret ?_
          refine block_ret ?_
          refine then_ret ?_
          refine ret1 H (.inr rfl) rfl rfl ?_
          exact ⟨congrArg Value.bool (by simp only [beq_iff_eq, beq_eq_false_iff_ne, ne_eq] at *; rw [Bool.eq_iff_iff]; unfold fitsM; simp [*] <;> omega), hS.x⟩
        · skip
          refine wp_seq ?_
          refine wp_region_lit ?_
          refine n_q H (q_eql rfl rfl) rfl ?_
          clear H a; intro a H
          refine n_q H (q_assign rfl) rfl ?_
          clear H a; intro a H
          refine n_nil ?_
          refine then_normal ?_
          refine c_cond H rfl (fun hc47 => ?_) (fun hc47 => ?_)
          · skip
            refine wp_seq ?_
            refine wp_region_lit ?_
            refine n_c H (fun HC => ?_); clear H
            refine nc_q HC (q_fieldAddr0 rfl fo29_3) rfl (by kernel_rfl) ?_
            clear HC a; intro a HC
            refine nc_q HC (q_load rfl ((hS.blk 0 rfl).ld ag3 rfl)) rfl (by kernel_rfl) ?_
            clear HC a; intro a HC
            refine nc_q HC (q_geq rfl rfl) rfl (by kernel_rfl) ?_
            clear HC a; intro a HC
            refine nc_q HC (q_move rfl) rfl (by kernel_rfl) ?_
            clear HC a; intro a HC
            refine nc_g HC (q_fieldAddr0 rfl fo29_3) (by kernel_rfl) (by kernel_rfl) (by kernel_rfl) ?_
            clear HC a; intro a HC
            refine nc_g HC (q_load rfl ((hS.blk 0 rfl).ld ag3 rfl)) (by kernel_rfl) (by kernel_rfl) (by kernel_rfl) ?_
            clear HC a; intro a HC
            refine nc_g HC (q_leq rfl rfl) (by kernel_rfl) (by kernel_rfl) (by kernel_rfl) ?_
            clear HC a; intro a HC
            refine nc_and (j := 3) HC rfl rfl rfl (by kernel_rfl) (by kernel_rfl) ?_
            clear HC a; intro a HC
            refine nc_q HC (q_move rfl) rfl (by kernel_rfl) ?_
            clear HC a; intro a HC
            refine nc_g HC (q_fieldAddr0 rfl fo29_6) (by kernel_rfl) (by kernel_rfl) (by kernel_rfl) ?_
            clear HC a; intro a HC
            refine nc_g HC (q_load rfl ((hS.blk 0 rfl).ld ag9 rfl)) (by kernel_rfl) (by kernel_rfl) (by kernel_rfl) ?_
            clear HC a; intro a HC
            refine nc_g HC (q_lenS Tryd.underlying9 rfl) (by kernel_rfl) (by kernel_rfl) (by kernel_rfl) ?_
            clear HC a; intro a HC
            refine nc_g HC (q_leq rfl rfl) (by kernel_rfl) (by kernel_rfl) (by kernel_rfl) ?_
            clear HC a; intro a HC
            refine nc_and (j := 8) HC rfl rfl rfl (by kernel_rfl) (by kernel_rfl) ?_
            clear HC a; intro a HC
            refine nc_q HC (q_assign rfl) rfl (by kernel_rfl) ?_
            clear HC a; intro a HC
            have H := HC.has; clear HC
            refine n_nil ?_
            refine then_normal ?_
            refine wp_ret ?_
            refine block_ret ?_
            refine then_ret ?_
            refine ret1 H (.inr rfl) rfl rfl ?_
            exact ⟨congrArg Value.bool (by simp only [beq_iff_eq, beq_eq_false_iff_ne, ne_eq] at *; rw [Bool.eq_iff_iff]; unfold fitsM; simp [*] <;> omega), hS.x⟩
          · skip
            refine wp_skip ?_
            refine block_normal ?_
            refine then_normal ?_
            refine wp_seq ?_
            refine wp_region_lit ?_
            refine n_c H (fun HC => ?_); clear H
            refine nc_q HC (q_fieldAddr0 rfl fo29_0) rfl (by kernel_rfl) ?_
            clear HC a; intro a HC
            refine nc_q HC (q_load rfl ((hS.blk 0 rfl).ld ag3 rfl)) rfl (by kernel_rfl) ?_
            clear HC a; intro a HC
            refine nc_q HC (q_eql rfl rfl) rfl (by kernel_rfl) ?_
            clear HC a; intro a HC
            refine nc_q HC (q_move rfl) rfl (by kernel_rfl) ?_
            clear HC a; intro a HC
            refine nc_g HC (q_fieldAddr0 rfl fo29_0) (by kernel_rfl) (by kernel_rfl) (by kernel_rfl) ?_
            clear HC a; intro a HC
            refine nc_g HC (q_load rfl ((hS.blk 0 rfl).ld ag3 rfl)) (by kernel_rfl) (by kernel_rfl) (by kernel_rfl) ?_
            clear HC a; intro a HC
            refine nc_g HC (q_eql rfl rfl) (by kernel_rfl) (by kernel_rfl) (by kernel_rfl) ?_
            clear HC a; intro a HC
            refine nc_or (j := 3) HC rfl rfl rfl (by kernel_rfl) (by kernel_rfl) ?_
            clear HC a; intro a HC
            refine nc_q HC (q_assign rfl) rfl (by kernel_rfl) ?_
            clear HC a; intro a HC
            have H := HC.has; clear HC
            refine n_nil ?_
            refine then_normal ?_
            refine wp_ret ?_
            refine ret1 H (.inr rfl) rfl rfl ?_
            exact ⟨congrArg Value.bool (by simp only [beq_iff_eq, beq_eq_false_iff_ne, ne_eq] at *; rw [Bool.eq_iff_iff]; unfold fitsM; simp [*] <;> omega), hS.x⟩
  · skip
    refine wp_region_lit ?_
    refine n_q H (q_eql rfl rfl) rfl ?_
    clear H a; intro a H
    refine n_q H (q_assign rfl) rfl ?_
    clear H a; intro a H
    refine n_nil ?_
    refine then_normal ?_
    refine c_cond H rfl (fun hc5 => ?_) (fun hc5 => ?_)
    · skip
      refine wp_seq ?_
      refine wp_region_lit ?_
      refine n_c H (fun HC => ?_); clear H
      refine nc_q HC (q_fieldAddr0 rfl fo29_3) rfl (by kernel_rfl) ?_
      clear HC a; intro a HC
      refine nc_q HC (q_load rfl ((hS.blk 0 rfl).ld ag3 rfl)) rfl (by kernel_rfl) ?_
      clear HC a; intro a HC
      refine nc_q HC (q_geq rfl rfl) rfl (by kernel_rfl) ?_
      clear HC a; intro a HC
      refine nc_q HC (q_move rfl) rfl (by kernel_rfl) ?_
      clear HC a; intro a HC
      refine nc_g HC (q_fieldAddr0 rfl fo29_3) (by kernel_rfl) (by kernel_rfl) (by kernel_rfl) ?_
      clear HC a; intro a HC
      refine nc_g HC (q_load rfl ((hS.blk 0 rfl).ld ag3 rfl)) (by kernel_rfl) (by kernel_rfl) (by kernel_rfl) ?_
      clear HC a; intro a HC
      refine nc_g HC (q_leq rfl rfl) (by kernel_rfl) (by kernel_rfl) (by kernel_rfl) ?_
      clear HC a; intro a HC
      refine nc_and (j := 3) HC rfl rfl rfl (by kernel_rfl) (by kernel_rfl) ?_
      clear HC a; intro a HC
      refine nc_q HC (q_move rfl) rfl (by kernel_rfl) ?_
      clear HC a; intro a HC
      refine nc_g HC (q_fieldAddr0 rfl fo29_0) (by kernel_rfl) (by kernel_rfl) (by kernel_rfl) ?_
      clear HC a; intro a HC
      refine nc_g HC (q_load rfl ((hS.blk 0 rfl).ld ag3 rfl)) (by kernel_rfl) (by kernel_rfl) (by kernel_rfl) ?_
      clear HC a; intro a HC
      refine nc_g HC (q_eql rfl rfl) (by kernel_rfl) (by kernel_rfl) (by kernel_rfl) ?_
      clear HC a; intro a HC
      refine nc_g HC (q_move rfl) (by kernel_rfl) (by kernel_rfl) (by kernel_rfl) ?_
      clear HC a; intro a HC
      refine nc_g HC (q_fieldAddr0 rfl fo29_3) (by kernel_rfl) (by kernel_rfl) (by kernel_rfl) ?_
      clear HC a; intro a HC
      refine nc_g HC (q_load rfl ((hS.blk 0 rfl).ld ag3 rfl)) (by kernel_rfl) (by kernel_rfl) (by kernel_rfl) ?_
      clear HC a; intro a HC
      refine nc_g HC (q_geq rfl rfl) (by kernel_rfl) (by kernel_rfl) (by kernel_rfl) ?_
      clear HC a; intro a HC
      refine nc_andg (j := 12) HC rfl rfl rfl (by kernel_rfl) (by kernel_rfl) (by kernel_rfl) ?_
      clear HC a; intro a HC
      refine nc_g HC (q_move rfl) (by kernel_rfl) (by kernel_rfl) (by kernel_rfl) ?_
      clear HC a; intro a HC
      refine nc_g HC (q_fieldAddr0 rfl fo29_3) (by kernel_rfl) (by kernel_rfl) (by kernel_rfl) ?_
      clear HC a; intro a HC
      refine nc_g HC (q_load rfl ((hS.blk 0 rfl).ld ag3 rfl)) (by kernel_rfl) (by kernel_rfl) (by kernel_rfl) ?_
      clear HC a; intro a HC
      refine nc_g HC (q_leq rfl rfl) (by kernel_rfl) (by kernel_rfl) (by kernel_rfl) ?_
      clear HC a; intro a HC
      refine nc_andg (j := 17) HC rfl rfl rfl (by kernel_rfl) (by kernel_rfl) (by kernel_rfl) ?_
      clear HC a; intro a HC
      refine nc_or (j := 8) HC rfl rfl rfl (by kernel_rfl) (by kernel_rfl) ?_
      clear HC a; intro a HC
      refine nc_q HC (q_assign rfl) rfl (by kernel_rfl) ?_
      clear HC a; intro a HC
      have H := HC.has; clear HC
      refine n_nil ?_
      refine then_normal ?_
      refine wp_ret ?_
      refine block_ret ?_
      refine then_ret ?_
      refine ret1 H (.inr rfl) rfl rfl ?_
      exact ⟨congrArg Value.bool (by simp only [beq_iff_eq, beq_eq_false_iff_ne, ne_eq] at *; rw [Bool.eq_iff_iff]; unfold fitsM; simp [*] <;> omega), hS.x⟩
    · skip
      refine wp_seq ?_
      refine wp_region_lit ?_
      refine n_q H (q_eql rfl rfl) rfl ?_
      clear H a; intro a H
      refine n_q H (q_assign rfl) rfl ?_
      clear H a; intro a H
      refine n_nil ?_
      refine then_normal ?_
      refine c_cond H rfl (fun hc31 => ?_) (fun hc31 => ?_)
      · skip
        refine wp_seq ?_
        refine wp_region_lit ?_
        refine n_c H (fun HC => ?_); clear H
        refine nc_q HC (q_fieldAddr0 rfl fo29_3) rfl (by kernel_rfl) ?_
        clear HC a; intro a HC
        refine nc_q HC (q_load rfl ((hS.blk 0 rfl).ld ag3 rfl)) rfl (by kernel_rfl) ?_
        clear HC a; intro a HC
        refine nc_q HC (q_geq rfl rfl) rfl (by kernel_rfl) ?_
        clear HC a; intro a HC
        refine nc_q HC (q_move rfl) rfl (by kernel_rfl) ?_
        clear HC a; intro a HC
        refine nc_g HC (q_fieldAddr0 rfl fo29_3) (by kernel_rfl) (by kernel_rfl) (by kernel_rfl) ?_
        clear HC a; intro a HC
        refine nc_g HC (q_load rfl ((hS.blk 0 rfl).ld ag3 rfl)) (by kernel_rfl) (by kernel_rfl) (by kernel_rfl) ?_
        clear HC a; intro a HC
        refine nc_g HC (q_leq rfl rfl) (by kernel_rfl) (by kernel_rfl) (by kernel_rfl) ?_
        clear HC a; intro a HC
        refine nc_and (j := 3) HC rfl rfl rfl (by kernel_rfl) (by kernel_rfl) ?_
        clear HC a; intro a HC
        refine nc_q HC (q_assign rfl) rfl (by kernel_rfl) ?_
        clear HC a; intro a HC
        have H := HC.has; clear HC
        refine n_nil ?_
        refine then_normal ?_
        refine wp_ret ?_
        refine block_ret ?_
        refine then_ret ?_
        refine ret1 H (.inr rfl) rfl rfl ?_
        exact ⟨congrArg Value.bool (by simp only [beq_iff_eq, beq_eq_false_iff_ne, ne_eq] at *; rw [Bool.eq_iff_iff]; unfold fitsM; simp [*] <;> omega), hS.x⟩
      · skip
        refine wp_seq ?_
        refine wp_region_lit ?_
        refine n_q H (q_eql rfl rfl) rfl ?_
        clear H a; intro a H
        refine n_q H (q_assign rfl) rfl ?_
        clear H a; intro a H
        refine n_nil ?_
        refine then_normal ?_
        refine c_cond H rfl (fun hc41 => ?_) (fun hc41 => ?_)
        · skip
          refine wp_seq ?_
          refine wp_region_lit ?_
          refine n_q H (q_fieldAddr0 rfl fo29_6) rfl ?_
          clear H a; intro a H
          refine n_q H (q_load rfl ((hS.blk 0 rfl).ld ag9 rfl)) rfl ?_
          clear H a; intro a H
          refine n_q H (q_lenS Tryd.underlying9 rfl) rfl ?_
          clear H a; intro a H
          refine n_q H (q_leq rfl rfl) rfl ?_
          clear H a; intro a H
          refine n_q H (q_assign rfl) rfl ?_
          clear H a; intro a H
          refine n_nil ?_
          refine then_normal ?_
          refine wp_ret ?_
          refine block_ret ?_
          refine then_ret ?_
          refine ret1 H (.inr rfl) rfl rfl ?_
          exact ⟨congrArg Value.bool (by simp only [beq_iff_eq, beq_eq_false_iff_ne, ne_eq] at *; rw [Bool.eq_iff_iff]; unfold fitsM; simp [*] <;> omega), hS.x⟩
        · skip
          refine wp_seq ?_
          refine wp_region_lit ?_
          refine n_q H (q_eql rfl rfl) rfl ?_
          clear H a; intro a H
          refine n_q H (q_assign rfl) rfl ?_
          clear H a; intro a H
          refine n_nil ?_
          refine then_normal ?_
          refine c_cond H rfl (fun hc47 => ?_) (fun hc47 => ?_)
          · skip
            refine wp_seq ?_
            refine wp_region_lit ?_
            refine n_c H (fun HC => ?_); clear H
            refine nc_q HC (q_fieldAddr0 rfl fo29_3) rfl (by kernel_rfl) ?_
            clear HC a; intro a HC
            refine nc_q HC (q_load rfl ((hS.blk 0 rfl).ld ag3 rfl)) rfl (by kernel_rfl) ?_
            clear HC a; intro a HC
            refine nc_q HC (q_geq rfl rfl) rfl (by kernel_rfl) ?_
            clear HC a; intro a HC
            refine nc_q HC (q_move rfl) rfl (by kernel_rfl) ?_
            clear HC a; intro a HC
            refine nc_g HC (q_fieldAddr0 rfl fo29_3) (by kernel_rfl) (by kernel_rfl) (by kernel_rfl) ?_
            clear HC a; intro a HC
            refine nc_g HC (q_load rfl ((hS.blk 0 rfl).ld ag3 rfl)) (by kernel_rfl) (by kernel_rfl) (by kernel_rfl) ?_
            clear HC a; intro a HC
            refine nc_g HC (q_leq rfl rfl) (by kernel_rfl) (by kernel_rfl) (by kernel_rfl) ?_
            clear HC a; intro a HC
            refine nc_and (j := 3) HC rfl rfl rfl (by kernel_rfl) (by kernel_rfl) ?_
            clear HC a; intro a HC
            refine nc_q HC (q_move rfl) rfl (by kernel_rfl) ?_
            clear HC a; intro a HC
            refine nc_g HC (q_fieldAddr0 rfl fo29_6) (by kernel_rfl) (by kernel_rfl) (by kernel_rfl) ?_
            clear HC a; intro a HC
            refine nc_g HC (q_load rfl ((hS.blk 0 rfl).ld ag9 rfl)) (by kernel_rfl) (by kernel_rfl) (by kernel_rfl) ?_
            clear HC a; intro a HC
            refine nc_g HC (q_lenS Tryd.underlying9 rfl) (by kernel_rfl) (by kernel_rfl) (by kernel_rfl) ?_
            clear HC a; intro a HC
            refine nc_g HC (q_leq rfl rfl) (by kernel_rfl) (by kernel_rfl) (by kernel_rfl) ?_
            clear HC a; intro a HC
            refine nc_and (j := 8) HC rfl rfl rfl (by kernel_rfl) (by kernel_rfl) ?_
            clear HC a; intro a HC
            refine nc_q HC (q_assign rfl) rfl (by kernel_rfl) ?_
            clear HC a; intro a HC
            have H := HC.has; clear HC
            refine n_nil ?_
            refine then_normal ?_
            refine wp_ret ?_
            refine block_ret ?_
            refine then_ret ?_
            refine ret1 H (.inr rfl) rfl rfl ?_
            exact ⟨congrArg Value.bool (by simp only [beq_iff_eq, beq_eq_false_iff_ne, ne_eq] at *; rw [Bool.eq_iff_iff]; unfold fitsM; simp [*] <;> omega), hS.x⟩
          · skip
            refine wp_skip ?_
            refine block_normal ?_
            refine then_normal ?_
            refine wp_seq ?_
            refine wp_region_lit ?_
            refine n_c H (fun HC => ?_); clear H
            refine nc_q HC (q_fieldAddr0 rfl fo29_0) rfl (by kernel_rfl) ?_
            clear HC a; intro a HC
            refine nc_q HC (q_load rfl ((hS.blk 0 rfl).ld ag3 rfl)) rfl (by kernel_rfl) ?_
            clear HC a; intro a HC
            refine nc_q HC (q_eql rfl rfl) rfl (by kernel_rfl) ?_
            clear HC a; intro a HC
            refine nc_q HC (q_move rfl) rfl (by kernel_rfl) ?_
            clear HC a; intro a HC
            refine nc_g HC (q_fieldAddr0 rfl fo29_0) (by kernel_rfl) (by kernel_rfl) (by kernel_rfl) ?_
            clear HC a; intro a HC
            refine nc_g HC (q_load rfl ((hS.blk 0 rfl).ld ag3 rfl)) (by kernel_rfl) (by kernel_rfl) (by kernel_rfl) ?_
            clear HC a; intro a HC
            refine nc_g HC (q_eql rfl rfl) (by kernel_rfl) (by kernel_rfl) (by kernel_rfl) ?_
            clear HC a; intro a HC
            refine nc_or (j := 3) HC rfl rfl rfl (by kernel_rfl) (by kernel_rfl) ?_
            clear HC a; intro a HC
            refine nc_q HC (q_assign rfl) rfl (by kernel_rfl) ?_
            clear HC a; intro a HC
            have H := HC.has; clear HC
            refine n_nil ?_
            refine then_normal ?_
            refine wp_ret ?_
            refine ret1 H (.inr rfl) rfl rfl ?_
            exact ⟨congrArg Value.bool (by simp only [beq_iff_eq, beq_eq_false_iff_ne, ne_eq] at *; rw [Bool.eq_iff_iff]; unfold fitsM; simp [*] <;> omega), hS.x⟩

set_option maxHeartbeats 4000000 in
theorem written_w {w : World} {A : Nat → Addr} {v : Value} {script : List OpM} (hG : EV A w) (h : SlR w 7 (Flat eOp) v script) (hok : ∀ o ∈ script, o.n ≤ 9223372036854775807) (hbk : bulkO script ≤ 16777216) :
    Calls Tryd.prog 26 [v].toArray w (Ret fun r w' => ∃ u n, n = (allM script).length ∧ r = .tuple #[u, .bool true] ∧ St NB w w' [ownR 5 1 u n ((allM script).flatMap eB)]) := by
  have hS := St.begin NB w
  obtain ⟨A0, c0, rfl, hl0, hm0, hn0⟩ := h.form
  have hall := allM_len script
  refine enter Tryd.func26 rfl rfl rfl ?_
  intro a H
  dsimp only [enumL, Nat.zero_add, Nat.reduceAdd] at H
  refine wp_seq ?_
  refine wp_region_lit ?_
  refine n_q H (q_assign rfl) rfl ?_
  clear H a; intro a H
  refine n_q H (q_assign rfl) rfl ?_
  clear H a; intro a H
  refine n_nil ?_
  refine then_normal ?_
  refine wp_seq ?_
  refine wp_region_lit ?_
  refine n_call H rfl en12 (newWriter_w (A := A)) rfl ?_
  clear H a; intro v3 w1 hv a H
  obtain ⟨p1, rfl, hE2⟩ := hv
  replace hS := hS.new hE2
  simp only [List.cons_append, List.nil_append] at hS
  refine n_q H (q_assign rfl) rfl ?_
  clear H a; intro a H
  refine n_nil ?_
  refine then_normal ?_
  refine wp_seq ?_
  refine wp_seq ?_
  refine wp_region_lit ?_
  refine n_q H (q_move rfl) rfl ?_
  clear H a; intro a H
  refine n_q H (q_nilP Tryd.underlying24 rfl rfl) rfl ?_
  clear H a; intro a H
  refine n_nil ?_
  refine then_normal ?_
  refine c_cond H rfl (fun hc11 => ?_) (fun hc11 => ?_)
  · skip
    cases hc11
  · skip
    refine wp_skip ?_
    refine then_normal ?_
    refine wp_seq ?_
    refine wp_seq ?_
    refine wp_region_lit ?_
    refine n_q H (q_assign rfl) rfl ?_
    clear H a; intro a H
    refine n_nil ?_
    refine then_normal ?_
    refine wp_block ?_
    refine c_loop (σ := Nat) (fun i => [(0, .slice A0 script.length c0), (4, .pointer (some ⟨p1, 0, none⟩)), (5, .int .i64 (i : Nat))]) (fun i wl => i ≤ script.length ∧ ∃ u1, St NB w wl [wrR A p1 u1 ⟨allM (script.take i), .nil⟩]) (fun i => script.length - i) 0 H ⟨rfl, rfl, rfl, trivial⟩ ⟨Nat.zero_le _, _, hS⟩ ?_
    clear H hS; clear a; intro i a w4 H hR
    simp only [ent, List.map_cons, List.map_nil] at H
    try dsimp only at hR
    obtain ⟨hi, u1, hS⟩ := hR; try clear hR
    refine wp_seq ?_
    refine wp_seq ?_
    refine wp_region_lit ?_
    refine n_q H (q_move rfl) rfl ?_
    clear H a; intro a H
    refine n_q H (q_move rfl) rfl ?_
    clear H a; intro a H
    refine n_q H (q_lenSl Tryd.underlying22 rfl) rfl ?_
    clear H a; intro a H
    refine n_q H (q_lss rfl rfl) rfl ?_
    clear H a; intro a H
    refine n_nil ?_
    refine then_normal ?_
    refine c_cond H rfl (fun hc15 => ?_) (fun hc15 => ?_)
    · skip
      have hi1 : i < script.length := by simp at hc15; omega
      obtain ⟨o, hx⟩ := h.at hi1
      obtain ⟨ad0, had⟩ := h.addr hi1
      subst had
      have hok1 := hok o (List.mem_of_getElem? hx)
      have ht1 := allM_take script i
      have ho1 := bulkO_snoc hx
      have ho2 := bulkO_le script (i + 1)
      have hl8 : o.s.data.toList.length = o.s.size := rfl
      have h1in := and1_in o.n
      refine wp_skip ?_
      refine then_normal ?_
      refine wp_seq ?_
      refine wp_block ?_
      refine wp_seq ?_
      refine wp_region_lit ?_
      refine n_q H (q_move rfl) rfl ?_
      clear H a; intro a H
      refine n_q H (q_move rfl) rfl ?_
      clear H a; intro a H
      refine n_q H (q_indexAddr Tryd.underlying22 sz29 rfl rfl (by omega) (by omega)) rfl ?_
      clear H a; intro a H
      refine n_q H (q_load rfl (LdX.ext ((h.ldAgg ag29 sz29 hx)) hS.x)) rfl ?_
      clear H a; intro a H
      refine n_alloc H ze29 rfl ?_
      clear H; intro b6 w5 hN hE6 hs_b6; clear a; intro a H
      replace hS := hS.newBlk hN hE6 hs_b6; clear hN hE6
      refine n_storeAll H rfl rfl (vs := eOp o) rfl sz29 (hS.blk 0 rfl) rfl (by simp [eOp, Value.oneCell']) ?_
      clear H; intro w7 hN hC8 hz; clear a; intro a H
      replace hS := hS.setBlk hN hC8; clear hN hz
      refine n_nil ?_
      refine then_normal ?_
      refine wp_seq ?_
      refine wp_seq ?_
      refine wp_region_lit ?_
      refine n_q H (q_load rfl ((hS.blk 0 rfl).ldAll ag29 sz29)) rfl ?_
      clear H a; intro a H
      refine n_call H rfl en79 (fits_w (o := o)) rfl ?_
      clear H a; intro v11 w9 hv a H
      obtain ⟨rfl, hE10⟩ := hv
      replace hS := hS.ext hE10
      refine n_q H (q_not rfl) rfl ?_
      clear H a; intro a H
      refine n_nil ?_
      refine then_normal ?_
      refine c_cond H rfl (fun hc24 => ?_) (fun hc24 => ?_)
      · skip
        have hf : ¬ fitsM o = true := by simpa using hc24
        refine wp_exit ?_
        refine then_exit ?_
        refine block_exit ?_
        refine then_normal ?_
        refine wp_region_lit ?_
        refine n_q H (q_move rfl) rfl ?_
        clear H a; intro a H
        refine n_q H (q_add rfl rfl (by constructor <;> omega)) rfl ?_
        clear H a; intro a H
        refine n_q H (q_assign rfl) rfl ?_
        clear H a; intro a H
        refine n_nil ?_
        refine then_normal ?_
        replace hS := hS.pick 1 rfl
        dsimp only [List.eraseIdx] at hS
        replace hS := hS.take 1
        simp only [List.take_succ_cons, List.take_zero] at hS
        exact round (i + 1) H ⟨rfl, rfl, rfl, trivial⟩ ⟨by omega, u1, by rw [allM_snoc hx, if_neg hf, List.append_nil]; exact hS⟩ (by first | omega | (dsimp only; omega))
      · skip
        have hf : fitsM o = true := by simpa using hc24
        refine wp_skip ?_
        refine then_normal ?_
        refine wp_seq ?_
        refine wp_region_lit ?_
        refine n_q H (q_fieldAddr0 rfl fo29_0) rfl ?_
        clear H a; intro a H
        refine n_q H (q_load rfl ((hS.blk 0 rfl).ld ag3 rfl)) rfl ?_
        clear H a; intro a H
        refine n_nil ?_
        refine then_normal ?_
        refine wp_block ?_
        refine wp_seq ?_
        refine wp_region_lit ?_
        refine n_q H (q_eql rfl rfl) rfl ?_
        clear H a; intro a H
        refine n_q H (q_assign rfl) rfl ?_
        clear H a; intro a H
        refine n_nil ?_
        refine then_normal ?_
        refine c_cond H rfl (fun hc27 => ?_) (fun hc27 => ?_)
        · skip
          refine wp_region_lit ?_
          refine n_q H (q_move rfl) rfl ?_
          clear H a; intro a H
          refine n_q H (q_fieldAddr0 rfl fo29_3) rfl ?_
          clear H a; intro a H
          refine n_q H (q_load rfl ((hS.blk 0 rfl).ld ag3 rfl)) rfl ?_
          clear H a; intro a H
          replace hS := hS.pick 1 rfl
          dsimp only [List.eraseIdx] at hS
          obtain ⟨fp32, hG32, hK32, hR32, hF32⟩ := hS.frame1
          refine n_call H rfl en55 (wU8_w (n := o.n) (fun w' hw => hG.ext (hK32 _ hw).ext) (by dsimp only; omega) hG32) rfl ?_
          clear H a; intro v14 w12 hv a H
          obtain ⟨rfl, u1, hE13⟩ := hv
          replace hS := hF32 _ _ hE13
          simp only [List.cons_append, List.nil_append] at hS
          clear hG32 hK32 hR32 hF32
          refine n_nil ?_
          refine block_normal ?_
          refine block_normal ?_
          refine then_normal ?_
          refine wp_region_lit ?_
          refine n_q H (q_move rfl) rfl ?_
          clear H a; intro a H
          refine n_q H (q_add rfl rfl (by constructor <;> omega)) rfl ?_
          clear H a; intro a H
          refine n_q H (q_assign rfl) rfl ?_
          clear H a; intro a H
          refine n_nil ?_
          refine then_normal ?_
          have ha : (⟨allM (script.take i), .nil⟩ : WM).app o = (⟨allM (script.take i), .nil⟩ : WM).num o.n 1 := by simp only [beq_iff_eq, beq_eq_false_iff_ne, ne_eq] at *; simp [WM.app, *]
          rw [← ha, app_fit hf] at hS
          replace hS := hS.take 1
          simp only [List.take_succ_cons, List.take_zero] at hS
          exact round (i + 1) H ⟨rfl, rfl, rfl, trivial⟩ ⟨by omega, u1, by rw [allM_snoc hx, if_pos hf]; exact hS⟩ (by first | omega | (dsimp only; omega))
        · skip
          refine wp_seq ?_
          refine wp_region_lit ?_
          refine n_q H (q_eql rfl rfl) rfl ?_
          clear H a; intro a H
          refine n_q H (q_assign rfl) rfl ?_
          clear H a; intro a H
          refine n_nil ?_
          refine then_normal ?_
          refine c_cond H rfl (fun hc33 => ?_) (fun hc33 => ?_)
          · skip
            refine wp_region_lit ?_
            refine n_q H (q_move rfl) rfl ?_
            clear H a; intro a H
            refine n_q H (q_fieldAddr0 rfl fo29_3) rfl ?_
            clear H a; intro a H
            refine n_q H (q_load rfl ((hS.blk 0 rfl).ld ag3 rfl)) rfl ?_
            clear H a; intro a H
            replace hS := hS.pick 1 rfl
            dsimp only [List.eraseIdx] at hS
            obtain ⟨fp38, hG38, hK38, hR38, hF38⟩ := hS.frame1
            refine n_call H rfl en48 (wU16_w (n := o.n) (fun w' hw => hG.ext (hK38 _ hw).ext) (by dsimp only; omega) hG38) rfl ?_
            clear H a; intro v17 w15 hv a H
            obtain ⟨rfl, u1, hE16⟩ := hv
            replace hS := hF38 _ _ hE16
            simp only [List.cons_append, List.nil_append] at hS
            clear hG38 hK38 hR38 hF38
            refine n_nil ?_
            refine block_normal ?_
            refine block_normal ?_
            refine then_normal ?_
            refine wp_region_lit ?_
            refine n_q H (q_move rfl) rfl ?_
            clear H a; intro a H
            refine n_q H (q_add rfl rfl (by constructor <;> omega)) rfl ?_
            clear H a; intro a H
            refine n_q H (q_assign rfl) rfl ?_
            clear H a; intro a H
            refine n_nil ?_
            refine then_normal ?_
            have ha : (⟨allM (script.take i), .nil⟩ : WM).app o = (⟨allM (script.take i), .nil⟩ : WM).num o.n 2 := by simp only [beq_iff_eq, beq_eq_false_iff_ne, ne_eq] at *; simp [WM.app, *]
            rw [← ha, app_fit hf] at hS
            replace hS := hS.take 1
            simp only [List.take_succ_cons, List.take_zero] at hS
            exact round (i + 1) H ⟨rfl, rfl, rfl, trivial⟩ ⟨by omega, u1, by rw [allM_snoc hx, if_pos hf]; exact hS⟩ (by first | omega | (dsimp only; omega))
          · skip
            refine wp_seq ?_
            refine wp_region_lit ?_
            refine n_q H (q_eql rfl rfl) rfl ?_
            clear H a; intro a H
            refine n_q H (q_assign rfl) rfl ?_
            clear H a; intro a H
            refine n_nil ?_
            refine then_normal ?_
            refine c_cond H rfl (fun hc39 => ?_) (fun hc39 => ?_)
            · skip
              refine wp_region_lit ?_
              refine n_q H (q_move rfl) rfl ?_
              clear H a; intro a H
              refine n_q H (q_fieldAddr0 rfl fo29_3) rfl ?_
              clear H a; intro a H
              refine n_q H (q_load rfl ((hS.blk 0 rfl).ld ag3 rfl)) rfl ?_
              clear H a; intro a H
              replace hS := hS.pick 1 rfl
              dsimp only [List.eraseIdx] at hS
              obtain ⟨fp44, hG44, hK44, hR44, hF44⟩ := hS.frame1
              refine n_call H rfl en57 (wU32_w (n := o.n) (fun w' hw => hG.ext (hK44 _ hw).ext) (by dsimp only; omega) hG44) rfl ?_
              clear H a; intro v20 w18 hv a H
              obtain ⟨rfl, u1, hE19⟩ := hv
              replace hS := hF44 _ _ hE19
              simp only [List.cons_append, List.nil_append] at hS
              clear hG44 hK44 hR44 hF44
              refine n_nil ?_
              refine block_normal ?_
              refine block_normal ?_
              refine then_normal ?_
              refine wp_region_lit ?_
              refine n_q H (q_move rfl) rfl ?_
              clear H a; intro a H
              refine n_q H (q_add rfl rfl (by constructor <;> omega)) rfl ?_
              clear H a; intro a H
              refine n_q H (q_assign rfl) rfl ?_
              clear H a; intro a H
              refine n_nil ?_
              refine then_normal ?_
              have ha : (⟨allM (script.take i), .nil⟩ : WM).app o = (⟨allM (script.take i), .nil⟩ : WM).num o.n 4 := by simp only [beq_iff_eq, beq_eq_false_iff_ne, ne_eq] at *; simp [WM.app, *]
              rw [← ha, app_fit hf] at hS
              replace hS := hS.take 1
              simp only [List.take_succ_cons, List.take_zero] at hS
              exact round (i + 1) H ⟨rfl, rfl, rfl, trivial⟩ ⟨by omega, u1, by rw [allM_snoc hx, if_pos hf]; exact hS⟩ (by first | omega | (dsimp only; omega))
            · skip
              refine wp_seq ?_
              refine wp_region_lit ?_
              refine n_q H (q_eql rfl rfl) rfl ?_
              clear H a; intro a H
              refine n_q H (q_assign rfl) rfl ?_
              clear H a; intro a H
              refine n_nil ?_
              refine then_normal ?_
              refine c_cond H rfl (fun hc45 => ?_) (fun hc45 => ?_)
              · skip
                refine wp_region_lit ?_
                refine n_q H (q_move rfl) rfl ?_
                clear H a; intro a H
                refine n_q H (q_fieldAddr0 rfl fo29_3) rfl ?_
                clear H a; intro a H
                refine n_q H (q_load rfl ((hS.blk 0 rfl).ld ag3 rfl)) rfl ?_
                clear H a; intro a H
                refine n_q H (q_cast (q_and rfl rfl) (show _ = Value.int .i64 (and1 o.n) from rfl)) rfl ?_
                clear H a; intro a H
                refine n_q H (q_eql rfl rfl) rfl ?_
                clear H a; intro a H
                replace hS := hS.pick 1 rfl
                dsimp only [List.eraseIdx] at hS
                obtain ⟨fp52, hG52, hK52, hR52, hF52⟩ := hS.frame1
                refine n_call H rfl en58 (wFlag_w (by dsimp only; omega) hG52) rfl ?_
                clear H a; intro v23 w21 hv a H
                obtain ⟨rfl, hE22⟩ := hv
                replace hS := hF52 _ _ hE22
                simp only [List.cons_append, List.nil_append] at hS
                clear hG52 hK52 hR52 hF52
                rw [WM.flag_num] at hS
                refine n_nil ?_
                refine block_normal ?_
                refine block_normal ?_
                refine then_normal ?_
                refine wp_region_lit ?_
                refine n_q H (q_move rfl) rfl ?_
                clear H a; intro a H
                refine n_q H (q_add rfl rfl (by constructor <;> omega)) rfl ?_
                clear H a; intro a H
                refine n_q H (q_assign rfl) rfl ?_
                clear H a; intro a H
                refine n_nil ?_
                refine then_normal ?_
                have ha : (⟨allM (script.take i), .nil⟩ : WM).app o = (⟨allM (script.take i), .nil⟩ : WM).num (and1 o.n) 1 := by simp only [beq_iff_eq, beq_eq_false_iff_ne, ne_eq] at *; simp [WM.app, *]
                rw [← ha, app_fit hf] at hS
                replace hS := hS.take 1
                simp only [List.take_succ_cons, List.take_zero] at hS
                exact round (i + 1) H ⟨rfl, rfl, rfl, trivial⟩ ⟨by omega, u1, by rw [allM_snoc hx, if_pos hf]; exact hS⟩ (by first | omega | (dsimp only; omega))
              · skip
                refine wp_seq ?_
                refine wp_region_lit ?_
                refine n_q H (q_eql rfl rfl) rfl ?_
                clear H a; intro a H
                refine n_q H (q_assign rfl) rfl ?_
                clear H a; intro a H
                refine n_nil ?_
                refine then_normal ?_
                refine c_cond H rfl (fun hc53 => ?_) (fun hc53 => ?_)
                · skip
                  refine wp_region_lit ?_
                  refine n_q H (q_move rfl) rfl ?_
                  clear H a; intro a H
                  refine n_q H (q_fieldAddr0 rfl fo29_6) rfl ?_
                  clear H a; intro a H
                  refine n_q H (q_load rfl ((hS.blk 0 rfl).ld ag9 rfl)) rfl ?_
                  clear H a; intro a H
                  refine n_bytes H Tryd.underlying9 Tryd.underlying48 Tryd.underlying5 rfl (by simp only [maxLen]; omega) rfl ?_
                  clear H; intro v58 w24 hN hE25 hs_v58; clear a; intro a H
                  replace hS := hS.newOwn hN hE25 (by rw [hs_v58]; intro c hc; rw [List.mem_singleton.1 hc]; exact Nat.le_refl _); clear hN hE25
                  replace hS := hS.pick 2 rfl
                  dsimp only [List.eraseIdx] at hS
                  obtain ⟨fp59, hG59, hK59, hR59, hF59⟩ := hS.frame1
                  refine n_call H rfl en59 (wRaw_w (bs := o.s.data.toList) (fun w' hw => (restOwn (hR59 0 _ rfl _ hw)).srcB rfl) (by dsimp only; omega) hG59) rfl ?_
                  clear H a; intro v28 w26 hv a H
                  obtain ⟨rfl, hE27⟩ := hv
                  replace hS := hF59 _ _ hE27
                  simp only [List.cons_append, List.nil_append] at hS
                  clear hG59 hK59 hR59 hF59
                  refine n_nil ?_
                  refine block_normal ?_
                  refine block_normal ?_
                  refine then_normal ?_
                  refine wp_region_lit ?_
                  refine n_q H (q_move rfl) rfl ?_
                  clear H a; intro a H
                  refine n_q H (q_add rfl rfl (by constructor <;> omega)) rfl ?_
                  clear H a; intro a H
                  refine n_q H (q_assign rfl) rfl ?_
                  clear H a; intro a H
                  refine n_nil ?_
                  refine then_normal ?_
                  have ha : (⟨allM (script.take i), .nil⟩ : WM).app o = (⟨allM (script.take i), .nil⟩ : WM).put o.s.data.toList := by simp only [beq_iff_eq, beq_eq_false_iff_ne, ne_eq] at *; simp [WM.app, *]
                  rw [← ha, app_fit hf] at hS
                  replace hS := hS.take 1
                  simp only [List.take_succ_cons, List.take_zero] at hS
                  exact round (i + 1) H ⟨rfl, rfl, rfl, trivial⟩ ⟨by omega, u1, by rw [allM_snoc hx, if_pos hf]; exact hS⟩ (by first | omega | (dsimp only; omega))
                · skip
                  refine wp_seq ?_
                  refine wp_region_lit ?_
                  refine n_q H (q_eql rfl rfl) rfl ?_
                  clear H a; intro a H
                  refine n_q H (q_assign rfl) rfl ?_
                  clear H a; intro a H
                  refine n_nil ?_
                  refine then_normal ?_
                  refine c_cond H rfl (fun hc60 => ?_) (fun hc60 => ?_)
                  · skip
                    refine wp_region_lit ?_
                    refine n_q H (q_move rfl) rfl ?_
                    clear H a; intro a H
                    refine n_q H (q_fieldAddr0 rfl fo29_6) rfl ?_
                    clear H a; intro a H
                    refine n_q H (q_load rfl ((hS.blk 0 rfl).ld ag9 rfl)) rfl ?_
                    clear H a; intro a H
                    replace hS := hS.pick 1 rfl
                    dsimp only [List.eraseIdx] at hS
                    obtain ⟨fp65, hG65, hK65, hR65, hF65⟩ := hS.frame1
                    refine n_call H rfl en61 (wText_w (s := o.s) (fun w' hw => hG.ext (hK65 _ hw).ext) (by dsimp only; omega) hG65) rfl ?_
                    clear H a; intro v31 w29 hv a H
                    obtain ⟨rfl, u1, hE30⟩ := hv
                    replace hS := hF65 _ _ hE30
                    simp only [List.cons_append, List.nil_append] at hS
                    clear hG65 hK65 hR65 hF65
                    refine n_nil ?_
                    refine block_normal ?_
                    refine block_normal ?_
                    refine then_normal ?_
                    refine wp_region_lit ?_
                    refine n_q H (q_move rfl) rfl ?_
                    clear H a; intro a H
                    refine n_q H (q_add rfl rfl (by constructor <;> omega)) rfl ?_
                    clear H a; intro a H
                    refine n_q H (q_assign rfl) rfl ?_
                    clear H a; intro a H
                    refine n_nil ?_
                    refine then_normal ?_
                    have ha : (⟨allM (script.take i), .nil⟩ : WM).app o = (⟨allM (script.take i), .nil⟩ : WM).text o.s := by simp only [beq_iff_eq, beq_eq_false_iff_ne, ne_eq] at *; simp [WM.app, *]
                    rw [← ha, app_fit hf] at hS
                    replace hS := hS.take 1
                    simp only [List.take_succ_cons, List.take_zero] at hS
                    exact round (i + 1) H ⟨rfl, rfl, rfl, trivial⟩ ⟨by omega, u1, by rw [allM_snoc hx, if_pos hf]; exact hS⟩ (by first | omega | (dsimp only; omega))
                  · skip
                    refine wp_seq ?_
                    refine wp_region_lit ?_
                    refine n_q H (q_eql rfl rfl) rfl ?_
                    clear H a; intro a H
                    refine n_q H (q_assign rfl) rfl ?_
                    clear H a; intro a H
                    refine n_nil ?_
                    refine then_normal ?_
                    refine c_cond H rfl (fun hc66 => ?_) (fun hc66 => ?_)
                    · skip
                      refine wp_region_lit ?_
                      refine n_q H (q_move rfl) rfl ?_
                      clear H a; intro a H
                      refine n_q H (q_fieldAddr0 rfl fo29_3) rfl ?_
                      clear H a; intro a H
                      refine n_q H (q_load rfl ((hS.blk 0 rfl).ld ag3 rfl)) rfl ?_
                      clear H a; intro a H
                      refine n_q H (q_fieldAddr0 rfl fo29_6) rfl ?_
                      clear H a; intro a H
                      refine n_q H (q_load rfl ((hS.blk 0 rfl).ld ag9 rfl)) rfl ?_
                      clear H a; intro a H
                      refine n_bytes H Tryd.underlying9 Tryd.underlying48 Tryd.underlying5 rfl (by simp only [maxLen]; omega) rfl ?_
                      clear H; intro v73 w32 hN hE33 hs_v73; clear a; intro a H
                      replace hS := hS.newOwn hN hE33 (by rw [hs_v73]; intro c hc; rw [List.mem_singleton.1 hc]; exact Nat.le_refl _); clear hN hE33
                      replace hS := hS.pick 2 rfl
                      dsimp only [List.eraseIdx] at hS
                      obtain ⟨fp74, hG74, hK74, hR74, hF74⟩ := hS.frame1
                      refine n_call H rfl en49 (wRecord_w (t := o.n) (bs := o.s.data.toList) (fun w' hw => hG.ext (hK74 _ hw).ext) (fun w' hw => (restOwn (hR74 0 _ rfl _ hw)).slB rfl) (by dsimp only; omega) hG74) rfl ?_
                      clear H a; intro v36 w34 hv a H
                      obtain ⟨rfl, u1, hE35⟩ := hv
                      replace hS := hF74 _ _ hE35
                      simp only [List.cons_append, List.nil_append] at hS
                      clear hG74 hK74 hR74 hF74
                      refine n_nil ?_
                      refine block_normal ?_
                      refine block_normal ?_
                      refine then_normal ?_
                      refine wp_region_lit ?_
                      refine n_q H (q_move rfl) rfl ?_
                      clear H a; intro a H
                      refine n_q H (q_add rfl rfl (by constructor <;> omega)) rfl ?_
                      clear H a; intro a H
                      refine n_q H (q_assign rfl) rfl ?_
                      clear H a; intro a H
                      refine n_nil ?_
                      refine then_normal ?_
                      have ha : (⟨allM (script.take i), .nil⟩ : WM).app o = (⟨allM (script.take i), .nil⟩ : WM).record o.n o.s.data.toList := by simp only [beq_iff_eq, beq_eq_false_iff_ne, ne_eq] at *; simp [WM.app, *]
                      rw [← ha, app_fit hf] at hS
                      replace hS := hS.take 1
                      simp only [List.take_succ_cons, List.take_zero] at hS
                      exact round (i + 1) H ⟨rfl, rfl, rfl, trivial⟩ ⟨by omega, u1, by rw [allM_snoc hx, if_pos hf]; exact hS⟩ (by first | omega | (dsimp only; omega))
                    · skip
                      simp only [beq_iff_eq, beq_eq_false_iff_ne, ne_eq] at *; unfold fitsM at hf; simp [*] at hf
    · skip
      obtain rfl : i = script.length := by simp at hc15; omega
      rw [List.take_length] at hS
      refine wp_exit ?_
      refine then_exit ?_
      refine then_exit ?_
      refine block_exit ?_
      refine then_normal ?_
      refine wp_seq ?_
      refine wp_region_lit ?_
      refine n_q H (q_move rfl) rfl ?_
      clear H a; intro a H
      obtain ⟨fp77, hG77, hK77, hR77, hF77⟩ := hS.frame1
      refine n_call H rfl en50 (wDone_w (by dsimp only; omega) hG77) rfl ?_
      clear H a; intro v39 w37 hv a H
      obtain ⟨v77, rfl, hE38⟩ := hv
      replace hS := hF77 _ _ hE38
      simp only [List.cons_append, List.nil_append] at hS
      clear hG77 hK77 hR77 hF77
      have hu : u1 = .nilIface := hS.wrErr 0 rfl
      subst hu
      obtain ⟨A77, c77, hv77, _⟩ := (hS.own 1 rfl).form
      subst hv77
      refine n_q H (q_move rfl) rfl ?_
      clear H a; intro a H
      refine n_q H (q_extract rfl rfl) rfl ?_
      clear H a; intro a H
      refine n_q H (q_extract rfl rfl) rfl ?_
      clear H a; intro a H
      refine n_q H (q_assign rfl) rfl ?_
      clear H a; intro a H
      refine n_q H (q_assign rfl) rfl ?_
      clear H a; intro a H
      refine n_nil ?_
      refine then_normal ?_
      refine wp_seq ?_
      refine wp_region_lit ?_
      refine n_c H (fun HC => ?_); clear H
      refine nc_q HC (q_move rfl) rfl (by kernel_rfl) ?_
      clear HC a; intro a HC
      refine nc_q HC (q_move rfl) rfl (by kernel_rfl) ?_
      clear HC a; intro a HC
      refine nc_q HC (q_nilI Tryd.underlying43 rfl rfl (.inl rfl)) rfl (by kernel_rfl) ?_
      clear HC a; intro a HC
      refine nc_q HC (q_move rfl) rfl (by kernel_rfl) ?_
      clear HC a; intro a HC
      refine nc_yes HC rfl rfl ?_
      obtain ⟨vp, hS1⟩ := (hS.pick 0 rfl).wr
      have hBp := hS1.blk 0 rfl
      have hOp := hS1.own 1 rfl
      clear hS1
      refine nc_q HC (q_move rfl) rfl (by kernel_rfl) ?_
      clear HC a; intro a HC
      refine nc_yes HC rfl rfl ?_
      refine nc_call HC rfl en65 (wSizeR hBp hOp) rfl (by kernel_rfl) ?_
      clear HC a; intro v42 w40 hv a HC
      obtain ⟨rfl, hE41⟩ := hv
      replace hS := hS.ext hE41
      refine nc_yes HC rfl rfl ?_
      refine nc_q HC (q_move rfl) rfl (by kernel_rfl) ?_
      clear HC a; intro a HC
      refine nc_yes HC rfl rfl ?_
      refine nc_q HC (q_lenSl Tryd.underlying48 rfl) rfl (by kernel_rfl) ?_
      clear HC a; intro a HC
      refine nc_yes HC rfl rfl ?_
      refine nc_q HC (q_eql rfl rfl) rfl (by kernel_rfl) ?_
      clear HC a; intro a HC
      refine nc_and (j := 3) HC rfl rfl rfl (by kernel_rfl) (by kernel_rfl) ?_
      clear HC a; intro a HC
      refine nc_q HC (q_assign rfl) rfl (by kernel_rfl) ?_
      clear HC a; intro a HC
      refine nc_q HC (q_assign rfl) rfl (by kernel_rfl) ?_
      clear HC a; intro a HC
      have H := HC.has; clear HC
      refine n_nil ?_
      refine then_normal ?_
      refine wp_ret ?_
      replace hS := hS.pick 1 rfl
      dsimp only [List.eraseIdx] at hS
      replace hS := hS.take 1
      simp only [List.take_succ_cons, List.take_zero] at hS
      refine ret2 H (.inr rfl) rfl rfl rfl ?_
      exact ⟨_, _, rfl, congrArg (fun b => Value.tuple #[_, .bool b]) (by simp [WM.out, isNilI]), hS⟩

theorem recordM_form {bs : List UInt8} {a d : Nat} {t : Int} (h1 : a ≤ d) (h2 : d ≤ bs.length) : (recordM bs a d t).1 = none ∨ ∃ x, (recordM bs a d t).1 = some x ∧ (recordM bs a d t).2.1 = .nil ∧ (recordM bs a d t).2.2 = x.2 ∧ x.1 ≤ x.2 ∧ x.2 ≤ d := by
  unfold recordM
  split
  · exact .inl rfl
  split
  · exact .inl rfl
  split
  · exact .inl rfl
  · have hp := peekN_lt (bs := bs) (a := a + 1) (k := 2) (by omega)
    exact .inr ⟨_, rfl, rfl, rfl, by dsimp only; omega, by dsimp only; omega⟩
theorem recordM_err {bs : List UInt8} {a d : Nat} {t : Int} (h : (recordM bs a d t).1 = none) : (recordM bs a d t).2.1 ≠ .nil := by
  unfold recordM at *
  split
  · intro h; cases h
  split
  · intro h; cases h
  split
  · intro h; cases h
  · simp_all
theorem rawM_all {bs : List UInt8} {a d : Nat} (h : a ≤ d) : rawM bs a d ((d : Int) - a) = ((bs.drop a).take (d - a), .nil, d) := by
  unfold rawM
  rw [if_neg (by omega), if_neg (by omega), show ((d : Int) - a).toNat = d - a by omega]
  congr 2; omega
theorem endM_self (d : Nat) : endM d d = .nil := by unfold endM; rw [if_neg (by omega)]
set_option maxHeartbeats 4000000 in
theorem one_w {w : World} {fp : Nat → Prop} {A : Nat → Addr} {p ca cd : Nat} {vb : Value} {bs : List UInt8} {o : OpM} (hf : fitsM o = true) (hs48 : o.s.size ≤ 1048576) (hG : ∀ w', ChgP fp w w' → EV A w') (hb : ∀ w', ChgP fp w w' → SlR w' 1 (Flat eB) vb bs) (h1 : ca ≤ cd) (h2 : cd ≤ bs.length) (h3 : bs.length ≤ 70368744177664) (hP0 : Sep w fp [cuR p vb ca cd]) :
    Calls Tryd.prog 80 [.pointer (some ⟨p, 0, none⟩), opV o].toArray w (Ret fun r w' => ∃ code ok a', (code, ok, a') = oneM bs ca cd o ∧ r = .tuple #[.int .i64 code, .bool ok] ∧ St fp w w' [cuR p vb a' cd]) := by
  have hS := St.init hP0
  refine enter Tryd.func80 rfl rfl rfl ?_
  intro a H
  dsimp only [enumL, Nat.zero_add, Nat.reduceAdd] at H
  refine wp_seq ?_
  refine wp_region_lit ?_
  refine n_box H rfl (cs := (eOp o)) rfl rfl ?_
  clear H; intro b3 w1 hN hE2 hs_b3; clear a; intro a H
  replace hS := hS.newBlk hN hE2 hs_b3; clear hN hE2
  refine n_q H (q_assign rfl) rfl ?_
  clear H a; intro a H
  refine n_q H (q_assign rfl) rfl ?_
  clear H a; intro a H
  refine n_nil ?_
  refine then_normal ?_
  refine wp_seq ?_
  refine wp_region_lit ?_
  refine n_q H (q_fieldAddr0 rfl fo29_3) rfl ?_
  clear H a; intro a H
  refine n_q H (q_load rfl ((hS.blk 0 rfl).ld ag3 rfl)) rfl ?_
  clear H a; intro a H
  refine n_q H (q_assign rfl) rfl ?_
  clear H a; intro a H
  refine n_q H (q_assign rfl) rfl ?_
  clear H a; intro a H
  refine n_nil ?_
  refine then_normal ?_
  refine wp_seq ?_
  refine wp_region_lit ?_
  refine n_q H (q_fieldAddr0 rfl fo29_6) rfl ?_
  clear H a; intro a H
  refine n_q H (q_load rfl ((hS.blk 0 rfl).ld ag9 rfl)) rfl ?_
  clear H a; intro a H
  refine n_q H (q_assign rfl) rfl ?_
  clear H a; intro a H
  refine n_nil ?_
  refine then_normal ?_
  refine c_join (σ := Int × ByteArray × Value × ErrM × Nat) H (fun (n1, s1, u1, e1, a1) => [(0, .pointer (some ⟨p, 0, none⟩)), (3, .pointer (some ⟨b3, 0, none⟩)), (6, .int .i64 n1), (7, u1), (8, .string s1)]) (fun (n1, s1, u1, e1, a1) wl => (e1.code, (n1 == o.n && decide (s1 = o.s)), a1) = oneM bs ca cd o ∧ St fp w wl [cuR p vb a1 cd, erR A u1 e1, blkR b3 (eOp o) 29]) ?_ ?_
  · skip
    refine wp_seq ?_
    refine wp_region_lit ?_
    refine n_q H (q_fieldAddr0 rfl fo29_0) rfl ?_
    clear H a; intro a H
    refine n_q H (q_load rfl ((hS.blk 0 rfl).ld ag3 rfl)) rfl ?_
    clear H a; intro a H
    refine n_nil ?_
    refine then_normal ?_
    refine wp_block ?_
    refine wp_seq ?_
    refine wp_region_lit ?_
    refine n_q H (q_eql rfl rfl) rfl ?_
    clear H a; intro a H
    refine n_q H (q_assign rfl) rfl ?_
    clear H a; intro a H
    refine n_nil ?_
    refine then_normal ?_
    refine c_cond H rfl (fun hc22 => ?_) (fun hc22 => ?_)
    · skip
      refine wp_region_lit ?_
      refine n_q H (q_move rfl) rfl ?_
      clear H a; intro a H
      replace hS := hS.pick 1 rfl
      dsimp only [List.eraseIdx] at hS
      obtain ⟨fp26, hG26, hK26, hR26, hF26⟩ := hS.frame1
      refine n_call H rfl en53 (cU8_w  (fun w' hw => hG _ (hK26 _ hw)) (fun w' hw => hb _ (hK26 _ hw)) h1 h2 h3 hG26) rfl ?_
      clear H a; intro v5 w3 hv a H
      obtain ⟨u26, rfl, hE4⟩ := hv
      replace hS := hF26 _ _ hE4
      simp only [List.cons_append, List.nil_append] at hS
      clear hG26 hK26 hR26 hF26
      refine n_q H (q_move rfl) rfl ?_
      clear H a; intro a H
      refine n_q H (q_extract rfl rfl) rfl ?_
      clear H a; intro a H
      refine n_q H (q_extract rfl rfl) rfl ?_
      clear H a; intro a H
      refine n_q H (q_assign rfl) rfl ?_
      clear H a; intro a H
      refine n_q H (q_assign rfl) rfl ?_
      clear H a; intro a H
      refine n_nil ?_
      refine block_normal ?_
      refine then_normal ?_
      replace hS := hS.pick 2 rfl
      dsimp only [List.eraseIdx] at hS
      replace hS := hS.pick 2 rfl
      dsimp only [List.eraseIdx] at hS
      replace hS := hS.pick 2 rfl
      dsimp only [List.eraseIdx] at hS
      exact join ((rangedM bs ca cd 1 0 255).1, o.s, u26, (rangedM bs ca cd 1 0 255).2.1, (rangedM bs ca cd 1 0 255).2.2) H ⟨rfl, rfl, rfl, rfl, rfl, trivial⟩ ⟨by simp only [beq_iff_eq, beq_eq_false_iff_ne, ne_eq] at *; unfold oneM; simp [*, ErrM.code, ErrM.g?], hS⟩
    · skip
      refine wp_seq ?_
      refine wp_region_lit ?_
      refine n_q H (q_eql rfl rfl) rfl ?_
      clear H a; intro a H
      refine n_q H (q_assign rfl) rfl ?_
      clear H a; intro a H
      refine n_nil ?_
      refine then_normal ?_
      refine c_cond H rfl (fun hc29 => ?_) (fun hc29 => ?_)
      · skip
        refine wp_region_lit ?_
        refine n_q H (q_move rfl) rfl ?_
        clear H a; intro a H
        replace hS := hS.pick 1 rfl
        dsimp only [List.eraseIdx] at hS
        obtain ⟨fp33, hG33, hK33, hR33, hF33⟩ := hS.frame1
        refine n_call H rfl en67 (cU16_w  (fun w' hw => hG _ (hK33 _ hw)) (fun w' hw => hb _ (hK33 _ hw)) h1 h2 h3 hG33) rfl ?_
        clear H a; intro v8 w6 hv a H
        obtain ⟨u33, rfl, hE7⟩ := hv
        replace hS := hF33 _ _ hE7
        simp only [List.cons_append, List.nil_append] at hS
        clear hG33 hK33 hR33 hF33
        refine n_q H (q_move rfl) rfl ?_
        clear H a; intro a H
        refine n_q H (q_extract rfl rfl) rfl ?_
        clear H a; intro a H
        refine n_q H (q_extract rfl rfl) rfl ?_
        clear H a; intro a H
        refine n_q H (q_assign rfl) rfl ?_
        clear H a; intro a H
        refine n_q H (q_assign rfl) rfl ?_
        clear H a; intro a H
        refine n_nil ?_
        refine block_normal ?_
        refine then_normal ?_
        replace hS := hS.pick 2 rfl
        dsimp only [List.eraseIdx] at hS
        replace hS := hS.pick 2 rfl
        dsimp only [List.eraseIdx] at hS
        replace hS := hS.pick 2 rfl
        dsimp only [List.eraseIdx] at hS
        exact join ((rangedM bs ca cd 2 0 65535).1, o.s, u33, (rangedM bs ca cd 2 0 65535).2.1, (rangedM bs ca cd 2 0 65535).2.2) H ⟨rfl, rfl, rfl, rfl, rfl, trivial⟩ ⟨by simp only [beq_iff_eq, beq_eq_false_iff_ne, ne_eq] at *; unfold oneM; simp [*, ErrM.code, ErrM.g?], hS⟩
      · skip
        refine wp_seq ?_
        refine wp_region_lit ?_
        refine n_q H (q_eql rfl rfl) rfl ?_
        clear H a; intro a H
        refine n_q H (q_assign rfl) rfl ?_
        clear H a; intro a H
        refine n_nil ?_
        refine then_normal ?_
        refine c_cond H rfl (fun hc36 => ?_) (fun hc36 => ?_)
        · skip
          refine wp_region_lit ?_
          refine n_q H (q_move rfl) rfl ?_
          clear H a; intro a H
          replace hS := hS.pick 1 rfl
          dsimp only [List.eraseIdx] at hS
          obtain ⟨fp40, hG40, hK40, hR40, hF40⟩ := hS.frame1
          refine n_call H rfl en68 (cU32_w  (fun w' hw => hG _ (hK40 _ hw)) (fun w' hw => hb _ (hK40 _ hw)) h1 h2 h3 hG40) rfl ?_
          clear H a; intro v11 w9 hv a H
          obtain ⟨u40, rfl, hE10⟩ := hv
          replace hS := hF40 _ _ hE10
          simp only [List.cons_append, List.nil_append] at hS
          clear hG40 hK40 hR40 hF40
          refine n_q H (q_move rfl) rfl ?_
          clear H a; intro a H
          refine n_q H (q_extract rfl rfl) rfl ?_
          clear H a; intro a H
          refine n_q H (q_extract rfl rfl) rfl ?_
          clear H a; intro a H
          refine n_q H (q_assign rfl) rfl ?_
          clear H a; intro a H
          refine n_q H (q_assign rfl) rfl ?_
          clear H a; intro a H
          refine n_nil ?_
          refine block_normal ?_
          refine then_normal ?_
          replace hS := hS.pick 2 rfl
          dsimp only [List.eraseIdx] at hS
          replace hS := hS.pick 2 rfl
          dsimp only [List.eraseIdx] at hS
          replace hS := hS.pick 2 rfl
          dsimp only [List.eraseIdx] at hS
          exact join ((rangedM bs ca cd 4 0 4294967295).1, o.s, u40, (rangedM bs ca cd 4 0 4294967295).2.1, (rangedM bs ca cd 4 0 4294967295).2.2) H ⟨rfl, rfl, rfl, rfl, rfl, trivial⟩ ⟨by simp only [beq_iff_eq, beq_eq_false_iff_ne, ne_eq] at *; unfold oneM; simp [*, ErrM.code, ErrM.g?], hS⟩
        · skip
          refine wp_seq ?_
          refine wp_region_lit ?_
          refine n_q H (q_eql rfl rfl) rfl ?_
          clear H a; intro a H
          refine n_q H (q_assign rfl) rfl ?_
          clear H a; intro a H
          refine n_nil ?_
          refine then_normal ?_
          refine c_cond H rfl (fun hc43 => ?_) (fun hc43 => ?_)
          · skip
            refine wp_seq ?_
            refine wp_region_lit ?_
            refine n_q H (q_move rfl) rfl ?_
            clear H a; intro a H
            replace hS := hS.pick 1 rfl
            dsimp only [List.eraseIdx] at hS
            obtain ⟨fp47, hG47, hK47, hR47, hF47⟩ := hS.frame1
            refine n_call H rfl en112 (cFlag_w  (fun w' hw => hG _ (hK47 _ hw)) (fun w' hw => hb _ (hK47 _ hw)) h1 h2 h3 hG47) rfl ?_
            clear H a; intro v14 w12 hv a H
            obtain ⟨u47, rfl, hE13⟩ := hv
            replace hS := hF47 _ _ hE13
            simp only [List.cons_append, List.nil_append] at hS
            clear hG47 hK47 hR47 hF47
            refine n_q H (q_move rfl) rfl ?_
            clear H a; intro a H
            refine n_q H (q_extract rfl rfl) rfl ?_
            clear H a; intro a H
            refine n_q H (q_extract rfl rfl) rfl ?_
            clear H a; intro a H
            refine n_q H (q_assign rfl) rfl ?_
            clear H a; intro a H
            refine n_q H (q_assign rfl) rfl ?_
            clear H a; intro a H
            refine n_nil ?_
            refine then_normal ?_
            refine wp_seq ?_
            refine c_quiet (by kernel_rfl) (by kernel_rfl) ?_
            refine qq_q H (q_move rfl) rfl ?_
            clear H a; intro a H
            refine qq_call H rfl en28 ((fun w' hw => code_w ((hG _ hS.chg).ext hw) (((hS.any 1 rfl)).ext hw))) rfl ?_
            clear H a; intro a H
            refine qq_q H (q_move rfl) rfl ?_
            clear H a; intro a H
            refine qq_q H (q_fieldAddr0 rfl fo29_3) rfl ?_
            clear H a; intro a H
            refine qq_q H (q_load rfl ((hS.blk 2 rfl).ld ag3 rfl)) rfl ?_
            clear H a; intro a H
            refine qq_q H (q_cast (q_and rfl rfl) (show _ = Value.int .i64 (and1 o.n) from rfl)) rfl ?_
            clear H a; intro a H
            refine qq_q H (q_eql rfl rfl) rfl ?_
            clear H a; intro a H
            refine qq_q H (q_eqlB Tryd.underlying4 rfl rfl) rfl ?_
            clear H a; intro a H
            refine qq_q H (q_assign rfl) rfl ?_
            clear H a; intro a H
            refine qq_q H (q_assign rfl) rfl ?_
            clear H a; intro a H
            refine qq_nil ?_
            intro w15 hE16
            replace hS := hS.ext hE16
            refine then_normal ?_
            refine wp_ret ?_
            refine block_ret ?_
            refine then_ret ?_
            replace hS := hS.take 1
            simp only [List.take_succ_cons, List.take_zero] at hS
            refine ret2 H (.inr rfl) rfl rfl rfl ?_
            first | exact ⟨_, _, _, hone, rfl, hS⟩ | exact ⟨_, _, _, by simp only [beq_iff_eq, beq_eq_false_iff_ne, ne_eq] at *; unfold oneM; simp [*], rfl, hS⟩
          · skip
            refine wp_seq ?_
            refine wp_region_lit ?_
            refine n_q H (q_eql rfl rfl) rfl ?_
            clear H a; intro a H
            refine n_q H (q_assign rfl) rfl ?_
            clear H a; intro a H
            refine n_nil ?_
            refine then_normal ?_
            refine c_cond H rfl (fun hc58 => ?_) (fun hc58 => ?_)
            · skip
              refine wp_seq ?_
              refine wp_region_lit ?_
              refine n_q H (q_move rfl) rfl ?_
              clear H a; intro a H
              refine n_q H (q_fieldAddr0 rfl fo29_6) rfl ?_
              clear H a; intro a H
              refine n_q H (q_load rfl ((hS.blk 0 rfl).ld ag9 rfl)) rfl ?_
              clear H a; intro a H
              refine n_q H (q_lenS Tryd.underlying9 rfl) rfl ?_
              clear H a; intro a H
              replace hS := hS.pick 1 rfl
              dsimp only [List.eraseIdx] at hS
              obtain ⟨fp65, hG65, hK65, hR65, hF65⟩ := hS.frame1
              refine n_call H rfl en70 (cRaw_w (by omega) (fun w' hw => hG _ (hK65 _ hw)) (fun w' hw => hb _ (hK65 _ hw)) h1 h2 h3 hG65) rfl ?_
              clear H a; intro v19 w17 hv a H
              obtain ⟨v65, u65, rfl, hE18⟩ := hv
              replace hS := hF65 _ _ hE18
              simp only [List.cons_append, List.nil_append] at hS
              clear hG65 hK65 hR65 hF65
              refine n_q H (q_move rfl) rfl ?_
              clear H a; intro a H
              refine n_q H (q_extract rfl rfl) rfl ?_
              clear H a; intro a H
              refine n_q H (q_extract rfl rfl) rfl ?_
              clear H a; intro a H
              refine n_q H (q_assign rfl) rfl ?_
              clear H a; intro a H
              refine n_q H (q_assign rfl) rfl ?_
              clear H a; intro a H
              refine n_nil ?_
              refine then_normal ?_
              refine wp_region_lit ?_
              refine n_q H (q_move rfl) rfl ?_
              clear H a; intro a H
              refine n_q H (q_str Tryd.underlying48 Tryd.underlying5 Tryd.underlying9 rfl (fun w' e => ((hS.own 2 rfl).ext e).slB rfl)) rfl ?_
              clear H a; intro a H
              refine n_q H (q_move rfl) rfl ?_
              clear H a; intro a H
              refine n_q H (q_assign rfl) rfl ?_
              clear H a; intro a H
              refine n_q H (q_assign rfl) rfl ?_
              clear H a; intro a H
              refine n_nil ?_
              refine block_normal ?_
              refine then_normal ?_
              replace hS := hS.pick 3 rfl
              dsimp only [List.eraseIdx] at hS
              replace hS := hS.pick 2 rfl
              dsimp only [List.eraseIdx] at hS
              replace hS := hS.pick 2 rfl
              dsimp only [List.eraseIdx] at hS
              replace hS := hS.take 3
              simp only [List.take_succ_cons, List.take_zero] at hS
              exact join (o.n, strB (rawM bs ca cd o.s.size).1, u65, (rawM bs ca cd o.s.size).2.1, (rawM bs ca cd o.s.size).2.2) H ⟨rfl, rfl, rfl, rfl, rfl, trivial⟩ ⟨by simp only [beq_iff_eq, beq_eq_false_iff_ne, ne_eq] at *; unfold oneM; simp [*, ErrM.code, ErrM.g?], hS⟩
            · skip
              refine wp_seq ?_
              refine wp_region_lit ?_
              refine n_q H (q_eql rfl rfl) rfl ?_
              clear H a; intro a H
              refine n_q H (q_assign rfl) rfl ?_
              clear H a; intro a H
              refine n_nil ?_
              refine then_normal ?_
              refine c_cond H rfl (fun hc71 => ?_) (fun hc71 => ?_)
              · skip
                refine wp_region_lit ?_
                refine n_q H (q_move rfl) rfl ?_
                clear H a; intro a H
                replace hS := hS.pick 1 rfl
                dsimp only [List.eraseIdx] at hS
                obtain ⟨fp75, hG75, hK75, hR75, hF75⟩ := hS.frame1
                refine n_call H rfl en71 (cText_w  (fun w' hw => hG _ (hK75 _ hw)) (fun w' hw => hb _ (hK75 _ hw)) h1 h2 h3 hG75) rfl ?_
                clear H a; intro v22 w20 hv a H
                obtain ⟨u75, rfl, hE21⟩ := hv
                replace hS := hF75 _ _ hE21
                simp only [List.cons_append, List.nil_append] at hS
                clear hG75 hK75 hR75 hF75
                refine n_q H (q_move rfl) rfl ?_
                clear H a; intro a H
                refine n_q H (q_extract rfl rfl) rfl ?_
                clear H a; intro a H
                refine n_q H (q_extract rfl rfl) rfl ?_
                clear H a; intro a H
                refine n_q H (q_assign rfl) rfl ?_
                clear H a; intro a H
                refine n_q H (q_assign rfl) rfl ?_
                clear H a; intro a H
                refine n_nil ?_
                refine block_normal ?_
                refine then_normal ?_
                replace hS := hS.pick 2 rfl
                dsimp only [List.eraseIdx] at hS
                replace hS := hS.pick 2 rfl
                dsimp only [List.eraseIdx] at hS
                replace hS := hS.pick 2 rfl
                dsimp only [List.eraseIdx] at hS
                exact join (o.n, (textM bs ca cd 65535).1, u75, (textM bs ca cd 65535).2.1, (textM bs ca cd 65535).2.2) H ⟨rfl, rfl, rfl, rfl, rfl, trivial⟩ ⟨by simp only [beq_iff_eq, beq_eq_false_iff_ne, ne_eq] at *; unfold oneM; simp [*, ErrM.code, ErrM.g?], hS⟩
              · skip
                refine wp_seq ?_
                refine wp_region_lit ?_
                refine n_q H (q_eql rfl rfl) rfl ?_
                clear H a; intro a H
                refine n_q H (q_assign rfl) rfl ?_
                clear H a; intro a H
                refine n_nil ?_
                refine then_normal ?_
                refine c_cond H rfl (fun hc78 => ?_) (fun hc78 => ?_)
                · skip
                  refine wp_seq ?_
                  refine wp_region_lit ?_
                  refine n_q H (q_move rfl) rfl ?_
                  clear H a; intro a H
                  refine n_q H (q_fieldAddr0 rfl fo29_3) rfl ?_
                  clear H a; intro a H
                  refine n_q H (q_load rfl ((hS.blk 0 rfl).ld ag3 rfl)) rfl ?_
                  clear H a; intro a H
                  replace hS := hS.pick 1 rfl
                  dsimp only [List.eraseIdx] at hS
                  obtain ⟨fp84, hG84, hK84, hR84, hF84⟩ := hS.frame1
                  refine n_call H rfl en52 (cRecord_w (fun w' hw => hG _ (hK84 _ hw)) (fun w' hw => hb _ (hK84 _ hw)) h1 h2 h3 hG84) rfl ?_
                  clear H a; intro v25 w23 hv a H
                  obtain ⟨q84, u84, rfl, hE24⟩ := hv
                  replace hS := hF84 _ _ hE24
                  simp only [List.cons_append, List.nil_append] at hS
                  clear hG84 hK84 hR84 hF84
                  refine n_q H (q_move rfl) rfl ?_
                  clear H a; intro a H
                  refine n_q H (q_extract rfl rfl) rfl ?_
                  clear H a; intro a H
                  refine n_q H (q_extract rfl rfl) rfl ?_
                  clear H a; intro a H
                  refine n_q H (q_assign rfl) rfl ?_
                  clear H a; intro a H
                  refine n_q H (q_assign rfl) rfl ?_
                  clear H a; intro a H
                  refine n_nil ?_
                  refine then_normal ?_
                  refine wp_seq ?_
                  refine wp_seq ?_
                  refine wp_region_lit ?_
                  refine n_c H (fun HC => ?_); clear H
                  refine nc_q HC (q_move rfl) rfl (by kernel_rfl) ?_
                  clear HC a; intro a HC
                  refine nc_q HC (q_nnilI Tryd.underlying43 rfl rfl (hS.any 1 rfl).form) rfl (by kernel_rfl) ?_
                  clear HC a; intro a HC
                  refine nc_q HC (q_move rfl) rfl (by kernel_rfl) ?_
                  clear HC a; intro a HC
                  refine nc_g HC (q_move rfl) (by kernel_rfl) (by kernel_rfl) (by kernel_rfl) ?_
                  clear HC a; intro a HC
                  refine nc_g HC (q_nilP Tryd.underlying39 rfl rfl) (by kernel_rfl) (by kernel_rfl) (by kernel_rfl) ?_
                  clear HC a; intro a HC
                  refine nc_or (j := 2) HC rfl rfl rfl (by kernel_rfl) (by kernel_rfl) ?_
                  clear HC a; intro a HC
                  have H := HC.has; clear HC
                  refine n_nil ?_
                  refine then_normal ?_
                  refine c_cond H rfl (fun hc92 => ?_) (fun hc92 => ?_)
                  · skip
                    have hq : (recordM bs ca cd o.n).1 = none := by
                      rcases recordM_form (t := o.n) h1 h2 with hq | ⟨x, hq, he, _⟩
                      · exact hq
                      · exfalso
                        have e1 := ((hS.any 1 rfl)).isNil
                        rw [he] at e1
                        rw [hq] at hS
                        obtain ⟨pq, hq2, _⟩ := (hS.pick 2 rfl).ncGet
                        rw [e1, hq2] at hc92
                        simp at hc92
                    refine wp_seq ?_
                    refine wp_region_lit ?_
                    refine n_q H (q_move rfl) rfl ?_
                    clear H a; intro a H
                    refine n_call H rfl en28 (code_w (hG _ hS.chg) (hS.any 1 rfl)) rfl ?_
                    clear H a; intro v28 w26 hv a H
                    obtain ⟨rfl, hE27⟩ := hv
                    replace hS := hS.ext hE27
                    refine n_q H (q_assign rfl) rfl ?_
                    clear H a; intro a H
                    refine n_q H (q_assign rfl) rfl ?_
                    clear H a; intro a H
                    refine n_nil ?_
                    refine then_normal ?_
                    refine wp_ret ?_
                    refine then_ret ?_
                    refine block_ret ?_
                    refine then_ret ?_
                    replace hS := hS.take 1
                    simp only [List.take_succ_cons, List.take_zero] at hS
                    refine ret2 H (.inr rfl) rfl rfl rfl ?_
                    first | exact ⟨_, _, _, hone, rfl, hS⟩ | exact ⟨_, _, _, by simp only [beq_iff_eq, beq_eq_false_iff_ne, ne_eq] at *; unfold oneM; simp [*], rfl, hS⟩
                  · skip
                    obtain ⟨x, hq, he, hx2, hx3, hx4⟩ : ∃ x, (recordM bs ca cd o.n).1 = some x ∧ (recordM bs ca cd o.n).2.1 = .nil ∧ (recordM bs ca cd o.n).2.2 = x.2 ∧ x.1 ≤ x.2 ∧ x.2 ≤ cd := by
                      rcases recordM_form (t := o.n) h1 h2 with hq | h
                      · exfalso
                        rw [hq] at hS
                        obtain ⟨hq2, _⟩ := (hS.pick 2 rfl).ncGet0
                        rw [hq2] at hc92
                        simp at hc92
                      · exact h
                    replace hS := hS.pick 2 rfl
                    dsimp only [List.eraseIdx] at hS
                    rw [hq] at hS
                    obtain ⟨bq, hq84, hS3⟩ := hS.ncGet
                    replace hS := hS3
                    clear hS3
                    subst hq84
                    refine wp_skip ?_
                    refine then_normal ?_
                    refine wp_seq ?_
                    refine wp_region_lit ?_
                    refine n_q H (q_move rfl) rfl ?_
                    clear H a; intro a H
                    refine n_q H (q_move rfl) rfl ?_
                    clear H a; intro a H
                    refine n_call H rfl en18 (cLeft_w hx3 (by omega) (hS.blk 0 rfl)) rfl ?_
                    clear H a; intro v31 w29 hv a H
                    obtain ⟨rfl, hE30⟩ := hv
                    replace hS := hS.ext hE30
                    obtain ⟨fp99, hG99, hK99, hR99, hF99⟩ := hS.frame1
                    refine n_call H rfl en70 (cRaw_w (by omega) (fun w' hw => hG _ (hK99 _ hw)) (fun w' hw => hb _ (hK99 _ hw)) hx3 (by omega) h3 hG99) rfl ?_
                    clear H a; intro v34 w32 hv a H
                    obtain ⟨v99, u99, rfl, hE33⟩ := hv
                    replace hS := hF99 _ _ hE33
                    simp only [List.cons_append, List.nil_append] at hS
                    clear hG99 hK99 hR99 hF99
                    rw [rawM_all hx3] at hS
                    dsimp only at hS
                    have hu99 : u99 = .nilIface := (hS.any 1 rfl)
                    subst hu99
                    refine n_q H (q_move rfl) rfl ?_
                    clear H a; intro a H
                    refine n_q H (q_extract rfl rfl) rfl ?_
                    clear H a; intro a H
                    refine n_q H (q_extract rfl rfl) rfl ?_
                    clear H a; intro a H
                    refine n_q H (q_assign rfl) rfl ?_
                    clear H a; intro a H
                    refine n_q H (q_assign rfl) rfl ?_
                    clear H a; intro a H
                    refine n_nil ?_
                    refine then_normal ?_
                    refine wp_seq ?_
                    refine wp_region_lit ?_
                    refine n_q H (q_move rfl) rfl ?_
                    clear H a; intro a H
                    refine n_q H (q_str Tryd.underlying48 Tryd.underlying5 Tryd.underlying9 rfl (fun w' e => ((hS.own 2 rfl).ext e).slB rfl)) rfl ?_
                    clear H a; intro a H
                    refine n_q H (q_move rfl) rfl ?_
                    clear H a; intro a H
                    refine n_q H (q_assign rfl) rfl ?_
                    clear H a; intro a H
                    refine n_q H (q_assign rfl) rfl ?_
                    clear H a; intro a H
                    refine n_nil ?_
                    refine then_normal ?_
                    refine wp_seq ?_
                    refine wp_region_lit ?_
                    refine n_c H (fun HC => ?_); clear H
                    refine nc_q HC (q_move rfl) rfl (by kernel_rfl) ?_
                    clear HC a; intro a HC
                    obtain ⟨fp106, hG106, hK106, hR106, hF106⟩ := hS.frame1
                    refine nc_call HC rfl en24 (cEnd_w (fun w' hw => hG _ (hK106 _ hw)) (fun w' hw => hb _ (hK106 _ hw)) (Nat.le_refl _) (by omega) h3 hG106) rfl (by kernel_rfl) ?_
                    clear HC a; intro u106 w35 hv a HC
                    obtain ⟨_, rfl, hE36⟩ := hv
                    replace hS := hF106 _ _ hE36
                    simp only [List.cons_append, List.nil_append] at hS
                    clear hG106 hK106 hR106 hF106
                    rw [endM_self] at hS
                    have hu106 : u106 = .nilIface := (hS.any 1 rfl)
                    subst hu106
                    refine nc_q HC (q_nnilI Tryd.underlying43 rfl rfl (.inl rfl)) rfl (by kernel_rfl) ?_
                    clear HC a; intro a HC
                    refine nc_q HC (q_move rfl) rfl (by kernel_rfl) ?_
                    clear HC a; intro a HC
                    refine nc_g HC (q_move rfl) (by kernel_rfl) (by kernel_rfl) (by kernel_rfl) ?_
                    clear HC a; intro a HC
                    refine nc_gcall0 HC rfl en17 (cAt_w (hS.blk 0 rfl)) (by kernel_rfl) (by kernel_rfl) (by kernel_rfl) ?_
                    clear HC a; intro w37 hE38 a HC
                    replace hS := hS.ext hE38
                    refine nc_g HC (q_move rfl) (by kernel_rfl) (by kernel_rfl) (by kernel_rfl) ?_
                    clear HC a; intro a HC
                    refine nc_gcall0 HC rfl en17 (cAt_w (hS.blk 4 rfl)) (by kernel_rfl) (by kernel_rfl) (by kernel_rfl) ?_
                    clear HC a; intro w39 hE40 a HC
                    replace hS := hS.ext hE40
                    refine nc_g HC (q_neq rfl rfl) (by kernel_rfl) (by kernel_rfl) (by kernel_rfl) ?_
                    clear HC a; intro a HC
                    refine nc_or (j := 3) HC rfl rfl rfl (by kernel_rfl) (by kernel_rfl) ?_
                    clear HC a; intro a HC
                    have H := HC.has; clear HC
                    refine n_nil ?_
                    refine then_normal ?_
                    refine c_cond H rfl (fun hc114 => ?_) (fun hc114 => ?_)
                    · skip
                      simp [isNilI, hx2] at hc114
                    · skip
                      refine wp_skip ?_
                      refine block_normal ?_
                      refine then_normal ?_
                      replace hS := hS.pick 6 rfl
                      dsimp only [List.eraseIdx] at hS
                      replace hS := hS.pick 3 rfl
                      dsimp only [List.eraseIdx] at hS
                      replace hS := hS.pick 5 rfl
                      dsimp only [List.eraseIdx] at hS
                      replace hS := hS.take 3
                      simp only [List.take_succ_cons, List.take_zero] at hS
                      exact join (o.n, strB ((bs.drop x.1).take (x.2 - x.1)), .nilIface, .nil, (recordM bs ca cd o.n).2.2) H ⟨rfl, rfl, rfl, rfl, rfl, trivial⟩ ⟨by simp only [beq_iff_eq, beq_eq_false_iff_ne, ne_eq] at *; unfold oneM; simp [*, ErrM.code, ErrM.g?], hS⟩
                · skip
                  simp only [beq_iff_eq, beq_eq_false_iff_ne, ne_eq] at *; unfold fitsM at hf; simp [*] at hf
  · clear H hS; clear a
    intro xx a w41 H hR
    obtain ⟨n1, s1, u1, e1, a1⟩ := xx
    simp only [ent, List.map_cons, List.map_nil] at H
    try dsimp only at hR
    obtain ⟨hone, hS⟩ := hR; try clear hR
    refine wp_seq ?_
    refine c_quiet (by kernel_rfl) (by kernel_rfl) ?_
    refine qq_c H (fun HC => ?_); clear H
    refine qc_q HC (q_move rfl) rfl (by kernel_rfl) ?_
    clear HC a; intro a HC
    refine qc_call HC rfl en28 ((fun w' hw => code_w ((hG _ hS.chg).ext hw) (((hS.any 1 rfl)).ext hw))) rfl (by kernel_rfl) ?_
    clear HC a; intro a HC
    refine qc_q HC (q_move rfl) rfl (by kernel_rfl) ?_
    clear HC a; intro a HC
    refine qc_q HC (q_fieldAddr0 rfl fo29_3) rfl (by kernel_rfl) ?_
    clear HC a; intro a HC
    refine qc_q HC (q_load rfl ((hS.blk 2 rfl).ld ag3 rfl)) rfl (by kernel_rfl) ?_
    clear HC a; intro a HC
    refine qc_q HC (q_eql rfl rfl) rfl (by kernel_rfl) ?_
    clear HC a; intro a HC
    refine qc_q HC (q_move rfl) rfl (by kernel_rfl) ?_
    clear HC a; intro a HC
    refine qc_g HC (q_move rfl) (by kernel_rfl) (by kernel_rfl) (by kernel_rfl) ?_
    clear HC a; intro a HC
    refine qc_g HC (q_fieldAddr0 rfl fo29_6) (by kernel_rfl) (by kernel_rfl) (by kernel_rfl) ?_
    clear HC a; intro a HC
    refine qc_g HC (q_load rfl ((hS.blk 2 rfl).ld ag9 rfl)) (by kernel_rfl) (by kernel_rfl) (by kernel_rfl) ?_
    clear HC a; intro a HC
    refine qc_g HC (q_eqlS rfl rfl) (by kernel_rfl) (by kernel_rfl) (by kernel_rfl) ?_
    clear HC a; intro a HC
    refine qc_and (j := 6) HC rfl rfl rfl (by kernel_rfl) (by kernel_rfl) ?_
    clear HC a; intro a HC
    refine qc_q HC (q_assign rfl) rfl (by kernel_rfl) ?_
    clear HC a; intro a HC
    refine qc_q HC (q_assign rfl) rfl (by kernel_rfl) ?_
    clear HC a; intro a HC
    have H := HC.has; clear HC
    refine qq_nil ?_
    intro w42 hE43
    replace hS := hS.ext hE43
    refine then_normal ?_
    refine wp_ret ?_
    replace hS := hS.take 1
    simp only [List.take_succ_cons, List.take_zero] at hS
    refine ret2 H (.inr rfl) rfl rfl rfl ?_
    first | exact ⟨_, _, _, hone, rfl, hS⟩ | exact ⟨_, _, _, by simp only [beq_iff_eq, beq_eq_false_iff_ne, ne_eq] at *; unfold oneM; simp [*], rfl, hS⟩

theorem one_in {bs : List UInt8} {a : Nat} {o : OpM} (h : a ≤ bs.length) : (oneM bs a bs.length o).2.2 ≤ bs.length := by
  have k : ∀ k lo hi : Int, (rangedM bs a bs.length k lo hi).2.2 ≤ bs.length := fun k lo hi => by
    unfold rangedM
    repeat' split
    all_goals (dsimp only; omega)
  unfold oneM
  split
  · exact k _ _ _
  split
  · exact k _ _ _
  split
  · exact k _ _ _
  split
  · exact k _ _ _
  split
  · unfold rawM
    repeat' split
    all_goals (dsimp only; omega)
  split
  · unfold textM
    repeat' split
    all_goals (dsimp only; try omega)
  · rcases recordM_form (t := o.n) h (Nat.le_refl _) with hq | ⟨x, hq, _, he, hx, hx2⟩
    · rw [hq]
      have : (recordM bs a bs.length o.n).2.2 = a := by
        unfold recordM at *
        repeat' split
        all_goals simp_all
      dsimp only; omega
    · rw [hq]; dsimp only; omega
theorem reread_step {bs : List UInt8} {l : List OpM} {i a : Nat} {o : OpM} (h : l[i]? = some o) : rereadM bs (l.drop i) a = rereadM bs (o :: l.drop (i + 1)) a := by
  have hl := (List.getElem?_eq_some_iff.1 h).1
  rw [List.drop_eq_getElem_cons hl, (List.getElem?_eq_some_iff.1 h).2]
set_option maxHeartbeats 4000000 in
theorem reread_w {w : World} {A : Nat → Addr} {vb v : Value} {bs : List UInt8} {script : List OpM} (hG : EV A w) (hb : ∀ w', Ext w w' → SlR w' 1 (Flat eB) vb bs) (h : SlR w 7 (Flat eOp) v script) (hok : ∀ o ∈ script, o.s.size ≤ 1048576) (hz : bs.length ≤ 16777217) :
    Calls Tryd.prog 27 [vb, v].toArray w (Ret fun r w' => ∃ q v2 n code ok a', a' ≤ bs.length ∧ n = bs.length ∧ (code, ok, a') = rereadM bs script 0 ∧ r = .tuple #[.pointer (some ⟨q, 0, none⟩), .int .i64 code, .bool ok] ∧ St NB w w' [cuR q v2 a' bs.length, ownR 5 1 v2 n (bs.flatMap eB)]) := by
  have hS := St.begin NB w
  obtain ⟨A0, c0, rfl, hl0, hm0, hn0⟩ := h.form
  obtain ⟨A9, c9, hv9, _⟩ := (hb w Ext.rfl').form
  subst hv9
  refine enter Tryd.func27 rfl rfl rfl ?_
  intro a H
  dsimp only [enumL, Nat.zero_add, Nat.reduceAdd] at H
  refine wp_seq ?_
  refine wp_region_lit ?_
  refine n_q H (q_assign rfl) rfl ?_
  clear H a; intro a H
  refine n_q H (q_assign rfl) rfl ?_
  clear H a; intro a H
  refine n_q H (q_assign rfl) rfl ?_
  clear H a; intro a H
  refine n_nil ?_
  refine then_normal ?_
  refine wp_seq ?_
  refine wp_region_lit ?_
  refine n_q H (q_move rfl) rfl ?_
  clear H a; intro a H
  refine n_call H rfl en51 (open_w (bs := bs) (fun w' e => hb w' (hS.x.trans e)) (by omega)) rfl ?_
  clear H a; intro v3 w1 hv a H
  obtain ⟨q1, v2, n2, rfl, hn2, hE2⟩ := hv
  replace hS := hS.new hE2
  simp only [List.cons_append, List.nil_append] at hS
  refine n_q H (q_assign rfl) rfl ?_
  clear H a; intro a H
  refine n_nil ?_
  refine then_normal ?_
  refine wp_seq ?_
  refine wp_seq ?_
  refine wp_region_lit ?_
  refine n_q H (q_move rfl) rfl ?_
  clear H a; intro a H
  refine n_q H (q_nilP Tryd.underlying39 rfl rfl) rfl ?_
  clear H a; intro a H
  refine n_nil ?_
  refine then_normal ?_
  refine c_cond H rfl (fun hc14 => ?_) (fun hc14 => ?_)
  · skip
    cases hc14
  · skip
    refine wp_skip ?_
    refine then_normal ?_
    refine wp_seq ?_
    refine wp_seq ?_
    refine wp_region_lit ?_
    refine n_q H (q_assign rfl) rfl ?_
    clear H a; intro a H
    refine n_nil ?_
    refine then_normal ?_
    refine wp_block ?_
    replace hS := hS.pick 1 rfl
    dsimp only [List.eraseIdx] at hS
    replace hS := hS.pick 1 rfl
    dsimp only [List.eraseIdx] at hS
    refine c_loop (σ := Nat × Nat) (fun (i, a1) => [(1, .slice A0 script.length c0), (7, .pointer (some ⟨q1, 0, none⟩)), (8, .int .i64 (i : Nat))]) (fun (i, a1) wl => i ≤ script.length ∧ a1 ≤ bs.length ∧ rereadM bs script 0 = rereadM bs (script.drop i) a1 ∧ St NB w wl [cuR q1 v2 a1 bs.length, ownR 5 1 v2 n2 (bs.flatMap eB)]) (fun (i, a1) => script.length - i) (0, 0) H ⟨rfl, rfl, rfl, trivial⟩ ⟨Nat.zero_le _, Nat.zero_le _, rfl, hS⟩ ?_
    clear H hS; clear a; intro xx a w4 H hR
    obtain ⟨i, a1⟩ := xx
    simp only [ent, List.map_cons, List.map_nil] at H
    try dsimp only at hR
    obtain ⟨hi, ha, hre, hS⟩ := hR; try clear hR
    refine wp_seq ?_
    refine wp_seq ?_
    refine wp_region_lit ?_
    refine n_q H (q_move rfl) rfl ?_
    clear H a; intro a H
    refine n_q H (q_move rfl) rfl ?_
    clear H a; intro a H
    refine n_q H (q_lenSl Tryd.underlying22 rfl) rfl ?_
    clear H a; intro a H
    refine n_q H (q_lss rfl rfl) rfl ?_
    clear H a; intro a H
    refine n_nil ?_
    refine then_normal ?_
    refine c_cond H rfl (fun hc18 => ?_) (fun hc18 => ?_)
    · skip
      have hi1 : i < script.length := by simp at hc18; omega
      obtain ⟨o, hx⟩ := h.at hi1
      obtain ⟨ad0, had⟩ := h.addr hi1
      subst had
      have hok1 := hok o (List.mem_of_getElem? hx)
      rw [reread_step hx, rereadM] at hre
      refine wp_skip ?_
      refine then_normal ?_
      refine wp_seq ?_
      refine wp_block ?_
      refine wp_seq ?_
      refine wp_seq ?_
      refine wp_region_lit ?_
      refine n_q H (q_move rfl) rfl ?_
      clear H a; intro a H
      refine n_q H (q_move rfl) rfl ?_
      clear H a; intro a H
      refine n_q H (q_indexAddr Tryd.underlying22 sz29 rfl rfl (by omega) (by omega)) rfl ?_
      clear H a; intro a H
      refine n_q H (q_load rfl (LdX.ext ((h.ldAgg ag29 sz29 hx)) hS.x)) rfl ?_
      clear H a; intro a H
      refine n_call H rfl en79 (fits_w (o := o)) rfl ?_
      clear H a; intro v7 w5 hv a H
      obtain ⟨rfl, hE6⟩ := hv
      replace hS := hS.ext hE6
      refine n_q H (q_not rfl) rfl ?_
      clear H a; intro a H
      refine n_nil ?_
      refine then_normal ?_
      refine c_cond H rfl (fun hc26 => ?_) (fun hc26 => ?_)
      · skip
        have hf : ¬ fitsM o = true := by simpa using hc26
        rw [if_neg hf] at hre
        refine wp_exit ?_
        refine then_exit ?_
        refine block_exit ?_
        refine then_normal ?_
        refine wp_region_lit ?_
        refine n_q H (q_move rfl) rfl ?_
        clear H a; intro a H
        refine n_q H (q_add rfl rfl (by constructor <;> omega)) rfl ?_
        clear H a; intro a H
        refine n_q H (q_assign rfl) rfl ?_
        clear H a; intro a H
        refine n_nil ?_
        refine then_normal ?_
        replace hS := hS.pick 1 rfl
        dsimp only [List.eraseIdx] at hS
        replace hS := hS.pick 1 rfl
        dsimp only [List.eraseIdx] at hS
        exact round (i + 1, a1) H ⟨rfl, rfl, rfl, trivial⟩ ⟨by omega, ha, hre, hS⟩ (by first | omega | (dsimp only; omega))
      · skip
        have hf : fitsM o = true := by simpa using hc26
        rw [if_pos hf] at hre
        refine wp_skip ?_
        refine then_normal ?_
        refine wp_seq ?_
        refine wp_region_lit ?_
        refine n_q H (q_move rfl) rfl ?_
        clear H a; intro a H
        refine n_q H (q_move rfl) rfl ?_
        clear H a; intro a H
        refine n_q H (q_move rfl) rfl ?_
        clear H a; intro a H
        refine n_q H (q_indexAddr Tryd.underlying22 sz29 rfl rfl (by omega) (by omega)) rfl ?_
        clear H a; intro a H
        refine n_q H (q_load rfl (LdX.ext ((h.ldAgg ag29 sz29 hx)) hS.x)) rfl ?_
        clear H a; intro a H
        obtain ⟨fp33, hG33, hK33, hR33, hF33⟩ := hS.frame1
        refine n_call H rfl en80 (one_w (o := o) (bs := bs) hf hok1 (fun w' hw => hG.ext (hK33 _ hw).ext) (fun w' hw => (restOwn (hR33 0 _ rfl _ hw)).slB hn2) ha (Nat.le_refl _) (by omega) hG33) rfl ?_
        clear H a; intro v10 w8 hv a H
        obtain ⟨code, ok, a2, hone, rfl, hE9⟩ := hv
        replace hS := hF33 _ _ hE9
        simp only [List.cons_append, List.nil_append] at hS
        clear hG33 hK33 hR33 hF33
        refine n_q H (q_move rfl) rfl ?_
        clear H a; intro a H
        refine n_q H (q_extract rfl rfl) rfl ?_
        clear H a; intro a H
        refine n_q H (q_extract rfl rfl) rfl ?_
        clear H a; intro a H
        refine n_q H (q_assign rfl) rfl ?_
        clear H a; intro a H
        refine n_q H (q_assign rfl) rfl ?_
        clear H a; intro a H
        refine n_nil ?_
        refine then_normal ?_
        refine wp_seq ?_
        refine wp_region_lit ?_
        refine n_c H (fun HC => ?_); clear H
        refine nc_q HC (q_move rfl) rfl (by kernel_rfl) ?_
        clear HC a; intro a HC
        refine nc_q HC (q_neq rfl rfl) rfl (by kernel_rfl) ?_
        clear HC a; intro a HC
        refine nc_q HC (q_move rfl) rfl (by kernel_rfl) ?_
        clear HC a; intro a HC
        refine nc_g HC (q_move rfl) (by kernel_rfl) (by kernel_rfl) (by kernel_rfl) ?_
        clear HC a; intro a HC
        refine nc_g HC (q_not rfl) (by kernel_rfl) (by kernel_rfl) (by kernel_rfl) ?_
        clear HC a; intro a HC
        refine nc_or (j := 2) HC rfl rfl rfl (by kernel_rfl) (by kernel_rfl) ?_
        clear HC a; intro a HC
        have H := HC.has; clear HC
        refine n_nil ?_
        refine then_normal ?_
        refine c_cond H rfl (fun hc41 => ?_) (fun hc41 => ?_)
        · skip
          have hin := one_in (o := o) ha
          rw [← hone] at hin hre
          rw [if_pos (by simp at hc41; rcases hc41 with h | h <;> simp [h])] at hre
          refine wp_seq ?_
          refine wp_region_lit ?_
          refine n_q H (q_move rfl) rfl ?_
          clear H a; intro a H
          refine n_q H (q_move rfl) rfl ?_
          clear H a; intro a H
          refine n_q H (q_move rfl) rfl ?_
          clear H a; intro a H
          refine n_q H (q_assign rfl) rfl ?_
          clear H a; intro a H
          refine n_q H (q_assign rfl) rfl ?_
          clear H a; intro a H
          refine n_q H (q_assign rfl) rfl ?_
          clear H a; intro a H
          refine n_nil ?_
          refine then_normal ?_
          refine wp_ret ?_
          refine block_ret ?_
          refine then_ret ?_
          refine then_ret ?_
          refine block_ret ?_
          refine then_ret ?_
          replace hS := hS.pick 1 rfl
          dsimp only [List.eraseIdx] at hS
          replace hS := hS.pick 1 rfl
          dsimp only [List.eraseIdx] at hS
          refine retL H (.inr rfl) rfl (vs := _) (resTmp rfl (resTmp rfl (resTmp rfl resNil))) ?_
          first | exact ⟨_, _, _, _, _, _, hin, hn2, hre.symm, rfl, hS⟩ | exact ⟨_, _, _, _, _, _, ha, hn2, hre.symm, rfl, hS⟩
        · skip
          have hin := one_in (o := o) ha
          rw [← hone] at hin hre
          rw [if_neg (by simp at hc41; simp [hc41])] at hre
          refine wp_skip ?_
          refine block_normal ?_
          refine then_normal ?_
          refine wp_region_lit ?_
          refine n_q H (q_move rfl) rfl ?_
          clear H a; intro a H
          refine n_q H (q_add rfl rfl (by constructor <;> omega)) rfl ?_
          clear H a; intro a H
          refine n_q H (q_assign rfl) rfl ?_
          clear H a; intro a H
          refine n_nil ?_
          refine then_normal ?_
          replace hS := hS.pick 1 rfl
          dsimp only [List.eraseIdx] at hS
          replace hS := hS.pick 1 rfl
          dsimp only [List.eraseIdx] at hS
          exact round (i + 1, a2) H ⟨rfl, rfl, rfl, trivial⟩ ⟨by omega, hin, hre, hS⟩ (by first | omega | (dsimp only; omega))
    · skip
      obtain rfl : i = script.length := by simp at hc18; omega
      rw [List.drop_length, rereadM] at hre
      refine wp_exit ?_
      refine then_exit ?_
      refine then_exit ?_
      refine block_exit ?_
      refine then_normal ?_
      refine wp_seq ?_
      refine wp_region_lit ?_
      refine n_q H (q_move rfl) rfl ?_
      clear H a; intro a H
      refine n_q H (q_assign rfl) rfl ?_
      clear H a; intro a H
      refine n_q H (q_assign rfl) rfl ?_
      clear H a; intro a H
      refine n_q H (q_assign rfl) rfl ?_
      clear H a; intro a H
      refine n_nil ?_
      refine then_normal ?_
      refine wp_ret ?_
      replace hS := hS.pick 1 rfl
      dsimp only [List.eraseIdx] at hS
      replace hS := hS.pick 1 rfl
      dsimp only [List.eraseIdx] at hS
      refine retL H (.inr rfl) rfl (vs := _) (resTmp rfl (resTmp rfl (resTmp rfl resNil))) ?_
      first | exact ⟨_, _, _, _, _, _, hin, hn2, hre.symm, rfl, hS⟩ | exact ⟨_, _, _, _, _, _, ha, hn2, hre.symm, rfl, hS⟩

theorem SlR.take3 {α : Type} {w : World} {k : Nat} {R : World → List Value → α → Prop} {A : Option Addr} {n c : Nat} {xs : List α} (h : SlR w k R (.slice A n c) xs) (m : Nat) (hm : m ≤ n) : SlR w k R (.slice A m m) (xs.take m) := by
  obtain ⟨A', c', h1, h2, h3, h4, h5⟩ := h
  cases h1
  have hl : (xs.take m).length = m := by simp; omega
  refine ⟨A, m, by rw [hl], by omega, by omega, fun ha => ⟨by rw [(h4 ha).1]; simp, by have := congrArg List.length (h4 ha).1; rw [List.length_nil] at this; omega⟩, fun ad ha i x hx => ?_⟩
  rw [List.getElem?_take] at hx
  split at hx
  · exact h5 ad ha i x hx
  · cases hx
theorem endM_more (l : List UInt8) (b : UInt8) : endM l.length (l ++ [b]).length = .pl l.length 0 := by
  unfold endM; rw [if_pos (by simp)]
theorem code_rest (z : Int) : (ErrM.pl z 0).code = 2 := by simp [ErrM.code, ErrM.g?]; decide
set_option maxHeartbeats 4000000 in
theorem wireBack_w {w : World} {A : Nat → Addr} {v : Value} {script : List OpM} (hG : EV A w) (hH : HE w) (h : SlR w 7 (Flat eOp) v script) (hok : ∀ o ∈ script, o.n ≤ 9223372036854775807) (hok2 : ∀ o ∈ script, o.s.size ≤ 1048576) (hbk : bulkO script ≤ 16777216) :
    Calls Tryd.prog 6 [v].toArray w (Ret fun r w' => r = .bool true ∧ Ext w w') := by
  have hS := St.begin NB w
  have hall := allM_len script
  refine enter Tryd.func6 rfl rfl rfl ?_
  intro a H
  dsimp only [enumL, Nat.zero_add, Nat.reduceAdd] at H
  refine wp_seq ?_
  refine wp_region_lit ?_
  refine n_q H (q_assign rfl) rfl ?_
  clear H a; intro a H
  refine n_nil ?_
  refine then_normal ?_
  refine wp_seq ?_
  refine wp_seq ?_
  refine wp_region_lit ?_
  refine n_call H rfl en11 (fixed_w (hG.ext hS.x) (hH.ext hS.x)) rfl ?_
  clear H a; intro v3 w1 hv a H
  obtain ⟨rfl, hE2⟩ := hv
  replace hS := hS.ext hE2
  refine n_q H (q_not rfl) rfl ?_
  clear H a; intro a H
  refine n_nil ?_
  refine then_normal ?_
  refine c_cond H rfl (fun hc10 => ?_) (fun hc10 => ?_)
  · skip
    cases hc10
  · skip
    refine wp_skip ?_
    refine then_normal ?_
    refine wp_seq ?_
    refine wp_region_lit ?_
    refine n_q H (q_move rfl) rfl ?_
    clear H a; intro a H
    refine n_call H rfl en26 (written_w (hG.ext hS.x) (h.ext (Flat.mono _) hS.x) hok hbk) rfl ?_
    clear H a; intro v6 w4 hv a H
    obtain ⟨v13, n13, hn13, rfl, hE5⟩ := hv
    replace hS := hS.new hE5
    simp only [List.cons_append, List.nil_append] at hS
    subst hn13
    obtain ⟨A13, c13, hv13, hl13, hm13, _⟩ := (hS.own 0 rfl).form
    subst hv13
    simp only [maxLen] at hm13
    refine n_q H (q_move rfl) rfl ?_
    clear H a; intro a H
    refine n_q H (q_extract rfl rfl) rfl ?_
    clear H a; intro a H
    refine n_q H (q_extract rfl rfl) rfl ?_
    clear H a; intro a H
    refine n_q H (q_assign rfl) rfl ?_
    clear H a; intro a H
    refine n_q H (q_assign rfl) rfl ?_
    clear H a; intro a H
    refine n_nil ?_
    refine then_normal ?_
    refine wp_seq ?_
    refine wp_seq ?_
    refine wp_region_lit ?_
    refine n_q H (q_move rfl) rfl ?_
    clear H a; intro a H
    refine n_q H (q_not rfl) rfl ?_
    clear H a; intro a H
    refine n_nil ?_
    refine then_normal ?_
    refine c_cond H rfl (fun hc17 => ?_) (fun hc17 => ?_)
    · skip
      cases hc17
    · skip
      refine wp_skip ?_
      refine then_normal ?_
      refine wp_seq ?_
      refine wp_region_lit ?_
      refine n_q H (q_move rfl) rfl ?_
      clear H a; intro a H
      refine n_q H (q_move rfl) rfl ?_
      clear H a; intro a H
      refine n_call H rfl en27 (reread_w (bs := (allM script)) (hG.ext hS.x) (fun w' e => ((hS.own 0 rfl).ext e).slB rfl) (h.ext (Flat.mono _) hS.x) hok2 (by (try simp); omega)) rfl ?_
      clear H a; intro v9 w7 hv a H
      obtain ⟨q1, v1, n1, code1, ok1, a1, ha1, hn1, hr1, rfl, hE8⟩ := hv
      replace hS := hS.new hE8
      simp only [List.cons_append, List.nil_append] at hS
      rw [reread_full (t := []) (Nat.zero_le _) (by simp)] at hr1
      simp only [Prod.mk.injEq, Nat.zero_add] at hr1
      obtain ⟨rfl, rfl, rfl⟩ := hr1
      refine n_q H (q_move rfl) rfl ?_
      clear H a; intro a H
      refine n_q H (q_extract rfl rfl) rfl ?_
      clear H a; intro a H
      refine n_q H (q_extract rfl rfl) rfl ?_
      clear H a; intro a H
      refine n_q H (q_extract rfl rfl) rfl ?_
      clear H a; intro a H
      refine n_q H (q_assign rfl) rfl ?_
      clear H a; intro a H
      refine n_q H (q_assign rfl) rfl ?_
      clear H a; intro a H
      refine n_q H (q_assign rfl) rfl ?_
      clear H a; intro a H
      refine n_nil ?_
      refine then_normal ?_
      refine wp_seq ?_
      refine wp_seq ?_
      refine wp_region_lit ?_
      refine n_c H (fun HC => ?_); clear H
      refine nc_q HC (q_move rfl) rfl (by kernel_rfl) ?_
      clear HC a; intro a HC
      refine nc_q HC (q_nilP Tryd.underlying39 rfl rfl) rfl (by kernel_rfl) ?_
      clear HC a; intro a HC
      refine nc_q HC (q_move rfl) rfl (by kernel_rfl) ?_
      clear HC a; intro a HC
      refine nc_yes HC rfl rfl ?_
      refine nc_q HC (q_move rfl) rfl (by kernel_rfl) ?_
      clear HC a; intro a HC
      refine nc_yes HC rfl rfl ?_
      refine nc_q HC (q_neq rfl rfl) rfl (by kernel_rfl) ?_
      clear HC a; intro a HC
      refine nc_or (j := 2) HC rfl rfl rfl (by kernel_rfl) (by kernel_rfl) ?_
      clear HC a; intro a HC
      refine nc_q HC (q_move rfl) rfl (by kernel_rfl) ?_
      clear HC a; intro a HC
      refine nc_yes HC rfl rfl ?_
      refine nc_q HC (q_move rfl) rfl (by kernel_rfl) ?_
      clear HC a; intro a HC
      refine nc_yes HC rfl rfl ?_
      refine nc_q HC (q_not rfl) rfl (by kernel_rfl) ?_
      clear HC a; intro a HC
      refine nc_or (j := 6) HC rfl rfl rfl (by kernel_rfl) (by kernel_rfl) ?_
      clear HC a; intro a HC
      refine nc_q HC (q_move rfl) rfl (by kernel_rfl) ?_
      clear HC a; intro a HC
      refine nc_yes HC rfl rfl ?_
      refine nc_q HC (q_move rfl) rfl (by kernel_rfl) ?_
      clear HC a; intro a HC
      refine nc_yes HC rfl rfl ?_
      obtain ⟨fp37, hG37, hK37, hR37, hF37⟩ := hS.frame1
      refine nc_call HC rfl en24 (cEnd_w (bs := (allM script)) (fun w' hw => hG.ext (hK37 _ hw).ext) (fun w' hw => (restOwn (hR37 0 _ rfl _ hw)).slB hn1) (by simp) (Nat.le_refl _) (by (try simp); omega) hG37) rfl (by kernel_rfl) ?_
      clear HC a; intro u37 w10 hv a HC
      obtain ⟨_, rfl, hE11⟩ := hv
      replace hS := hF37 _ _ hE11
      simp only [List.cons_append, List.nil_append] at hS
      clear hG37 hK37 hR37 hF37
      rw [endM_self] at hS
      have hu37 : u37 = .nilIface := (hS.any 1 rfl)
      subst hu37
      refine nc_yes HC rfl rfl ?_
      refine nc_q HC (q_nnilI Tryd.underlying43 rfl rfl (.inl rfl)) rfl (by kernel_rfl) ?_
      clear HC a; intro a HC
      refine nc_or (j := 10) HC rfl rfl rfl (by kernel_rfl) (by kernel_rfl) ?_
      clear HC a; intro a HC
      refine nc_q HC (q_move rfl) rfl (by kernel_rfl) ?_
      clear HC a; intro a HC
      refine nc_yes HC rfl rfl ?_
      refine nc_q HC (q_move rfl) rfl (by kernel_rfl) ?_
      clear HC a; intro a HC
      refine nc_yes HC rfl rfl ?_
      refine nc_call HC rfl en18 (cLeft_w (Nat.le_refl _) (by omega) (hS.blk 0 rfl)) rfl (by kernel_rfl) ?_
      clear HC a; intro v14 w12 hv a HC
      obtain ⟨rfl, hE13⟩ := hv
      replace hS := hS.ext hE13
      refine nc_yes HC rfl rfl ?_
      refine nc_q HC (q_cast (q_neq rfl rfl) (show _ = Value.bool false by simp)) rfl (by kernel_rfl) ?_
      clear HC a; intro a HC
      refine nc_or (j := 15) HC rfl rfl rfl (by kernel_rfl) (by kernel_rfl) ?_
      clear HC a; intro a HC
      refine nc_q HC (q_move rfl) rfl (by kernel_rfl) ?_
      clear HC a; intro a HC
      refine nc_yes HC rfl rfl ?_
      refine nc_q HC (q_move rfl) rfl (by kernel_rfl) ?_
      clear HC a; intro a HC
      refine nc_yes HC rfl rfl ?_
      refine nc_call HC rfl en17 (cAt_w (hS.blk 0 rfl)) rfl (by kernel_rfl) ?_
      clear HC a; intro v17 w15 hv a HC
      obtain ⟨rfl, hE16⟩ := hv
      replace hS := hS.ext hE16
      refine nc_yes HC rfl rfl ?_
      refine nc_q HC (q_move rfl) rfl (by kernel_rfl) ?_
      clear HC a; intro a HC
      refine nc_yes HC rfl rfl ?_
      refine nc_q HC (q_lenSl Tryd.underlying48 rfl) rfl (by kernel_rfl) ?_
      clear HC a; intro a HC
      refine nc_yes HC rfl rfl ?_
      refine nc_q HC (q_cast (q_neq rfl rfl) (show _ = Value.bool false by simp)) rfl (by kernel_rfl) ?_
      clear HC a; intro a HC
      refine nc_or (j := 20) HC rfl rfl rfl (by kernel_rfl) (by kernel_rfl) ?_
      clear HC a; intro a HC
      have H := HC.has; clear HC
      refine n_nil ?_
      refine then_normal ?_
      refine c_cond H rfl (fun hc51 => ?_) (fun hc51 => ?_)
      · skip
        simp [isNilI] at hc51
      · skip
        refine wp_skip ?_
        refine then_normal ?_
        refine wp_seq ?_
        refine wp_region_lit ?_
        refine n_buildSlice H Tryd.underlying48 sz5 ze5 rfl rfl rfl (cs := []) (by kernel_rfl) rfl ?_
        clear H; intro b53 w18 hN hE19 hs_b53; clear a; intro a H
        replace hS := hS.newBlk hN hE19 hs_b53; clear hN hE19
        replace hS := hS.blkOwn 0 1 (by simp) (by simp [maxLen])
        refine n_q H (q_move rfl) rfl ?_
        clear H a; intro a H
        refine n_append H rfl rfl Tryd.underlying48 Tryd.underlying48 (by simp) el5 (hS.own 0 rfl) (show Src _ 1 _ (allM script).length ((allM script).flatMap eB) from (hS.own 4 rfl).src) (flat_one eB_one _) (by omega) (by simp only [maxLen]; omega) rfl ?_
        clear H; intro v55 w20 hN hC21 hb55 hnil55; clear a; intro a H
        replace hS := hS.setOwn hN hC21 hb55; clear hN
        simp only [Nat.zero_add, List.nil_append] at hS
        refine n_buildSlice H Tryd.underlying48 sz5 ze5 rfl rfl rfl (cs := [.int .u8 7]) (by kernel_rfl) rfl ?_
        clear H; intro b56 w22 hN hE23 hs_b56; clear a; intro a H
        replace hS := hS.newBlk hN hE23 hs_b56; clear hN hE23
        replace hS := hS.pick 1 rfl
        dsimp only [List.eraseIdx] at hS
        refine n_append H rfl rfl Tryd.underlying48 Tryd.underlying48 (by simp) el5 (hS.own 0 rfl) (show Src _ 1 _ 1 (([7] : List UInt8).flatMap eB) from (Own.ofBlk (n := 1) (k := 1) (hS.blk 1 rfl) rfl (by simp [maxLen])).src) (flat_one eB_one _) (by omega) (by simp only [maxLen]; omega) rfl ?_
        clear H; intro v57 w24 hN hC25 hb57 hnil57; clear a; intro a H
        replace hS := hS.setOwn hN hC25 hb57; clear hN
        rw [← List.flatMap_append] at hS
        refine n_q H (q_move rfl) rfl ?_
        clear H a; intro a H
        refine n_call H rfl en27 (reread_w (bs := (allM script ++ [7])) (hG.ext hS.x) (fun w' e => ((hS.own 0 rfl).ext e).slB (by simp)) (h.ext (Flat.mono _) hS.x) hok2 (by (try simp); omega)) rfl ?_
        clear H a; intro v28 w26 hv a H
        obtain ⟨q2, v2, n2, code2, ok2, a2, ha2, hn2, hr2, rfl, hE27⟩ := hv
        replace hS := hS.new hE27
        simp only [List.cons_append, List.nil_append] at hS
        rw [reread_full (t := [7]) (Nat.zero_le _) (by simp)] at hr2
        simp only [Prod.mk.injEq, Nat.zero_add] at hr2
        obtain ⟨rfl, rfl, rfl⟩ := hr2
        refine n_q H (q_move rfl) rfl ?_
        clear H a; intro a H
        refine n_q H (q_extract rfl rfl) rfl ?_
        clear H a; intro a H
        refine n_q H (q_extract rfl rfl) rfl ?_
        clear H a; intro a H
        refine n_q H (q_extract rfl rfl) rfl ?_
        clear H a; intro a H
        refine n_q H (q_assign rfl) rfl ?_
        clear H a; intro a H
        refine n_q H (q_assign rfl) rfl ?_
        clear H a; intro a H
        refine n_q H (q_assign rfl) rfl ?_
        clear H a; intro a H
        refine n_nil ?_
        refine then_normal ?_
        refine wp_seq ?_
        refine wp_seq ?_
        refine wp_region_lit ?_
        refine n_c H (fun HC => ?_); clear H
        refine nc_q HC (q_move rfl) rfl (by kernel_rfl) ?_
        clear HC a; intro a HC
        refine nc_q HC (q_nilP Tryd.underlying39 rfl rfl) rfl (by kernel_rfl) ?_
        clear HC a; intro a HC
        refine nc_q HC (q_move rfl) rfl (by kernel_rfl) ?_
        clear HC a; intro a HC
        refine nc_yes HC rfl rfl ?_
        refine nc_q HC (q_move rfl) rfl (by kernel_rfl) ?_
        clear HC a; intro a HC
        refine nc_yes HC rfl rfl ?_
        refine nc_q HC (q_neq rfl rfl) rfl (by kernel_rfl) ?_
        clear HC a; intro a HC
        refine nc_or (j := 2) HC rfl rfl rfl (by kernel_rfl) (by kernel_rfl) ?_
        clear HC a; intro a HC
        refine nc_q HC (q_move rfl) rfl (by kernel_rfl) ?_
        clear HC a; intro a HC
        refine nc_yes HC rfl rfl ?_
        refine nc_q HC (q_move rfl) rfl (by kernel_rfl) ?_
        clear HC a; intro a HC
        refine nc_yes HC rfl rfl ?_
        refine nc_q HC (q_not rfl) rfl (by kernel_rfl) ?_
        clear HC a; intro a HC
        refine nc_or (j := 6) HC rfl rfl rfl (by kernel_rfl) (by kernel_rfl) ?_
        clear HC a; intro a HC
        refine nc_q HC (q_move rfl) rfl (by kernel_rfl) ?_
        clear HC a; intro a HC
        refine nc_yes HC rfl rfl ?_
        refine nc_q HC (q_move rfl) rfl (by kernel_rfl) ?_
        clear HC a; intro a HC
        refine nc_yes HC rfl rfl ?_
        obtain ⟨fp75, hG75, hK75, hR75, hF75⟩ := hS.frame1
        refine nc_call HC rfl en24 (cEnd_w (bs := (allM script ++ [7])) (fun w' hw => hG.ext (hK75 _ hw).ext) (fun w' hw => (restOwn (hR75 0 _ rfl _ hw)).slB hn2) (by simp) (Nat.le_refl _) (by (try simp); omega) hG75) rfl (by kernel_rfl) ?_
        clear HC a; intro u75 w29 hv a HC
        obtain ⟨_, rfl, hE30⟩ := hv
        replace hS := hF75 _ _ hE30
        simp only [List.cons_append, List.nil_append] at hS
        clear hG75 hK75 hR75 hF75
        rw [endM_more] at hS
        refine nc_yes HC rfl rfl ?_
        refine nc_call HC rfl en28 (code_w (hG.ext hS.x) (hS.any 1 rfl)) rfl (by kernel_rfl) ?_
        clear HC a; intro v33 w31 hv a HC
        obtain ⟨rfl, hE32⟩ := hv
        replace hS := hS.ext hE32
        refine nc_yes HC rfl rfl ?_
        refine nc_q HC (q_cast (q_neq rfl rfl) (show _ = Value.bool false by rw [code_rest]; rfl)) rfl (by kernel_rfl) ?_
        clear HC a; intro a HC
        refine nc_or (j := 10) HC rfl rfl rfl (by kernel_rfl) (by kernel_rfl) ?_
        clear HC a; intro a HC
        refine nc_q HC (q_move rfl) rfl (by kernel_rfl) ?_
        clear HC a; intro a HC
        refine nc_yes HC rfl rfl ?_
        refine nc_q HC (q_move rfl) rfl (by kernel_rfl) ?_
        clear HC a; intro a HC
        refine nc_yes HC rfl rfl ?_
        obtain ⟨fp81, hG81, hK81, hR81, hF81⟩ := hS.frame1
        refine nc_call HC rfl en24 (cEnd_w (bs := (allM script ++ [7])) (fun w' hw => hG.ext (hK81 _ hw).ext) (fun w' hw => (restOwn (hR81 1 _ rfl _ hw)).slB hn2) (by simp) (Nat.le_refl _) (by (try simp); omega) hG81) rfl (by kernel_rfl) ?_
        clear HC a; intro u81 w34 hv a HC
        obtain ⟨_, rfl, hE35⟩ := hv
        replace hS := hF81 _ _ hE35
        simp only [List.cons_append, List.nil_append] at hS
        clear hG81 hK81 hR81 hF81
        rw [endM_more] at hS
        refine nc_yes HC rfl rfl ?_
        refine nc_call HC rfl en20 (place_w (hH.ext hS.x) (hS.any 1 rfl)) rfl (by kernel_rfl) ?_
        clear HC a; intro v38 w36 hv a HC
        obtain ⟨rfl, hE37⟩ := hv
        replace hS := hS.ext hE37
        refine nc_yes HC rfl rfl ?_
        refine nc_q HC (q_move rfl) rfl (by kernel_rfl) ?_
        clear HC a; intro a HC
        refine nc_yes HC rfl rfl ?_
        refine nc_q HC (q_lenSl Tryd.underlying48 rfl) rfl (by kernel_rfl) ?_
        clear HC a; intro a HC
        refine nc_yes HC rfl rfl ?_
        refine nc_q HC (q_cast (q_neq rfl rfl) (show _ = Value.bool false by simp [ErrM.place])) rfl (by kernel_rfl) ?_
        clear HC a; intro a HC
        refine nc_or (j := 16) HC rfl rfl rfl (by kernel_rfl) (by kernel_rfl) ?_
        clear HC a; intro a HC
        have H := HC.has; clear HC
        refine n_nil ?_
        refine then_normal ?_
        refine c_cond H rfl (fun hc86 => ?_) (fun hc86 => ?_)
        · skip
          simp at hc86
        · skip
          refine wp_skip ?_
          refine then_normal ?_
          refine wp_seq ?_
          refine wp_seq ?_
          refine wp_region_lit ?_
          refine n_q H (q_move rfl) rfl ?_
          clear H a; intro a H
          refine n_q H (q_lenSl Tryd.underlying48 rfl) rfl ?_
          clear H a; intro a H
          refine n_q H (q_eql rfl rfl) rfl ?_
          clear H a; intro a H
          refine n_nil ?_
          refine then_normal ?_
          refine c_cond H rfl (fun hc89 => ?_) (fun hc89 => ?_)
          · skip
            refine wp_seq ?_
            refine wp_region_lit ?_
            refine n_q H (q_assign rfl) rfl ?_
            clear H a; intro a H
            refine n_nil ?_
            refine then_normal ?_
            refine wp_ret ?_
            refine then_ret ?_
            refine ret1 H (.inr rfl) rfl rfl ?_
            exact ⟨rfl, hS.x⟩
          · skip
            have hpos : 0 < (allM script).length := by
              rcases Nat.eq_zero_or_pos (allM script).length with h0 | h0
              · rw [h0] at hc89; simp at hc89
              · exact h0
            refine wp_skip ?_
            refine then_normal ?_
            refine wp_seq ?_
            refine wp_region_lit ?_
            refine n_q H (q_move rfl) rfl ?_
            clear H a; intro a H
            refine n_q H (q_move rfl) rfl ?_
            clear H a; intro a H
            refine n_q H (q_lenSl Tryd.underlying48 rfl) rfl ?_
            clear H a; intro a H
            refine n_q H (q_sub rfl rfl (by constructor <;> omega)) rfl ?_
            clear H a; intro a H
            refine n_q H (q_move rfl) rfl ?_
            clear H a; intro a H
            refine n_q H (q_lenSl Tryd.underlying48 rfl) rfl ?_
            clear H a; intro a H
            refine n_q H (q_sub rfl rfl (by constructor <;> omega)) rfl ?_
            clear H a; intro a H
            refine n_q H (q_cast (q_slice3 Tryd.underlying48 sz5 rfl rfl rfl (by omega) (by omega) (by omega)) (show _ = Value.slice A13 ((allM script).length - 1) ((allM script).length - 1) by rw [show (((allM script).length : Int) - 1).toNat = (allM script).length - 1 by omega])) rfl ?_
            clear H a; intro a H
            refine n_q H (q_move rfl) rfl ?_
            clear H a; intro a H
            refine n_call H rfl en27 (reread_w (bs := ((allM script).take ((allM script).length - 1))) (hG.ext hS.x) (fun w' e => (((hS.own 9 rfl).ext e).slB rfl).take3 _ (by omega)) (h.ext (Flat.mono _) hS.x) hok2 (by (try simp); omega)) rfl ?_
            clear H a; intro v41 w39 hv a H
            obtain ⟨q3, v3, n3, code3, ok3, a3, ha3, hn3, hr3, rfl, hE40⟩ := hv
            replace hS := hS.new hE40
            simp only [List.cons_append, List.nil_append] at hS
            have hc3 := reread_cut (bs := (allM script).take ((allM script).length - 1)) (l := script) (a := 0) (m := (allM script).length - 1) (by simp) (by omega) (Nat.zero_le _)
            rw [← hr3] at hc3
            dsimp only at hc3
            refine n_q H (q_move rfl) rfl ?_
            clear H a; intro a H
            refine n_q H (q_extract rfl rfl) rfl ?_
            clear H a; intro a H
            refine n_q H (q_extract rfl rfl) rfl ?_
            clear H a; intro a H
            refine n_q H (q_extract rfl rfl) rfl ?_
            clear H a; intro a H
            refine n_q H (q_assign rfl) rfl ?_
            clear H a; intro a H
            refine n_nil ?_
            refine then_normal ?_
            refine wp_seq ?_
            refine wp_region_lit ?_
            refine n_c H (fun HC => ?_); clear H
            refine nc_q HC (q_move rfl) rfl (by kernel_rfl) ?_
            clear HC a; intro a HC
            refine nc_q HC (q_eql rfl rfl) rfl (by kernel_rfl) ?_
            clear HC a; intro a HC
            refine nc_q HC (q_move rfl) rfl (by kernel_rfl) ?_
            clear HC a; intro a HC
            refine nc_g HC (q_move rfl) (by kernel_rfl) (by kernel_rfl) (by kernel_rfl) ?_
            clear HC a; intro a HC
            refine nc_g HC (q_eql rfl rfl) (by kernel_rfl) (by kernel_rfl) (by kernel_rfl) ?_
            clear HC a; intro a HC
            refine nc_or (j := 2) HC rfl rfl rfl (by kernel_rfl) (by kernel_rfl) ?_
            clear HC a; intro a HC
            refine nc_q HC (q_assign rfl) rfl (by kernel_rfl) ?_
            clear HC a; intro a HC
            have H := HC.has; clear HC
            refine n_nil ?_
            refine then_normal ?_
            refine wp_ret ?_
            refine ret1 H (.inr rfl) rfl rfl ?_
            exact ⟨congrArg Value.bool (by rcases hc3 with e | e <;> simp [e]), hS.x⟩

end Go.Proofs.YtdglaodhmlocdaaDoor
