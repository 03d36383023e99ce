/- ferrylaw11.ValidEquals, step by step (written by wip/tools) -/
import Derived.Test.YtfoijpfmjmjjpaaLaws11
set_option linter.unusedVariables false
set_option linter.unusedSimpArgs false
set_option maxRecDepth 10000
namespace Go.Proofs.Ytfoijpfmjmjjpaa
open Go Go.RowKit


theorem sameM_eq (s t : StateM') : sameM s t = decide (s = t) := by
  cases s; cases t
  simp only [sameM, alikeM, StateM'.mk.injEq]
  rw [Bool.eq_iff_iff]
  simp only [Bool.and_eq_true, beq_iff_eq, decide_eq_true_eq]
  constructor
  · rintro ⟨⟨⟨⟨⟨⟨⟨⟨⟨a, b⟩, c⟩, d⟩, e⟩, f⟩, g⟩, h⟩, i⟩, j⟩
    exact ⟨a, b, i, c, d, e, f, g, h, j⟩
  · rintro ⟨a, b, i, c, d, e, f, g, h, j⟩
    exact ⟨⟨⟨⟨⟨⟨⟨⟨⟨a, b⟩, c⟩, d⟩, e⟩, f⟩, g⟩, h⟩, i⟩, j⟩
def bare (p : PageM) : PageM := ⟨p.rights, false, p.data⟩
theorem samePages_eq : ∀ xs ys : List PageM, samePages xs ys = decide (xs.map bare = ys.map bare)
  | [], [] => by simp [samePages]
  | [], y :: ys => by simp [samePages]
  | x :: xs, [] => by simp [samePages]
  | x :: xs, y :: ys => by
    simp only [samePages, samePages_eq xs ys, List.map_cons, List.cons.injEq]
    rw [Bool.eq_iff_iff]
    simp [bare]
def akey (s : StateM') : StateM' := { s with epoch := 0, pages := s.pages.map bare }
theorem alikesM_eq (s t : StateM') : alikesM s t = decide (akey s = akey t) := by
  cases s; cases t
  simp only [alikesM, alikeM, akey, StateM'.mk.injEq, samePages_eq]
  rw [Bool.eq_iff_iff]
  simp only [Bool.and_eq_true, beq_iff_eq, decide_eq_true_eq]
  constructor
  · rintro ⟨⟨⟨⟨⟨⟨⟨⟨a, b⟩, c⟩, d⟩, e⟩, f⟩, g⟩, h⟩, j⟩
    exact ⟨a, b, trivial, c, d, e, f, g, h, j⟩
  · rintro ⟨a, b, _, c, d, e, f, g, h, j⟩
    exact ⟨⟨⟨⟨⟨⟨⟨⟨a, b⟩, c⟩, d⟩, e⟩, f⟩, g⟩, h⟩, j⟩
theorem alikesM_refl (s : StateM') : alikesM s s = true := by rw [alikesM_eq]; simp
theorem sameM_symm (s t : StateM') : sameM s t = sameM t s := by rw [sameM_eq, sameM_eq, Bool.eq_iff_iff]; simp [eq_comm]
theorem alikesM_symm (s t : StateM') : alikesM s t = alikesM t s := by rw [alikesM_eq, alikesM_eq, Bool.eq_iff_iff]; simp [eq_comm]
theorem same_of {s t : StateM'} (h : sameM s t = true) : s = t := by rw [sameM_eq] at h; simpa using h
theorem alikes_of {s t : StateM'} (h : alikesM s t = true) (r : StateM') : alikesM s r = alikesM t r := by
  rw [alikesM_eq] at h
  have h' : akey s = akey t := by simpa using h
  rw [alikesM_eq, alikesM_eq, h']
theorem wrap_ne (z : Int) : IntKind.i64.wrap (z + 1) ≠ z := by
  intro h
  have h1 : (IntKind.i64.wrap (z + 1)) % 18446744073709551616 = (z + 1) % 18446744073709551616 := by unfold IntKind.wrap; simp [IntKind.bits, IntKind.signed]; omega
  omega
theorem eq_ne1 (s : StateM') (z : Int) (h : z ≠ s.epoch) : sameM s { s with epoch := z } = false := by
  rw [sameM_eq, decide_eq_false]
  intro e
  exact h (congrArg StateM'.epoch e).symm
theorem eq_al1 (s : StateM') (z : Int) : alikesM s { s with epoch := z } = true := by rw [alikesM_eq]; simp [akey]
theorem eq_ne2 (s : StateM') (z y : Int) (h : y ≠ s.frame) : alikesM s { s with epoch := z, frame := y } = false := by
  rw [alikesM_eq, decide_eq_false]
  intro e
  exact h (congrArg StateM'.frame e).symm
theorem eq_ne3 (s : StateM') (z y : Int) (h : y ≠ s.frame) : sameM s { s with epoch := z, frame := y } = false := by
  rw [sameM_eq, decide_eq_false]
  intro e
  exact h (congrArg StateM'.frame e).symm
theorem validEquals_w {w : World} {v1 v2 v3 : Value} {s t r : StateM'} (h1 : IsState w v1 s) (h2 : IsState w v2 t) (h3 : IsState w v3 r) :
    Calls Try.prog 4 [v1, v2, v3].toArray w (Ret fun u w' => u = .bool true ∧ Ext w w') := by
  have g1 := h1
  have g2 := h2
  have g3 := h3
  obtain ⟨x3, x4, x5, x6, x7, x8, x9, rfl, l3, l4, l5, l6, l7, l8, l9⟩ := h3
  obtain ⟨v3, v4, v5, v6, v7, v8, v9, rfl, h3, h4, h5, h6, h7, h8, h9⟩ := h1
  obtain ⟨u3, u4, u5, u6, u7, u8, u9, rfl, k3, k4, k5, k6, k7, k8, k9⟩ := h2
  refine enter Try.func4 rfl rfl rfl ?_
  intro a H
  dsimp only [enumL, Nat.zero_add, Nat.reduceAdd] at H
  refine wp_seq ?_
  refine wp_region_lit ?_
  refine n_box H rfl (cs := _) rfl rfl ?_
  clear H; intro b3 w1 hB3 hE2 hs_b3; clear a; intro a H
  have hw_b3 : w.heap.size ≤ b3 := by omega
  have hX := hE2
  refine n_box H rfl (cs := _) rfl rfl ?_
  clear H; intro b4 w3 hB4 hE4 hs_b4; clear a; intro a H
  have hn_b3_b4 : b3 ≠ b4 := by have := hB3.lt; omega
  have hn_b4_b3 := hn_b3_b4.symm
  have hlt_b3_b4 : b3 < b4 := by have := hB3.lt; omega
  have hw_b4 : w.heap.size ≤ b4 := by have := hX.size; omega
  replace hB3 := hB3.ext hE4
  replace hX := Ext.trans' hX hE4
  refine n_box H rfl (cs := _) rfl rfl ?_
  clear H; intro b5 w5 hB5 hE6 hs_b5; clear a; intro a H
  have hn_b3_b5 : b3 ≠ b5 := by have := hB3.lt; omega
  have hn_b5_b3 := hn_b3_b5.symm
  have hlt_b3_b5 : b3 < b5 := by have := hB3.lt; omega
  have hn_b4_b5 : b4 ≠ b5 := by have := hB4.lt; omega
  have hn_b5_b4 := hn_b4_b5.symm
  have hlt_b4_b5 : b4 < b5 := by have := hB4.lt; omega
  have hw_b5 : w.heap.size ≤ b5 := by have := hX.size; omega
  replace hB3 := hB3.ext hE6
  replace hB4 := hB4.ext hE6
  replace hX := Ext.trans' hX hE6
  refine n_q H (q_assign rfl) rfl ?_
  clear H a; intro a H
  refine n_nil ?_
  refine then_normal ?_
  refine wp_seq ?_
  refine wp_region_lit ?_
  refine n_call H rfl en5 (some_w) rfl ?_
  clear H a; intro v9 w7 hv a H
  obtain ⟨pcs, sv, rfl, ⟨hpl, hpo⟩, hS, hE8⟩ := hv
  replace hB3 := hB3.ext hE8
  replace hB4 := hB4.ext hE8
  replace hB5 := hB5.ext hE8
  replace hX := Ext.trans' hX hE8
  have hSI := hS.is
  obtain ⟨s3, s4, s5, s6, s7, s8, s9, fps, rfl, hfs, hOs9, hns, hls, hbs⟩ := hS
  have hRS := Ext.rfl' (w := w7)
  refine n_q H (q_move rfl) rfl ?_
  clear H a; intro a H
  refine n_q H (q_extract rfl rfl) rfl ?_
  clear H a; intro a H
  refine n_q H (q_extract rfl rfl) rfl ?_
  clear H a; intro a H
  refine n_alloc H ze34 rfl ?_
  clear H; intro b7 w10 hB7 hE11 hs_b7; clear a; intro a H
  have hn_b3_b7 : b3 ≠ b7 := by have := hB3.lt; omega
  have hn_b7_b3 := hn_b3_b7.symm
  have hlt_b3_b7 : b3 < b7 := by have := hB3.lt; omega
  have hn_b4_b7 : b4 ≠ b7 := by have := hB4.lt; omega
  have hn_b7_b4 := hn_b4_b7.symm
  have hlt_b4_b7 : b4 < b7 := by have := hB4.lt; omega
  have hn_b5_b7 : b5 ≠ b7 := by have := hB5.lt; omega
  have hn_b7_b5 := hn_b5_b7.symm
  have hlt_b5_b7 : b5 < b7 := by have := hB5.lt; omega
  have hw_b7 : w.heap.size ≤ b7 := by have := hX.size; omega
  have hq_hRS_b7 : w7.heap.size ≤ b7 := by have := hRS.size; omega
  replace hB3 := hB3.ext hE11
  replace hB4 := hB4.ext hE11
  replace hB5 := hB5.ext hE11
  replace hX := Ext.trans' hX hE11
  replace hRS := Ext.trans' hRS hE11
  refine n_alloc H ze29 rfl ?_
  clear H; intro b8 w12 hB8 hE13 hs_b8; clear a; intro a H
  have hn_b3_b8 : b3 ≠ b8 := by have := hB3.lt; omega
  have hn_b8_b3 := hn_b3_b8.symm
  have hlt_b3_b8 : b3 < b8 := by have := hB3.lt; omega
  have hn_b4_b8 : b4 ≠ b8 := by have := hB4.lt; omega
  have hn_b8_b4 := hn_b4_b8.symm
  have hlt_b4_b8 : b4 < b8 := by have := hB4.lt; omega
  have hn_b5_b8 : b5 ≠ b8 := by have := hB5.lt; omega
  have hn_b8_b5 := hn_b5_b8.symm
  have hlt_b5_b8 : b5 < b8 := by have := hB5.lt; omega
  have hn_b7_b8 : b7 ≠ b8 := by have := hB7.lt; omega
  have hn_b8_b7 := hn_b7_b8.symm
  have hlt_b7_b8 : b7 < b8 := by have := hB7.lt; omega
  have hw_b8 : w.heap.size ≤ b8 := by have := hX.size; omega
  have hq_hRS_b8 : w7.heap.size ≤ b8 := by have := hRS.size; omega
  replace hB3 := hB3.ext hE13
  replace hB4 := hB4.ext hE13
  replace hB5 := hB5.ext hE13
  replace hB7 := hB7.ext hE13
  replace hX := Ext.trans' hX hE13
  replace hRS := Ext.trans' hRS hE13
  refine n_storeAll H rfl rfl (vs := pcs) rfl (by rw [hpl]; exact sz34) hB7 (by rw [hpl]; rfl) hpo ?_
  clear H; intro w14 hB7N hC15 hz; clear a; intro a H
  replace hB7 := hB7N; clear hB7N
  clear hz
  replace hB3 := hC15.blk hB3 (by simp [blks] <;> omega)
  replace hB4 := hC15.blk hB4 (by simp [blks] <;> omega)
  replace hB5 := hC15.blk hB5 (by simp [blks] <;> omega)
  replace hB8 := hC15.blk hB8 (by simp [blks] <;> omega)
  replace hRS := Chg.below hRS hC15 (Nat.le_refl _) (by simp [blks] <;> omega)
  replace hX := Chg.below hX hC15 (Nat.le_refl _) (by simp [blks] <;> omega)
  refine n_storeAll H rfl rfl rfl sz29 hB8 rfl (by simp [hfs.now.1.r.one, hfs.now.2.1.r.one, hfs.now.2.2.1.r.one, hfs.now.2.2.2.1.r.one, hfs.now.2.2.2.2.1.r.one, hfs.now.2.2.2.2.2.r.one, hOs9.one]) ?_
  clear H; intro w16 hB8N hC17 hz; clear a; intro a H
  replace hB8 := hB8N; clear hB8N
  clear hz
  replace hB3 := hC17.blk hB3 (by simp [blks] <;> omega)
  replace hB4 := hC17.blk hB4 (by simp [blks] <;> omega)
  replace hB5 := hC17.blk hB5 (by simp [blks] <;> omega)
  replace hB7 := hC17.blk hB7 (by simp [blks] <;> omega)
  replace hRS := Chg.below hRS hC17 (Nat.le_refl _) (by simp [blks] <;> omega)
  replace hX := Chg.below hX hC17 (Nat.le_refl _) (by simp [blks] <;> omega)
  refine n_nil ?_
  refine then_normal ?_
  refine wp_seq ?_
  refine wp_seq ?_
  refine wp_region_lit ?_
  refine n_q H (q_load rfl (hB8.ldAll ag29 sz29)) rfl ?_
  clear H a; intro a H
  refine n_q H (q_load rfl (hB8.ldAll ag29 sz29)) rfl ?_
  clear H a; intro a H
  refine n_call H rfl en7 (Same_w (hSI.ext hRS) (hSI.ext hRS)) rfl ?_
  clear H a; intro v20 w18 hv a H
  obtain ⟨rfl, hE19⟩ := hv
  replace hB3 := hB3.ext hE19
  replace hB4 := hB4.ext hE19
  replace hB5 := hB5.ext hE19
  replace hB7 := hB7.ext hE19
  replace hB8 := hB8.ext hE19
  replace hX := Ext.trans' hX hE19
  replace hRS := Ext.trans' hRS hE19
  refine n_q H (q_not rfl) rfl ?_
  clear H a; intro a H
  refine n_nil ?_
  refine then_normal ?_
  refine c_cond H rfl (fun hc17 => ?_) (fun hc17 => ?_)
  · skip
    exfalso; simp [some_same] at hc17
  · (try simp only [decide_eq_true_eq, decide_eq_false_iff_not, Bool.and_eq_true, Bool.or_eq_true, Bool.and_eq_false_iff, Bool.or_eq_false_iff, beq_iff_eq, bne_iff_ne, beq_eq_false_iff_ne, bne_eq_false_iff_eq, ne_eq, Bool.not_eq_true', Bool.not_eq_false', Int.not_lt, Int.not_le, Bool.not_eq_true, Bool.not_eq_false] at hc17)
    refine wp_skip ?_
    refine then_normal ?_
    refine wp_seq ?_
    refine wp_seq ?_
    refine c_quiet (by kernel_rfl) (by kernel_rfl) ?_
    refine qq_c H (fun HC => ?_); clear H
    refine qc_q HC (q_load rfl (hB3.ldAll ag29 sz29)) rfl (by kernel_rfl) ?_
    clear HC a; intro a HC
    refine qc_q HC (q_load rfl (hB3.ldAll ag29 sz29)) rfl (by kernel_rfl) ?_
    clear HC a; intro a HC
    refine qc_call HC rfl en7 ((fun w' hw => Same_w (g1.ext (Ext.trans' hX hw)) (g1.ext (Ext.trans' hX hw)))) rfl (by kernel_rfl) ?_
    clear HC a; intro a HC
    refine qc_q HC (q_not rfl) rfl (by kernel_rfl) ?_
    clear HC a; intro a HC
    refine qc_q HC (q_move rfl) rfl (by kernel_rfl) ?_
    clear HC a; intro a HC
    refine qc_g HC (q_load rfl (hB3.ldAll ag29 sz29)) (by kernel_rfl) (by kernel_rfl) (by kernel_rfl) ?_
    clear HC a; intro a HC
    refine qc_g HC (q_load rfl (hB3.ldAll ag29 sz29)) (by kernel_rfl) (by kernel_rfl) (by kernel_rfl) ?_
    clear HC a; intro a HC
    refine qc_gcall0 HC rfl en8 ((fun w' hw => Alike_w (g1.ext (Ext.trans' hX hw)) (g1.ext (Ext.trans' hX hw)))) (by kernel_rfl) (by kernel_rfl) (by kernel_rfl) ?_
    clear HC a; intro a HC
    refine qc_g HC (q_not rfl) (by kernel_rfl) (by kernel_rfl) (by kernel_rfl) ?_
    clear HC a; intro a HC
    refine qc_or (j := 4) HC rfl rfl rfl (by kernel_rfl) (by kernel_rfl) ?_
    clear HC a; intro a HC
    refine qc_q HC (q_move rfl) rfl (by kernel_rfl) ?_
    clear HC a; intro a HC
    refine qc_g HC (q_load rfl (hB3.ldAll ag29 sz29)) (by kernel_rfl) (by kernel_rfl) (by kernel_rfl) ?_
    clear HC a; intro a HC
    refine qc_g HC (q_load rfl (hB4.ldAll ag29 sz29)) (by kernel_rfl) (by kernel_rfl) (by kernel_rfl) ?_
    clear HC a; intro a HC
    refine qc_gcall0 HC rfl en7 ((fun w' hw => Same_w (g1.ext (Ext.trans' hX hw)) (g2.ext (Ext.trans' hX hw)))) (by kernel_rfl) (by kernel_rfl) (by kernel_rfl) ?_
    clear HC a; intro a HC
    refine qc_g HC (q_load rfl (hB4.ldAll ag29 sz29)) (by kernel_rfl) (by kernel_rfl) (by kernel_rfl) ?_
    clear HC a; intro a HC
    refine qc_g HC (q_load rfl (hB3.ldAll ag29 sz29)) (by kernel_rfl) (by kernel_rfl) (by kernel_rfl) ?_
    clear HC a; intro a HC
    refine qc_gcall0 HC rfl en7 ((fun w' hw => Same_w (g2.ext (Ext.trans' hX hw)) (g1.ext (Ext.trans' hX hw)))) (by kernel_rfl) (by kernel_rfl) (by kernel_rfl) ?_
    clear HC a; intro a HC
    refine qc_g HC (q_neqB Try.underlying4 rfl rfl) (by kernel_rfl) (by kernel_rfl) (by kernel_rfl) ?_
    clear HC a; intro a HC
    refine qc_or (j := 10) HC rfl rfl rfl (by kernel_rfl) (by kernel_rfl) ?_
    clear HC a; intro a HC
    refine qc_q HC (q_move rfl) rfl (by kernel_rfl) ?_
    clear HC a; intro a HC
    refine qc_g HC (q_load rfl (hB3.ldAll ag29 sz29)) (by kernel_rfl) (by kernel_rfl) (by kernel_rfl) ?_
    clear HC a; intro a HC
    refine qc_g HC (q_load rfl (hB4.ldAll ag29 sz29)) (by kernel_rfl) (by kernel_rfl) (by kernel_rfl) ?_
    clear HC a; intro a HC
    refine qc_gcall0 HC rfl en8 ((fun w' hw => Alike_w (g1.ext (Ext.trans' hX hw)) (g2.ext (Ext.trans' hX hw)))) (by kernel_rfl) (by kernel_rfl) (by kernel_rfl) ?_
    clear HC a; intro a HC
    refine qc_g HC (q_load rfl (hB4.ldAll ag29 sz29)) (by kernel_rfl) (by kernel_rfl) (by kernel_rfl) ?_
    clear HC a; intro a HC
    refine qc_g HC (q_load rfl (hB3.ldAll ag29 sz29)) (by kernel_rfl) (by kernel_rfl) (by kernel_rfl) ?_
    clear HC a; intro a HC
    refine qc_gcall0 HC rfl en8 ((fun w' hw => Alike_w (g2.ext (Ext.trans' hX hw)) (g1.ext (Ext.trans' hX hw)))) (by kernel_rfl) (by kernel_rfl) (by kernel_rfl) ?_
    clear HC a; intro a HC
    refine qc_g HC (q_neqB Try.underlying4 rfl rfl) (by kernel_rfl) (by kernel_rfl) (by kernel_rfl) ?_
    clear HC a; intro a HC
    refine qc_or (j := 19) HC rfl rfl rfl (by kernel_rfl) (by kernel_rfl) ?_
    clear HC a; intro a HC
    have H := HC.has; clear HC
    refine qq_nil ?_
    intro w21 hE22
    replace hB3 := hB3.ext hE22
    replace hB4 := hB4.ext hE22
    replace hB5 := hB5.ext hE22
    replace hB7 := hB7.ext hE22
    replace hB8 := hB8.ext hE22
    replace hX := Ext.trans' hX hE22
    replace hRS := Ext.trans' hRS hE22
    refine then_normal ?_
    refine c_cond H rfl (fun hc45 => ?_) (fun hc45 => ?_)
    · skip
      exfalso; simp [sameM_refl, alikesM_refl, sameM_symm t s, alikesM_symm t s] at hc45
    · (try simp only [decide_eq_true_eq, decide_eq_false_iff_not, Bool.and_eq_true, Bool.or_eq_true, Bool.and_eq_false_iff, Bool.or_eq_false_iff, beq_iff_eq, bne_iff_ne, beq_eq_false_iff_ne, bne_eq_false_iff_eq, ne_eq, Bool.not_eq_true', Bool.not_eq_false', Int.not_lt, Int.not_le, Bool.not_eq_true, Bool.not_eq_false] at hc45)
      refine wp_skip ?_
      refine then_normal ?_
      refine wp_seq ?_
      refine wp_seq ?_
      refine c_quiet (by kernel_rfl) (by kernel_rfl) ?_
      refine qq_c H (fun HC => ?_); clear H
      refine qc_q HC (q_load rfl (hB3.ldAll ag29 sz29)) rfl (by kernel_rfl) ?_
      clear HC a; intro a HC
      refine qc_q HC (q_load rfl (hB4.ldAll ag29 sz29)) rfl (by kernel_rfl) ?_
      clear HC a; intro a HC
      refine qc_call HC rfl en7 ((fun w' hw => Same_w (g1.ext (Ext.trans' hX hw)) (g2.ext (Ext.trans' hX hw)))) rfl (by kernel_rfl) ?_
      clear HC a; intro a HC
      refine qc_q HC (q_move rfl) rfl (by kernel_rfl) ?_
      clear HC a; intro a HC
      refine qc_g HC (q_load rfl (hB3.ldAll ag29 sz29)) (by kernel_rfl) (by kernel_rfl) (by kernel_rfl) ?_
      clear HC a; intro a HC
      refine qc_g HC (q_load rfl (hB4.ldAll ag29 sz29)) (by kernel_rfl) (by kernel_rfl) (by kernel_rfl) ?_
      clear HC a; intro a HC
      refine qc_gcall0 HC rfl en8 ((fun w' hw => Alike_w (g1.ext (Ext.trans' hX hw)) (g2.ext (Ext.trans' hX hw)))) (by kernel_rfl) (by kernel_rfl) (by kernel_rfl) ?_
      clear HC a; intro a HC
      refine qc_g HC (q_not rfl) (by kernel_rfl) (by kernel_rfl) (by kernel_rfl) ?_
      clear HC a; intro a HC
      refine qc_g HC (q_move rfl) (by kernel_rfl) (by kernel_rfl) (by kernel_rfl) ?_
      clear HC a; intro a HC
      refine qc_g HC (q_load rfl (hB3.ldAll ag29 sz29)) (by kernel_rfl) (by kernel_rfl) (by kernel_rfl) ?_
      clear HC a; intro a HC
      refine qc_g HC (q_load rfl (hB5.ldAll ag29 sz29)) (by kernel_rfl) (by kernel_rfl) (by kernel_rfl) ?_
      clear HC a; intro a HC
      refine qc_gcall0 HC rfl en7 ((fun w' hw => Same_w (g1.ext (Ext.trans' hX hw)) (g3.ext (Ext.trans' hX hw)))) (by kernel_rfl) (by kernel_rfl) (by kernel_rfl) ?_
      clear HC a; intro a HC
      refine qc_g HC (q_load rfl (hB4.ldAll ag29 sz29)) (by kernel_rfl) (by kernel_rfl) (by kernel_rfl) ?_
      clear HC a; intro a HC
      refine qc_g HC (q_load rfl (hB5.ldAll ag29 sz29)) (by kernel_rfl) (by kernel_rfl) (by kernel_rfl) ?_
      clear HC a; intro a HC
      refine qc_gcall0 HC rfl en7 ((fun w' hw => Same_w (g2.ext (Ext.trans' hX hw)) (g3.ext (Ext.trans' hX hw)))) (by kernel_rfl) (by kernel_rfl) (by kernel_rfl) ?_
      clear HC a; intro a HC
      refine qc_g HC (q_neqB Try.underlying4 rfl rfl) (by kernel_rfl) (by kernel_rfl) (by kernel_rfl) ?_
      clear HC a; intro a HC
      refine qc_org (j := 8) HC rfl rfl rfl (by kernel_rfl) (by kernel_rfl) (by kernel_rfl) ?_
      clear HC a; intro a HC
      refine qc_and (j := 3) HC rfl rfl rfl (by kernel_rfl) (by kernel_rfl) ?_
      clear HC a; intro a HC
      have H := HC.has; clear HC
      refine qq_nil ?_
      intro w23 hE24
      replace hB3 := hB3.ext hE24
      replace hB4 := hB4.ext hE24
      replace hB5 := hB5.ext hE24
      replace hB7 := hB7.ext hE24
      replace hB8 := hB8.ext hE24
      replace hX := Ext.trans' hX hE24
      replace hRS := Ext.trans' hRS hE24
      refine then_normal ?_
      refine c_cond H rfl (fun hc63 => ?_) (fun hc63 => ?_)
      · skip
        exfalso; cases q1 : sameM s t with | false => simp [q1] at hc63 | true => (have e := same_of q1; subst e; simp [alikesM_refl] at hc63)
      · (try simp only [decide_eq_true_eq, decide_eq_false_iff_not, Bool.and_eq_true, Bool.or_eq_true, Bool.and_eq_false_iff, Bool.or_eq_false_iff, beq_iff_eq, bne_iff_ne, beq_eq_false_iff_ne, bne_eq_false_iff_eq, ne_eq, Bool.not_eq_true', Bool.not_eq_false', Int.not_lt, Int.not_le, Bool.not_eq_true, Bool.not_eq_false] at hc63)
        refine wp_skip ?_
        refine then_normal ?_
        refine wp_seq ?_
        refine wp_seq ?_
        refine c_quiet (by kernel_rfl) (by kernel_rfl) ?_
        refine qq_c H (fun HC => ?_); clear H
        refine qc_q HC (q_load rfl (hB3.ldAll ag29 sz29)) rfl (by kernel_rfl) ?_
        clear HC a; intro a HC
        refine qc_q HC (q_load rfl (hB4.ldAll ag29 sz29)) rfl (by kernel_rfl) ?_
        clear HC a; intro a HC
        refine qc_call HC rfl en8 ((fun w' hw => Alike_w (g1.ext (Ext.trans' hX hw)) (g2.ext (Ext.trans' hX hw)))) rfl (by kernel_rfl) ?_
        clear HC a; intro a HC
        refine qc_q HC (q_move rfl) rfl (by kernel_rfl) ?_
        clear HC a; intro a HC
        refine qc_g HC (q_load rfl (hB3.ldAll ag29 sz29)) (by kernel_rfl) (by kernel_rfl) (by kernel_rfl) ?_
        clear HC a; intro a HC
        refine qc_g HC (q_load rfl (hB5.ldAll ag29 sz29)) (by kernel_rfl) (by kernel_rfl) (by kernel_rfl) ?_
        clear HC a; intro a HC
        refine qc_gcall0 HC rfl en8 ((fun w' hw => Alike_w (g1.ext (Ext.trans' hX hw)) (g3.ext (Ext.trans' hX hw)))) (by kernel_rfl) (by kernel_rfl) (by kernel_rfl) ?_
        clear HC a; intro a HC
        refine qc_g HC (q_load rfl (hB4.ldAll ag29 sz29)) (by kernel_rfl) (by kernel_rfl) (by kernel_rfl) ?_
        clear HC a; intro a HC
        refine qc_g HC (q_load rfl (hB5.ldAll ag29 sz29)) (by kernel_rfl) (by kernel_rfl) (by kernel_rfl) ?_
        clear HC a; intro a HC
        refine qc_gcall0 HC rfl en8 ((fun w' hw => Alike_w (g2.ext (Ext.trans' hX hw)) (g3.ext (Ext.trans' hX hw)))) (by kernel_rfl) (by kernel_rfl) (by kernel_rfl) ?_
        clear HC a; intro a HC
        refine qc_g HC (q_neqB Try.underlying4 rfl rfl) (by kernel_rfl) (by kernel_rfl) (by kernel_rfl) ?_
        clear HC a; intro a HC
        refine qc_and (j := 3) HC rfl rfl rfl (by kernel_rfl) (by kernel_rfl) ?_
        clear HC a; intro a HC
        have H := HC.has; clear HC
        refine qq_nil ?_
        intro w25 hE26
        replace hB3 := hB3.ext hE26
        replace hB4 := hB4.ext hE26
        replace hB5 := hB5.ext hE26
        replace hB7 := hB7.ext hE26
        replace hB8 := hB8.ext hE26
        replace hX := Ext.trans' hX hE26
        replace hRS := Ext.trans' hRS hE26
        refine then_normal ?_
        refine c_cond H rfl (fun hc75 => ?_) (fun hc75 => ?_)
        · skip
          exfalso; cases q1 : alikesM s t with | false => simp [q1] at hc75 | true => simp [alikes_of q1] at hc75
        · (try simp only [decide_eq_true_eq, decide_eq_false_iff_not, Bool.and_eq_true, Bool.or_eq_true, Bool.and_eq_false_iff, Bool.or_eq_false_iff, beq_iff_eq, bne_iff_ne, beq_eq_false_iff_ne, bne_eq_false_iff_eq, ne_eq, Bool.not_eq_true', Bool.not_eq_false', Int.not_lt, Int.not_le, Bool.not_eq_true, Bool.not_eq_false] at hc75)
          refine wp_skip ?_
          refine then_normal ?_
          refine wp_seq ?_
          refine wp_region_lit ?_
          refine n_q H (q_load rfl (hB3.ldAll ag29 sz29)) rfl ?_
          clear H a; intro a H
          refine n_call H rfl en11 (Copy_w (g1.ext hX)) rfl ?_
          clear H a; intro v29 w27 hv a H
          obtain ⟨hC, hE28⟩ := hv
          replace hB3 := hB3.ext hE28
          replace hB4 := hB4.ext hE28
          replace hB5 := hB5.ext hE28
          replace hB7 := hB7.ext hE28
          replace hB8 := hB8.ext hE28
          replace hX := Ext.trans' hX hE28
          replace hRS := Ext.trans' hRS hE28
          have hCI := hC.is
          obtain ⟨c3, c4, c5, c6, c7, c8, c9, fpc, rfl, hfc, hOc9, hnc, hlc, hbc⟩ := hC
          have hC1 : IsState w27 (.agg #[.int .i64 s.id, .int .i64 s.frame, .int .i64 (IntKind.i64.wrap (s.epoch + 1)), c3, c4, c5, c6, c7, c8, c9]) { s with epoch := (IntKind.i64.wrap (s.epoch + 1)) } := ⟨_, _, _, _, _, _, _, rfl, hfc.now.1, hfc.now.2.1, hfc.now.2.2.1, hfc.now.2.2.2.1, hfc.now.2.2.2.2.1, hfc.now.2.2.2.2.2, hOc9.sl rfl hlc hbc⟩
          have hC2 : IsState w27 (.agg #[.int .i64 s.id, .int .i64 (IntKind.i64.wrap (s.frame + 1)), .int .i64 (IntKind.i64.wrap (s.epoch + 1)), c3, c4, c5, c6, c7, c8, c9]) { s with epoch := (IntKind.i64.wrap (s.epoch + 1)), frame := (IntKind.i64.wrap (s.frame + 1)) } := ⟨_, _, _, _, _, _, _, rfl, hfc.now.1, hfc.now.2.1, hfc.now.2.2.1, hfc.now.2.2.2.1, hfc.now.2.2.2.2.1, hfc.now.2.2.2.2.2, hOc9.sl rfl hlc hbc⟩
          have hRC := Ext.rfl' (w := w27)
          refine n_alloc H ze29 rfl ?_
          clear H; intro b9 w30 hB9 hE31 hs_b9; clear a; intro a H
          have hn_b3_b9 : b3 ≠ b9 := by have := hB3.lt; omega
          have hn_b9_b3 := hn_b3_b9.symm
          have hlt_b3_b9 : b3 < b9 := by have := hB3.lt; omega
          have hn_b4_b9 : b4 ≠ b9 := by have := hB4.lt; omega
          have hn_b9_b4 := hn_b4_b9.symm
          have hlt_b4_b9 : b4 < b9 := by have := hB4.lt; omega
          have hn_b5_b9 : b5 ≠ b9 := by have := hB5.lt; omega
          have hn_b9_b5 := hn_b5_b9.symm
          have hlt_b5_b9 : b5 < b9 := by have := hB5.lt; omega
          have hn_b7_b9 : b7 ≠ b9 := by have := hB7.lt; omega
          have hn_b9_b7 := hn_b7_b9.symm
          have hlt_b7_b9 : b7 < b9 := by have := hB7.lt; omega
          have hn_b8_b9 : b8 ≠ b9 := by have := hB8.lt; omega
          have hn_b9_b8 := hn_b8_b9.symm
          have hlt_b8_b9 : b8 < b9 := by have := hB8.lt; omega
          have hw_b9 : w.heap.size ≤ b9 := by have := hX.size; omega
          have hq_hRS_b9 : w7.heap.size ≤ b9 := by have := hRS.size; omega
          have hq_hRC_b9 : w27.heap.size ≤ b9 := by have := hRC.size; omega
          replace hB3 := hB3.ext hE31
          replace hB4 := hB4.ext hE31
          replace hB5 := hB5.ext hE31
          replace hB7 := hB7.ext hE31
          replace hB8 := hB8.ext hE31
          replace hX := Ext.trans' hX hE31
          replace hRS := Ext.trans' hRS hE31
          replace hRC := Ext.trans' hRC hE31
          refine n_storeAll H rfl rfl rfl sz29 hB9 rfl (by simp [hfc.now.1.r.one, hfc.now.2.1.r.one, hfc.now.2.2.1.r.one, hfc.now.2.2.2.1.r.one, hfc.now.2.2.2.2.1.r.one, hfc.now.2.2.2.2.2.r.one, hOc9.one]) ?_
          clear H; intro w32 hB9N hC33 hz; clear a; intro a H
          replace hB9 := hB9N; clear hB9N
          clear hz
          replace hB3 := hC33.blk hB3 (by simp [blks] <;> omega)
          replace hB4 := hC33.blk hB4 (by simp [blks] <;> omega)
          replace hB5 := hC33.blk hB5 (by simp [blks] <;> omega)
          replace hB7 := hC33.blk hB7 (by simp [blks] <;> omega)
          replace hB8 := hC33.blk hB8 (by simp [blks] <;> omega)
          replace hRS := Chg.below hRS hC33 (Nat.le_refl _) (by simp [blks] <;> omega)
          replace hRC := Chg.below hRC hC33 (Nat.le_refl _) (by simp [blks] <;> omega)
          replace hX := Chg.below hX hC33 (Nat.le_refl _) (by simp [blks] <;> omega)
          refine n_nil ?_
          refine then_normal ?_
          refine wp_seq ?_
          refine wp_seq ?_
          refine wp_region_lit ?_
          refine n_q H (q_load rfl (hB3.ldAll ag29 sz29)) rfl ?_
          clear H a; intro a H
          refine n_q H (q_load rfl (hB9.ldAll ag29 sz29)) rfl ?_
          clear H a; intro a H
          refine n_call H rfl en7 (Same_w (g1.ext hX) (hCI.ext hRC)) rfl ?_
          clear H a; intro v36 w34 hv a H
          obtain ⟨rfl, hE35⟩ := hv
          replace hB3 := hB3.ext hE35
          replace hB4 := hB4.ext hE35
          replace hB5 := hB5.ext hE35
          replace hB7 := hB7.ext hE35
          replace hB8 := hB8.ext hE35
          replace hB9 := hB9.ext hE35
          replace hX := Ext.trans' hX hE35
          replace hRS := Ext.trans' hRS hE35
          replace hRC := Ext.trans' hRC hE35
          refine n_q H (q_not rfl) rfl ?_
          clear H a; intro a H
          refine n_nil ?_
          refine then_normal ?_
          refine c_cond H rfl (fun hc81 => ?_) (fun hc81 => ?_)
          · skip
            exfalso; simp [sameM_refl] at hc81
          · (try simp only [decide_eq_true_eq, decide_eq_false_iff_not, Bool.and_eq_true, Bool.or_eq_true, Bool.and_eq_false_iff, Bool.or_eq_false_iff, beq_iff_eq, bne_iff_ne, beq_eq_false_iff_ne, bne_eq_false_iff_eq, ne_eq, Bool.not_eq_true', Bool.not_eq_false', Int.not_lt, Int.not_le, Bool.not_eq_true, Bool.not_eq_false] at hc81)
            refine wp_skip ?_
            refine then_normal ?_
            refine wp_seq ?_
            refine wp_region_lit ?_
            refine n_q H (q_fieldAddr0 rfl fo29_2) rfl ?_
            clear H a; intro a H
            refine n_q H (q_load rfl (hB3.ld ag3 rfl)) rfl ?_
            clear H a; intro a H
            refine n_q H (q_addW rfl rfl) rfl ?_
            clear H a; intro a H
            refine n_q H (q_fieldAddr0 rfl fo29_2) rfl ?_
            clear H a; intro a H
            refine n_store1 H rfl rfl sz3 hB9 (by simp) (by first | rfl) ?_
            clear H; intro w37 hB9N hC38 hz; clear a; intro a H
            replace hB9 := hB9N; clear hB9N
            simp only [List.set_cons_succ, List.set_cons_zero] at hB9
            clear hz
            replace hB3 := hC38.blk hB3 (by simp [blks] <;> omega)
            replace hB4 := hC38.blk hB4 (by simp [blks] <;> omega)
            replace hB5 := hC38.blk hB5 (by simp [blks] <;> omega)
            replace hB7 := hC38.blk hB7 (by simp [blks] <;> omega)
            replace hB8 := hC38.blk hB8 (by simp [blks] <;> omega)
            replace hRS := Chg.below hRS hC38 (Nat.le_refl _) (by simp [blks] <;> omega)
            replace hRC := Chg.below hRC hC38 (Nat.le_refl _) (by simp [blks] <;> omega)
            replace hX := Chg.below hX hC38 (Nat.le_refl _) (by simp [blks] <;> omega)
            refine n_nil ?_
            refine then_normal ?_
            refine wp_seq ?_
            refine wp_seq ?_
            refine wp_region_lit ?_
            refine n_c H (fun HC => ?_); clear H
            refine nc_q HC (q_load rfl (hB3.ldAll ag29 sz29)) rfl (by kernel_rfl) ?_
            clear HC a; intro a HC
            refine nc_q HC (q_load rfl (hB9.ldAll ag29 sz29)) rfl (by kernel_rfl) ?_
            clear HC a; intro a HC
            refine nc_call HC rfl en7 (Same_w (g1.ext hX) (hC1.ext hRC)) rfl (by kernel_rfl) ?_
            clear HC a; intro v41 w39 hv a HC
            obtain ⟨rfl, hE40⟩ := hv
            replace hB3 := hB3.ext hE40
            replace hB4 := hB4.ext hE40
            replace hB5 := hB5.ext hE40
            replace hB7 := hB7.ext hE40
            replace hB8 := hB8.ext hE40
            replace hB9 := hB9.ext hE40
            replace hX := Ext.trans' hX hE40
            replace hRS := Ext.trans' hRS hE40
            replace hRC := Ext.trans' hRC hE40
            refine nc_q HC (q_move rfl) rfl (by kernel_rfl) ?_
            clear HC a; intro a HC
            refine nc_g HC (q_load rfl (hB3.ldAll ag29 sz29)) (by kernel_rfl) (by kernel_rfl) (by kernel_rfl) ?_
            clear HC a; intro a HC
            refine nc_g HC (q_load rfl (hB9.ldAll ag29 sz29)) (by kernel_rfl) (by kernel_rfl) (by kernel_rfl) ?_
            clear HC a; intro a HC
            refine nc_gcall0 HC rfl en8 (Alike_w (g1.ext hX) (hC1.ext hRC)) (by kernel_rfl) (by kernel_rfl) (by kernel_rfl) ?_
            clear HC a; intro w42 hE43 a HC
            replace hB3 := hB3.ext hE43
            replace hB4 := hB4.ext hE43
            replace hB5 := hB5.ext hE43
            replace hB7 := hB7.ext hE43
            replace hB8 := hB8.ext hE43
            replace hB9 := hB9.ext hE43
            replace hX := Ext.trans' hX hE43
            replace hRS := Ext.trans' hRS hE43
            replace hRC := Ext.trans' hRC hE43
            refine nc_g HC (q_not rfl) (by kernel_rfl) (by kernel_rfl) (by kernel_rfl) ?_
            clear HC a; intro a HC
            refine nc_or (j := 3) HC rfl rfl rfl (by kernel_rfl) (by kernel_rfl) ?_
            clear HC a; intro a HC
            have H := HC.has; clear HC
            refine n_nil ?_
            refine then_normal ?_
            refine c_cond H rfl (fun hc94 => ?_) (fun hc94 => ?_)
            · skip
              exfalso; simp [eq_ne1 s _ (wrap_ne _), eq_al1] at hc94
            · (try simp only [decide_eq_true_eq, decide_eq_false_iff_not, Bool.and_eq_true, Bool.or_eq_true, Bool.and_eq_false_iff, Bool.or_eq_false_iff, beq_iff_eq, bne_iff_ne, beq_eq_false_iff_ne, bne_eq_false_iff_eq, ne_eq, Bool.not_eq_true', Bool.not_eq_false', Int.not_lt, Int.not_le, Bool.not_eq_true, Bool.not_eq_false] at hc94)
              refine wp_skip ?_
              refine then_normal ?_
              refine wp_seq ?_
              refine wp_region_lit ?_
              refine n_q H (q_fieldAddr0 rfl fo29_1) rfl ?_
              clear H a; intro a H
              refine n_q H (q_load rfl (hB3.ld ag3 rfl)) rfl ?_
              clear H a; intro a H
              refine n_q H (q_addW rfl rfl) rfl ?_
              clear H a; intro a H
              refine n_q H (q_fieldAddr0 rfl fo29_1) rfl ?_
              clear H a; intro a H
              refine n_store1 H rfl rfl sz3 hB9 (by simp) (by first | rfl) ?_
              clear H; intro w44 hB9N hC45 hz; clear a; intro a H
              replace hB9 := hB9N; clear hB9N
              simp only [List.set_cons_succ, List.set_cons_zero] at hB9
              clear hz
              replace hB3 := hC45.blk hB3 (by simp [blks] <;> omega)
              replace hB4 := hC45.blk hB4 (by simp [blks] <;> omega)
              replace hB5 := hC45.blk hB5 (by simp [blks] <;> omega)
              replace hB7 := hC45.blk hB7 (by simp [blks] <;> omega)
              replace hB8 := hC45.blk hB8 (by simp [blks] <;> omega)
              replace hRS := Chg.below hRS hC45 (Nat.le_refl _) (by simp [blks] <;> omega)
              replace hRC := Chg.below hRC hC45 (Nat.le_refl _) (by simp [blks] <;> omega)
              replace hX := Chg.below hX hC45 (Nat.le_refl _) (by simp [blks] <;> omega)
              refine n_nil ?_
              refine then_normal ?_
              refine wp_seq ?_
              refine wp_region_lit ?_
              refine n_q H (q_load rfl (hB3.ldAll ag29 sz29)) rfl ?_
              clear H a; intro a H
              refine n_q H (q_load rfl (hB9.ldAll ag29 sz29)) rfl ?_
              clear H a; intro a H
              refine n_call H rfl en8 (Alike_w (g1.ext hX) (hC2.ext hRC)) rfl ?_
              clear H a; intro v48 w46 hv a H
              obtain ⟨rfl, hE47⟩ := hv
              replace hB3 := hB3.ext hE47
              replace hB4 := hB4.ext hE47
              replace hB5 := hB5.ext hE47
              replace hB7 := hB7.ext hE47
              replace hB8 := hB8.ext hE47
              replace hB9 := hB9.ext hE47
              replace hX := Ext.trans' hX hE47
              replace hRS := Ext.trans' hRS hE47
              replace hRC := Ext.trans' hRC hE47
              refine n_q H (q_not rfl) rfl ?_
              clear H a; intro a H
              refine n_q H (q_assign rfl) rfl ?_
              clear H a; intro a H
              refine n_nil ?_
              refine then_normal ?_
              refine wp_ret ?_
              refine ret1 H (.inr rfl) rfl rfl ?_
              exact ⟨congrArg Value.bool (by simp [eq_ne2 s _ _ (wrap_ne _)]), hX⟩

end Go.Proofs.Ytfoijpfmjmjjpaa
