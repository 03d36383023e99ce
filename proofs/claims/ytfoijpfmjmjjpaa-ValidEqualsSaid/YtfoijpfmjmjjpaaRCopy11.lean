/- ferryref11.Copy (written by wip/tools) -/
import Derived.Test.YtfoijpfmjmjjpaaVCopy11
set_option linter.unusedVariables false
set_option linter.unusedSimpArgs false
set_option maxRecDepth 10000
namespace Go.Proofs.Ytfoijpfmjmjjpaa
open Go Go.RowKit
theorem bd55 : bdB Try.prog 55 = true := by kernel_rfl
theorem pl55 : placesB Try.prog 55 = some #[(0, 1), (1, 1)] := by kernel_rfl

theorem rCopy_w {w : World} {v : Value} {s : StateM'} (h : IsState w v s) :
    Calls Try.prog 6 [v].toArray w (Ret fun u w' => NewState 40 w.heap.size w' u s ∧ Ext w w') := by
  obtain ⟨u3, u4, u5, u6, u7, u8, u9, rfl, h3, h4, h5, h6, h7, h8, h9⟩ := h
  have b103 := h3.b
  have b104 := h4.b
  have b105 := h5.b
  have b106 := h6.b
  have b107 := h7.b
  have b108 := h8.b
  have b109 := h9.b
  simp only [lim] at b103 b104 b105 b106 b107 b108 b109
  obtain ⟨A8, c8, rfl, hl8, hm8, hn8⟩ := h8.r.form
  refine enter Try.func6 rfl rfl rfl ?_
  intro a H
  dsimp only [enumL, Nat.zero_add, Nat.reduceAdd] at H
  refine wp_seq ?_
  refine wp_region_lit ?_
  refine n_box H rfl (cs := _) rfl rfl ?_
  clear H; intro b1 w1 hB1 hE2 hs_b1; clear a; intro a H
  have hw_b1 : w.heap.size ≤ b1 := by omega
  have hX := hE2
  refine n_alloc H ze29 rfl ?_
  clear H; intro b2 w3 hB2 hE4 hs_b2; clear a; intro a H
  have hn_b1_b2 : b1 ≠ b2 := by have := hB1.lt; omega
  have hn_b2_b1 := hn_b1_b2.symm
  have hlt_b1_b2 : b1 < b2 := by have := hB1.lt; omega
  have hw_b2 : w.heap.size ≤ b2 := by have := hX.size; omega
  replace hB1 := hB1.ext hE4
  replace hX := Ext.trans' hX hE4
  refine n_nil ?_
  refine then_normal ?_
  refine wp_seq ?_
  refine wp_region_lit ?_
  refine n_q H (q_load rfl (hB1.ldAll ag29 sz29)) rfl ?_
  clear H a; intro a H
  refine n_alloc H ze29 rfl ?_
  clear H; intro b3 w5 hB3 hE6 hs_b3; clear a; intro a H
  have hn_b1_b3 : b1 ≠ b3 := by have := hB1.lt; omega
  have hn_b3_b1 := hn_b1_b3.symm
  have hlt_b1_b3 : b1 < b3 := by have := hB1.lt; omega
  have hn_b2_b3 : b2 ≠ b3 := by have := hB2.lt; omega
  have hn_b3_b2 := hn_b2_b3.symm
  have hlt_b2_b3 : b2 < b3 := by have := hB2.lt; omega
  have hw_b3 : w.heap.size ≤ b3 := by have := hX.size; omega
  replace hB1 := hB1.ext hE6
  replace hB2 := hB2.ext hE6
  replace hX := Ext.trans' hX hE6
  refine n_storeAll H rfl rfl rfl sz29 hB3 rfl (by simp [h3.r.one, h4.r.one, h5.r.one, h6.r.one, h7.r.one, h8.r.one, h9.r.one]) ?_
  clear H; intro w7 hB3N hC8 hz; clear a; intro a H
  replace hB3 := hB3N; clear hB3N
  clear hz
  replace hB1 := hC8.blk hB1 (by simp [blks] <;> omega)
  replace hB2 := hC8.blk hB2 (by simp [blks] <;> omega)
  replace hX := Chg.below hX hC8 (Nat.le_refl _) (by simp [blks] <;> omega)
  refine n_nil ?_
  refine then_normal ?_
  refine wp_seq ?_
  refine wp_region_lit ?_
  refine n_buildSlice H Try.underlying22 sz52 ze52 rfl rfl rfl (cs := []) (by kernel_rfl) rfl ?_
  clear H; intro b6 w9 hB6 hE10 hs_b6; clear a; intro a H
  have hn_b1_b6 : b1 ≠ b6 := by have := hB1.lt; omega
  have hn_b6_b1 := hn_b1_b6.symm
  have hlt_b1_b6 : b1 < b6 := by have := hB1.lt; omega
  have hn_b2_b6 : b2 ≠ b6 := by have := hB2.lt; omega
  have hn_b6_b2 := hn_b2_b6.symm
  have hlt_b2_b6 : b2 < b6 := by have := hB2.lt; omega
  have hn_b3_b6 : b3 ≠ b6 := by have := hB3.lt; omega
  have hn_b6_b3 := hn_b3_b6.symm
  have hlt_b3_b6 : b3 < b6 := by have := hB3.lt; omega
  have hw_b6 : w.heap.size ≤ b6 := by have := hX.size; omega
  replace hB1 := hB1.ext hE10
  replace hB2 := hB2.ext hE10
  replace hB3 := hB3.ext hE10
  replace hX := Ext.trans' hX hE10
  refine n_q H (q_fieldAddr0 rfl fo29_3) rfl ?_
  clear H a; intro a H
  refine n_q H (q_load rfl (hB1.ld ag22 rfl)) rfl ?_
  clear H a; intro a H
  refine n_append H rfl rfl Try.underlying22 Try.underlying22 (by simp) el52 (Own.ofBlk (n := 0) hB6 rfl (by simp [maxLen])) ((h3.r.ext (Flat.mono _) hX).src h3.r.lens) (flat_one eProc_one s.procs) (by omega) (by have := h3.r.len63; omega) rfl ?_
  clear H; intro v9 w11 hO9 hC12 hb9 hnil9; clear a; intro a H
  simp only [List.nil_append, Nat.zero_add] at hO9
  have hf_v9 : ∀ c ∈ blks v9, b6 ≤ c := fresh_of hb9 (by simp [blks]) (Nat.le_of_lt hB6.lt)
  have hn_v9_b1 : ∀ c ∈ blks v9, c ≠ b1 := fun c hc => by have := hf_v9 c hc; have := hlt_b1_b6; omega
  have hn_v9_b2 : ∀ c ∈ blks v9, c ≠ b2 := fun c hc => by have := hf_v9 c hc; have := hlt_b2_b6; omega
  have hn_v9_b3 : ∀ c ∈ blks v9, c ≠ b3 := fun c hc => by have := hf_v9 c hc; have := hlt_b3_b6; omega
  have hlo_v9 : ∀ c ∈ blks v9, w.heap.size ≤ c := fun c hc => by have := hf_v9 c hc; omega
  replace hB1 := hC12.blk hB1 (by simp [blks] <;> omega)
  replace hB2 := hC12.blk hB2 (by simp [blks] <;> omega)
  replace hB3 := hC12.blk hB3 (by simp [blks] <;> omega)
  replace hX := Chg.below hX hC12 (Nat.le_refl _) (by simp [blks] <;> omega)
  refine n_q H (q_fieldAddr0 rfl fo29_3) rfl ?_
  clear H a; intro a H
  refine n_store1 H rfl rfl sz22 hB3 (by simp) (by first | rfl | exact h3.r.one | exact h4.r.one | exact h5.r.one | exact h6.r.one | exact h7.r.one | exact h8.r.one | exact h9.r.one | exact hO9.one | exact hO14.one | exact hO19.one | exact hO24.one | exact hO29.one | exact hO34.one | exact hO62.one) ?_
  clear H; intro w13 hB3N hC14 hz; clear a; intro a H
  replace hB3 := hB3N; clear hB3N
  simp only [List.set_cons_succ, List.set_cons_zero] at hB3
  clear hz
  replace hB1 := hC14.blk hB1 (by simp [blks] <;> omega)
  replace hB2 := hC14.blk hB2 (by simp [blks] <;> omega)
  replace hO9 := hO9.chg hC14 (fun c hc hd => by simp [blks] at hd; (try exact hn_v9_b3 c hc hd))
  replace hX := Chg.below hX hC14 (Nat.le_refl _) (by simp [blks] <;> omega)
  refine n_nil ?_
  refine then_normal ?_
  refine wp_seq ?_
  refine wp_region_lit ?_
  refine n_buildSlice H Try.underlying23 sz3 ze3 rfl rfl rfl (cs := []) (by kernel_rfl) rfl ?_
  clear H; intro b11 w15 hB11 hE16 hs_b11; clear a; intro a H
  have hn_b1_b11 : b1 ≠ b11 := by have := hB1.lt; omega
  have hn_b11_b1 := hn_b1_b11.symm
  have hlt_b1_b11 : b1 < b11 := by have := hB1.lt; omega
  have hn_b2_b11 : b2 ≠ b11 := by have := hB2.lt; omega
  have hn_b11_b2 := hn_b2_b11.symm
  have hlt_b2_b11 : b2 < b11 := by have := hB2.lt; omega
  have hn_b3_b11 : b3 ≠ b11 := by have := hB3.lt; omega
  have hn_b11_b3 := hn_b3_b11.symm
  have hlt_b3_b11 : b3 < b11 := by have := hB3.lt; omega
  have hw_b11 : w.heap.size ≤ b11 := by have := hX.size; omega
  have hlt_v9_b11 : ∀ c ∈ blks v9, c < b11 := fun c hc => by have := hO9.lt c hc; omega
  have hn_v9_b11 : ∀ c ∈ blks v9, c ≠ b11 := fun c hc => by have := hlt_v9_b11 c hc; omega
  replace hB1 := hB1.ext hE16
  replace hB2 := hB2.ext hE16
  replace hB3 := hB3.ext hE16
  replace hO9 := hO9.ext hE16
  replace hX := Ext.trans' hX hE16
  refine n_q H (q_fieldAddr0 rfl fo29_4) rfl ?_
  clear H a; intro a H
  refine n_q H (q_load rfl (hB1.ld ag23 rfl)) rfl ?_
  clear H a; intro a H
  refine n_append H rfl rfl Try.underlying23 Try.underlying23 (by simp) el3 (Own.ofBlk (n := 0) hB11 rfl (by simp [maxLen])) ((h4.r.ext (Flat.mono _) hX).src h4.r.lens) (flat_one eI_one s.ready) (by omega) (by have := h4.r.len63; omega) rfl ?_
  clear H; intro v14 w17 hO14 hC18 hb14 hnil14; clear a; intro a H
  simp only [List.nil_append, Nat.zero_add] at hO14
  have hf_v14 : ∀ c ∈ blks v14, b11 ≤ c := fresh_of hb14 (by simp [blks]) (Nat.le_of_lt hB11.lt)
  have hn_v14_b1 : ∀ c ∈ blks v14, c ≠ b1 := fun c hc => by have := hf_v14 c hc; have := hlt_b1_b11; omega
  have hn_v14_b2 : ∀ c ∈ blks v14, c ≠ b2 := fun c hc => by have := hf_v14 c hc; have := hlt_b2_b11; omega
  have hn_v14_b3 : ∀ c ∈ blks v14, c ≠ b3 := fun c hc => by have := hf_v14 c hc; have := hlt_b3_b11; omega
  have hn_v14_v9 : ∀ c ∈ blks v14, c ∉ blks v9 := fun c hc hd => by have := hf_v14 c hc; have := hlt_v9_b11 c hd; omega
  have hn_v9_v14 : ∀ c ∈ blks v9, c ∉ blks v14 := fun c hc hd => hn_v14_v9 c hd hc
  have hlo_v14 : ∀ c ∈ blks v14, w.heap.size ≤ c := fun c hc => by have := hf_v14 c hc; omega
  replace hB1 := hC18.blk hB1 (by simp [blks] <;> omega)
  replace hB2 := hC18.blk hB2 (by simp [blks] <;> omega)
  replace hB3 := hC18.blk hB3 (by simp [blks] <;> omega)
  replace hO9 := hO9.chg hC18 (fun c hc hd => by simp [blks] at hd; (try exact hn_v9_b11 c hc hd))
  replace hX := Chg.below hX hC18 (Nat.le_refl _) (by simp [blks] <;> omega)
  refine n_q H (q_fieldAddr0 rfl fo29_4) rfl ?_
  clear H a; intro a H
  refine n_store1 H rfl rfl sz23 hB3 (by simp) (by first | rfl | exact h3.r.one | exact h4.r.one | exact h5.r.one | exact h6.r.one | exact h7.r.one | exact h8.r.one | exact h9.r.one | exact hO9.one | exact hO14.one | exact hO19.one | exact hO24.one | exact hO29.one | exact hO34.one | exact hO62.one) ?_
  clear H; intro w19 hB3N hC20 hz; clear a; intro a H
  replace hB3 := hB3N; clear hB3N
  simp only [List.set_cons_succ, List.set_cons_zero] at hB3
  clear hz
  replace hB1 := hC20.blk hB1 (by simp [blks] <;> omega)
  replace hB2 := hC20.blk hB2 (by simp [blks] <;> omega)
  replace hO9 := hO9.chg hC20 (fun c hc hd => by simp [blks] at hd; (try exact hn_v9_b3 c hc hd))
  replace hO14 := hO14.chg hC20 (fun c hc hd => by simp [blks] at hd; (try exact hn_v14_b3 c hc hd))
  replace hX := Chg.below hX hC20 (Nat.le_refl _) (by simp [blks] <;> omega)
  refine n_nil ?_
  refine then_normal ?_
  refine wp_seq ?_
  refine wp_region_lit ?_
  refine n_buildSlice H Try.underlying24 sz63 ze63 rfl rfl rfl (cs := []) (by kernel_rfl) rfl ?_
  clear H; intro b16 w21 hB16 hE22 hs_b16; clear a; intro a H
  have hn_b1_b16 : b1 ≠ b16 := by have := hB1.lt; omega
  have hn_b16_b1 := hn_b1_b16.symm
  have hlt_b1_b16 : b1 < b16 := by have := hB1.lt; omega
  have hn_b2_b16 : b2 ≠ b16 := by have := hB2.lt; omega
  have hn_b16_b2 := hn_b2_b16.symm
  have hlt_b2_b16 : b2 < b16 := by have := hB2.lt; omega
  have hn_b3_b16 : b3 ≠ b16 := by have := hB3.lt; omega
  have hn_b16_b3 := hn_b3_b16.symm
  have hlt_b3_b16 : b3 < b16 := by have := hB3.lt; omega
  have hw_b16 : w.heap.size ≤ b16 := by have := hX.size; omega
  have hlt_v9_b16 : ∀ c ∈ blks v9, c < b16 := fun c hc => by have := hO9.lt c hc; omega
  have hn_v9_b16 : ∀ c ∈ blks v9, c ≠ b16 := fun c hc => by have := hlt_v9_b16 c hc; omega
  have hlt_v14_b16 : ∀ c ∈ blks v14, c < b16 := fun c hc => by have := hO14.lt c hc; omega
  have hn_v14_b16 : ∀ c ∈ blks v14, c ≠ b16 := fun c hc => by have := hlt_v14_b16 c hc; omega
  replace hB1 := hB1.ext hE22
  replace hB2 := hB2.ext hE22
  replace hB3 := hB3.ext hE22
  replace hO9 := hO9.ext hE22
  replace hO14 := hO14.ext hE22
  replace hX := Ext.trans' hX hE22
  refine n_q H (q_fieldAddr0 rfl fo29_5) rfl ?_
  clear H a; intro a H
  refine n_q H (q_load rfl (hB1.ld ag24 rfl)) rfl ?_
  clear H a; intro a H
  refine n_append H rfl rfl Try.underlying24 Try.underlying24 (by simp) el63 (Own.ofBlk (n := 0) hB16 rfl (by simp [maxLen])) ((h5.r.ext (Flat.mono _) hX).src h5.r.lens) (flat_one eTimer_one s.timers) (by omega) (by have := h5.r.len63; omega) rfl ?_
  clear H; intro v19 w23 hO19 hC24 hb19 hnil19; clear a; intro a H
  simp only [List.nil_append, Nat.zero_add] at hO19
  have hf_v19 : ∀ c ∈ blks v19, b16 ≤ c := fresh_of hb19 (by simp [blks]) (Nat.le_of_lt hB16.lt)
  have hn_v19_b1 : ∀ c ∈ blks v19, c ≠ b1 := fun c hc => by have := hf_v19 c hc; have := hlt_b1_b16; omega
  have hn_v19_b2 : ∀ c ∈ blks v19, c ≠ b2 := fun c hc => by have := hf_v19 c hc; have := hlt_b2_b16; omega
  have hn_v19_b3 : ∀ c ∈ blks v19, c ≠ b3 := fun c hc => by have := hf_v19 c hc; have := hlt_b3_b16; omega
  have hn_v19_v9 : ∀ c ∈ blks v19, c ∉ blks v9 := fun c hc hd => by have := hf_v19 c hc; have := hlt_v9_b16 c hd; omega
  have hn_v9_v19 : ∀ c ∈ blks v9, c ∉ blks v19 := fun c hc hd => hn_v19_v9 c hd hc
  have hn_v19_v14 : ∀ c ∈ blks v19, c ∉ blks v14 := fun c hc hd => by have := hf_v19 c hc; have := hlt_v14_b16 c hd; omega
  have hn_v14_v19 : ∀ c ∈ blks v14, c ∉ blks v19 := fun c hc hd => hn_v19_v14 c hd hc
  have hlo_v19 : ∀ c ∈ blks v19, w.heap.size ≤ c := fun c hc => by have := hf_v19 c hc; omega
  replace hB1 := hC24.blk hB1 (by simp [blks] <;> omega)
  replace hB2 := hC24.blk hB2 (by simp [blks] <;> omega)
  replace hB3 := hC24.blk hB3 (by simp [blks] <;> omega)
  replace hO9 := hO9.chg hC24 (fun c hc hd => by simp [blks] at hd; (try exact hn_v9_b16 c hc hd))
  replace hO14 := hO14.chg hC24 (fun c hc hd => by simp [blks] at hd; (try exact hn_v14_b16 c hc hd))
  replace hX := Chg.below hX hC24 (Nat.le_refl _) (by simp [blks] <;> omega)
  refine n_q H (q_fieldAddr0 rfl fo29_5) rfl ?_
  clear H a; intro a H
  refine n_store1 H rfl rfl sz24 hB3 (by simp) (by first | rfl | exact h3.r.one | exact h4.r.one | exact h5.r.one | exact h6.r.one | exact h7.r.one | exact h8.r.one | exact h9.r.one | exact hO9.one | exact hO14.one | exact hO19.one | exact hO24.one | exact hO29.one | exact hO34.one | exact hO62.one) ?_
  clear H; intro w25 hB3N hC26 hz; clear a; intro a H
  replace hB3 := hB3N; clear hB3N
  simp only [List.set_cons_succ, List.set_cons_zero] at hB3
  clear hz
  replace hB1 := hC26.blk hB1 (by simp [blks] <;> omega)
  replace hB2 := hC26.blk hB2 (by simp [blks] <;> omega)
  replace hO9 := hO9.chg hC26 (fun c hc hd => by simp [blks] at hd; (try exact hn_v9_b3 c hc hd))
  replace hO14 := hO14.chg hC26 (fun c hc hd => by simp [blks] at hd; (try exact hn_v14_b3 c hc hd))
  replace hO19 := hO19.chg hC26 (fun c hc hd => by simp [blks] at hd; (try exact hn_v19_b3 c hc hd))
  replace hX := Chg.below hX hC26 (Nat.le_refl _) (by simp [blks] <;> omega)
  refine n_nil ?_
  refine then_normal ?_
  refine wp_seq ?_
  refine wp_region_lit ?_
  refine n_buildSlice H Try.underlying25 sz4 ze4 rfl rfl rfl (cs := []) (by kernel_rfl) rfl ?_
  clear H; intro b21 w27 hB21 hE28 hs_b21; clear a; intro a H
  have hn_b1_b21 : b1 ≠ b21 := by have := hB1.lt; omega
  have hn_b21_b1 := hn_b1_b21.symm
  have hlt_b1_b21 : b1 < b21 := by have := hB1.lt; omega
  have hn_b2_b21 : b2 ≠ b21 := by have := hB2.lt; omega
  have hn_b21_b2 := hn_b2_b21.symm
  have hlt_b2_b21 : b2 < b21 := by have := hB2.lt; omega
  have hn_b3_b21 : b3 ≠ b21 := by have := hB3.lt; omega
  have hn_b21_b3 := hn_b3_b21.symm
  have hlt_b3_b21 : b3 < b21 := by have := hB3.lt; omega
  have hw_b21 : w.heap.size ≤ b21 := by have := hX.size; omega
  have hlt_v9_b21 : ∀ c ∈ blks v9, c < b21 := fun c hc => by have := hO9.lt c hc; omega
  have hn_v9_b21 : ∀ c ∈ blks v9, c ≠ b21 := fun c hc => by have := hlt_v9_b21 c hc; omega
  have hlt_v14_b21 : ∀ c ∈ blks v14, c < b21 := fun c hc => by have := hO14.lt c hc; omega
  have hn_v14_b21 : ∀ c ∈ blks v14, c ≠ b21 := fun c hc => by have := hlt_v14_b21 c hc; omega
  have hlt_v19_b21 : ∀ c ∈ blks v19, c < b21 := fun c hc => by have := hO19.lt c hc; omega
  have hn_v19_b21 : ∀ c ∈ blks v19, c ≠ b21 := fun c hc => by have := hlt_v19_b21 c hc; omega
  replace hB1 := hB1.ext hE28
  replace hB2 := hB2.ext hE28
  replace hB3 := hB3.ext hE28
  replace hO9 := hO9.ext hE28
  replace hO14 := hO14.ext hE28
  replace hO19 := hO19.ext hE28
  replace hX := Ext.trans' hX hE28
  refine n_q H (q_fieldAddr0 rfl fo29_6) rfl ?_
  clear H a; intro a H
  refine n_q H (q_load rfl (hB1.ld ag25 rfl)) rfl ?_
  clear H a; intro a H
  refine n_append H rfl rfl Try.underlying25 Try.underlying25 (by simp) el4 (Own.ofBlk (n := 0) hB21 rfl (by simp [maxLen])) ((h6.r.ext (Flat.mono _) hX).src h6.r.lens) (flat_one eF_one s.up) (by omega) (by have := h6.r.len63; omega) rfl ?_
  clear H; intro v24 w29 hO24 hC30 hb24 hnil24; clear a; intro a H
  simp only [List.nil_append, Nat.zero_add] at hO24
  have hf_v24 : ∀ c ∈ blks v24, b21 ≤ c := fresh_of hb24 (by simp [blks]) (Nat.le_of_lt hB21.lt)
  have hn_v24_b1 : ∀ c ∈ blks v24, c ≠ b1 := fun c hc => by have := hf_v24 c hc; have := hlt_b1_b21; omega
  have hn_v24_b2 : ∀ c ∈ blks v24, c ≠ b2 := fun c hc => by have := hf_v24 c hc; have := hlt_b2_b21; omega
  have hn_v24_b3 : ∀ c ∈ blks v24, c ≠ b3 := fun c hc => by have := hf_v24 c hc; have := hlt_b3_b21; omega
  have hn_v24_v9 : ∀ c ∈ blks v24, c ∉ blks v9 := fun c hc hd => by have := hf_v24 c hc; have := hlt_v9_b21 c hd; omega
  have hn_v9_v24 : ∀ c ∈ blks v9, c ∉ blks v24 := fun c hc hd => hn_v24_v9 c hd hc
  have hn_v24_v14 : ∀ c ∈ blks v24, c ∉ blks v14 := fun c hc hd => by have := hf_v24 c hc; have := hlt_v14_b21 c hd; omega
  have hn_v14_v24 : ∀ c ∈ blks v14, c ∉ blks v24 := fun c hc hd => hn_v24_v14 c hd hc
  have hn_v24_v19 : ∀ c ∈ blks v24, c ∉ blks v19 := fun c hc hd => by have := hf_v24 c hc; have := hlt_v19_b21 c hd; omega
  have hn_v19_v24 : ∀ c ∈ blks v19, c ∉ blks v24 := fun c hc hd => hn_v24_v19 c hd hc
  have hlo_v24 : ∀ c ∈ blks v24, w.heap.size ≤ c := fun c hc => by have := hf_v24 c hc; omega
  replace hB1 := hC30.blk hB1 (by simp [blks] <;> omega)
  replace hB2 := hC30.blk hB2 (by simp [blks] <;> omega)
  replace hB3 := hC30.blk hB3 (by simp [blks] <;> omega)
  replace hO9 := hO9.chg hC30 (fun c hc hd => by simp [blks] at hd; (try exact hn_v9_b21 c hc hd))
  replace hO14 := hO14.chg hC30 (fun c hc hd => by simp [blks] at hd; (try exact hn_v14_b21 c hc hd))
  replace hO19 := hO19.chg hC30 (fun c hc hd => by simp [blks] at hd; (try exact hn_v19_b21 c hc hd))
  replace hX := Chg.below hX hC30 (Nat.le_refl _) (by simp [blks] <;> omega)
  refine n_q H (q_fieldAddr0 rfl fo29_6) rfl ?_
  clear H a; intro a H
  refine n_store1 H rfl rfl sz25 hB3 (by simp) (by first | rfl | exact h3.r.one | exact h4.r.one | exact h5.r.one | exact h6.r.one | exact h7.r.one | exact h8.r.one | exact h9.r.one | exact hO9.one | exact hO14.one | exact hO19.one | exact hO24.one | exact hO29.one | exact hO34.one | exact hO62.one) ?_
  clear H; intro w31 hB3N hC32 hz; clear a; intro a H
  replace hB3 := hB3N; clear hB3N
  simp only [List.set_cons_succ, List.set_cons_zero] at hB3
  clear hz
  replace hB1 := hC32.blk hB1 (by simp [blks] <;> omega)
  replace hB2 := hC32.blk hB2 (by simp [blks] <;> omega)
  replace hO9 := hO9.chg hC32 (fun c hc hd => by simp [blks] at hd; (try exact hn_v9_b3 c hc hd))
  replace hO14 := hO14.chg hC32 (fun c hc hd => by simp [blks] at hd; (try exact hn_v14_b3 c hc hd))
  replace hO19 := hO19.chg hC32 (fun c hc hd => by simp [blks] at hd; (try exact hn_v19_b3 c hc hd))
  replace hO24 := hO24.chg hC32 (fun c hc hd => by simp [blks] at hd; (try exact hn_v24_b3 c hc hd))
  replace hX := Chg.below hX hC32 (Nat.le_refl _) (by simp [blks] <;> omega)
  refine n_nil ?_
  refine then_normal ?_
  refine wp_seq ?_
  refine wp_region_lit ?_
  refine n_buildSlice H Try.underlying23 sz3 ze3 rfl rfl rfl (cs := []) (by kernel_rfl) rfl ?_
  clear H; intro b26 w33 hB26 hE34 hs_b26; clear a; intro a H
  have hn_b1_b26 : b1 ≠ b26 := by have := hB1.lt; omega
  have hn_b26_b1 := hn_b1_b26.symm
  have hlt_b1_b26 : b1 < b26 := by have := hB1.lt; omega
  have hn_b2_b26 : b2 ≠ b26 := by have := hB2.lt; omega
  have hn_b26_b2 := hn_b2_b26.symm
  have hlt_b2_b26 : b2 < b26 := by have := hB2.lt; omega
  have hn_b3_b26 : b3 ≠ b26 := by have := hB3.lt; omega
  have hn_b26_b3 := hn_b3_b26.symm
  have hlt_b3_b26 : b3 < b26 := by have := hB3.lt; omega
  have hw_b26 : w.heap.size ≤ b26 := by have := hX.size; omega
  have hlt_v9_b26 : ∀ c ∈ blks v9, c < b26 := fun c hc => by have := hO9.lt c hc; omega
  have hn_v9_b26 : ∀ c ∈ blks v9, c ≠ b26 := fun c hc => by have := hlt_v9_b26 c hc; omega
  have hlt_v14_b26 : ∀ c ∈ blks v14, c < b26 := fun c hc => by have := hO14.lt c hc; omega
  have hn_v14_b26 : ∀ c ∈ blks v14, c ≠ b26 := fun c hc => by have := hlt_v14_b26 c hc; omega
  have hlt_v19_b26 : ∀ c ∈ blks v19, c < b26 := fun c hc => by have := hO19.lt c hc; omega
  have hn_v19_b26 : ∀ c ∈ blks v19, c ≠ b26 := fun c hc => by have := hlt_v19_b26 c hc; omega
  have hlt_v24_b26 : ∀ c ∈ blks v24, c < b26 := fun c hc => by have := hO24.lt c hc; omega
  have hn_v24_b26 : ∀ c ∈ blks v24, c ≠ b26 := fun c hc => by have := hlt_v24_b26 c hc; omega
  replace hB1 := hB1.ext hE34
  replace hB2 := hB2.ext hE34
  replace hB3 := hB3.ext hE34
  replace hO9 := hO9.ext hE34
  replace hO14 := hO14.ext hE34
  replace hO19 := hO19.ext hE34
  replace hO24 := hO24.ext hE34
  replace hX := Ext.trans' hX hE34
  refine n_q H (q_fieldAddr0 rfl fo29_7) rfl ?_
  clear H a; intro a H
  refine n_q H (q_load rfl (hB1.ld ag23 rfl)) rfl ?_
  clear H a; intro a H
  refine n_append H rfl rfl Try.underlying23 Try.underlying23 (by simp) el3 (Own.ofBlk (n := 0) hB26 rfl (by simp [maxLen])) ((h7.r.ext (Flat.mono _) hX).src h7.r.lens) (flat_one eI_one s.sems) (by omega) (by have := h7.r.len63; omega) rfl ?_
  clear H; intro v29 w35 hO29 hC36 hb29 hnil29; clear a; intro a H
  simp only [List.nil_append, Nat.zero_add] at hO29
  have hf_v29 : ∀ c ∈ blks v29, b26 ≤ c := fresh_of hb29 (by simp [blks]) (Nat.le_of_lt hB26.lt)
  have hn_v29_b1 : ∀ c ∈ blks v29, c ≠ b1 := fun c hc => by have := hf_v29 c hc; have := hlt_b1_b26; omega
  have hn_v29_b2 : ∀ c ∈ blks v29, c ≠ b2 := fun c hc => by have := hf_v29 c hc; have := hlt_b2_b26; omega
  have hn_v29_b3 : ∀ c ∈ blks v29, c ≠ b3 := fun c hc => by have := hf_v29 c hc; have := hlt_b3_b26; omega
  have hn_v29_v9 : ∀ c ∈ blks v29, c ∉ blks v9 := fun c hc hd => by have := hf_v29 c hc; have := hlt_v9_b26 c hd; omega
  have hn_v9_v29 : ∀ c ∈ blks v9, c ∉ blks v29 := fun c hc hd => hn_v29_v9 c hd hc
  have hn_v29_v14 : ∀ c ∈ blks v29, c ∉ blks v14 := fun c hc hd => by have := hf_v29 c hc; have := hlt_v14_b26 c hd; omega
  have hn_v14_v29 : ∀ c ∈ blks v14, c ∉ blks v29 := fun c hc hd => hn_v29_v14 c hd hc
  have hn_v29_v19 : ∀ c ∈ blks v29, c ∉ blks v19 := fun c hc hd => by have := hf_v29 c hc; have := hlt_v19_b26 c hd; omega
  have hn_v19_v29 : ∀ c ∈ blks v19, c ∉ blks v29 := fun c hc hd => hn_v29_v19 c hd hc
  have hn_v29_v24 : ∀ c ∈ blks v29, c ∉ blks v24 := fun c hc hd => by have := hf_v29 c hc; have := hlt_v24_b26 c hd; omega
  have hn_v24_v29 : ∀ c ∈ blks v24, c ∉ blks v29 := fun c hc hd => hn_v29_v24 c hd hc
  have hlo_v29 : ∀ c ∈ blks v29, w.heap.size ≤ c := fun c hc => by have := hf_v29 c hc; omega
  replace hB1 := hC36.blk hB1 (by simp [blks] <;> omega)
  replace hB2 := hC36.blk hB2 (by simp [blks] <;> omega)
  replace hB3 := hC36.blk hB3 (by simp [blks] <;> omega)
  replace hO9 := hO9.chg hC36 (fun c hc hd => by simp [blks] at hd; (try exact hn_v9_b26 c hc hd))
  replace hO14 := hO14.chg hC36 (fun c hc hd => by simp [blks] at hd; (try exact hn_v14_b26 c hc hd))
  replace hO19 := hO19.chg hC36 (fun c hc hd => by simp [blks] at hd; (try exact hn_v19_b26 c hc hd))
  replace hO24 := hO24.chg hC36 (fun c hc hd => by simp [blks] at hd; (try exact hn_v24_b26 c hc hd))
  replace hX := Chg.below hX hC36 (Nat.le_refl _) (by simp [blks] <;> omega)
  refine n_q H (q_fieldAddr0 rfl fo29_7) rfl ?_
  clear H a; intro a H
  refine n_store1 H rfl rfl sz23 hB3 (by simp) (by first | rfl | exact h3.r.one | exact h4.r.one | exact h5.r.one | exact h6.r.one | exact h7.r.one | exact h8.r.one | exact h9.r.one | exact hO9.one | exact hO14.one | exact hO19.one | exact hO24.one | exact hO29.one | exact hO34.one | exact hO62.one) ?_
  clear H; intro w37 hB3N hC38 hz; clear a; intro a H
  replace hB3 := hB3N; clear hB3N
  simp only [List.set_cons_succ, List.set_cons_zero] at hB3
  clear hz
  replace hB1 := hC38.blk hB1 (by simp [blks] <;> omega)
  replace hB2 := hC38.blk hB2 (by simp [blks] <;> omega)
  replace hO9 := hO9.chg hC38 (fun c hc hd => by simp [blks] at hd; (try exact hn_v9_b3 c hc hd))
  replace hO14 := hO14.chg hC38 (fun c hc hd => by simp [blks] at hd; (try exact hn_v14_b3 c hc hd))
  replace hO19 := hO19.chg hC38 (fun c hc hd => by simp [blks] at hd; (try exact hn_v19_b3 c hc hd))
  replace hO24 := hO24.chg hC38 (fun c hc hd => by simp [blks] at hd; (try exact hn_v24_b3 c hc hd))
  replace hO29 := hO29.chg hC38 (fun c hc hd => by simp [blks] at hd; (try exact hn_v29_b3 c hc hd))
  replace hX := Chg.below hX hC38 (Nat.le_refl _) (by simp [blks] <;> omega)
  refine n_nil ?_
  refine then_normal ?_
  refine wp_seq ?_
  refine wp_region_lit ?_
  refine n_buildSlice H Try.underlying27 sz40 ze40 rfl rfl rfl (cs := []) (by kernel_rfl) rfl ?_
  clear H; intro b31 w39 hB31 hE40 hs_b31; clear a; intro a H
  have hn_b1_b31 : b1 ≠ b31 := by have := hB1.lt; omega
  have hn_b31_b1 := hn_b1_b31.symm
  have hlt_b1_b31 : b1 < b31 := by have := hB1.lt; omega
  have hn_b2_b31 : b2 ≠ b31 := by have := hB2.lt; omega
  have hn_b31_b2 := hn_b2_b31.symm
  have hlt_b2_b31 : b2 < b31 := by have := hB2.lt; omega
  have hn_b3_b31 : b3 ≠ b31 := by have := hB3.lt; omega
  have hn_b31_b3 := hn_b3_b31.symm
  have hlt_b3_b31 : b3 < b31 := by have := hB3.lt; omega
  have hw_b31 : w.heap.size ≤ b31 := by have := hX.size; omega
  have hlt_v9_b31 : ∀ c ∈ blks v9, c < b31 := fun c hc => by have := hO9.lt c hc; omega
  have hn_v9_b31 : ∀ c ∈ blks v9, c ≠ b31 := fun c hc => by have := hlt_v9_b31 c hc; omega
  have hlt_v14_b31 : ∀ c ∈ blks v14, c < b31 := fun c hc => by have := hO14.lt c hc; omega
  have hn_v14_b31 : ∀ c ∈ blks v14, c ≠ b31 := fun c hc => by have := hlt_v14_b31 c hc; omega
  have hlt_v19_b31 : ∀ c ∈ blks v19, c < b31 := fun c hc => by have := hO19.lt c hc; omega
  have hn_v19_b31 : ∀ c ∈ blks v19, c ≠ b31 := fun c hc => by have := hlt_v19_b31 c hc; omega
  have hlt_v24_b31 : ∀ c ∈ blks v24, c < b31 := fun c hc => by have := hO24.lt c hc; omega
  have hn_v24_b31 : ∀ c ∈ blks v24, c ≠ b31 := fun c hc => by have := hlt_v24_b31 c hc; omega
  have hlt_v29_b31 : ∀ c ∈ blks v29, c < b31 := fun c hc => by have := hO29.lt c hc; omega
  have hn_v29_b31 : ∀ c ∈ blks v29, c ≠ b31 := fun c hc => by have := hlt_v29_b31 c hc; omega
  replace hB1 := hB1.ext hE40
  replace hB2 := hB2.ext hE40
  replace hB3 := hB3.ext hE40
  replace hO9 := hO9.ext hE40
  replace hO14 := hO14.ext hE40
  replace hO19 := hO19.ext hE40
  replace hO24 := hO24.ext hE40
  replace hO29 := hO29.ext hE40
  replace hX := Ext.trans' hX hE40
  refine n_q H (q_fieldAddr0 rfl fo29_9) rfl ?_
  clear H a; intro a H
  refine n_q H (q_load rfl (hB1.ld ag27 rfl)) rfl ?_
  clear H a; intro a H
  refine n_append H rfl rfl Try.underlying27 Try.underlying27 (by simp) el40 (Own.ofBlk (n := 0) hB31 rfl (by simp [maxLen])) ((h9.r.ext (Flat.mono _) hX).src h9.r.lens) (flat_one ePage_one' s.pages) (by omega) (by have := h9.r.len63; omega) rfl ?_
  clear H; intro v34 w41 hO34 hC42 hb34 hnil34; clear a; intro a H
  simp only [List.nil_append, Nat.zero_add] at hO34
  have hf_v34 : ∀ c ∈ blks v34, b31 ≤ c := fresh_of hb34 (by simp [blks]) (Nat.le_of_lt hB31.lt)
  have hn_v34_b1 : ∀ c ∈ blks v34, c ≠ b1 := fun c hc => by have := hf_v34 c hc; have := hlt_b1_b31; omega
  have hn_v34_b2 : ∀ c ∈ blks v34, c ≠ b2 := fun c hc => by have := hf_v34 c hc; have := hlt_b2_b31; omega
  have hn_v34_b3 : ∀ c ∈ blks v34, c ≠ b3 := fun c hc => by have := hf_v34 c hc; have := hlt_b3_b31; omega
  have hn_v34_v9 : ∀ c ∈ blks v34, c ∉ blks v9 := fun c hc hd => by have := hf_v34 c hc; have := hlt_v9_b31 c hd; omega
  have hn_v9_v34 : ∀ c ∈ blks v9, c ∉ blks v34 := fun c hc hd => hn_v34_v9 c hd hc
  have hn_v34_v14 : ∀ c ∈ blks v34, c ∉ blks v14 := fun c hc hd => by have := hf_v34 c hc; have := hlt_v14_b31 c hd; omega
  have hn_v14_v34 : ∀ c ∈ blks v14, c ∉ blks v34 := fun c hc hd => hn_v34_v14 c hd hc
  have hn_v34_v19 : ∀ c ∈ blks v34, c ∉ blks v19 := fun c hc hd => by have := hf_v34 c hc; have := hlt_v19_b31 c hd; omega
  have hn_v19_v34 : ∀ c ∈ blks v19, c ∉ blks v34 := fun c hc hd => hn_v34_v19 c hd hc
  have hn_v34_v24 : ∀ c ∈ blks v34, c ∉ blks v24 := fun c hc hd => by have := hf_v34 c hc; have := hlt_v24_b31 c hd; omega
  have hn_v24_v34 : ∀ c ∈ blks v24, c ∉ blks v34 := fun c hc hd => hn_v34_v24 c hd hc
  have hn_v34_v29 : ∀ c ∈ blks v34, c ∉ blks v29 := fun c hc hd => by have := hf_v34 c hc; have := hlt_v29_b31 c hd; omega
  have hn_v29_v34 : ∀ c ∈ blks v29, c ∉ blks v34 := fun c hc hd => hn_v34_v29 c hd hc
  have hlo_v34 : ∀ c ∈ blks v34, w.heap.size ≤ c := fun c hc => by have := hf_v34 c hc; omega
  replace hB1 := hC42.blk hB1 (by simp [blks] <;> omega)
  replace hB2 := hC42.blk hB2 (by simp [blks] <;> omega)
  replace hB3 := hC42.blk hB3 (by simp [blks] <;> omega)
  replace hO9 := hO9.chg hC42 (fun c hc hd => by simp [blks] at hd; (try exact hn_v9_b31 c hc hd))
  replace hO14 := hO14.chg hC42 (fun c hc hd => by simp [blks] at hd; (try exact hn_v14_b31 c hc hd))
  replace hO19 := hO19.chg hC42 (fun c hc hd => by simp [blks] at hd; (try exact hn_v19_b31 c hc hd))
  replace hO24 := hO24.chg hC42 (fun c hc hd => by simp [blks] at hd; (try exact hn_v24_b31 c hc hd))
  replace hO29 := hO29.chg hC42 (fun c hc hd => by simp [blks] at hd; (try exact hn_v29_b31 c hc hd))
  replace hX := Chg.below hX hC42 (Nat.le_refl _) (by simp [blks] <;> omega)
  refine n_q H (q_fieldAddr0 rfl fo29_9) rfl ?_
  clear H a; intro a H
  refine n_store1 H rfl rfl sz27 hB3 (by simp) (by first | rfl | exact h3.r.one | exact h4.r.one | exact h5.r.one | exact h6.r.one | exact h7.r.one | exact h8.r.one | exact h9.r.one | exact hO9.one | exact hO14.one | exact hO19.one | exact hO24.one | exact hO29.one | exact hO34.one | exact hO62.one) ?_
  clear H; intro w43 hB3N hC44 hz; clear a; intro a H
  replace hB3 := hB3N; clear hB3N
  simp only [List.set_cons_succ, List.set_cons_zero] at hB3
  clear hz
  replace hB1 := hC44.blk hB1 (by simp [blks] <;> omega)
  replace hB2 := hC44.blk hB2 (by simp [blks] <;> omega)
  replace hO9 := hO9.chg hC44 (fun c hc hd => by simp [blks] at hd; (try exact hn_v9_b3 c hc hd))
  replace hO14 := hO14.chg hC44 (fun c hc hd => by simp [blks] at hd; (try exact hn_v14_b3 c hc hd))
  replace hO19 := hO19.chg hC44 (fun c hc hd => by simp [blks] at hd; (try exact hn_v19_b3 c hc hd))
  replace hO24 := hO24.chg hC44 (fun c hc hd => by simp [blks] at hd; (try exact hn_v24_b3 c hc hd))
  replace hO29 := hO29.chg hC44 (fun c hc hd => by simp [blks] at hd; (try exact hn_v29_b3 c hc hd))
  replace hO34 := hO34.chg hC44 (fun c hc hd => by simp [blks] at hd; (try exact hn_v34_b3 c hc hd))
  replace hX := Chg.below hX hC44 (Nat.le_refl _) (by simp [blks] <;> omega)
  refine n_nil ?_
  refine then_normal ?_
  refine wp_seq ?_
  refine wp_region_lit ?_
  refine n_q H (q_fieldAddr0 rfl fo29_8) rfl ?_
  clear H a; intro a H
  refine n_store1 H rfl rfl sz26 hB3 (by simp) (by first | rfl | exact h3.r.one | exact h4.r.one | exact h5.r.one | exact h6.r.one | exact h7.r.one | exact h8.r.one | exact h9.r.one | exact hO9.one | exact hO14.one | exact hO19.one | exact hO24.one | exact hO29.one | exact hO34.one | exact hO62.one) ?_
  clear H; intro w45 hB3N hC46 hz; clear a; intro a H
  replace hB3 := hB3N; clear hB3N
  simp only [List.set_cons_succ, List.set_cons_zero] at hB3
  clear hz
  replace hB1 := hC46.blk hB1 (by simp [blks] <;> omega)
  replace hB2 := hC46.blk hB2 (by simp [blks] <;> omega)
  replace hO9 := hO9.chg hC46 (fun c hc hd => by simp [blks] at hd; (try exact hn_v9_b3 c hc hd))
  replace hO14 := hO14.chg hC46 (fun c hc hd => by simp [blks] at hd; (try exact hn_v14_b3 c hc hd))
  replace hO19 := hO19.chg hC46 (fun c hc hd => by simp [blks] at hd; (try exact hn_v19_b3 c hc hd))
  replace hO24 := hO24.chg hC46 (fun c hc hd => by simp [blks] at hd; (try exact hn_v24_b3 c hc hd))
  replace hO29 := hO29.chg hC46 (fun c hc hd => by simp [blks] at hd; (try exact hn_v29_b3 c hc hd))
  replace hO34 := hO34.chg hC46 (fun c hc hd => by simp [blks] at hd; (try exact hn_v34_b3 c hc hd))
  replace hX := Chg.below hX hC46 (Nat.le_refl _) (by simp [blks] <;> omega)
  refine n_nil ?_
  refine then_normal ?_
  refine wp_seq ?_
  refine wp_seq ?_
  refine wp_region_lit ?_
  refine n_q H (q_assign rfl) rfl ?_
  clear H a; intro a H
  refine n_nil ?_
  refine then_normal ?_
  refine wp_block ?_
  have ht_b1 := hB1.lt
  have ht_b2 := hB2.lt
  have ht_b3 := hB3.lt
  have ht_v9 := hO9.lt
  have ht_v14 := hO14.lt
  have ht_v19 := hO19.lt
  have ht_v24 := hO24.lt
  have ht_v29 := hO29.lt
  have ht_v34 := hO34.lt
  have ht0 := hX.size
  refine c_loop (σ := Nat) (fun i => [(1, .pointer (some ⟨b1, 0, none⟩)), (2, .pointer (some ⟨b2, 0, none⟩)), (3, .pointer (some ⟨b3, 0, none⟩)), (4, .int .i64 (i : Nat))]) (fun i wl => i ≤ s.ports.length ∧ (∃ (vp : Value) (qs : List Value) (fp : Nat → Prop), Blk wl b3 [.int .i64 s.id, .int .i64 s.frame, .int .i64 s.epoch, v9, v14, v19, v24, v29, vp, v34] 29 ∧ Own wl 55 2 vp i (portCells qs (s.ports.take i)) ∧ Foot (fun w' => PortsIn w' qs (s.ports.take i)) fp wl ∧ (∀ b, fp b → b ∉ blks vp ∧ b ≠ b3 ∧ b ≠ b2 ∧ b ∉ blks v34) ∧ (∀ c ∈ blks vp, w45.heap.size ≤ c)) ∧ Chg [b3] w45 wl) (fun i => s.ports.length - i) 0 H ⟨rfl, rfl, rfl, rfl, trivial⟩ ⟨Nat.zero_le _, ⟨.slice none 0 0, [], fun _ => False, hB3, Own.nil _ _ _, ⟨fun _ hf => hf.elim, fun _ _ => trivial⟩, fun _ hf => hf.elim, by simp [blks]⟩, Chg.refl _ _⟩ ?_
  clear H; clear a; intro i a w47 H hR
  simp only [ent, List.map_cons, List.map_nil] at H
  try dsimp only at hR
  obtain ⟨hi, ⟨vp, qs, fp, hB3, hOp, hF, hfp, hvlo⟩, hE48⟩ := hR
  replace hB1 := hE48.blk hB1 (by simp [blks] <;> omega)
  replace hB2 := hE48.blk hB2 (by simp [blks] <;> omega)
  replace hO9 := hO9.chg hE48 (fun c hc hd => by simp [blks] at hd; (try exact hn_v9_b3 c hc hd))
  replace hO14 := hO14.chg hE48 (fun c hc hd => by simp [blks] at hd; (try exact hn_v14_b3 c hc hd))
  replace hO19 := hO19.chg hE48 (fun c hc hd => by simp [blks] at hd; (try exact hn_v19_b3 c hc hd))
  replace hO24 := hO24.chg hE48 (fun c hc hd => by simp [blks] at hd; (try exact hn_v24_b3 c hc hd))
  replace hO29 := hO29.chg hE48 (fun c hc hd => by simp [blks] at hd; (try exact hn_v29_b3 c hc hd))
  replace hO34 := hO34.chg hE48 (fun c hc hd => by simp [blks] at hd; (try exact hn_v34_b3 c hc hd))
  replace hX := Chg.below hX hE48 (Nat.le_refl _) (by simp [blks] <;> omega)
  have hY49 := hE48
  have hn_vp_b1 : ∀ c ∈ blks vp, c ≠ b1 := fun c hc => by have := hvlo c hc; omega
  have hn_vp_b2 : ∀ c ∈ blks vp, c ≠ b2 := fun c hc => by have := hvlo c hc; omega
  have hn_vp_b3 : ∀ c ∈ blks vp, c ≠ b3 := fun c hc => by have := hvlo c hc; omega
  have hn_vp_v9 : ∀ c ∈ blks vp, c ∉ blks v9 := fun c hc hd => by have := hvlo c hc; have := ht_v9 c hd; omega
  have hn_vp_v14 : ∀ c ∈ blks vp, c ∉ blks v14 := fun c hc hd => by have := hvlo c hc; have := ht_v14 c hd; omega
  have hn_vp_v19 : ∀ c ∈ blks vp, c ∉ blks v19 := fun c hc hd => by have := hvlo c hc; have := ht_v19 c hd; omega
  have hn_vp_v24 : ∀ c ∈ blks vp, c ∉ blks v24 := fun c hc hd => by have := hvlo c hc; have := ht_v24 c hd; omega
  have hn_vp_v29 : ∀ c ∈ blks vp, c ∉ blks v29 := fun c hc hd => by have := hvlo c hc; have := ht_v29 c hd; omega
  have hn_vp_v34 : ∀ c ∈ blks vp, c ∉ blks v34 := fun c hc hd => by have := hvlo c hc; have := ht_v34 c hd; omega
  have hn_v9_vp : ∀ c ∈ blks v9, c ∉ blks vp := fun c hc hd => hn_vp_v9 c hd hc
  have hn_v14_vp : ∀ c ∈ blks v14, c ∉ blks vp := fun c hc hd => hn_vp_v14 c hd hc
  have hn_v19_vp : ∀ c ∈ blks v19, c ∉ blks vp := fun c hc hd => hn_vp_v19 c hd hc
  have hn_v24_vp : ∀ c ∈ blks v24, c ∉ blks vp := fun c hc hd => hn_vp_v24 c hd hc
  have hn_v29_vp : ∀ c ∈ blks v29, c ∉ blks vp := fun c hc hd => hn_vp_v29 c hd hc
  have hn_v34_vp : ∀ c ∈ blks v34, c ∉ blks vp := fun c hc hd => hn_vp_v34 c hd hc
  have hlo_vp : ∀ c ∈ blks vp, w.heap.size ≤ c := fun c hc => by have := hvlo c hc; omega
  refine wp_seq ?_
  refine wp_seq ?_
  refine wp_region_lit ?_
  refine n_q H (q_move rfl) rfl ?_
  clear H a; intro a H
  refine n_q H (q_fieldAddr0 rfl fo29_8) rfl ?_
  clear H a; intro a H
  refine n_q H (q_load rfl (hB1.ld ag26 rfl)) rfl ?_
  clear H a; intro a H
  refine n_q H (q_lenSl (A := A8) (n := s.ports.length) (c := c8) Try.underlying26 rfl) rfl ?_
  clear H a; intro a H
  refine n_q H (q_lss rfl rfl) rfl ?_
  clear H a; intro a H
  refine n_nil ?_
  refine then_normal ?_
  refine c_cond H rfl (fun hc41 => ?_) (fun hc41 => ?_)
  · (try simp only [decide_eq_true_eq, decide_eq_false_iff_not, Bool.and_eq_true, Bool.or_eq_true, Bool.and_eq_false_iff, Bool.or_eq_false_iff, beq_iff_eq, bne_iff_ne, beq_eq_false_iff_ne, bne_eq_false_iff_eq, ne_eq, Bool.not_eq_true', Bool.not_eq_false', Int.not_lt, Int.not_le, Bool.not_eq_true, Bool.not_eq_false] at hc41)
    have hi1 : i < s.ports.length := by omega
    obtain ⟨p, hp⟩ := h8.r.at hi1
    obtain ⟨a8, rfl⟩ := h8.r.addr hi1
    obtain ⟨cs1, hcl1, ⟨m1, rfl, hm1s⟩, hc1⟩ := h8.r.el hp
    have hRr := Ext.rfl' (w := w47)
    refine wp_skip ?_
    refine then_normal ?_
    refine wp_seq ?_
    refine wp_block ?_
    refine c_ord (blks vp) 20 (by kernel_rfl) ?_
    obtain ⟨w50, hw50⟩ : ∃ x, x = w47.drew := ⟨_, rfl⟩
    rw [← hw50]
    have hE51 : Ext w47 w50 := by rw [hw50]; exact Ext.drew' _
    clear hw50
    replace hB1 := hB1.ext hE51
    replace hB2 := hB2.ext hE51
    replace hB3 := hB3.ext hE51
    replace hO9 := hO9.ext hE51
    replace hO14 := hO14.ext hE51
    replace hO19 := hO19.ext hE51
    replace hO24 := hO24.ext hE51
    replace hO29 := hO29.ext hE51
    replace hO34 := hO34.ext hE51
    replace hOp := hOp.ext hE51
    replace hX := Ext.trans' hX hE51
    replace hY49 := Chg.trans hY49 (Chg.of_ext hE51)
    replace hRr := Ext.trans' hRr hE51
    have hh_b1 := hB1.lt
    have hh_b2 := hB2.lt
    have hh_b3 := hB3.lt
    have hh0 := hX.size
    refine k_take 0 H rfl (q_fieldAddr0 rfl fo29_8) rfl (by kernel_rfl) (by kernel_rfl) (by kernel_rfl) (by kernel_rfl) (fun _ _ _ h => h) ?_
    clear H a; intro a H
    refine k_take 1 H rfl (q_load rfl (hB3.ldB hh_b3 (fun hd => hn_vp_b3 _ hd rfl) ag26 rfl)) rfl (by kernel_rfl) (by kernel_rfl) (by kernel_rfl) (by kernel_rfl) (fun _ _ _ h => h) ?_
    clear H a; intro a H
    refine k_take 3 H rfl (q_fieldAddr0 rfl fo29_8) rfl (by kernel_rfl) (by kernel_rfl) (by kernel_rfl) (by kernel_rfl) (fun _ _ _ h => h) ?_
    clear H a; intro a H
    refine k_take 4 H rfl (q_load rfl (hB1.ldB hh_b1 (fun hd => hn_vp_b1 _ hd rfl) ag26 rfl)) rfl (by kernel_rfl) (by kernel_rfl) (by kernel_rfl) (by kernel_rfl) (fun _ _ _ h => h) ?_
    clear H a; intro a H
    refine k_take 5 H rfl (q_move rfl) rfl (by kernel_rfl) (by kernel_rfl) (by kernel_rfl) (by kernel_rfl) (fun _ _ _ h => h) ?_
    clear H a; intro a H
    refine k_take 6 H rfl (q_indexAddr Try.underlying26 sz55 rfl rfl (by omega) (by omega)) rfl (by kernel_rfl) (by kernel_rfl) (by kernel_rfl) (by kernel_rfl) (fun _ _ _ h => h) ?_
    clear H a; intro a H
    refine k_take 7 H rfl (q_fieldAddr rfl fo55_0) rfl (by kernel_rfl) (by kernel_rfl) (by kernel_rfl) (by kernel_rfl) (fun _ _ _ h => h) ?_
    clear H a; intro a H
    refine k_take 8 H rfl (q_load rfl (LdC.old (ldElC (j := 0) ag53 hc1 rfl) hX hh0 hlo_vp)) rfl (by kernel_rfl) (by kernel_rfl) (by kernel_rfl) (by kernel_rfl) (fun _ _ _ h => h) ?_
    clear H a; intro a H
    refine k_take 10 H rfl (q_fieldAddr0 rfl fo29_8) rfl (by kernel_rfl) (by kernel_rfl) (by kernel_rfl) (by kernel_rfl) (fun _ _ _ h => h) ?_
    clear H a; intro a H
    refine k_take 11 H rfl (q_load rfl (hB1.ldB hh_b1 (fun hd => hn_vp_b1 _ hd rfl) ag26 rfl)) rfl (by kernel_rfl) (by kernel_rfl) (by kernel_rfl) (by kernel_rfl) (fun _ _ _ h => h) ?_
    clear H a; intro a H
    refine k_take 12 H rfl (q_move rfl) rfl (by kernel_rfl) (by kernel_rfl) (by kernel_rfl) (by kernel_rfl) (fun _ _ _ h => h) ?_
    clear H a; intro a H
    refine k_take 13 H rfl (q_indexAddr Try.underlying26 sz55 rfl rfl (by omega) (by omega)) rfl (by kernel_rfl) (by kernel_rfl) (by kernel_rfl) (by kernel_rfl) (fun _ _ _ h => h) ?_
    clear H a; intro a H
    refine k_take 14 H rfl (q_fieldAddr rfl fo55_1) rfl (by kernel_rfl) (by kernel_rfl) (by kernel_rfl) (by kernel_rfl) (fun _ _ _ h => h) ?_
    clear H a; intro a H
    refine k_take 15 H rfl (q_load rfl (LdC.old (ldElC (j := 1) ag3 hc1 rfl) hX hh0 hlo_vp)) rfl (by kernel_rfl) (by kernel_rfl) (by kernel_rfl) (by kernel_rfl) (fun _ _ _ h => h) ?_
    clear H a; intro a H
    refine k_buildSlice 2 H rfl Try.underlying53 sz9 ze9 rfl rfl rfl (cs := []) (by kernel_rfl) rfl (by kernel_rfl) ?_
    clear H; intro b46 w52 hB46 hE53 hs_b46; clear a; intro a H
    have hn_b1_b46 : b1 ≠ b46 := by have := hB1.lt; omega
    have hn_b46_b1 := hn_b1_b46.symm
    have hlt_b1_b46 : b1 < b46 := by have := hB1.lt; omega
    have hn_b2_b46 : b2 ≠ b46 := by have := hB2.lt; omega
    have hn_b46_b2 := hn_b2_b46.symm
    have hlt_b2_b46 : b2 < b46 := by have := hB2.lt; omega
    have hn_b3_b46 : b3 ≠ b46 := by have := hB3.lt; omega
    have hn_b46_b3 := hn_b3_b46.symm
    have hlt_b3_b46 : b3 < b46 := by have := hB3.lt; omega
    have hw_b46 : w.heap.size ≤ b46 := by have := hX.size; omega
    have hlt_v9_b46 : ∀ c ∈ blks v9, c < b46 := fun c hc => by have := hO9.lt c hc; omega
    have hn_v9_b46 : ∀ c ∈ blks v9, c ≠ b46 := fun c hc => by have := hlt_v9_b46 c hc; omega
    have hlt_v14_b46 : ∀ c ∈ blks v14, c < b46 := fun c hc => by have := hO14.lt c hc; omega
    have hn_v14_b46 : ∀ c ∈ blks v14, c ≠ b46 := fun c hc => by have := hlt_v14_b46 c hc; omega
    have hlt_v19_b46 : ∀ c ∈ blks v19, c < b46 := fun c hc => by have := hO19.lt c hc; omega
    have hn_v19_b46 : ∀ c ∈ blks v19, c ≠ b46 := fun c hc => by have := hlt_v19_b46 c hc; omega
    have hlt_v24_b46 : ∀ c ∈ blks v24, c < b46 := fun c hc => by have := hO24.lt c hc; omega
    have hn_v24_b46 : ∀ c ∈ blks v24, c ≠ b46 := fun c hc => by have := hlt_v24_b46 c hc; omega
    have hlt_v29_b46 : ∀ c ∈ blks v29, c < b46 := fun c hc => by have := hO29.lt c hc; omega
    have hn_v29_b46 : ∀ c ∈ blks v29, c ≠ b46 := fun c hc => by have := hlt_v29_b46 c hc; omega
    have hlt_v34_b46 : ∀ c ∈ blks v34, c < b46 := fun c hc => by have := hO34.lt c hc; omega
    have hn_v34_b46 : ∀ c ∈ blks v34, c ≠ b46 := fun c hc => by have := hlt_v34_b46 c hc; omega
    have hlt_vp_b46 : ∀ c ∈ blks vp, c < b46 := fun c hc => by have := hOp.lt c hc; omega
    have hn_vp_b46 : ∀ c ∈ blks vp, c ≠ b46 := fun c hc => by have := hlt_vp_b46 c hc; omega
    have hq_hY49_b46 : w45.heap.size ≤ b46 := by have := hY49.size; omega
    have hq_hRr_b46 : w47.heap.size ≤ b46 := by have := hRr.size; omega
    replace hB1 := hB1.ext hE53
    replace hB2 := hB2.ext hE53
    replace hB3 := hB3.ext hE53
    replace hO9 := hO9.ext hE53
    replace hO14 := hO14.ext hE53
    replace hO19 := hO19.ext hE53
    replace hO24 := hO24.ext hE53
    replace hO29 := hO29.ext hE53
    replace hO34 := hO34.ext hE53
    replace hOp := hOp.ext hE53
    replace hX := Ext.trans' hX hE53
    replace hY49 := Chg.trans hY49 (Chg.of_ext hE53)
    replace hRr := Ext.trans' hRr hE53
    refine k_append 9 H rfl rfl rfl Try.underlying53 Try.underlying53 (by simp) el9 (Own.ofBlk (n := 0) hB46 rfl (by simp [maxLen])) ((hm1s.r.ext (Flat.mono _) hX).src hm1s.r.lens) (flat_one eS_one p.msgs) (by have := hm1s.b; simp only [lim] at this; omega) (by have := hm1s.r.len63; omega) rfl (by kernel_rfl) (.inl (by simp [blks]; omega)) ?_
    clear H; intro v53 w54 hO53 hC55 hb53 hnil53; clear a; intro a H
    simp only [List.nil_append, Nat.zero_add] at hO53
    have hf_v53 : ∀ c ∈ blks v53, b46 ≤ c := fresh_of hb53 (by simp [blks]) (Nat.le_of_lt hB46.lt)
    have hn_v53_b1 : ∀ c ∈ blks v53, c ≠ b1 := fun c hc => by have := hf_v53 c hc; have := hlt_b1_b46; omega
    have hn_v53_b2 : ∀ c ∈ blks v53, c ≠ b2 := fun c hc => by have := hf_v53 c hc; have := hlt_b2_b46; omega
    have hn_v53_b3 : ∀ c ∈ blks v53, c ≠ b3 := fun c hc => by have := hf_v53 c hc; have := hlt_b3_b46; omega
    have hn_v53_v9 : ∀ c ∈ blks v53, c ∉ blks v9 := fun c hc hd => by have := hf_v53 c hc; have := hlt_v9_b46 c hd; omega
    have hn_v9_v53 : ∀ c ∈ blks v9, c ∉ blks v53 := fun c hc hd => hn_v53_v9 c hd hc
    have hn_v53_v14 : ∀ c ∈ blks v53, c ∉ blks v14 := fun c hc hd => by have := hf_v53 c hc; have := hlt_v14_b46 c hd; omega
    have hn_v14_v53 : ∀ c ∈ blks v14, c ∉ blks v53 := fun c hc hd => hn_v53_v14 c hd hc
    have hn_v53_v19 : ∀ c ∈ blks v53, c ∉ blks v19 := fun c hc hd => by have := hf_v53 c hc; have := hlt_v19_b46 c hd; omega
    have hn_v19_v53 : ∀ c ∈ blks v19, c ∉ blks v53 := fun c hc hd => hn_v53_v19 c hd hc
    have hn_v53_v24 : ∀ c ∈ blks v53, c ∉ blks v24 := fun c hc hd => by have := hf_v53 c hc; have := hlt_v24_b46 c hd; omega
    have hn_v24_v53 : ∀ c ∈ blks v24, c ∉ blks v53 := fun c hc hd => hn_v53_v24 c hd hc
    have hn_v53_v29 : ∀ c ∈ blks v53, c ∉ blks v29 := fun c hc hd => by have := hf_v53 c hc; have := hlt_v29_b46 c hd; omega
    have hn_v29_v53 : ∀ c ∈ blks v29, c ∉ blks v53 := fun c hc hd => hn_v53_v29 c hd hc
    have hn_v53_v34 : ∀ c ∈ blks v53, c ∉ blks v34 := fun c hc hd => by have := hf_v53 c hc; have := hlt_v34_b46 c hd; omega
    have hn_v34_v53 : ∀ c ∈ blks v34, c ∉ blks v53 := fun c hc hd => hn_v53_v34 c hd hc
    have hn_v53_vp : ∀ c ∈ blks v53, c ∉ blks vp := fun c hc hd => by have := hf_v53 c hc; have := hlt_vp_b46 c hd; omega
    have hn_vp_v53 : ∀ c ∈ blks vp, c ∉ blks v53 := fun c hc hd => hn_v53_vp c hd hc
    have hlo_v53 : ∀ c ∈ blks v53, w.heap.size ≤ c := fun c hc => by have := hf_v53 c hc; omega
    replace hB1 := hC55.blk hB1 (by simp [blks] <;> omega)
    replace hB2 := hC55.blk hB2 (by simp [blks] <;> omega)
    replace hB3 := hC55.blk hB3 (by simp [blks] <;> omega)
    replace hO9 := hO9.chg hC55 (fun c hc hd => by simp [blks] at hd; (try exact hn_v9_b46 c hc hd))
    replace hO14 := hO14.chg hC55 (fun c hc hd => by simp [blks] at hd; (try exact hn_v14_b46 c hc hd))
    replace hO19 := hO19.chg hC55 (fun c hc hd => by simp [blks] at hd; (try exact hn_v19_b46 c hc hd))
    replace hO24 := hO24.chg hC55 (fun c hc hd => by simp [blks] at hd; (try exact hn_v24_b46 c hc hd))
    replace hO29 := hO29.chg hC55 (fun c hc hd => by simp [blks] at hd; (try exact hn_v29_b46 c hc hd))
    replace hO34 := hO34.chg hC55 (fun c hc hd => by simp [blks] at hd; (try exact hn_v34_b46 c hc hd))
    replace hOp := hOp.chg hC55 (fun c hc hd => by simp [blks] at hd; (try exact hn_vp_b46 c hc hd))
    replace hY49 := Chg.trans2 hY49 hC55 (by simp [blks] <;> omega)
    replace hRr := Chg.below hRr hC55 (Nat.le_refl _) (by simp [blks] <;> omega)
    replace hX := Chg.below hX hC55 (Nat.le_refl _) (by simp [blks] <;> omega)
    refine k_take 16 H rfl (q_build ze55 bd55 pl55 rfl (build_port hO53.one)) rfl (by kernel_rfl) (by kernel_rfl) (by kernel_rfl) (by kernel_rfl) (fun _ _ _ h => h) ?_
    clear H a; intro a H
    refine k_buildSlice 17 H rfl Try.underlying26 sz55 ze55 rfl rfl rfl (cs := [v53, .int .i64 p.age]) (by kernel_rfl) rfl (by kernel_rfl) ?_
    clear H; intro b61 w56 hB61 hE57 hs_b61; clear a; intro a H
    have hn_b1_b61 : b1 ≠ b61 := by have := hB1.lt; omega
    have hn_b61_b1 := hn_b1_b61.symm
    have hlt_b1_b61 : b1 < b61 := by have := hB1.lt; omega
    have hn_b2_b61 : b2 ≠ b61 := by have := hB2.lt; omega
    have hn_b61_b2 := hn_b2_b61.symm
    have hlt_b2_b61 : b2 < b61 := by have := hB2.lt; omega
    have hn_b3_b61 : b3 ≠ b61 := by have := hB3.lt; omega
    have hn_b61_b3 := hn_b3_b61.symm
    have hlt_b3_b61 : b3 < b61 := by have := hB3.lt; omega
    have hw_b61 : w.heap.size ≤ b61 := by have := hX.size; omega
    have hlt_v9_b61 : ∀ c ∈ blks v9, c < b61 := fun c hc => by have := hO9.lt c hc; omega
    have hn_v9_b61 : ∀ c ∈ blks v9, c ≠ b61 := fun c hc => by have := hlt_v9_b61 c hc; omega
    have hlt_v14_b61 : ∀ c ∈ blks v14, c < b61 := fun c hc => by have := hO14.lt c hc; omega
    have hn_v14_b61 : ∀ c ∈ blks v14, c ≠ b61 := fun c hc => by have := hlt_v14_b61 c hc; omega
    have hlt_v19_b61 : ∀ c ∈ blks v19, c < b61 := fun c hc => by have := hO19.lt c hc; omega
    have hn_v19_b61 : ∀ c ∈ blks v19, c ≠ b61 := fun c hc => by have := hlt_v19_b61 c hc; omega
    have hlt_v24_b61 : ∀ c ∈ blks v24, c < b61 := fun c hc => by have := hO24.lt c hc; omega
    have hn_v24_b61 : ∀ c ∈ blks v24, c ≠ b61 := fun c hc => by have := hlt_v24_b61 c hc; omega
    have hlt_v29_b61 : ∀ c ∈ blks v29, c < b61 := fun c hc => by have := hO29.lt c hc; omega
    have hn_v29_b61 : ∀ c ∈ blks v29, c ≠ b61 := fun c hc => by have := hlt_v29_b61 c hc; omega
    have hlt_v34_b61 : ∀ c ∈ blks v34, c < b61 := fun c hc => by have := hO34.lt c hc; omega
    have hn_v34_b61 : ∀ c ∈ blks v34, c ≠ b61 := fun c hc => by have := hlt_v34_b61 c hc; omega
    have hlt_vp_b61 : ∀ c ∈ blks vp, c < b61 := fun c hc => by have := hOp.lt c hc; omega
    have hn_vp_b61 : ∀ c ∈ blks vp, c ≠ b61 := fun c hc => by have := hlt_vp_b61 c hc; omega
    have hlt_v53_b61 : ∀ c ∈ blks v53, c < b61 := fun c hc => by have := hO53.lt c hc; omega
    have hn_v53_b61 : ∀ c ∈ blks v53, c ≠ b61 := fun c hc => by have := hlt_v53_b61 c hc; omega
    have hq_hY49_b61 : w45.heap.size ≤ b61 := by have := hY49.size; omega
    have hq_hRr_b61 : w47.heap.size ≤ b61 := by have := hRr.size; omega
    replace hB1 := hB1.ext hE57
    replace hB2 := hB2.ext hE57
    replace hB3 := hB3.ext hE57
    replace hO9 := hO9.ext hE57
    replace hO14 := hO14.ext hE57
    replace hO19 := hO19.ext hE57
    replace hO24 := hO24.ext hE57
    replace hO29 := hO29.ext hE57
    replace hO34 := hO34.ext hE57
    replace hOp := hOp.ext hE57
    replace hO53 := hO53.ext hE57
    replace hX := Ext.trans' hX hE57
    replace hY49 := Chg.trans hY49 (Chg.of_ext hE57)
    replace hRr := Ext.trans' hRr hE57
    refine k_append 18 H rfl rfl rfl Try.underlying26 Try.underlying26 (by simp) el55 hOp (Own.src (Own.ofBlk (n := 1) (k := 2) hB61 rfl (by simp [maxLen]))) (by simp [hO53.one]) (by have := b108; omega) (by have := h8.r.len63; omega) rfl (by kernel_rfl) (.inl (fun b hb _ => hb)) ?_
    clear H; intro v62 w58 hO62 hC59 hb62 hnil62; clear a; intro a H
    have hlt53 := hO53.lt
    have hvlo2 : ∀ c ∈ blks v62, w45.heap.size ≤ c := fresh_of hb62 hvlo (by have := hY49.size; omega)
    have hfp2 : ∀ b, (fp b ∨ b ∈ blks v53) → b ∉ blks v62 ∧ b ≠ b3 ∧ b ≠ b2 ∧ b ∉ blks v34 := by
      rintro b (hb | hb)
      · refine ⟨?_, (hfp b hb).2⟩
        rcases hb62 with h62 | ⟨b62, h62, hl62⟩
        · rw [h62]; exact (hfp b hb).1
        · rw [h62]; intro hm; have := List.mem_singleton.1 hm; have := hF.lt b hb; have := hRr.size; omega
      · refine ⟨?_, hn_v53_b3 b hb, hn_v53_b2 b hb, hn_v53_v34 b hb⟩
        rcases hb62 with h62 | ⟨b62, h62, hl62⟩
        · rw [h62]; exact hn_v53_vp b hb
        · rw [h62]; intro hm; have := List.mem_singleton.1 hm; have := hlt53 b hb; omega
    have hF1 := (hF.ext hRr).chg hC59 (fun b hb _ hf => (hfp b hf).1 hb)
    have hql := hF.now.len
    replace hB1 := hC59.blk hB1 (fun hd => hn_vp_b1 _ hd rfl)
    replace hB2 := hC59.blk hB2 (fun hd => hn_vp_b2 _ hd rfl)
    replace hB3 := hC59.blk hB3 (fun hd => hn_vp_b3 _ hd rfl)
    replace hB61 := hC59.blk hB61 (fun hd => hn_vp_b61 _ hd rfl)
    replace hO9 := hO9.chg hC59 (fun c hc hd => hn_v9_vp c hc hd)
    replace hO14 := hO14.chg hC59 (fun c hc hd => hn_v14_vp c hc hd)
    replace hO19 := hO19.chg hC59 (fun c hc hd => hn_v19_vp c hc hd)
    replace hO24 := hO24.chg hC59 (fun c hc hd => hn_v24_vp c hc hd)
    replace hO29 := hO29.chg hC59 (fun c hc hd => hn_v29_vp c hc hd)
    replace hO34 := hO34.chg hC59 (fun c hc hd => hn_v34_vp c hc hd)
    replace hO53 := hO53.chg hC59 (fun c hc hd => hn_v53_vp c hc hd)
    replace hY49 := Chg.trans2 hY49 hC59 (fun c hc h => by have := hvlo c hc; omega)
    replace hX := Chg.below hX hC59 (Nat.le_refl _) hlo_vp
    have hF2 := (hF1.and hO53.foot).mono (fun w' hw => (by rw [take_snoc hp]; exact hw.1.snoc (hw.2.sl rfl hm1s.r.lens hm1s.b) : PortsIn w' (qs ++ [v53]) (s.ports.take (i + 1))))
    rw [show portCells qs (s.ports.take i) ++ [v53, .int .i64 p.age] = portCells (qs ++ [v53]) (s.ports.take (i + 1)) by rw [take_snoc hp, portCells_snoc hql]] at hO62
    have hn_v62_b1 : ∀ c ∈ blks v62, c ≠ b1 := fun c hc => by have := hvlo2 c hc; omega
    have hn_v62_b2 : ∀ c ∈ blks v62, c ≠ b2 := fun c hc => by have := hvlo2 c hc; omega
    have hn_v62_b3 : ∀ c ∈ blks v62, c ≠ b3 := fun c hc => by have := hvlo2 c hc; omega
    refine k_take 19 H rfl (q_fieldAddr0 rfl fo29_8) rfl (by kernel_rfl) (by kernel_rfl) (by kernel_rfl) (by kernel_rfl) (fun _ _ _ h => h) ?_
    clear H a; intro a H
    refine k_store1 20 H rfl rfl rfl sz26 hB3 (by simp) (by first | rfl | exact h3.r.one | exact h4.r.one | exact h5.r.one | exact h6.r.one | exact h7.r.one | exact h8.r.one | exact h9.r.one | exact hO9.one | exact hO14.one | exact hO19.one | exact hO24.one | exact hO29.one | exact hO34.one | exact hO62.one) (by kernel_rfl) (.inr (by kernel_rfl)) ?_
    clear H; intro w60 hB3N hC61 hz; clear a; intro a H
    replace hB3 := hB3N; clear hB3N
    simp only [List.set_cons_succ, List.set_cons_zero] at hB3
    clear hz
    replace hB1 := hC61.blk hB1 (by simp [blks] <;> omega)
    replace hB2 := hC61.blk hB2 (by simp [blks] <;> omega)
    replace hB61 := hC61.blk hB61 (by simp [blks] <;> omega)
    replace hO9 := hO9.chg hC61 (fun c hc hd => by simp [blks] at hd; (try exact hn_v9_b3 c hc hd))
    replace hO14 := hO14.chg hC61 (fun c hc hd => by simp [blks] at hd; (try exact hn_v14_b3 c hc hd))
    replace hO19 := hO19.chg hC61 (fun c hc hd => by simp [blks] at hd; (try exact hn_v19_b3 c hc hd))
    replace hO24 := hO24.chg hC61 (fun c hc hd => by simp [blks] at hd; (try exact hn_v24_b3 c hc hd))
    replace hO29 := hO29.chg hC61 (fun c hc hd => by simp [blks] at hd; (try exact hn_v29_b3 c hc hd))
    replace hO34 := hO34.chg hC61 (fun c hc hd => by simp [blks] at hd; (try exact hn_v34_b3 c hc hd))
    replace hO53 := hO53.chg hC61 (fun c hc hd => by simp [blks] at hd; (try exact hn_v53_b3 c hc hd))
    replace hO62 := hO62.chg hC61 (fun c hc hd => by simp [blks] at hd; (try exact hn_v62_b3 c hc hd))
    replace hY49 := Chg.trans hY49 hC61
    replace hX := Chg.below hX hC61 (Nat.le_refl _) (by simp [blks] <;> omega)
    replace hF2 := hF2.chg hC61 (fun b hb _ hf => by simp at hb; subst hb; exact (hfp2 _ hf).2.1 rfl)
    refine k_done (by kernel_rfl) ?_
    refine block_normal ?_
    refine then_normal ?_
    refine wp_region_lit ?_
    refine n_q H (q_move rfl) rfl ?_
    clear H a; intro a H
    refine n_q H (q_add rfl rfl (by constructor <;> omega)) rfl ?_
    clear H a; intro a H
    refine n_q H (q_assign rfl) rfl ?_
    clear H a; intro a H
    refine n_nil ?_
    refine then_normal ?_
    exact round (i + 1) H ⟨rfl, rfl, rfl, rfl, trivial⟩ ⟨by omega, ⟨v62, qs ++ [v53], _, hB3, hO62, hF2, hfp2, hvlo2⟩, hY49⟩ (by first | omega | (dsimp only; omega))
  · (try simp only [decide_eq_true_eq, decide_eq_false_iff_not, Bool.and_eq_true, Bool.or_eq_true, Bool.and_eq_false_iff, Bool.or_eq_false_iff, beq_iff_eq, bne_iff_ne, beq_eq_false_iff_ne, bne_eq_false_iff_eq, ne_eq, Bool.not_eq_true', Bool.not_eq_false', Int.not_lt, Int.not_le, Bool.not_eq_true, Bool.not_eq_false] at hc41)
    have hfull : s.ports.take i = s.ports := List.take_of_length_le (by omega)
    have hil : i = s.ports.length := by omega
    subst hil
    simp only [hfull] at hOp hF
    refine wp_exit ?_
    refine then_exit ?_
    refine then_exit ?_
    refine block_exit ?_
    refine then_normal ?_
    refine wp_seq ?_
    refine wp_region_lit ?_
    refine n_q H (q_load rfl (hB3.ldAll ag29 sz29)) rfl ?_
    clear H a; intro a H
    refine n_storeAll H rfl rfl rfl sz29 hB2 rfl (by simp [hO9.one, hO14.one, hO19.one, hO24.one, hO29.one, hO34.one, hOp.one]) ?_
    clear H; intro w62 hB2N hC63 hz; clear a; intro a H
    replace hB2 := hB2N; clear hB2N
    clear hz
    replace hB1 := hC63.blk hB1 (by simp [blks] <;> omega)
    replace hB3 := hC63.blk hB3 (by simp [blks] <;> omega)
    replace hO9 := hO9.chg hC63 (fun c hc hd => by simp [blks] at hd; (try exact hn_v9_b2 c hc hd))
    replace hO14 := hO14.chg hC63 (fun c hc hd => by simp [blks] at hd; (try exact hn_v14_b2 c hc hd))
    replace hO19 := hO19.chg hC63 (fun c hc hd => by simp [blks] at hd; (try exact hn_v19_b2 c hc hd))
    replace hO24 := hO24.chg hC63 (fun c hc hd => by simp [blks] at hd; (try exact hn_v24_b2 c hc hd))
    replace hO29 := hO29.chg hC63 (fun c hc hd => by simp [blks] at hd; (try exact hn_v29_b2 c hc hd))
    replace hO34 := hO34.chg hC63 (fun c hc hd => by simp [blks] at hd; (try exact hn_v34_b2 c hc hd))
    replace hOp := hOp.chg hC63 (fun c hc hd => by simp [blks] at hd; (try exact hn_vp_b2 c hc hd))
    replace hX := Chg.below hX hC63 (Nat.le_refl _) (by simp [blks] <;> omega)
    replace hF := hF.chg hC63 (fun b hb _ hf => by simp at hb; subst hb; exact (hfp _ hf).2.2.1 rfl)
    refine n_nil ?_
    refine then_normal ?_
    refine wp_ret ?_
    refine retL H (.inr rfl) rfl (vs := [_]) (resCell rfl (hB2.ldAll ag29 sz29) resNil) ?_
    exact ⟨⟨v9, v14, v19, v24, v29, vp, v34, _, rfl, Foot.mono (Foot.and (Foot.and (Foot.and (Foot.and (Foot.and (Own.foot hO9) (Own.foot hO14)) (Own.foot hO19)) (Own.foot hO24)) (Own.foot hO29)) (Foot.and hF (Own.foot hOp)))
          (fun w' hw => ⟨hw.1.1.1.1.1.sl rfl h3.r.lens h3.b, hw.1.1.1.1.2.sl rfl h4.r.lens h4.b, hw.1.1.1.2.sl rfl h5.r.lens h5.b, hw.1.1.2.sl rfl h6.r.lens h6.b, hw.1.2.sl rfl h7.r.lens h7.b, hw.2.2.slP rfl hw.2.1 h8.b⟩),
          hO34, fun b hb => ⟨hlo_v34 b hb, fun hf => by
            rcases hf with ((((hf | hf) | hf) | hf) | hf) | (hf | hf)
            · exact hn_v34_v9 b hb hf
            · exact hn_v34_v14 b hb hf
            · exact hn_v34_v19 b hb hf
            · exact hn_v34_v24 b hb hf
            · exact hn_v34_v29 b hb hf
            · exact (hfp b hf).2.2.2 hb
            · exact hn_v34_vp b hb hf⟩, h9.r.lens, h9.b⟩, hX⟩

end Go.Proofs.Ytfoijpfmjmjjpaa
