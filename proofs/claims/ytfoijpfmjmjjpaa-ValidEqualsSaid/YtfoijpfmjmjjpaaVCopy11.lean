/- valid.Copy (written by wip/tools) -/
import Derived.Test.YtfoijpfmjmjjpaaClone11
set_option linter.unusedVariables false
set_option linter.unusedSimpArgs false
set_option maxRecDepth 10000
namespace Go.Proofs.Ytfoijpfmjmjjpaa
open Go Go.RowKit
theorem en17 : entersB Try.prog 17 = true := by kernel_rfl
theorem en18 : entersB Try.prog 18 = true := by kernel_rfl
theorem en19 : entersB Try.prog 19 = true := by kernel_rfl
theorem en20 : entersB Try.prog 20 = true := by kernel_rfl
theorem en21 : entersB Try.prog 21 = true := by kernel_rfl
theorem en22 : entersB Try.prog 22 = true := by kernel_rfl
theorem en23 : entersB Try.prog 23 = true := by kernel_rfl
theorem sz22 : sizeB Try.prog 22 = some 1 := by kernel_rfl
theorem sz23 : sizeB Try.prog 23 = some 1 := by kernel_rfl
theorem sz24 : sizeB Try.prog 24 = some 1 := by kernel_rfl
theorem sz25 : sizeB Try.prog 25 = some 1 := by kernel_rfl
theorem sz26 : sizeB Try.prog 26 = some 1 := by kernel_rfl
theorem sz27 : sizeB Try.prog 27 = some 1 := by kernel_rfl
theorem ze29 : zeroB Try.prog 29 = some [.int .i64 0, .int .i64 0, .int .i64 0, .slice none 0 0, .slice none 0 0, .slice none 0 0, .slice none 0 0, .slice none 0 0, .slice none 0 0, .slice none 0 0] := by kernel_rfl

theorem Copy_w {w : World} {v : Value} {s : StateM'} (h : IsState w v s) :
    Calls Try.prog 11 [v].toArray w (Ret fun u w' => NewState 40 w.heap.size w' u s ∧ Ext w w') := by
  obtain ⟨u3, u4, u5, u6, u7, u8, u9, rfl, h3, h4, h5, h6, h7, h8, h9⟩ := h
  have b9 := h9.b
  simp only [lim] at b9
  have b8 := h8.b
  simp only [lim] at b8
  refine enter Try.func11 rfl rfl rfl ?_
  intro a H
  dsimp only [enumL, Nat.zero_add, Nat.reduceAdd] at H
  refine wp_seq ?_
  refine wp_region_lit ?_
  refine n_box H rfl (cs := _) rfl rfl ?_
  clear H; intro b1 w1 hB1 hE2 hs_b1; clear a; intro a H
  have hw_b1 : w.heap.size ≤ b1 := by omega
  have hX := hE2
  refine n_alloc H ze29 rfl ?_
  clear H; intro b2 w3 hB2 hE4 hs_b2; clear a; intro a H
  have hn_b1_b2 : b1 ≠ b2 := by have := hB1.lt; omega
  have hn_b2_b1 := hn_b1_b2.symm
  have hlt_b1_b2 : b1 < b2 := by have := hB1.lt; omega
  have hw_b2 : w.heap.size ≤ b2 := by have := hX.size; omega
  replace hB1 := hB1.ext hE4
  replace hX := Ext.trans' hX hE4
  refine n_nil ?_
  refine then_normal ?_
  refine wp_seq ?_
  refine c_ord [] 10 (by kernel_rfl) ?_
  obtain ⟨w5, hw5⟩ : ∃ x, x = w3.drew := ⟨_, rfl⟩
  rw [← hw5]
  have hE6 : Ext w3 w5 := by rw [hw5]; exact Ext.drew' _
  clear hw5
  replace hB1 := hB1.ext hE6
  replace hB2 := hB2.ext hE6
  replace hX := Ext.trans' hX hE6
  have hh_b1 := hB1.lt
  have hh_b2 := hB2.lt
  have hh0 := hX.size
  refine k_take 0 H rfl (q_fieldAddr0 rfl fo29_3) rfl (by kernel_rfl) (by kernel_rfl) (by kernel_rfl) (by kernel_rfl) (fun _ _ _ h => h) ?_
  clear H a; intro a H
  refine k_take 1 H rfl (q_load rfl (hB1.ldB hh_b1 (by simp <;> omega) ag22 rfl)) rfl (by kernel_rfl) (by kernel_rfl) (by kernel_rfl) (by kernel_rfl) (fun _ _ _ h => h) ?_
  clear H a; intro a H
  refine k_take 3 H rfl (q_fieldAddr0 rfl fo29_4) rfl (by kernel_rfl) (by kernel_rfl) (by kernel_rfl) (by kernel_rfl) (fun _ _ _ h => h) ?_
  clear H a; intro a H
  refine k_take 4 H rfl (q_load rfl (hB1.ldB hh_b1 (by simp <;> omega) ag23 rfl)) rfl (by kernel_rfl) (by kernel_rfl) (by kernel_rfl) (by kernel_rfl) (fun _ _ _ h => h) ?_
  clear H a; intro a H
  refine k_take 6 H rfl (q_fieldAddr0 rfl fo29_5) rfl (by kernel_rfl) (by kernel_rfl) (by kernel_rfl) (by kernel_rfl) (fun _ _ _ h => h) ?_
  clear H a; intro a H
  refine k_take 7 H rfl (q_load rfl (hB1.ldB hh_b1 (by simp <;> omega) ag24 rfl)) rfl (by kernel_rfl) (by kernel_rfl) (by kernel_rfl) (by kernel_rfl) (fun _ _ _ h => h) ?_
  clear H a; intro a H
  refine k_call 2 H rfl rfl en17 (clone_proc (h3.ext (Flat.mono _) hX)) rfl (by kernel_rfl) (fun v w hv => .inl (ChgF.of_ext hv.2.1)) ?_
  clear H a; intro v6 w7 hv a H
  obtain ⟨hO6, hE8, hf6⟩ := hv
  have hn_v6_b1 : ∀ c ∈ blks v6, c ≠ b1 := fun c hc => by have := hf6 c hc; have := hB1.lt; omega
  have hn_v6_b2 : ∀ c ∈ blks v6, c ≠ b2 := fun c hc => by have := hf6 c hc; have := hB2.lt; omega
  have hlo_v6 : ∀ c ∈ blks v6, w.heap.size ≤ c := fun c hc => by have := hf6 c hc; have := hX.size; omega
  replace hB1 := hB1.ext hE8
  replace hB2 := hB2.ext hE8
  replace hX := Ext.trans' hX hE8
  refine k_take 9 H rfl (q_fieldAddr0 rfl fo29_3) rfl (by kernel_rfl) (by kernel_rfl) (by kernel_rfl) (by kernel_rfl) (fun _ _ _ h => h) ?_
  clear H a; intro a H
  refine k_call 5 H rfl rfl en18 (clone_int (h4.ext (Flat.mono _) hX)) rfl (by kernel_rfl) (fun v w hv => .inl (ChgF.of_ext hv.2.1)) ?_
  clear H a; intro v9 w9 hv a H
  obtain ⟨hO9, hE10, hf9⟩ := hv
  have hn_v9_b1 : ∀ c ∈ blks v9, c ≠ b1 := fun c hc => by have := hf9 c hc; have := hB1.lt; omega
  have hn_v9_b2 : ∀ c ∈ blks v9, c ≠ b2 := fun c hc => by have := hf9 c hc; have := hB2.lt; omega
  have hn_v9_v6 : ∀ c ∈ blks v9, c ∉ blks v6 := fun c hc hd => by have := hf9 c hc; have := hO6.lt c hd; omega
  have hn_v6_v9 : ∀ c ∈ blks v6, c ∉ blks v9 := fun c hc hd => hn_v9_v6 c hd hc
  have hlo_v9 : ∀ c ∈ blks v9, w.heap.size ≤ c := fun c hc => by have := hf9 c hc; have := hX.size; omega
  replace hB1 := hB1.ext hE10
  replace hB2 := hB2.ext hE10
  replace hO6 := hO6.ext hE10
  replace hX := Ext.trans' hX hE10
  refine k_call 8 H rfl rfl en19 (clone_timer (h5.ext (Flat.mono _) hX)) rfl (by kernel_rfl) (fun v w hv => .inl (ChgF.of_ext hv.2.1)) ?_
  clear H a; intro v12 w11 hv a H
  obtain ⟨hO12, hE12, hf12⟩ := hv
  have hn_v12_b1 : ∀ c ∈ blks v12, c ≠ b1 := fun c hc => by have := hf12 c hc; have := hB1.lt; omega
  have hn_v12_b2 : ∀ c ∈ blks v12, c ≠ b2 := fun c hc => by have := hf12 c hc; have := hB2.lt; omega
  have hn_v12_v6 : ∀ c ∈ blks v12, c ∉ blks v6 := fun c hc hd => by have := hf12 c hc; have := hO6.lt c hd; omega
  have hn_v6_v12 : ∀ c ∈ blks v6, c ∉ blks v12 := fun c hc hd => hn_v12_v6 c hd hc
  have hn_v12_v9 : ∀ c ∈ blks v12, c ∉ blks v9 := fun c hc hd => by have := hf12 c hc; have := hO9.lt c hd; omega
  have hn_v9_v12 : ∀ c ∈ blks v9, c ∉ blks v12 := fun c hc hd => hn_v12_v9 c hd hc
  have hlo_v12 : ∀ c ∈ blks v12, w.heap.size ≤ c := fun c hc => by have := hf12 c hc; have := hX.size; omega
  replace hB1 := hB1.ext hE12
  replace hB2 := hB2.ext hE12
  replace hO6 := hO6.ext hE12
  replace hO9 := hO9.ext hE12
  replace hX := Ext.trans' hX hE12
  refine k_store1 10 H rfl rfl rfl sz22 hB1 (by simp) (by first | rfl | exact hO6.one | exact hO9.one | exact hO12.one | exact hO18.one | exact hO21.one | exact hO24.one | exact hO27.one) (by kernel_rfl) (.inr (by kernel_rfl)) ?_
  clear H; intro w13 hB1N hC14 hz; clear a; intro a H
  replace hB1 := hB1N; clear hB1N
  simp only [List.set_cons_succ, List.set_cons_zero] at hB1
  clear hz
  replace hB2 := hC14.blk hB2 (by simp [blks] <;> omega)
  replace hO6 := hO6.chg hC14 (fun c hc hd => by simp [blks] at hd; (try exact hn_v6_b1 c hc hd))
  replace hO9 := hO9.chg hC14 (fun c hc hd => by simp [blks] at hd; (try exact hn_v9_b1 c hc hd))
  replace hO12 := hO12.chg hC14 (fun c hc hd => by simp [blks] at hd; (try exact hn_v12_b1 c hc hd))
  replace hX := Chg.below hX hC14 (Nat.le_refl _) (by simp [blks] <;> omega)
  refine k_q 11 H rfl (q_fieldAddr0 rfl fo29_4) rfl (by kernel_rfl) ?_
  clear H a; intro a H
  refine k_store1 12 H rfl rfl rfl sz23 hB1 (by simp) (by first | rfl | exact hO6.one | exact hO9.one | exact hO12.one | exact hO18.one | exact hO21.one | exact hO24.one | exact hO27.one) (by kernel_rfl) (.inr (by kernel_rfl)) ?_
  clear H; intro w15 hB1N hC16 hz; clear a; intro a H
  replace hB1 := hB1N; clear hB1N
  simp only [List.set_cons_succ, List.set_cons_zero] at hB1
  clear hz
  replace hB2 := hC16.blk hB2 (by simp [blks] <;> omega)
  replace hO6 := hO6.chg hC16 (fun c hc hd => by simp [blks] at hd; (try exact hn_v6_b1 c hc hd))
  replace hO9 := hO9.chg hC16 (fun c hc hd => by simp [blks] at hd; (try exact hn_v9_b1 c hc hd))
  replace hO12 := hO12.chg hC16 (fun c hc hd => by simp [blks] at hd; (try exact hn_v12_b1 c hc hd))
  replace hX := Chg.below hX hC16 (Nat.le_refl _) (by simp [blks] <;> omega)
  refine k_q 13 H rfl (q_fieldAddr0 rfl fo29_5) rfl (by kernel_rfl) ?_
  clear H a; intro a H
  refine k_store1 14 H rfl rfl rfl sz24 hB1 (by simp) (by first | rfl | exact hO6.one | exact hO9.one | exact hO12.one | exact hO18.one | exact hO21.one | exact hO24.one | exact hO27.one) (by kernel_rfl) (.inr (by kernel_rfl)) ?_
  clear H; intro w17 hB1N hC18 hz; clear a; intro a H
  replace hB1 := hB1N; clear hB1N
  simp only [List.set_cons_succ, List.set_cons_zero] at hB1
  clear hz
  replace hB2 := hC18.blk hB2 (by simp [blks] <;> omega)
  replace hO6 := hO6.chg hC18 (fun c hc hd => by simp [blks] at hd; (try exact hn_v6_b1 c hc hd))
  replace hO9 := hO9.chg hC18 (fun c hc hd => by simp [blks] at hd; (try exact hn_v9_b1 c hc hd))
  replace hO12 := hO12.chg hC18 (fun c hc hd => by simp [blks] at hd; (try exact hn_v12_b1 c hc hd))
  replace hX := Chg.below hX hC18 (Nat.le_refl _) (by simp [blks] <;> omega)
  refine k_done (by kernel_rfl) ?_
  refine then_normal ?_
  refine wp_seq ?_
  refine c_ord [] 13 (by kernel_rfl) ?_
  obtain ⟨w19, hw19⟩ : ∃ x, x = w17.drew := ⟨_, rfl⟩
  rw [← hw19]
  have hE20 : Ext w17 w19 := by rw [hw19]; exact Ext.drew' _
  clear hw19
  replace hB1 := hB1.ext hE20
  replace hB2 := hB2.ext hE20
  replace hO6 := hO6.ext hE20
  replace hO9 := hO9.ext hE20
  replace hO12 := hO12.ext hE20
  replace hX := Ext.trans' hX hE20
  have hh_b1 := hB1.lt
  have hh_b2 := hB2.lt
  have hh0 := hX.size
  refine k_take 0 H rfl (q_fieldAddr0 rfl fo29_6) rfl (by kernel_rfl) (by kernel_rfl) (by kernel_rfl) (by kernel_rfl) (fun _ _ _ h => h) ?_
  clear H a; intro a H
  refine k_take 1 H rfl (q_load rfl (hB1.ldB hh_b1 (by simp <;> omega) ag25 rfl)) rfl (by kernel_rfl) (by kernel_rfl) (by kernel_rfl) (by kernel_rfl) (fun _ _ _ h => h) ?_
  clear H a; intro a H
  refine k_take 3 H rfl (q_fieldAddr0 rfl fo29_7) rfl (by kernel_rfl) (by kernel_rfl) (by kernel_rfl) (by kernel_rfl) (fun _ _ _ h => h) ?_
  clear H a; intro a H
  refine k_take 4 H rfl (q_load rfl (hB1.ldB hh_b1 (by simp <;> omega) ag23 rfl)) rfl (by kernel_rfl) (by kernel_rfl) (by kernel_rfl) (by kernel_rfl) (fun _ _ _ h => h) ?_
  clear H a; intro a H
  refine k_take 6 H rfl (q_fieldAddr0 rfl fo29_8) rfl (by kernel_rfl) (by kernel_rfl) (by kernel_rfl) (by kernel_rfl) (fun _ _ _ h => h) ?_
  clear H a; intro a H
  refine k_take 7 H rfl (q_load rfl (hB1.ldB hh_b1 (by simp <;> omega) ag26 rfl)) rfl (by kernel_rfl) (by kernel_rfl) (by kernel_rfl) (by kernel_rfl) (fun _ _ _ h => h) ?_
  clear H a; intro a H
  refine k_take 9 H rfl (q_fieldAddr0 rfl fo29_9) rfl (by kernel_rfl) (by kernel_rfl) (by kernel_rfl) (by kernel_rfl) (fun _ _ _ h => h) ?_
  clear H a; intro a H
  refine k_take 10 H rfl (q_load rfl (hB1.ldB hh_b1 (by simp <;> omega) ag27 rfl)) rfl (by kernel_rfl) (by kernel_rfl) (by kernel_rfl) (by kernel_rfl) (fun _ _ _ h => h) ?_
  clear H a; intro a H
  refine k_call 2 H rfl rfl en20 (clone_bool (h6.ext (Flat.mono _) hX)) rfl (by kernel_rfl) (fun v w hv => .inl (ChgF.of_ext hv.2.1)) ?_
  clear H a; intro v18 w21 hv a H
  obtain ⟨hO18, hE22, hf18⟩ := hv
  have hn_v18_b1 : ∀ c ∈ blks v18, c ≠ b1 := fun c hc => by have := hf18 c hc; have := hB1.lt; omega
  have hn_v18_b2 : ∀ c ∈ blks v18, c ≠ b2 := fun c hc => by have := hf18 c hc; have := hB2.lt; omega
  have hn_v18_v6 : ∀ c ∈ blks v18, c ∉ blks v6 := fun c hc hd => by have := hf18 c hc; have := hO6.lt c hd; omega
  have hn_v6_v18 : ∀ c ∈ blks v6, c ∉ blks v18 := fun c hc hd => hn_v18_v6 c hd hc
  have hn_v18_v9 : ∀ c ∈ blks v18, c ∉ blks v9 := fun c hc hd => by have := hf18 c hc; have := hO9.lt c hd; omega
  have hn_v9_v18 : ∀ c ∈ blks v9, c ∉ blks v18 := fun c hc hd => hn_v18_v9 c hd hc
  have hn_v18_v12 : ∀ c ∈ blks v18, c ∉ blks v12 := fun c hc hd => by have := hf18 c hc; have := hO12.lt c hd; omega
  have hn_v12_v18 : ∀ c ∈ blks v12, c ∉ blks v18 := fun c hc hd => hn_v18_v12 c hd hc
  have hlo_v18 : ∀ c ∈ blks v18, w.heap.size ≤ c := fun c hc => by have := hf18 c hc; have := hX.size; omega
  replace hB1 := hB1.ext hE22
  replace hB2 := hB2.ext hE22
  replace hO6 := hO6.ext hE22
  replace hO9 := hO9.ext hE22
  replace hO12 := hO12.ext hE22
  replace hX := Ext.trans' hX hE22
  refine k_take 12 H rfl (q_fieldAddr0 rfl fo29_6) rfl (by kernel_rfl) (by kernel_rfl) (by kernel_rfl) (by kernel_rfl) (fun _ _ _ h => h) ?_
  clear H a; intro a H
  refine k_call 5 H rfl rfl en18 (clone_int (h7.ext (Flat.mono _) hX)) rfl (by kernel_rfl) (fun v w hv => .inl (ChgF.of_ext hv.2.1)) ?_
  clear H a; intro v21 w23 hv a H
  obtain ⟨hO21, hE24, hf21⟩ := hv
  have hn_v21_b1 : ∀ c ∈ blks v21, c ≠ b1 := fun c hc => by have := hf21 c hc; have := hB1.lt; omega
  have hn_v21_b2 : ∀ c ∈ blks v21, c ≠ b2 := fun c hc => by have := hf21 c hc; have := hB2.lt; omega
  have hn_v21_v6 : ∀ c ∈ blks v21, c ∉ blks v6 := fun c hc hd => by have := hf21 c hc; have := hO6.lt c hd; omega
  have hn_v6_v21 : ∀ c ∈ blks v6, c ∉ blks v21 := fun c hc hd => hn_v21_v6 c hd hc
  have hn_v21_v9 : ∀ c ∈ blks v21, c ∉ blks v9 := fun c hc hd => by have := hf21 c hc; have := hO9.lt c hd; omega
  have hn_v9_v21 : ∀ c ∈ blks v9, c ∉ blks v21 := fun c hc hd => hn_v21_v9 c hd hc
  have hn_v21_v12 : ∀ c ∈ blks v21, c ∉ blks v12 := fun c hc hd => by have := hf21 c hc; have := hO12.lt c hd; omega
  have hn_v12_v21 : ∀ c ∈ blks v12, c ∉ blks v21 := fun c hc hd => hn_v21_v12 c hd hc
  have hn_v21_v18 : ∀ c ∈ blks v21, c ∉ blks v18 := fun c hc hd => by have := hf21 c hc; have := hO18.lt c hd; omega
  have hn_v18_v21 : ∀ c ∈ blks v18, c ∉ blks v21 := fun c hc hd => hn_v21_v18 c hd hc
  have hlo_v21 : ∀ c ∈ blks v21, w.heap.size ≤ c := fun c hc => by have := hf21 c hc; have := hX.size; omega
  replace hB1 := hB1.ext hE24
  replace hB2 := hB2.ext hE24
  replace hO6 := hO6.ext hE24
  replace hO9 := hO9.ext hE24
  replace hO12 := hO12.ext hE24
  replace hO18 := hO18.ext hE24
  replace hX := Ext.trans' hX hE24
  refine k_call 8 H rfl rfl en21 (clone_port h8 hX) rfl (by kernel_rfl) (fun v w hv => .inl (ChgF.of_ext hv.2.1)) ?_
  clear H a; intro v24 w25 hv a H
  obtain ⟨⟨qs0, hqs0, hO24⟩, hE26, hf24⟩ := hv
  have hn_v24_b1 : ∀ c ∈ blks v24, c ≠ b1 := fun c hc => by have := hf24 c hc; have := hB1.lt; omega
  have hn_v24_b2 : ∀ c ∈ blks v24, c ≠ b2 := fun c hc => by have := hf24 c hc; have := hB2.lt; omega
  have hn_v24_v6 : ∀ c ∈ blks v24, c ∉ blks v6 := fun c hc hd => by have := hf24 c hc; have := hO6.lt c hd; omega
  have hn_v6_v24 : ∀ c ∈ blks v6, c ∉ blks v24 := fun c hc hd => hn_v24_v6 c hd hc
  have hn_v24_v9 : ∀ c ∈ blks v24, c ∉ blks v9 := fun c hc hd => by have := hf24 c hc; have := hO9.lt c hd; omega
  have hn_v9_v24 : ∀ c ∈ blks v9, c ∉ blks v24 := fun c hc hd => hn_v24_v9 c hd hc
  have hn_v24_v12 : ∀ c ∈ blks v24, c ∉ blks v12 := fun c hc hd => by have := hf24 c hc; have := hO12.lt c hd; omega
  have hn_v12_v24 : ∀ c ∈ blks v12, c ∉ blks v24 := fun c hc hd => hn_v24_v12 c hd hc
  have hn_v24_v18 : ∀ c ∈ blks v24, c ∉ blks v18 := fun c hc hd => by have := hf24 c hc; have := hO18.lt c hd; omega
  have hn_v18_v24 : ∀ c ∈ blks v18, c ∉ blks v24 := fun c hc hd => hn_v24_v18 c hd hc
  have hn_v24_v21 : ∀ c ∈ blks v24, c ∉ blks v21 := fun c hc hd => by have := hf24 c hc; have := hO21.lt c hd; omega
  have hn_v21_v24 : ∀ c ∈ blks v21, c ∉ blks v24 := fun c hc hd => hn_v24_v21 c hd hc
  have hlo_v24 : ∀ c ∈ blks v24, w.heap.size ≤ c := fun c hc => by have := hf24 c hc; have := hX.size; omega
  replace hB1 := hB1.ext hE26
  replace hB2 := hB2.ext hE26
  replace hO6 := hO6.ext hE26
  replace hO9 := hO9.ext hE26
  replace hO12 := hO12.ext hE26
  replace hO18 := hO18.ext hE26
  replace hO21 := hO21.ext hE26
  replace hX := Ext.trans' hX hE26
  refine k_call 11 H rfl rfl en22 (clone_page (h9.ext (Flat.mono _) hX)) rfl (by kernel_rfl) (fun v w hv => .inl (ChgF.of_ext hv.2.1)) ?_
  clear H a; intro v27 w27 hv a H
  obtain ⟨hO27, hE28, hf27⟩ := hv
  have hn_v27_b1 : ∀ c ∈ blks v27, c ≠ b1 := fun c hc => by have := hf27 c hc; have := hB1.lt; omega
  have hn_v27_b2 : ∀ c ∈ blks v27, c ≠ b2 := fun c hc => by have := hf27 c hc; have := hB2.lt; omega
  have hn_v27_v6 : ∀ c ∈ blks v27, c ∉ blks v6 := fun c hc hd => by have := hf27 c hc; have := hO6.lt c hd; omega
  have hn_v6_v27 : ∀ c ∈ blks v6, c ∉ blks v27 := fun c hc hd => hn_v27_v6 c hd hc
  have hn_v27_v9 : ∀ c ∈ blks v27, c ∉ blks v9 := fun c hc hd => by have := hf27 c hc; have := hO9.lt c hd; omega
  have hn_v9_v27 : ∀ c ∈ blks v9, c ∉ blks v27 := fun c hc hd => hn_v27_v9 c hd hc
  have hn_v27_v12 : ∀ c ∈ blks v27, c ∉ blks v12 := fun c hc hd => by have := hf27 c hc; have := hO12.lt c hd; omega
  have hn_v12_v27 : ∀ c ∈ blks v12, c ∉ blks v27 := fun c hc hd => hn_v27_v12 c hd hc
  have hn_v27_v18 : ∀ c ∈ blks v27, c ∉ blks v18 := fun c hc hd => by have := hf27 c hc; have := hO18.lt c hd; omega
  have hn_v18_v27 : ∀ c ∈ blks v18, c ∉ blks v27 := fun c hc hd => hn_v27_v18 c hd hc
  have hn_v27_v21 : ∀ c ∈ blks v27, c ∉ blks v21 := fun c hc hd => by have := hf27 c hc; have := hO21.lt c hd; omega
  have hn_v21_v27 : ∀ c ∈ blks v21, c ∉ blks v27 := fun c hc hd => hn_v27_v21 c hd hc
  have hn_v27_v24 : ∀ c ∈ blks v27, c ∉ blks v24 := fun c hc hd => by have := hf27 c hc; have := hO24.lt c hd; omega
  have hn_v24_v27 : ∀ c ∈ blks v24, c ∉ blks v27 := fun c hc hd => hn_v27_v24 c hd hc
  have hlo_v27 : ∀ c ∈ blks v27, w.heap.size ≤ c := fun c hc => by have := hf27 c hc; have := hX.size; omega
  replace hB1 := hB1.ext hE28
  replace hB2 := hB2.ext hE28
  replace hO6 := hO6.ext hE28
  replace hO9 := hO9.ext hE28
  replace hO12 := hO12.ext hE28
  replace hO18 := hO18.ext hE28
  replace hO21 := hO21.ext hE28
  replace hO24 := hO24.ext hE28
  replace hX := Ext.trans' hX hE28
  refine k_store1 13 H rfl rfl rfl sz25 hB1 (by simp) (by first | rfl | exact hO6.one | exact hO9.one | exact hO12.one | exact hO18.one | exact hO21.one | exact hO24.one | exact hO27.one) (by kernel_rfl) (.inr (by kernel_rfl)) ?_
  clear H; intro w29 hB1N hC30 hz; clear a; intro a H
  replace hB1 := hB1N; clear hB1N
  simp only [List.set_cons_succ, List.set_cons_zero] at hB1
  clear hz
  replace hB2 := hC30.blk hB2 (by simp [blks] <;> omega)
  replace hO6 := hO6.chg hC30 (fun c hc hd => by simp [blks] at hd; (try exact hn_v6_b1 c hc hd))
  replace hO9 := hO9.chg hC30 (fun c hc hd => by simp [blks] at hd; (try exact hn_v9_b1 c hc hd))
  replace hO12 := hO12.chg hC30 (fun c hc hd => by simp [blks] at hd; (try exact hn_v12_b1 c hc hd))
  replace hO18 := hO18.chg hC30 (fun c hc hd => by simp [blks] at hd; (try exact hn_v18_b1 c hc hd))
  replace hO21 := hO21.chg hC30 (fun c hc hd => by simp [blks] at hd; (try exact hn_v21_b1 c hc hd))
  replace hO24 := hO24.chg hC30 (fun c hc hd => by simp [blks] at hd; (try exact hn_v24_b1 c hc hd))
  replace hO27 := hO27.chg hC30 (fun c hc hd => by simp [blks] at hd; (try exact hn_v27_b1 c hc hd))
  replace hX := Chg.below hX hC30 (Nat.le_refl _) (by simp [blks] <;> omega)
  refine k_q 14 H rfl (q_fieldAddr0 rfl fo29_7) rfl (by kernel_rfl) ?_
  clear H a; intro a H
  refine k_store1 15 H rfl rfl rfl sz23 hB1 (by simp) (by first | rfl | exact hO6.one | exact hO9.one | exact hO12.one | exact hO18.one | exact hO21.one | exact hO24.one | exact hO27.one) (by kernel_rfl) (.inr (by kernel_rfl)) ?_
  clear H; intro w31 hB1N hC32 hz; clear a; intro a H
  replace hB1 := hB1N; clear hB1N
  simp only [List.set_cons_succ, List.set_cons_zero] at hB1
  clear hz
  replace hB2 := hC32.blk hB2 (by simp [blks] <;> omega)
  replace hO6 := hO6.chg hC32 (fun c hc hd => by simp [blks] at hd; (try exact hn_v6_b1 c hc hd))
  replace hO9 := hO9.chg hC32 (fun c hc hd => by simp [blks] at hd; (try exact hn_v9_b1 c hc hd))
  replace hO12 := hO12.chg hC32 (fun c hc hd => by simp [blks] at hd; (try exact hn_v12_b1 c hc hd))
  replace hO18 := hO18.chg hC32 (fun c hc hd => by simp [blks] at hd; (try exact hn_v18_b1 c hc hd))
  replace hO21 := hO21.chg hC32 (fun c hc hd => by simp [blks] at hd; (try exact hn_v21_b1 c hc hd))
  replace hO24 := hO24.chg hC32 (fun c hc hd => by simp [blks] at hd; (try exact hn_v24_b1 c hc hd))
  replace hO27 := hO27.chg hC32 (fun c hc hd => by simp [blks] at hd; (try exact hn_v27_b1 c hc hd))
  replace hX := Chg.below hX hC32 (Nat.le_refl _) (by simp [blks] <;> omega)
  refine k_q 16 H rfl (q_fieldAddr0 rfl fo29_8) rfl (by kernel_rfl) ?_
  clear H a; intro a H
  refine k_store1 17 H rfl rfl rfl sz26 hB1 (by simp) (by first | rfl | exact hO6.one | exact hO9.one | exact hO12.one | exact hO18.one | exact hO21.one | exact hO24.one | exact hO27.one) (by kernel_rfl) (.inr (by kernel_rfl)) ?_
  clear H; intro w33 hB1N hC34 hz; clear a; intro a H
  replace hB1 := hB1N; clear hB1N
  simp only [List.set_cons_succ, List.set_cons_zero] at hB1
  clear hz
  replace hB2 := hC34.blk hB2 (by simp [blks] <;> omega)
  replace hO6 := hO6.chg hC34 (fun c hc hd => by simp [blks] at hd; (try exact hn_v6_b1 c hc hd))
  replace hO9 := hO9.chg hC34 (fun c hc hd => by simp [blks] at hd; (try exact hn_v9_b1 c hc hd))
  replace hO12 := hO12.chg hC34 (fun c hc hd => by simp [blks] at hd; (try exact hn_v12_b1 c hc hd))
  replace hO18 := hO18.chg hC34 (fun c hc hd => by simp [blks] at hd; (try exact hn_v18_b1 c hc hd))
  replace hO21 := hO21.chg hC34 (fun c hc hd => by simp [blks] at hd; (try exact hn_v21_b1 c hc hd))
  replace hO24 := hO24.chg hC34 (fun c hc hd => by simp [blks] at hd; (try exact hn_v24_b1 c hc hd))
  replace hO27 := hO27.chg hC34 (fun c hc hd => by simp [blks] at hd; (try exact hn_v27_b1 c hc hd))
  replace hX := Chg.below hX hC34 (Nat.le_refl _) (by simp [blks] <;> omega)
  refine k_q 18 H rfl (q_fieldAddr0 rfl fo29_9) rfl (by kernel_rfl) ?_
  clear H a; intro a H
  refine k_store1 19 H rfl rfl rfl sz27 hB1 (by simp) (by first | rfl | exact hO6.one | exact hO9.one | exact hO12.one | exact hO18.one | exact hO21.one | exact hO24.one | exact hO27.one) (by kernel_rfl) (.inr (by kernel_rfl)) ?_
  clear H; intro w35 hB1N hC36 hz; clear a; intro a H
  replace hB1 := hB1N; clear hB1N
  simp only [List.set_cons_succ, List.set_cons_zero] at hB1
  clear hz
  replace hB2 := hC36.blk hB2 (by simp [blks] <;> omega)
  replace hO6 := hO6.chg hC36 (fun c hc hd => by simp [blks] at hd; (try exact hn_v6_b1 c hc hd))
  replace hO9 := hO9.chg hC36 (fun c hc hd => by simp [blks] at hd; (try exact hn_v9_b1 c hc hd))
  replace hO12 := hO12.chg hC36 (fun c hc hd => by simp [blks] at hd; (try exact hn_v12_b1 c hc hd))
  replace hO18 := hO18.chg hC36 (fun c hc hd => by simp [blks] at hd; (try exact hn_v18_b1 c hc hd))
  replace hO21 := hO21.chg hC36 (fun c hc hd => by simp [blks] at hd; (try exact hn_v21_b1 c hc hd))
  replace hO24 := hO24.chg hC36 (fun c hc hd => by simp [blks] at hd; (try exact hn_v24_b1 c hc hd))
  replace hO27 := hO27.chg hC36 (fun c hc hd => by simp [blks] at hd; (try exact hn_v27_b1 c hc hd))
  replace hX := Chg.below hX hC36 (Nat.le_refl _) (by simp [blks] <;> omega)
  refine k_done (by kernel_rfl) ?_
  refine then_normal ?_
  refine wp_seq ?_
  refine wp_seq ?_
  refine wp_region_lit ?_
  refine n_q H (q_fieldAddr0 rfl fo29_8) rfl ?_
  clear H a; intro a H
  refine n_q H (q_load rfl (hB1.ld ag26 rfl)) rfl ?_
  clear H a; intro a H
  obtain ⟨A24, c24, hv24, hl24, hm24, hn24, hz24⟩ := hO24.form
  simp only [maxLen] at hm24
  refine n_q H (q_lenSl (A := A24) (n := s.ports.length) (c := c24) Try.underlying26 (congrArg some hv24)) rfl ?_
  clear H a; intro a H
  refine n_q H (q_move rfl) rfl ?_
  clear H a; intro a H
  refine n_nil ?_
  refine then_normal ?_
  refine wp_block ?_
  refine c_loop (σ := Nat) (fun i => [(1, .pointer (some ⟨b1, 0, none⟩)), (2, .pointer (some ⟨b2, 0, none⟩)), (34, .int .i64 (s.ports.length : Nat)), (35, .int .i64 (i : Nat))]) (fun i wl => i ≤ s.ports.length ∧ (∃ (qs : List Value) (fp : Nat → Prop), Foot (fun w' => PortsIn w' qs s.ports) fp wl ∧ (∀ b, fp b → b ∉ blks v24 ∧ b ≠ b1 ∧ b ≠ b2 ∧ b ∉ blks v27) ∧ qs.length = s.ports.length ∧ Own wl 55 2 v24 s.ports.length (portCells qs s.ports)) ∧ Chg (blks v24) w35 wl) (fun i => s.ports.length - i) 0 H ⟨rfl, rfl, rfl, rfl, trivial⟩ ⟨Nat.zero_le _, ⟨qs0, fun b => b < w.heap.size, hqs0.foot.ext' hX, fun b hb => ⟨fun hc => (by have := hlo_v24 b hc; omega), by omega, by omega, fun hc => (by have := hlo_v27 b hc; omega)⟩, hqs0.len, hO24⟩, Chg.refl _ _⟩ ?_
  clear H; clear a; intro i a w37 H hR
  simp only [ent, List.map_cons, List.map_nil] at H
  try dsimp only at hR
  obtain ⟨hi, ⟨qs, fp, hF, hfp, hql, hO24⟩, hE38⟩ := hR
  replace hB1 := hE38.blk hB1 (fun hd => hn_v24_b1 _ hd rfl)
  replace hB2 := hE38.blk hB2 (fun hd => hn_v24_b2 _ hd rfl)
  replace hO6 := hO6.chg hE38 (fun c hc hd => hn_v6_v24 c hc hd)
  replace hO9 := hO9.chg hE38 (fun c hc hd => hn_v9_v24 c hc hd)
  replace hO12 := hO12.chg hE38 (fun c hc hd => hn_v12_v24 c hc hd)
  replace hO18 := hO18.chg hE38 (fun c hc hd => hn_v18_v24 c hc hd)
  replace hO21 := hO21.chg hE38 (fun c hc hd => hn_v21_v24 c hc hd)
  replace hO27 := hO27.chg hE38 (fun c hc hd => hn_v27_v24 c hc hd)
  replace hX := Chg.below hX hE38 (Nat.le_refl _) hlo_v24
  have hY39 := hE38
  refine wp_seq ?_
  refine wp_region_lit ?_
  refine n_q H (q_lss rfl rfl) rfl ?_
  clear H a; intro a H
  refine n_nil ?_
  refine then_normal ?_
  refine wp_seq ?_
  refine c_cond H rfl (fun hc36 => ?_) (fun hc36 => ?_)
  · (try simp only [decide_eq_true_eq, decide_eq_false_iff_not, Bool.and_eq_true, Bool.or_eq_true, Bool.and_eq_false_iff, Bool.or_eq_false_iff, beq_iff_eq, bne_iff_ne, beq_eq_false_iff_ne, bne_eq_false_iff_eq, ne_eq, Bool.not_eq_true', Bool.not_eq_false', Int.not_lt, Int.not_le, Bool.not_eq_true, Bool.not_eq_false] at hc36)
    have hi1 : i < s.ports.length := by omega
    obtain ⟨bu, cap, hv24u⟩ := hO24.sm (by omega)
    subst hv24u
    obtain ⟨csu, hBu, hnc, hcm, hcl, hxl, htk⟩ := hO24.blk
    obtain ⟨p, hp⟩ : ∃ p, s.ports[i]? = some p := ⟨_, List.getElem?_eq_getElem hi1⟩
    obtain ⟨q, hq, hsl⟩ := hF.now.at hp
    have hcq : csu[i * 2 + 0]? = some q := by have := portCells_at0 hql hq; rw [← htk, List.getElem?_take] at this; split at this; exact this; cases this
    have hn_b1_bu : b1 ≠ bu := fun e => hn_v24_b1 bu (by simp [blks]) e.symm
    have hn_b2_bu : b2 ≠ bu := fun e => hn_v24_b2 bu (by simp [blks]) e.symm
    have hlo_bu : w.heap.size ≤ bu := hlo_v24 bu (by simp [blks])
    have hn_v6_bu : ∀ c ∈ blks v6, c ≠ bu := fun c hc e => hn_v6_v24 c hc (by rw [e]; simp [blks])
    have hn_v9_bu : ∀ c ∈ blks v9, c ≠ bu := fun c hc e => hn_v9_v24 c hc (by rw [e]; simp [blks])
    have hn_v12_bu : ∀ c ∈ blks v12, c ≠ bu := fun c hc e => hn_v12_v24 c hc (by rw [e]; simp [blks])
    have hn_v18_bu : ∀ c ∈ blks v18, c ≠ bu := fun c hc e => hn_v18_v24 c hc (by rw [e]; simp [blks])
    have hn_v21_bu : ∀ c ∈ blks v21, c ≠ bu := fun c hc e => hn_v21_v24 c hc (by rw [e]; simp [blks])
    have hn_v27_bu : ∀ c ∈ blks v27, c ≠ bu := fun c hc e => hn_v27_v24 c hc (by rw [e]; simp [blks])
    have hRr := Ext.rfl' (w := w37)
    clear hO24
    refine wp_skip ?_
    refine then_normal ?_
    refine wp_seq ?_
    refine wp_block ?_
    refine wp_seq ?_
    refine wp_region_lit ?_
    refine n_q H (q_move rfl) rfl ?_
    clear H a; intro a H
    refine n_q H (q_assign rfl) rfl ?_
    clear H a; intro a H
    refine n_nil ?_
    refine then_normal ?_
    refine c_ord [] 12 (by kernel_rfl) ?_
    obtain ⟨w40, hw40⟩ : ∃ x, x = w37.drew := ⟨_, rfl⟩
    rw [← hw40]
    have hE41 : Ext w37 w40 := by rw [hw40]; exact Ext.drew' _
    clear hw40
    replace hB1 := hB1.ext hE41
    replace hB2 := hB2.ext hE41
    replace hBu := hBu.ext hE41
    replace hO6 := hO6.ext hE41
    replace hO9 := hO9.ext hE41
    replace hO12 := hO12.ext hE41
    replace hO18 := hO18.ext hE41
    replace hO21 := hO21.ext hE41
    replace hO27 := hO27.ext hE41
    replace hX := Ext.trans' hX hE41
    replace hY39 := Chg.trans hY39 (Chg.of_ext hE41)
    replace hRr := Ext.trans' hRr hE41
    have hh_b1 := hB1.lt
    have hh_b2 := hB2.lt
    have hh_bu := hBu.lt
    have hh0 := hX.size
    refine k_take 0 H rfl (q_fieldAddr0 rfl fo29_8) rfl (by kernel_rfl) (by kernel_rfl) (by kernel_rfl) (by kernel_rfl) (fun _ _ _ h => h) ?_
    clear H a; intro a H
    refine k_take 1 H rfl (q_load rfl (hB1.ldB hh_b1 (by simp <;> omega) ag26 rfl)) rfl (by kernel_rfl) (by kernel_rfl) (by kernel_rfl) (by kernel_rfl) (fun _ _ _ h => h) ?_
    clear H a; intro a H
    refine k_take 2 H rfl (q_move rfl) rfl (by kernel_rfl) (by kernel_rfl) (by kernel_rfl) (by kernel_rfl) (fun _ _ _ h => h) ?_
    clear H a; intro a H
    refine k_take 3 H rfl (q_fieldAddr0 rfl fo29_8) rfl (by kernel_rfl) (by kernel_rfl) (by kernel_rfl) (by kernel_rfl) (fun _ _ _ h => h) ?_
    clear H a; intro a H
    refine k_take 4 H rfl (q_load rfl (hB1.ldB hh_b1 (by simp <;> omega) ag26 rfl)) rfl (by kernel_rfl) (by kernel_rfl) (by kernel_rfl) (by kernel_rfl) (fun _ _ _ h => h) ?_
    clear H a; intro a H
    refine k_take 5 H rfl (q_move rfl) rfl (by kernel_rfl) (by kernel_rfl) (by kernel_rfl) (by kernel_rfl) (fun _ _ _ h => h) ?_
    clear H a; intro a H
    refine k_take 6 H rfl (q_indexAddr0 Try.underlying26 sz55 rfl rfl hi1) rfl (by kernel_rfl) (by kernel_rfl) (by kernel_rfl) (by kernel_rfl) (fun _ _ _ h => h) ?_
    clear H a; intro a H
    refine k_take 7 H rfl (q_fieldAddrO rfl fo55_0) rfl (by kernel_rfl) (by kernel_rfl) (by kernel_rfl) (by kernel_rfl) (fun _ _ _ h => h) ?_
    clear H a; intro a H
    refine k_take 8 H rfl (q_load rfl (hBu.ldB hh_bu (by simp) ag53 hcq)) rfl (by kernel_rfl) (by kernel_rfl) (by kernel_rfl) (by kernel_rfl) (fun _ _ _ h => h) ?_
    clear H a; intro a H
    refine k_call 9 H rfl rfl en23 (clone_string (hsl.ext (Flat.mono _) hRr)) rfl (by kernel_rfl) (fun v w hv => .inl (ChgF.of_ext hv.2.1)) ?_
    clear H a; intro v47 w42 hv a H
    obtain ⟨hO47, hE43, hf47⟩ := hv
    have hn_v47_b1 : ∀ c ∈ blks v47, c ≠ b1 := fun c hc => by have := hf47 c hc; have := hB1.lt; omega
    have hn_v47_b2 : ∀ c ∈ blks v47, c ≠ b2 := fun c hc => by have := hf47 c hc; have := hB2.lt; omega
    have hn_v47_bu : ∀ c ∈ blks v47, c ≠ bu := fun c hc => by have := hf47 c hc; have := hBu.lt; omega
    have hn_v47_v6 : ∀ c ∈ blks v47, c ∉ blks v6 := fun c hc hd => by have := hf47 c hc; have := hO6.lt c hd; omega
    have hn_v6_v47 : ∀ c ∈ blks v6, c ∉ blks v47 := fun c hc hd => hn_v47_v6 c hd hc
    have hn_v47_v9 : ∀ c ∈ blks v47, c ∉ blks v9 := fun c hc hd => by have := hf47 c hc; have := hO9.lt c hd; omega
    have hn_v9_v47 : ∀ c ∈ blks v9, c ∉ blks v47 := fun c hc hd => hn_v47_v9 c hd hc
    have hn_v47_v12 : ∀ c ∈ blks v47, c ∉ blks v12 := fun c hc hd => by have := hf47 c hc; have := hO12.lt c hd; omega
    have hn_v12_v47 : ∀ c ∈ blks v12, c ∉ blks v47 := fun c hc hd => hn_v47_v12 c hd hc
    have hn_v47_v18 : ∀ c ∈ blks v47, c ∉ blks v18 := fun c hc hd => by have := hf47 c hc; have := hO18.lt c hd; omega
    have hn_v18_v47 : ∀ c ∈ blks v18, c ∉ blks v47 := fun c hc hd => hn_v47_v18 c hd hc
    have hn_v47_v21 : ∀ c ∈ blks v47, c ∉ blks v21 := fun c hc hd => by have := hf47 c hc; have := hO21.lt c hd; omega
    have hn_v21_v47 : ∀ c ∈ blks v21, c ∉ blks v47 := fun c hc hd => hn_v47_v21 c hd hc
    have hn_v47_v27 : ∀ c ∈ blks v47, c ∉ blks v27 := fun c hc hd => by have := hf47 c hc; have := hO27.lt c hd; omega
    have hn_v27_v47 : ∀ c ∈ blks v27, c ∉ blks v47 := fun c hc hd => hn_v47_v27 c hd hc
    have hlo_v47 : ∀ c ∈ blks v47, w.heap.size ≤ c := fun c hc => by have := hf47 c hc; have := hX.size; omega
    replace hB1 := hB1.ext hE43
    replace hB2 := hB2.ext hE43
    replace hBu := hBu.ext hE43
    replace hO6 := hO6.ext hE43
    replace hO9 := hO9.ext hE43
    replace hO12 := hO12.ext hE43
    replace hO18 := hO18.ext hE43
    replace hO21 := hO21.ext hE43
    replace hO27 := hO27.ext hE43
    replace hX := Ext.trans' hX hE43
    replace hY39 := Chg.trans hY39 (Chg.of_ext hE43)
    replace hRr := Ext.trans' hRr hE43
    refine k_q 10 H rfl (q_indexAddr0 Try.underlying26 sz55 rfl rfl hi1) rfl (by kernel_rfl) ?_
    clear H a; intro a H
    refine k_take 11 H rfl (q_fieldAddrO rfl fo55_0) rfl (by kernel_rfl) (by kernel_rfl) (by kernel_rfl) (by kernel_rfl) (fun _ _ _ h => h) ?_
    clear H a; intro a H
    refine k_store1 12 H rfl rfl rfl sz53 hBu (by omega) hO47.one (by kernel_rfl) (.inr (by kernel_rfl)) ?_
    clear H; intro w9 hBuN hC9 hz; clear a; intro a H
    replace hBu := hBuN; clear hBuN
    rw [Nat.add_zero] at hBu
    have hO24 : Own w9 55 2 (.slice (some ⟨bu, 0, none⟩) s.ports.length cap) s.ports.length (portCells (qs.set i v47) s.ports) := by
      refine Own.ofBlk' hBu hnc hcm (by simp [hcl]) ?_ ?_
      · rw [take_set' htk, portCells_set hql]
      · rw [portCells_len (by simpa using hql)]
    have hO47b := hO47.chg hC9 (fun c hc hd => by simp at hd; exact hn_v47_bu c hc hd)
    have hF2 := ((hF.ext hRr).chg hC9 (by intro b hb _ hf; simp at hb; subst hb; exact (hfp b hf).1 (by simp [blks]))).and hO47b.foot |>.mono (fun w' hw => hw.1.set hp (hw.2.sl rfl hsl.r.lens hsl.b))
    have hfp2 : ∀ b, (fp b ∨ b ∈ blks v47) → b ∉ blks (.slice (some ⟨bu, 0, none⟩) s.ports.length cap) ∧ b ≠ b1 ∧ b ≠ b2 ∧ b ∉ blks v27 := by
      rintro b (hb | hb)
      · exact hfp b hb
      · exact ⟨by simp [blks]; exact hn_v47_bu b hb, hn_v47_b1 b hb, hn_v47_b2 b hb, hn_v47_v27 b hb⟩
    replace hB1 := hC9.blk hB1 (by simp [blks] <;> omega)
    replace hB2 := hC9.blk hB2 (by simp [blks] <;> omega)
    replace hO6 := hO6.chg hC9 (fun c hc hd => by simp [blks] at hd; (try exact hn_v6_bu c hc hd))
    replace hO9 := hO9.chg hC9 (fun c hc hd => by simp [blks] at hd; (try exact hn_v9_bu c hc hd))
    replace hO12 := hO12.chg hC9 (fun c hc hd => by simp [blks] at hd; (try exact hn_v12_bu c hc hd))
    replace hO18 := hO18.chg hC9 (fun c hc hd => by simp [blks] at hd; (try exact hn_v18_bu c hc hd))
    replace hO21 := hO21.chg hC9 (fun c hc hd => by simp [blks] at hd; (try exact hn_v21_bu c hc hd))
    replace hO27 := hO27.chg hC9 (fun c hc hd => by simp [blks] at hd; (try exact hn_v27_bu c hc hd))
    replace hO47 := hO47.chg hC9 (fun c hc hd => by simp [blks] at hd; (try exact hn_v47_bu c hc hd))
    replace hY39 := Chg.trans2 hY39 hC9 (by simp [blks] <;> omega)
    replace hX := Chg.below hX hC9 (Nat.le_refl _) (by simp [blks] <;> omega)
    refine k_done (by kernel_rfl) ?_
    refine block_normal ?_
    refine then_normal ?_
    refine wp_region_lit ?_
    refine n_q H (q_add rfl rfl (by constructor <;> omega)) rfl ?_
    clear H a; intro a H
    refine n_q H (q_move rfl) rfl ?_
    clear H a; intro a H
    refine n_nil ?_
    refine then_normal ?_
    exact round (i + 1) H ⟨rfl, rfl, rfl, rfl, trivial⟩ ⟨by omega, ⟨qs.set i v47, _, hF2, hfp2, by simpa using hql, hO24⟩, hY39⟩ (by first | omega | (dsimp only; omega))
  · (try simp only [decide_eq_true_eq, decide_eq_false_iff_not, Bool.and_eq_true, Bool.or_eq_true, Bool.and_eq_false_iff, Bool.or_eq_false_iff, beq_iff_eq, bne_iff_ne, beq_eq_false_iff_ne, bne_eq_false_iff_eq, ne_eq, Bool.not_eq_true', Bool.not_eq_false', Int.not_lt, Int.not_le, Bool.not_eq_true, Bool.not_eq_false] at hc36)
    refine wp_exit ?_
    refine then_exit ?_
    refine then_exit ?_
    refine block_exit ?_
    refine then_normal ?_
    refine wp_seq ?_
    refine wp_region_lit ?_
    refine n_q H (q_load rfl (hB1.ldAll ag29 sz29)) rfl ?_
    clear H a; intro a H
    refine n_storeAll H rfl rfl rfl sz29 hB2 rfl (by simp [hO6.one, hO9.one, hO12.one, hO18.one, hO21.one, hO24.one, hO27.one]) ?_
    clear H; intro w44 hB2N hC45 hz; clear a; intro a H
    replace hB2 := hB2N; clear hB2N
    clear hz
    replace hB1 := hC45.blk hB1 (by simp [blks] <;> omega)
    replace hO6 := hO6.chg hC45 (fun c hc hd => by simp [blks] at hd; (try exact hn_v6_b2 c hc hd))
    replace hO9 := hO9.chg hC45 (fun c hc hd => by simp [blks] at hd; (try exact hn_v9_b2 c hc hd))
    replace hO12 := hO12.chg hC45 (fun c hc hd => by simp [blks] at hd; (try exact hn_v12_b2 c hc hd))
    replace hO18 := hO18.chg hC45 (fun c hc hd => by simp [blks] at hd; (try exact hn_v18_b2 c hc hd))
    replace hO21 := hO21.chg hC45 (fun c hc hd => by simp [blks] at hd; (try exact hn_v21_b2 c hc hd))
    replace hO24 := hO24.chg hC45 (fun c hc hd => by simp [blks] at hd; (try exact hn_v24_b2 c hc hd))
    replace hO27 := hO27.chg hC45 (fun c hc hd => by simp [blks] at hd; (try exact hn_v27_b2 c hc hd))
    replace hX := Chg.below hX hC45 (Nat.le_refl _) (by simp [blks] <;> omega)
    replace hF := hF.chg hC45 (fun b hb _ hf => by simp at hb; subst hb; exact (hfp _ hf).2.2.1 rfl)
    refine n_nil ?_
    refine then_normal ?_
    refine wp_ret ?_
    refine retL H (.inr rfl) rfl (vs := [_]) (resCell rfl (hB2.ldAll ag29 sz29) resNil) ?_
    exact ⟨⟨v6, v9, v12, v18, v21, v24, v27, _, rfl, Foot.mono (Foot.and (Foot.and (Foot.and (Foot.and (Foot.and (Own.foot hO6) (Own.foot hO9)) (Own.foot hO12)) (Own.foot hO18)) (Own.foot hO21)) (Foot.and hF (Own.foot hO24)))
          (fun w' hw => ⟨hw.1.1.1.1.1.sl rfl h3.r.lens h3.b, hw.1.1.1.1.2.sl rfl h4.r.lens h4.b, hw.1.1.1.2.sl rfl h5.r.lens h5.b, hw.1.1.2.sl rfl h6.r.lens h6.b, hw.1.2.sl rfl h7.r.lens h7.b, hw.2.2.slP rfl hw.2.1 h8.b⟩),
          hO27, fun b hb => ⟨hlo_v27 b hb, fun hf => by
            rcases hf with ((((hf | hf) | hf) | hf) | hf) | (hf | hf)
            · exact hn_v27_v6 b hb hf
            · exact hn_v27_v9 b hb hf
            · exact hn_v27_v12 b hb hf
            · exact hn_v27_v18 b hb hf
            · exact hn_v27_v21 b hb hf
            · exact (hfp b hf).2.2.2 hb
            · exact hn_v27_v24 b hb hf⟩, h9.r.lens, h9.b⟩, hX⟩

end Go.Proofs.Ytfoijpfmjmjjpaa
