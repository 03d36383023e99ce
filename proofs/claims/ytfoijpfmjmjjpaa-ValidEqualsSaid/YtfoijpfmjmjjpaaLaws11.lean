/- ferrylaw11: some, ValidSames, ValidEquals (written by wip/tools) -/
import Derived.Test.YtfoijpfmjmjjpaaRCopy11
set_option linter.unusedVariables false
set_option linter.unusedSimpArgs false
set_option maxRecDepth 10000
namespace Go.Proofs.Ytfoijpfmjmjjpaa
open Go Go.RowKit
theorem ag34 : aggB Try.prog 34 = some true := by kernel_rfl
theorem bd29 : bdB Try.prog 29 = true := by kernel_rfl
theorem pl29 : placesB Try.prog 29 = some #[(0, 1), (1, 1), (2, 1), (3, 1), (4, 1), (5, 1), (6, 1), (7, 1), (8, 1), (9, 1)] := by kernel_rfl
theorem bd34 : bdB Try.prog 34 = true := by kernel_rfl
theorem pl34 : placesB Try.prog 34 = some #[(0, 1), (1, 1), (2, 1), (3, 1), (4, 1), (5, 1), (6, 1)] := by kernel_rfl
theorem bd40 : bdB Try.prog 40 = true := by kernel_rfl
theorem pl40 : placesB Try.prog 40 = some #[(0, 1), (1, 1), (2, 64)] := by kernel_rfl
theorem bd44 : bdB Try.prog 44 = true := by kernel_rfl
theorem pl44 : placesB Try.prog 44 = some #[(0, 1), (1, 1)] := by kernel_rfl
theorem bd46 : bdB Try.prog 46 = true := by kernel_rfl
theorem pl46 : placesB Try.prog 46 = some #[(0, 1), (1, 1), (2, 1)] := by kernel_rfl
theorem bd48 : bdB Try.prog 48 = true := by kernel_rfl
theorem pl48 : placesB Try.prog 48 = some #[(0, 1), (1, 1), (2, 1), (3, 1)] := by kernel_rfl
theorem bd52 : bdB Try.prog 52 = true := by kernel_rfl
theorem pl52 : placesB Try.prog 52 = some #[(0, 16), (16, 1), (17, 1), (18, 1), (19, 1), (20, 1)] := by kernel_rfl
theorem en10 : entersB Try.prog 10 = true := by kernel_rfl
theorem en11 : entersB Try.prog 11 = true := by kernel_rfl
theorem en5 : entersB Try.prog 5 = true := by kernel_rfl
theorem en6 : entersB Try.prog 6 = true := by kernel_rfl
theorem en7 : entersB Try.prog 7 = true := by kernel_rfl
theorem en8 : entersB Try.prog 8 = true := by kernel_rfl
theorem en9 : entersB Try.prog 9 = true := by kernel_rfl
theorem fo40_1 : fOff Try.prog 40 1 = some 1 := by kernel_rfl
theorem sz34 : sizeB Try.prog 34 = some 7 := by kernel_rfl
theorem sz44 : sizeB Try.prog 44 = some 2 := by kernel_rfl
theorem sz46 : sizeB Try.prog 46 = some 3 := by kernel_rfl
theorem sz48 : sizeB Try.prog 48 = some 4 := by kernel_rfl
theorem ze34 : zeroB Try.prog 34 = some [.int .i64 0, .bool false, .slice none 0 0, .slice none 0 0, .slice none 0 0, .int .i64 0, .slice none 0 0] := by kernel_rfl
theorem ze44 : zeroB Try.prog 44 = some [.int .i64 0, .string ⟨#[]⟩] := by kernel_rfl
theorem ze46 : zeroB Try.prog 46 = some [.int .i64 0, .int .i64 0, .bool false] := by kernel_rfl
theorem ze48 : zeroB Try.prog 48 = some [.int .i64 0, .int .i64 0, .int .i64 0, .int .i64 0] := by kernel_rfl

/-- The state of ferrylaw11.some. -/
def someP : ProcM := ⟨List.replicate 16 0, 0, 1, 0, 0, 0⟩
def somePage : PageM := ⟨7, false, List.replicate 64 0⟩
def someS : StateM' := ⟨7, 0, 0, [someP, someP], [0, 1], [], [false, false], [0], [⟨[], 0⟩], [somePage]⟩
theorem some_w {w : World} : Calls Try.prog 5 ([] : List Value).toArray w (Ret fun u w' => ∃ (pcs : List Value) (sv : Value), u = .tuple #[.agg pcs.toArray, sv] ∧ (pcs.length = 7 ∧ ∀ x ∈ pcs, x.oneCell' = true) ∧ NewState 40 w.heap.size w' sv someS ∧ Ext w w') := by
  refine enter Try.func5 rfl rfl rfl ?_
  intro a H
  dsimp only [enumL, Nat.zero_add, Nat.reduceAdd] at H
  refine wp_seq ?_
  refine wp_region_lit ?_
  refine n_alloc H ze34 rfl ?_
  clear H; intro b0 w1 hB0 hE2 hs_b0; clear a; intro a H
  have hw_b0 : w.heap.size ≤ b0 := by omega
  have hX := hE2
  refine n_alloc H ze29 rfl ?_
  clear H; intro b1 w3 hB1 hE4 hs_b1; clear a; intro a H
  have hn_b0_b1 : b0 ≠ b1 := by have := hB0.lt; omega
  have hn_b1_b0 := hn_b0_b1.symm
  have hlt_b0_b1 : b0 < b1 := by have := hB0.lt; omega
  have hw_b1 : w.heap.size ≤ b1 := by have := hX.size; omega
  replace hB0 := hB0.ext hE4
  replace hX := Ext.trans' hX hE4
  refine n_nil ?_
  refine then_normal ?_
  refine wp_seq ?_
  refine wp_region_lit ?_
  refine n_q H (q_build (cs := [.int .i64 7, .string ⟨#[]⟩]) ze44 bd44 pl44 rfl (by kernel_rfl)) rfl ?_
  clear H a; intro a H
  refine n_buildSlice H Try.underlying30 sz44 ze44 rfl rfl rfl (cs := [.int .i64 7, .string ⟨#[]⟩]) (by kernel_rfl) rfl ?_
  clear H; intro b5 w5 hB5 hE6 hs_b5; clear a; intro a H
  have hn_b0_b5 : b0 ≠ b5 := by have := hB0.lt; omega
  have hn_b5_b0 := hn_b0_b5.symm
  have hlt_b0_b5 : b0 < b5 := by have := hB0.lt; omega
  have hn_b1_b5 : b1 ≠ b5 := by have := hB1.lt; omega
  have hn_b5_b1 := hn_b1_b5.symm
  have hlt_b1_b5 : b1 < b5 := by have := hB1.lt; omega
  have hw_b5 : w.heap.size ≤ b5 := by have := hX.size; omega
  replace hB0 := hB0.ext hE6
  replace hB1 := hB1.ext hE6
  replace hX := Ext.trans' hX hE6
  refine n_q H (q_build (cs := [.int .i64 0, .int .i64 0, .bool true]) ze46 bd46 pl46 rfl (by kernel_rfl)) rfl ?_
  clear H a; intro a H
  refine n_q H (q_build (cs := [.int .i64 0, .int .i64 0, .bool true]) ze46 bd46 pl46 rfl (by kernel_rfl)) rfl ?_
  clear H a; intro a H
  refine n_buildSlice H Try.underlying31 sz46 ze46 rfl rfl rfl (cs := [.int .i64 0, .int .i64 0, .bool true, .int .i64 0, .int .i64 0, .bool true]) (by kernel_rfl) rfl ?_
  clear H; intro b8 w7 hB8 hE8 hs_b8; clear a; intro a H
  have hn_b0_b8 : b0 ≠ b8 := by have := hB0.lt; omega
  have hn_b8_b0 := hn_b0_b8.symm
  have hlt_b0_b8 : b0 < b8 := by have := hB0.lt; omega
  have hn_b1_b8 : b1 ≠ b8 := by have := hB1.lt; omega
  have hn_b8_b1 := hn_b1_b8.symm
  have hlt_b1_b8 : b1 < b8 := by have := hB1.lt; omega
  have hn_b5_b8 : b5 ≠ b8 := by have := hB5.lt; omega
  have hn_b8_b5 := hn_b5_b8.symm
  have hlt_b5_b8 : b5 < b8 := by have := hB5.lt; omega
  have hw_b8 : w.heap.size ≤ b8 := by have := hX.size; omega
  replace hB0 := hB0.ext hE8
  replace hB1 := hB1.ext hE8
  replace hB5 := hB5.ext hE8
  replace hX := Ext.trans' hX hE8
  refine n_q H (q_build (cs := [.int .i64 3, .int .i64 4, .int .i64 2, .int .i64 0]) ze48 bd48 pl48 rfl (by kernel_rfl)) rfl ?_
  clear H a; intro a H
  refine n_buildSlice H Try.underlying32 sz48 ze48 rfl rfl rfl (cs := [.int .i64 3, .int .i64 4, .int .i64 2, .int .i64 0]) (by kernel_rfl) rfl ?_
  clear H; intro b10 w9 hB10 hE10 hs_b10; clear a; intro a H
  have hn_b0_b10 : b0 ≠ b10 := by have := hB0.lt; omega
  have hn_b10_b0 := hn_b0_b10.symm
  have hlt_b0_b10 : b0 < b10 := by have := hB0.lt; omega
  have hn_b1_b10 : b1 ≠ b10 := by have := hB1.lt; omega
  have hn_b10_b1 := hn_b1_b10.symm
  have hlt_b1_b10 : b1 < b10 := by have := hB1.lt; omega
  have hn_b5_b10 : b5 ≠ b10 := by have := hB5.lt; omega
  have hn_b10_b5 := hn_b5_b10.symm
  have hlt_b5_b10 : b5 < b10 := by have := hB5.lt; omega
  have hn_b8_b10 : b8 ≠ b10 := by have := hB8.lt; omega
  have hn_b10_b8 := hn_b8_b10.symm
  have hlt_b8_b10 : b8 < b10 := by have := hB8.lt; omega
  have hw_b10 : w.heap.size ≤ b10 := by have := hX.size; omega
  replace hB0 := hB0.ext hE10
  replace hB1 := hB1.ext hE10
  replace hB5 := hB5.ext hE10
  replace hB8 := hB8.ext hE10
  replace hX := Ext.trans' hX hE10
  refine n_buildSlice H Try.underlying23 sz3 ze3 rfl rfl rfl (cs := [.int .i64 0]) (by kernel_rfl) rfl ?_
  clear H; intro b11 w11 hB11 hE12 hs_b11; clear a; intro a H
  have hn_b0_b11 : b0 ≠ b11 := by have := hB0.lt; omega
  have hn_b11_b0 := hn_b0_b11.symm
  have hlt_b0_b11 : b0 < b11 := by have := hB0.lt; omega
  have hn_b1_b11 : b1 ≠ b11 := by have := hB1.lt; omega
  have hn_b11_b1 := hn_b1_b11.symm
  have hlt_b1_b11 : b1 < b11 := by have := hB1.lt; omega
  have hn_b5_b11 : b5 ≠ b11 := by have := hB5.lt; omega
  have hn_b11_b5 := hn_b5_b11.symm
  have hlt_b5_b11 : b5 < b11 := by have := hB5.lt; omega
  have hn_b8_b11 : b8 ≠ b11 := by have := hB8.lt; omega
  have hn_b11_b8 := hn_b8_b11.symm
  have hlt_b8_b11 : b8 < b11 := by have := hB8.lt; omega
  have hn_b10_b11 : b10 ≠ b11 := by have := hB10.lt; omega
  have hn_b11_b10 := hn_b10_b11.symm
  have hlt_b10_b11 : b10 < b11 := by have := hB10.lt; omega
  have hw_b11 : w.heap.size ≤ b11 := by have := hX.size; omega
  replace hB0 := hB0.ext hE12
  replace hB1 := hB1.ext hE12
  replace hB5 := hB5.ext hE12
  replace hB8 := hB8.ext hE12
  replace hB10 := hB10.ext hE12
  replace hX := Ext.trans' hX hE12
  refine n_q H (q_build (cs := [.int .i64 7, .bool false, .slice (some ⟨b5, 0, none⟩) 1 1, .slice (some ⟨b8, 0, none⟩) 2 2, .slice (some ⟨b10, 0, none⟩) 1 1, .int .i64 2, .slice (some ⟨b11, 0, none⟩) 1 1]) ze34 bd34 pl34 rfl (by kernel_rfl)) rfl ?_
  clear H a; intro a H
  refine n_alloc H ze34 rfl ?_
  clear H; intro b2 w13 hB2 hE14 hs_b2; clear a; intro a H
  have hn_b0_b2 : b0 ≠ b2 := by have := hB0.lt; omega
  have hn_b2_b0 := hn_b0_b2.symm
  have hlt_b0_b2 : b0 < b2 := by have := hB0.lt; omega
  have hn_b1_b2 : b1 ≠ b2 := by have := hB1.lt; omega
  have hn_b2_b1 := hn_b1_b2.symm
  have hlt_b1_b2 : b1 < b2 := by have := hB1.lt; omega
  have hn_b5_b2 : b5 ≠ b2 := by have := hB5.lt; omega
  have hn_b2_b5 := hn_b5_b2.symm
  have hlt_b5_b2 : b5 < b2 := by have := hB5.lt; omega
  have hn_b8_b2 : b8 ≠ b2 := by have := hB8.lt; omega
  have hn_b2_b8 := hn_b8_b2.symm
  have hlt_b8_b2 : b8 < b2 := by have := hB8.lt; omega
  have hn_b10_b2 : b10 ≠ b2 := by have := hB10.lt; omega
  have hn_b2_b10 := hn_b10_b2.symm
  have hlt_b10_b2 : b10 < b2 := by have := hB10.lt; omega
  have hn_b11_b2 : b11 ≠ b2 := by have := hB11.lt; omega
  have hn_b2_b11 := hn_b11_b2.symm
  have hlt_b11_b2 : b11 < b2 := by have := hB11.lt; omega
  have hw_b2 : w.heap.size ≤ b2 := by have := hX.size; omega
  replace hB0 := hB0.ext hE14
  replace hB1 := hB1.ext hE14
  replace hB5 := hB5.ext hE14
  replace hB8 := hB8.ext hE14
  replace hB10 := hB10.ext hE14
  replace hB11 := hB11.ext hE14
  replace hX := Ext.trans' hX hE14
  refine n_storeAll H rfl rfl rfl sz34 hB2 rfl (by simp) ?_
  clear H; intro w15 hB2N hC16 hz; clear a; intro a H
  replace hB2 := hB2N; clear hB2N
  clear hz
  replace hB0 := hC16.blk hB0 (by simp [blks] <;> omega)
  replace hB1 := hC16.blk hB1 (by simp [blks] <;> omega)
  replace hB5 := hC16.blk hB5 (by simp [blks] <;> omega)
  replace hB8 := hC16.blk hB8 (by simp [blks] <;> omega)
  replace hB10 := hC16.blk hB10 (by simp [blks] <;> omega)
  replace hB11 := hC16.blk hB11 (by simp [blks] <;> omega)
  replace hX := Chg.below hX hC16 (Nat.le_refl _) (by simp [blks] <;> omega)
  refine n_nil ?_
  refine then_normal ?_
  refine wp_seq ?_
  refine wp_region_lit ?_
  refine n_q H (q_build (cs := [.int .u32 0, .int .u32 0, .int .u32 0, .int .u32 0, .int .u32 0, .int .u32 0, .int .u32 0, .int .u32 0, .int .u32 0, .int .u32 0, .int .u32 0, .int .u32 0, .int .u32 0, .int .u32 0, .int .u32 0, .int .u32 0, .int .u32 0, .int .i64 1, .int .i64 0, .int .i64 0, .int .i64 0]) ze52 bd52 pl52 rfl (by kernel_rfl)) rfl ?_
  clear H a; intro a H
  refine n_q H (q_build (cs := [.int .u32 0, .int .u32 0, .int .u32 0, .int .u32 0, .int .u32 0, .int .u32 0, .int .u32 0, .int .u32 0, .int .u32 0, .int .u32 0, .int .u32 0, .int .u32 0, .int .u32 0, .int .u32 0, .int .u32 0, .int .u32 0, .int .u32 0, .int .i64 1, .int .i64 0, .int .i64 0, .int .i64 0]) ze52 bd52 pl52 rfl (by kernel_rfl)) rfl ?_
  clear H a; intro a H
  refine n_buildSlice H Try.underlying22 sz52 ze52 rfl rfl rfl (cs := [.int .u32 0, .int .u32 0, .int .u32 0, .int .u32 0, .int .u32 0, .int .u32 0, .int .u32 0, .int .u32 0, .int .u32 0, .int .u32 0, .int .u32 0, .int .u32 0, .int .u32 0, .int .u32 0, .int .u32 0, .int .u32 0, .int .u32 0, .int .i64 1, .int .i64 0, .int .i64 0, .int .i64 0, .int .u32 0, .int .u32 0, .int .u32 0, .int .u32 0, .int .u32 0, .int .u32 0, .int .u32 0, .int .u32 0, .int .u32 0, .int .u32 0, .int .u32 0, .int .u32 0, .int .u32 0, .int .u32 0, .int .u32 0, .int .u32 0, .int .u32 0, .int .i64 1, .int .i64 0, .int .i64 0, .int .i64 0]) (by kernel_rfl) rfl ?_
  clear H; intro b15 w17 hB15 hE18 hs_b15; clear a; intro a H
  have hn_b0_b15 : b0 ≠ b15 := by have := hB0.lt; omega
  have hn_b15_b0 := hn_b0_b15.symm
  have hlt_b0_b15 : b0 < b15 := by have := hB0.lt; omega
  have hn_b1_b15 : b1 ≠ b15 := by have := hB1.lt; omega
  have hn_b15_b1 := hn_b1_b15.symm
  have hlt_b1_b15 : b1 < b15 := by have := hB1.lt; omega
  have hn_b5_b15 : b5 ≠ b15 := by have := hB5.lt; omega
  have hn_b15_b5 := hn_b5_b15.symm
  have hlt_b5_b15 : b5 < b15 := by have := hB5.lt; omega
  have hn_b8_b15 : b8 ≠ b15 := by have := hB8.lt; omega
  have hn_b15_b8 := hn_b8_b15.symm
  have hlt_b8_b15 : b8 < b15 := by have := hB8.lt; omega
  have hn_b10_b15 : b10 ≠ b15 := by have := hB10.lt; omega
  have hn_b15_b10 := hn_b10_b15.symm
  have hlt_b10_b15 : b10 < b15 := by have := hB10.lt; omega
  have hn_b11_b15 : b11 ≠ b15 := by have := hB11.lt; omega
  have hn_b15_b11 := hn_b11_b15.symm
  have hlt_b11_b15 : b11 < b15 := by have := hB11.lt; omega
  have hn_b2_b15 : b2 ≠ b15 := by have := hB2.lt; omega
  have hn_b15_b2 := hn_b2_b15.symm
  have hlt_b2_b15 : b2 < b15 := by have := hB2.lt; omega
  have hw_b15 : w.heap.size ≤ b15 := by have := hX.size; omega
  replace hB0 := hB0.ext hE18
  replace hB1 := hB1.ext hE18
  replace hB5 := hB5.ext hE18
  replace hB8 := hB8.ext hE18
  replace hB10 := hB10.ext hE18
  replace hB11 := hB11.ext hE18
  replace hB2 := hB2.ext hE18
  replace hX := Ext.trans' hX hE18
  refine n_buildSlice H Try.underlying23 sz3 ze3 rfl rfl rfl (cs := [.int .i64 0, .int .i64 1]) (by kernel_rfl) rfl ?_
  clear H; intro b16 w19 hB16 hE20 hs_b16; clear a; intro a H
  have hn_b0_b16 : b0 ≠ b16 := by have := hB0.lt; omega
  have hn_b16_b0 := hn_b0_b16.symm
  have hlt_b0_b16 : b0 < b16 := by have := hB0.lt; omega
  have hn_b1_b16 : b1 ≠ b16 := by have := hB1.lt; omega
  have hn_b16_b1 := hn_b1_b16.symm
  have hlt_b1_b16 : b1 < b16 := by have := hB1.lt; omega
  have hn_b5_b16 : b5 ≠ b16 := by have := hB5.lt; omega
  have hn_b16_b5 := hn_b5_b16.symm
  have hlt_b5_b16 : b5 < b16 := by have := hB5.lt; omega
  have hn_b8_b16 : b8 ≠ b16 := by have := hB8.lt; omega
  have hn_b16_b8 := hn_b8_b16.symm
  have hlt_b8_b16 : b8 < b16 := by have := hB8.lt; omega
  have hn_b10_b16 : b10 ≠ b16 := by have := hB10.lt; omega
  have hn_b16_b10 := hn_b10_b16.symm
  have hlt_b10_b16 : b10 < b16 := by have := hB10.lt; omega
  have hn_b11_b16 : b11 ≠ b16 := by have := hB11.lt; omega
  have hn_b16_b11 := hn_b11_b16.symm
  have hlt_b11_b16 : b11 < b16 := by have := hB11.lt; omega
  have hn_b2_b16 : b2 ≠ b16 := by have := hB2.lt; omega
  have hn_b16_b2 := hn_b2_b16.symm
  have hlt_b2_b16 : b2 < b16 := by have := hB2.lt; omega
  have hn_b15_b16 : b15 ≠ b16 := by have := hB15.lt; omega
  have hn_b16_b15 := hn_b15_b16.symm
  have hlt_b15_b16 : b15 < b16 := by have := hB15.lt; omega
  have hw_b16 : w.heap.size ≤ b16 := by have := hX.size; omega
  replace hB0 := hB0.ext hE20
  replace hB1 := hB1.ext hE20
  replace hB5 := hB5.ext hE20
  replace hB8 := hB8.ext hE20
  replace hB10 := hB10.ext hE20
  replace hB11 := hB11.ext hE20
  replace hB2 := hB2.ext hE20
  replace hB15 := hB15.ext hE20
  replace hX := Ext.trans' hX hE20
  refine n_buildSlice H Try.underlying25 sz4 ze4 rfl rfl rfl (cs := [.bool false, .bool false]) (by kernel_rfl) rfl ?_
  clear H; intro b17 w21 hB17 hE22 hs_b17; clear a; intro a H
  have hn_b0_b17 : b0 ≠ b17 := by have := hB0.lt; omega
  have hn_b17_b0 := hn_b0_b17.symm
  have hlt_b0_b17 : b0 < b17 := by have := hB0.lt; omega
  have hn_b1_b17 : b1 ≠ b17 := by have := hB1.lt; omega
  have hn_b17_b1 := hn_b1_b17.symm
  have hlt_b1_b17 : b1 < b17 := by have := hB1.lt; omega
  have hn_b5_b17 : b5 ≠ b17 := by have := hB5.lt; omega
  have hn_b17_b5 := hn_b5_b17.symm
  have hlt_b5_b17 : b5 < b17 := by have := hB5.lt; omega
  have hn_b8_b17 : b8 ≠ b17 := by have := hB8.lt; omega
  have hn_b17_b8 := hn_b8_b17.symm
  have hlt_b8_b17 : b8 < b17 := by have := hB8.lt; omega
  have hn_b10_b17 : b10 ≠ b17 := by have := hB10.lt; omega
  have hn_b17_b10 := hn_b10_b17.symm
  have hlt_b10_b17 : b10 < b17 := by have := hB10.lt; omega
  have hn_b11_b17 : b11 ≠ b17 := by have := hB11.lt; omega
  have hn_b17_b11 := hn_b11_b17.symm
  have hlt_b11_b17 : b11 < b17 := by have := hB11.lt; omega
  have hn_b2_b17 : b2 ≠ b17 := by have := hB2.lt; omega
  have hn_b17_b2 := hn_b2_b17.symm
  have hlt_b2_b17 : b2 < b17 := by have := hB2.lt; omega
  have hn_b15_b17 : b15 ≠ b17 := by have := hB15.lt; omega
  have hn_b17_b15 := hn_b15_b17.symm
  have hlt_b15_b17 : b15 < b17 := by have := hB15.lt; omega
  have hn_b16_b17 : b16 ≠ b17 := by have := hB16.lt; omega
  have hn_b17_b16 := hn_b16_b17.symm
  have hlt_b16_b17 : b16 < b17 := by have := hB16.lt; omega
  have hw_b17 : w.heap.size ≤ b17 := by have := hX.size; omega
  replace hB0 := hB0.ext hE22
  replace hB1 := hB1.ext hE22
  replace hB5 := hB5.ext hE22
  replace hB8 := hB8.ext hE22
  replace hB10 := hB10.ext hE22
  replace hB11 := hB11.ext hE22
  replace hB2 := hB2.ext hE22
  replace hB15 := hB15.ext hE22
  replace hB16 := hB16.ext hE22
  replace hX := Ext.trans' hX hE22
  refine n_buildSlice H Try.underlying23 sz3 ze3 rfl rfl rfl (cs := [.int .i64 0]) (by kernel_rfl) rfl ?_
  clear H; intro b18 w23 hB18 hE24 hs_b18; clear a; intro a H
  have hn_b0_b18 : b0 ≠ b18 := by have := hB0.lt; omega
  have hn_b18_b0 := hn_b0_b18.symm
  have hlt_b0_b18 : b0 < b18 := by have := hB0.lt; omega
  have hn_b1_b18 : b1 ≠ b18 := by have := hB1.lt; omega
  have hn_b18_b1 := hn_b1_b18.symm
  have hlt_b1_b18 : b1 < b18 := by have := hB1.lt; omega
  have hn_b5_b18 : b5 ≠ b18 := by have := hB5.lt; omega
  have hn_b18_b5 := hn_b5_b18.symm
  have hlt_b5_b18 : b5 < b18 := by have := hB5.lt; omega
  have hn_b8_b18 : b8 ≠ b18 := by have := hB8.lt; omega
  have hn_b18_b8 := hn_b8_b18.symm
  have hlt_b8_b18 : b8 < b18 := by have := hB8.lt; omega
  have hn_b10_b18 : b10 ≠ b18 := by have := hB10.lt; omega
  have hn_b18_b10 := hn_b10_b18.symm
  have hlt_b10_b18 : b10 < b18 := by have := hB10.lt; omega
  have hn_b11_b18 : b11 ≠ b18 := by have := hB11.lt; omega
  have hn_b18_b11 := hn_b11_b18.symm
  have hlt_b11_b18 : b11 < b18 := by have := hB11.lt; omega
  have hn_b2_b18 : b2 ≠ b18 := by have := hB2.lt; omega
  have hn_b18_b2 := hn_b2_b18.symm
  have hlt_b2_b18 : b2 < b18 := by have := hB2.lt; omega
  have hn_b15_b18 : b15 ≠ b18 := by have := hB15.lt; omega
  have hn_b18_b15 := hn_b15_b18.symm
  have hlt_b15_b18 : b15 < b18 := by have := hB15.lt; omega
  have hn_b16_b18 : b16 ≠ b18 := by have := hB16.lt; omega
  have hn_b18_b16 := hn_b16_b18.symm
  have hlt_b16_b18 : b16 < b18 := by have := hB16.lt; omega
  have hn_b17_b18 : b17 ≠ b18 := by have := hB17.lt; omega
  have hn_b18_b17 := hn_b17_b18.symm
  have hlt_b17_b18 : b17 < b18 := by have := hB17.lt; omega
  have hw_b18 : w.heap.size ≤ b18 := by have := hX.size; omega
  replace hB0 := hB0.ext hE24
  replace hB1 := hB1.ext hE24
  replace hB5 := hB5.ext hE24
  replace hB8 := hB8.ext hE24
  replace hB10 := hB10.ext hE24
  replace hB11 := hB11.ext hE24
  replace hB2 := hB2.ext hE24
  replace hB15 := hB15.ext hE24
  replace hB16 := hB16.ext hE24
  replace hB17 := hB17.ext hE24
  replace hX := Ext.trans' hX hE24
  refine n_q H (q_build (cs := [.slice none 0 0, .int .i64 0]) ze55 bd55 pl55 rfl (by kernel_rfl)) rfl ?_
  clear H a; intro a H
  refine n_buildSlice H Try.underlying26 sz55 ze55 rfl rfl rfl (cs := [.slice none 0 0, .int .i64 0]) (by kernel_rfl) rfl ?_
  clear H; intro b20 w25 hB20 hE26 hs_b20; clear a; intro a H
  have hn_b0_b20 : b0 ≠ b20 := by have := hB0.lt; omega
  have hn_b20_b0 := hn_b0_b20.symm
  have hlt_b0_b20 : b0 < b20 := by have := hB0.lt; omega
  have hn_b1_b20 : b1 ≠ b20 := by have := hB1.lt; omega
  have hn_b20_b1 := hn_b1_b20.symm
  have hlt_b1_b20 : b1 < b20 := by have := hB1.lt; omega
  have hn_b5_b20 : b5 ≠ b20 := by have := hB5.lt; omega
  have hn_b20_b5 := hn_b5_b20.symm
  have hlt_b5_b20 : b5 < b20 := by have := hB5.lt; omega
  have hn_b8_b20 : b8 ≠ b20 := by have := hB8.lt; omega
  have hn_b20_b8 := hn_b8_b20.symm
  have hlt_b8_b20 : b8 < b20 := by have := hB8.lt; omega
  have hn_b10_b20 : b10 ≠ b20 := by have := hB10.lt; omega
  have hn_b20_b10 := hn_b10_b20.symm
  have hlt_b10_b20 : b10 < b20 := by have := hB10.lt; omega
  have hn_b11_b20 : b11 ≠ b20 := by have := hB11.lt; omega
  have hn_b20_b11 := hn_b11_b20.symm
  have hlt_b11_b20 : b11 < b20 := by have := hB11.lt; omega
  have hn_b2_b20 : b2 ≠ b20 := by have := hB2.lt; omega
  have hn_b20_b2 := hn_b2_b20.symm
  have hlt_b2_b20 : b2 < b20 := by have := hB2.lt; omega
  have hn_b15_b20 : b15 ≠ b20 := by have := hB15.lt; omega
  have hn_b20_b15 := hn_b15_b20.symm
  have hlt_b15_b20 : b15 < b20 := by have := hB15.lt; omega
  have hn_b16_b20 : b16 ≠ b20 := by have := hB16.lt; omega
  have hn_b20_b16 := hn_b16_b20.symm
  have hlt_b16_b20 : b16 < b20 := by have := hB16.lt; omega
  have hn_b17_b20 : b17 ≠ b20 := by have := hB17.lt; omega
  have hn_b20_b17 := hn_b17_b20.symm
  have hlt_b17_b20 : b17 < b20 := by have := hB17.lt; omega
  have hn_b18_b20 : b18 ≠ b20 := by have := hB18.lt; omega
  have hn_b20_b18 := hn_b18_b20.symm
  have hlt_b18_b20 : b18 < b20 := by have := hB18.lt; omega
  have hw_b20 : w.heap.size ≤ b20 := by have := hX.size; omega
  replace hB0 := hB0.ext hE26
  replace hB1 := hB1.ext hE26
  replace hB5 := hB5.ext hE26
  replace hB8 := hB8.ext hE26
  replace hB10 := hB10.ext hE26
  replace hB11 := hB11.ext hE26
  replace hB2 := hB2.ext hE26
  replace hB15 := hB15.ext hE26
  replace hB16 := hB16.ext hE26
  replace hB17 := hB17.ext hE26
  replace hB18 := hB18.ext hE26
  replace hX := Ext.trans' hX hE26
  refine n_q H (q_build (cs := [.int .i64 7, .bool false, .int .u8 0, .int .u8 0, .int .u8 0, .int .u8 0, .int .u8 0, .int .u8 0, .int .u8 0, .int .u8 0, .int .u8 0, .int .u8 0, .int .u8 0, .int .u8 0, .int .u8 0, .int .u8 0, .int .u8 0, .int .u8 0, .int .u8 0, .int .u8 0, .int .u8 0, .int .u8 0, .int .u8 0, .int .u8 0, .int .u8 0, .int .u8 0, .int .u8 0, .int .u8 0, .int .u8 0, .int .u8 0, .int .u8 0, .int .u8 0, .int .u8 0, .int .u8 0, .int .u8 0, .int .u8 0, .int .u8 0, .int .u8 0, .int .u8 0, .int .u8 0, .int .u8 0, .int .u8 0, .int .u8 0, .int .u8 0, .int .u8 0, .int .u8 0, .int .u8 0, .int .u8 0, .int .u8 0, .int .u8 0, .int .u8 0, .int .u8 0, .int .u8 0, .int .u8 0, .int .u8 0, .int .u8 0, .int .u8 0, .int .u8 0, .int .u8 0, .int .u8 0, .int .u8 0, .int .u8 0, .int .u8 0, .int .u8 0, .int .u8 0, .int .u8 0]) ze40 bd40 pl40 rfl (by kernel_rfl)) rfl ?_
  clear H a; intro a H
  refine n_buildSlice H Try.underlying27 sz40 ze40 rfl rfl rfl (cs := [.int .i64 7, .bool false, .int .u8 0, .int .u8 0, .int .u8 0, .int .u8 0, .int .u8 0, .int .u8 0, .int .u8 0, .int .u8 0, .int .u8 0, .int .u8 0, .int .u8 0, .int .u8 0, .int .u8 0, .int .u8 0, .int .u8 0, .int .u8 0, .int .u8 0, .int .u8 0, .int .u8 0, .int .u8 0, .int .u8 0, .int .u8 0, .int .u8 0, .int .u8 0, .int .u8 0, .int .u8 0, .int .u8 0, .int .u8 0, .int .u8 0, .int .u8 0, .int .u8 0, .int .u8 0, .int .u8 0, .int .u8 0, .int .u8 0, .int .u8 0, .int .u8 0, .int .u8 0, .int .u8 0, .int .u8 0, .int .u8 0, .int .u8 0, .int .u8 0, .int .u8 0, .int .u8 0, .int .u8 0, .int .u8 0, .int .u8 0, .int .u8 0, .int .u8 0, .int .u8 0, .int .u8 0, .int .u8 0, .int .u8 0, .int .u8 0, .int .u8 0, .int .u8 0, .int .u8 0, .int .u8 0, .int .u8 0, .int .u8 0, .int .u8 0, .int .u8 0, .int .u8 0]) (by kernel_rfl) rfl ?_
  clear H; intro b22 w27 hB22 hE28 hs_b22; clear a; intro a H
  have hn_b0_b22 : b0 ≠ b22 := by have := hB0.lt; omega
  have hn_b22_b0 := hn_b0_b22.symm
  have hlt_b0_b22 : b0 < b22 := by have := hB0.lt; omega
  have hn_b1_b22 : b1 ≠ b22 := by have := hB1.lt; omega
  have hn_b22_b1 := hn_b1_b22.symm
  have hlt_b1_b22 : b1 < b22 := by have := hB1.lt; omega
  have hn_b5_b22 : b5 ≠ b22 := by have := hB5.lt; omega
  have hn_b22_b5 := hn_b5_b22.symm
  have hlt_b5_b22 : b5 < b22 := by have := hB5.lt; omega
  have hn_b8_b22 : b8 ≠ b22 := by have := hB8.lt; omega
  have hn_b22_b8 := hn_b8_b22.symm
  have hlt_b8_b22 : b8 < b22 := by have := hB8.lt; omega
  have hn_b10_b22 : b10 ≠ b22 := by have := hB10.lt; omega
  have hn_b22_b10 := hn_b10_b22.symm
  have hlt_b10_b22 : b10 < b22 := by have := hB10.lt; omega
  have hn_b11_b22 : b11 ≠ b22 := by have := hB11.lt; omega
  have hn_b22_b11 := hn_b11_b22.symm
  have hlt_b11_b22 : b11 < b22 := by have := hB11.lt; omega
  have hn_b2_b22 : b2 ≠ b22 := by have := hB2.lt; omega
  have hn_b22_b2 := hn_b2_b22.symm
  have hlt_b2_b22 : b2 < b22 := by have := hB2.lt; omega
  have hn_b15_b22 : b15 ≠ b22 := by have := hB15.lt; omega
  have hn_b22_b15 := hn_b15_b22.symm
  have hlt_b15_b22 : b15 < b22 := by have := hB15.lt; omega
  have hn_b16_b22 : b16 ≠ b22 := by have := hB16.lt; omega
  have hn_b22_b16 := hn_b16_b22.symm
  have hlt_b16_b22 : b16 < b22 := by have := hB16.lt; omega
  have hn_b17_b22 : b17 ≠ b22 := by have := hB17.lt; omega
  have hn_b22_b17 := hn_b17_b22.symm
  have hlt_b17_b22 : b17 < b22 := by have := hB17.lt; omega
  have hn_b18_b22 : b18 ≠ b22 := by have := hB18.lt; omega
  have hn_b22_b18 := hn_b18_b22.symm
  have hlt_b18_b22 : b18 < b22 := by have := hB18.lt; omega
  have hn_b20_b22 : b20 ≠ b22 := by have := hB20.lt; omega
  have hn_b22_b20 := hn_b20_b22.symm
  have hlt_b20_b22 : b20 < b22 := by have := hB20.lt; omega
  have hw_b22 : w.heap.size ≤ b22 := by have := hX.size; omega
  replace hB0 := hB0.ext hE28
  replace hB1 := hB1.ext hE28
  replace hB5 := hB5.ext hE28
  replace hB8 := hB8.ext hE28
  replace hB10 := hB10.ext hE28
  replace hB11 := hB11.ext hE28
  replace hB2 := hB2.ext hE28
  replace hB15 := hB15.ext hE28
  replace hB16 := hB16.ext hE28
  replace hB17 := hB17.ext hE28
  replace hB18 := hB18.ext hE28
  replace hB20 := hB20.ext hE28
  replace hX := Ext.trans' hX hE28
  refine n_q H (q_build (cs := [.int .i64 7, .int .i64 0, .int .i64 0, .slice (some ⟨b15, 0, none⟩) 2 2, .slice (some ⟨b16, 0, none⟩) 2 2, .slice none 0 0, .slice (some ⟨b17, 0, none⟩) 2 2, .slice (some ⟨b18, 0, none⟩) 1 1, .slice (some ⟨b20, 0, none⟩) 1 1, .slice (some ⟨b22, 0, none⟩) 1 1]) ze29 bd29 pl29 rfl (by kernel_rfl)) rfl ?_
  clear H a; intro a H
  refine n_alloc H ze29 rfl ?_
  clear H; intro b3 w29 hB3 hE30 hs_b3; clear a; intro a H
  have hn_b0_b3 : b0 ≠ b3 := by have := hB0.lt; omega
  have hn_b3_b0 := hn_b0_b3.symm
  have hlt_b0_b3 : b0 < b3 := by have := hB0.lt; omega
  have hn_b1_b3 : b1 ≠ b3 := by have := hB1.lt; omega
  have hn_b3_b1 := hn_b1_b3.symm
  have hlt_b1_b3 : b1 < b3 := by have := hB1.lt; omega
  have hn_b5_b3 : b5 ≠ b3 := by have := hB5.lt; omega
  have hn_b3_b5 := hn_b5_b3.symm
  have hlt_b5_b3 : b5 < b3 := by have := hB5.lt; omega
  have hn_b8_b3 : b8 ≠ b3 := by have := hB8.lt; omega
  have hn_b3_b8 := hn_b8_b3.symm
  have hlt_b8_b3 : b8 < b3 := by have := hB8.lt; omega
  have hn_b10_b3 : b10 ≠ b3 := by have := hB10.lt; omega
  have hn_b3_b10 := hn_b10_b3.symm
  have hlt_b10_b3 : b10 < b3 := by have := hB10.lt; omega
  have hn_b11_b3 : b11 ≠ b3 := by have := hB11.lt; omega
  have hn_b3_b11 := hn_b11_b3.symm
  have hlt_b11_b3 : b11 < b3 := by have := hB11.lt; omega
  have hn_b2_b3 : b2 ≠ b3 := by have := hB2.lt; omega
  have hn_b3_b2 := hn_b2_b3.symm
  have hlt_b2_b3 : b2 < b3 := by have := hB2.lt; omega
  have hn_b15_b3 : b15 ≠ b3 := by have := hB15.lt; omega
  have hn_b3_b15 := hn_b15_b3.symm
  have hlt_b15_b3 : b15 < b3 := by have := hB15.lt; omega
  have hn_b16_b3 : b16 ≠ b3 := by have := hB16.lt; omega
  have hn_b3_b16 := hn_b16_b3.symm
  have hlt_b16_b3 : b16 < b3 := by have := hB16.lt; omega
  have hn_b17_b3 : b17 ≠ b3 := by have := hB17.lt; omega
  have hn_b3_b17 := hn_b17_b3.symm
  have hlt_b17_b3 : b17 < b3 := by have := hB17.lt; omega
  have hn_b18_b3 : b18 ≠ b3 := by have := hB18.lt; omega
  have hn_b3_b18 := hn_b18_b3.symm
  have hlt_b18_b3 : b18 < b3 := by have := hB18.lt; omega
  have hn_b20_b3 : b20 ≠ b3 := by have := hB20.lt; omega
  have hn_b3_b20 := hn_b20_b3.symm
  have hlt_b20_b3 : b20 < b3 := by have := hB20.lt; omega
  have hn_b22_b3 : b22 ≠ b3 := by have := hB22.lt; omega
  have hn_b3_b22 := hn_b22_b3.symm
  have hlt_b22_b3 : b22 < b3 := by have := hB22.lt; omega
  have hw_b3 : w.heap.size ≤ b3 := by have := hX.size; omega
  replace hB0 := hB0.ext hE30
  replace hB1 := hB1.ext hE30
  replace hB5 := hB5.ext hE30
  replace hB8 := hB8.ext hE30
  replace hB10 := hB10.ext hE30
  replace hB11 := hB11.ext hE30
  replace hB2 := hB2.ext hE30
  replace hB15 := hB15.ext hE30
  replace hB16 := hB16.ext hE30
  replace hB17 := hB17.ext hE30
  replace hB18 := hB18.ext hE30
  replace hB20 := hB20.ext hE30
  replace hB22 := hB22.ext hE30
  replace hX := Ext.trans' hX hE30
  refine n_storeAll H rfl rfl rfl sz29 hB3 rfl (by simp) ?_
  clear H; intro w31 hB3N hC32 hz; clear a; intro a H
  replace hB3 := hB3N; clear hB3N
  clear hz
  replace hB0 := hC32.blk hB0 (by simp [blks] <;> omega)
  replace hB1 := hC32.blk hB1 (by simp [blks] <;> omega)
  replace hB5 := hC32.blk hB5 (by simp [blks] <;> omega)
  replace hB8 := hC32.blk hB8 (by simp [blks] <;> omega)
  replace hB10 := hC32.blk hB10 (by simp [blks] <;> omega)
  replace hB11 := hC32.blk hB11 (by simp [blks] <;> omega)
  replace hB2 := hC32.blk hB2 (by simp [blks] <;> omega)
  replace hB15 := hC32.blk hB15 (by simp [blks] <;> omega)
  replace hB16 := hC32.blk hB16 (by simp [blks] <;> omega)
  replace hB17 := hC32.blk hB17 (by simp [blks] <;> omega)
  replace hB18 := hC32.blk hB18 (by simp [blks] <;> omega)
  replace hB20 := hC32.blk hB20 (by simp [blks] <;> omega)
  replace hB22 := hC32.blk hB22 (by simp [blks] <;> omega)
  replace hX := Chg.below hX hC32 (Nat.le_refl _) (by simp [blks] <;> omega)
  refine n_nil ?_
  refine then_normal ?_
  refine wp_seq ?_
  refine c_ord [b0, b1] 4 (by kernel_rfl) ?_
  obtain ⟨w33, hw33⟩ : ∃ x, x = w31.drew := ⟨_, rfl⟩
  rw [← hw33]
  have hE34 : Ext w31 w33 := by rw [hw33]; exact Ext.drew' _
  clear hw33
  replace hB0 := hB0.ext hE34
  replace hB1 := hB1.ext hE34
  replace hB5 := hB5.ext hE34
  replace hB8 := hB8.ext hE34
  replace hB10 := hB10.ext hE34
  replace hB11 := hB11.ext hE34
  replace hB2 := hB2.ext hE34
  replace hB15 := hB15.ext hE34
  replace hB16 := hB16.ext hE34
  replace hB17 := hB17.ext hE34
  replace hB18 := hB18.ext hE34
  replace hB20 := hB20.ext hE34
  replace hB22 := hB22.ext hE34
  replace hB3 := hB3.ext hE34
  replace hX := Ext.trans' hX hE34
  have hh_b0 := hB0.lt
  have hh_b1 := hB1.lt
  have hh_b5 := hB5.lt
  have hh_b8 := hB8.lt
  have hh_b10 := hB10.lt
  have hh_b11 := hB11.lt
  have hh_b2 := hB2.lt
  have hh_b15 := hB15.lt
  have hh_b16 := hB16.lt
  have hh_b17 := hB17.lt
  have hh_b18 := hB18.lt
  have hh_b20 := hB20.lt
  have hh_b22 := hB22.lt
  have hh_b3 := hB3.lt
  have hh0 := hX.size
  refine k_take 0 H rfl (q_load rfl (hB2.ldAllB hh_b2 (by simp <;> omega) ag34 sz34)) rfl (by kernel_rfl) (by kernel_rfl) (by kernel_rfl) (by kernel_rfl) (fun _ _ _ h => h) ?_
  clear H a; intro a H
  refine k_take 1 H rfl (q_load rfl (hB3.ldAllB hh_b3 (by simp <;> omega) ag29 sz29)) rfl (by kernel_rfl) (by kernel_rfl) (by kernel_rfl) (by kernel_rfl) (fun _ _ _ h => h) ?_
  clear H a; intro a H
  refine k_storeAll 2 H rfl rfl rfl rfl sz34 hB0 rfl (by simp) (by kernel_rfl) (.inl (by simp)) ?_
  clear H; intro w35 hB0N hC36 hz; clear a; intro a H
  replace hB0 := hB0N; clear hB0N
  clear hz
  replace hB1 := hC36.blk hB1 (by simp [blks] <;> omega)
  replace hB5 := hC36.blk hB5 (by simp [blks] <;> omega)
  replace hB8 := hC36.blk hB8 (by simp [blks] <;> omega)
  replace hB10 := hC36.blk hB10 (by simp [blks] <;> omega)
  replace hB11 := hC36.blk hB11 (by simp [blks] <;> omega)
  replace hB2 := hC36.blk hB2 (by simp [blks] <;> omega)
  replace hB15 := hC36.blk hB15 (by simp [blks] <;> omega)
  replace hB16 := hC36.blk hB16 (by simp [blks] <;> omega)
  replace hB17 := hC36.blk hB17 (by simp [blks] <;> omega)
  replace hB18 := hC36.blk hB18 (by simp [blks] <;> omega)
  replace hB20 := hC36.blk hB20 (by simp [blks] <;> omega)
  replace hB22 := hC36.blk hB22 (by simp [blks] <;> omega)
  replace hB3 := hC36.blk hB3 (by simp [blks] <;> omega)
  replace hX := Chg.below hX hC36 (Nat.le_refl _) (by simp [blks] <;> omega)
  refine k_storeAll 3 H rfl rfl rfl rfl sz29 hB1 rfl (by simp) (by kernel_rfl) (.inl (by simp)) ?_
  clear H; intro w37 hB1N hC38 hz; clear a; intro a H
  replace hB1 := hB1N; clear hB1N
  clear hz
  replace hB0 := hC38.blk hB0 (by simp [blks] <;> omega)
  replace hB5 := hC38.blk hB5 (by simp [blks] <;> omega)
  replace hB8 := hC38.blk hB8 (by simp [blks] <;> omega)
  replace hB10 := hC38.blk hB10 (by simp [blks] <;> omega)
  replace hB11 := hC38.blk hB11 (by simp [blks] <;> omega)
  replace hB2 := hC38.blk hB2 (by simp [blks] <;> omega)
  replace hB15 := hC38.blk hB15 (by simp [blks] <;> omega)
  replace hB16 := hC38.blk hB16 (by simp [blks] <;> omega)
  replace hB17 := hC38.blk hB17 (by simp [blks] <;> omega)
  replace hB18 := hC38.blk hB18 (by simp [blks] <;> omega)
  replace hB20 := hC38.blk hB20 (by simp [blks] <;> omega)
  replace hB22 := hC38.blk hB22 (by simp [blks] <;> omega)
  replace hB3 := hC38.blk hB3 (by simp [blks] <;> omega)
  replace hX := Chg.below hX hC38 (Nat.le_refl _) (by simp [blks] <;> omega)
  refine k_done (by kernel_rfl) ?_
  refine then_normal ?_
  refine wp_ret ?_
  refine retL H (.inr rfl) rfl (vs := [_, _]) (resCell rfl (hB0.ldAll ag34 sz34) (resCell rfl (hB1.ldAll ag29 sz29) resNil)) ?_
  exact ⟨_, _, rfl, ⟨rfl, by simp⟩, ⟨_, _, _, _, _, _, _, _, rfl, Foot.mono (Foot.and (Foot.and (Foot.and (Foot.and (Own.foot (Own.ofBlk (n := 2) (k := 21) hB15 rfl (by simp [maxLen]))) (Own.foot (Own.ofBlk (n := 2) (k := 1) hB16 rfl (by simp [maxLen])))) (Own.foot (Own.ofBlk (n := 2) (k := 1) hB17 rfl (by simp [maxLen])))) (Own.foot (Own.ofBlk (n := 1) (k := 1) hB18 rfl (by simp [maxLen])))) (Own.foot (Own.ofBlk (n := 1) (k := 2) hB20 rfl (by simp [maxLen]))))
        (fun w' hw => ⟨Own.sl (xs := [someP, someP]) hw.1.1.1.1 rfl (by simp [someP, eProc]) (by simp [lim]), Own.sl (xs := [0, 1]) hw.1.1.1.2 rfl (by simp [eI]) (by simp [lim]), Own.sl (xs := []) (Own.nil w' 0 2) rfl (by simp) (by simp [lim]), Own.sl (xs := [false, false]) hw.1.1.2 rfl (by simp [eF]) (by simp [lim]), Own.sl (xs := [0]) hw.1.2 rfl (by simp [eI]) (by simp [lim]),
          Own.slP (qs := [.slice none 0 0]) (ps := [⟨[], 0⟩]) hw.2 rfl ⟨Own.sl (xs := []) (Own.nil w' 0 1) rfl (by simp) (by simp [lim]), trivial⟩ (by simp [lim])⟩), (Own.ofBlk (n := 1) (k := 66) hB22 rfl (by simp [maxLen])),
        fun b hb => by simp [blks] at hb; subst hb; exact ⟨hw_b22, by simp [blks]; omega⟩, by simp [someS, somePage, ePage], by simp [lim, someS]⟩, hX⟩

def someT : StateM' := { someS with pages := [⟨7, true, List.replicate 64 0⟩] }
theorem some_same : sameM someS someS = true := by decide
theorem some_not : sameM someS someT = false := by decide
theorem some_alike : alikesM someS someT = true := by decide
theorem sameM_refl (s : StateM') : sameM s s = true := by simp [sameM, alikeM]
theorem validSames_w {w : World} {v1 v2 : Value} {s t : StateM'} (h1 : IsState w v1 s) (h2 : IsState w v2 t) :
    Calls Try.prog 3 [v1, v2].toArray w (Ret fun u w' => u = .bool true ∧ Ext w w') := by
  have g1 := h1
  have g2 := h2
  obtain ⟨v3, v4, v5, v6, v7, v8, v9, rfl, h3, h4, h5, h6, h7, h8, h9⟩ := h1
  obtain ⟨u3, u4, u5, u6, u7, u8, u9, rfl, k3, k4, k5, k6, k7, k8, k9⟩ := h2
  refine enter Try.func3 rfl rfl rfl ?_
  intro a H
  dsimp only [enumL, Nat.zero_add, Nat.reduceAdd] at H
  refine wp_seq ?_
  refine wp_region_lit ?_
  refine n_box H rfl (cs := _) rfl rfl ?_
  clear H; intro b2 w1 hB2 hE2 hs_b2; clear a; intro a H
  have hw_b2 : w.heap.size ≤ b2 := by omega
  have hX := hE2
  refine n_box H rfl (cs := _) rfl rfl ?_
  clear H; intro b3 w3 hB3 hE4 hs_b3; clear a; intro a H
  have hn_b2_b3 : b2 ≠ b3 := by have := hB2.lt; omega
  have hn_b3_b2 := hn_b2_b3.symm
  have hlt_b2_b3 : b2 < b3 := by have := hB2.lt; omega
  have hw_b3 : w.heap.size ≤ b3 := by have := hX.size; omega
  replace hB2 := hB2.ext hE4
  replace hX := Ext.trans' hX hE4
  refine n_q H (q_assign rfl) rfl ?_
  clear H a; intro a H
  refine n_nil ?_
  refine then_normal ?_
  refine wp_seq ?_
  refine wp_region_lit ?_
  refine n_call H rfl en5 (some_w) rfl ?_
  clear H a; intro v7 w5 hv a H
  obtain ⟨pcs, sv, rfl, ⟨hpl, hpo⟩, hS, hE6⟩ := hv
  replace hB2 := hB2.ext hE6
  replace hB3 := hB3.ext hE6
  replace hX := Ext.trans' hX hE6
  have hSI := hS.is
  obtain ⟨s3, s4, s5, s6, s7, s8, s9, fps, rfl, hfs, hOs9, hns, hls, hbs⟩ := hS
  have hRS := Ext.rfl' (w := w5)
  refine n_q H (q_move rfl) rfl ?_
  clear H a; intro a H
  refine n_q H (q_extract rfl rfl) rfl ?_
  clear H a; intro a H
  refine n_q H (q_extract rfl rfl) rfl ?_
  clear H a; intro a H
  refine n_alloc H ze34 rfl ?_
  clear H; intro b5 w8 hB5 hE9 hs_b5; clear a; intro a H
  have hn_b2_b5 : b2 ≠ b5 := by have := hB2.lt; omega
  have hn_b5_b2 := hn_b2_b5.symm
  have hlt_b2_b5 : b2 < b5 := by have := hB2.lt; omega
  have hn_b3_b5 : b3 ≠ b5 := by have := hB3.lt; omega
  have hn_b5_b3 := hn_b3_b5.symm
  have hlt_b3_b5 : b3 < b5 := by have := hB3.lt; omega
  have hw_b5 : w.heap.size ≤ b5 := by have := hX.size; omega
  have hq_hRS_b5 : w5.heap.size ≤ b5 := by have := hRS.size; omega
  replace hB2 := hB2.ext hE9
  replace hB3 := hB3.ext hE9
  replace hX := Ext.trans' hX hE9
  replace hRS := Ext.trans' hRS hE9
  refine n_alloc H ze29 rfl ?_
  clear H; intro b6 w10 hB6 hE11 hs_b6; clear a; intro a H
  have hn_b2_b6 : b2 ≠ b6 := by have := hB2.lt; omega
  have hn_b6_b2 := hn_b2_b6.symm
  have hlt_b2_b6 : b2 < b6 := by have := hB2.lt; omega
  have hn_b3_b6 : b3 ≠ b6 := by have := hB3.lt; omega
  have hn_b6_b3 := hn_b3_b6.symm
  have hlt_b3_b6 : b3 < b6 := by have := hB3.lt; omega
  have hn_b5_b6 : b5 ≠ b6 := by have := hB5.lt; omega
  have hn_b6_b5 := hn_b5_b6.symm
  have hlt_b5_b6 : b5 < b6 := by have := hB5.lt; omega
  have hw_b6 : w.heap.size ≤ b6 := by have := hX.size; omega
  have hq_hRS_b6 : w5.heap.size ≤ b6 := by have := hRS.size; omega
  replace hB2 := hB2.ext hE11
  replace hB3 := hB3.ext hE11
  replace hB5 := hB5.ext hE11
  replace hX := Ext.trans' hX hE11
  replace hRS := Ext.trans' hRS hE11
  refine n_storeAll H rfl rfl (vs := pcs) rfl (by rw [hpl]; exact sz34) hB5 (by rw [hpl]; rfl) hpo ?_
  clear H; intro w12 hB5N hC13 hz; clear a; intro a H
  replace hB5 := hB5N; clear hB5N
  clear hz
  replace hB2 := hC13.blk hB2 (by simp [blks] <;> omega)
  replace hB3 := hC13.blk hB3 (by simp [blks] <;> omega)
  replace hB6 := hC13.blk hB6 (by simp [blks] <;> omega)
  replace hRS := Chg.below hRS hC13 (Nat.le_refl _) (by simp [blks] <;> omega)
  replace hX := Chg.below hX hC13 (Nat.le_refl _) (by simp [blks] <;> omega)
  refine n_storeAll H rfl rfl rfl sz29 hB6 rfl (by simp [hfs.now.1.r.one, hfs.now.2.1.r.one, hfs.now.2.2.1.r.one, hfs.now.2.2.2.1.r.one, hfs.now.2.2.2.2.1.r.one, hfs.now.2.2.2.2.2.r.one, hOs9.one]) ?_
  clear H; intro w14 hB6N hC15 hz; clear a; intro a H
  replace hB6 := hB6N; clear hB6N
  clear hz
  replace hB2 := hC15.blk hB2 (by simp [blks] <;> omega)
  replace hB3 := hC15.blk hB3 (by simp [blks] <;> omega)
  replace hB5 := hC15.blk hB5 (by simp [blks] <;> omega)
  replace hRS := Chg.below hRS hC15 (Nat.le_refl _) (by simp [blks] <;> omega)
  replace hX := Chg.below hX hC15 (Nat.le_refl _) (by simp [blks] <;> omega)
  refine n_nil ?_
  refine then_normal ?_
  refine wp_seq ?_
  refine wp_region_lit ?_
  refine n_q H (q_load rfl (hB6.ldAll ag29 sz29)) rfl ?_
  clear H a; intro a H
  refine n_call H rfl en6 (rCopy_w (hSI.ext hRS)) rfl ?_
  clear H a; intro v18 w16 hv a H
  obtain ⟨hT, hE17⟩ := hv
  obtain ⟨t3, t4, t5, t6, t7, t8, t9, fpt, rfl, hft, hOt9, hnt, hlt, hbt⟩ := hT
  obtain ⟨bp, capp, rfl⟩ := hOt9.sm (by decide)
  have hn_bp_b2 : bp ≠ b2 := by have := (hnt bp (by simp [blks])).1; have := hB2.lt; omega
  have hn_bp_b3 : bp ≠ b3 := by have := (hnt bp (by simp [blks])).1; have := hB3.lt; omega
  have hn_bp_b5 : bp ≠ b5 := by have := (hnt bp (by simp [blks])).1; have := hB5.lt; omega
  have hn_bp_b6 : bp ≠ b6 := by have := (hnt bp (by simp [blks])).1; have := hB6.lt; omega
  have hn_b2_bp := hn_bp_b2.symm
  have hn_b3_bp := hn_bp_b3.symm
  have hn_b5_bp := hn_bp_b5.symm
  have hn_b6_bp := hn_bp_b6.symm
  have hw_bp : w.heap.size ≤ bp := by have := (hnt bp (by simp [blks])).1; have := hX.size; omega
  have hqS := Nat.le_trans hRS.size (hnt bp (by simp [blks])).1
  obtain ⟨csp, hBp, hnc, hcm, hcl, hxl, htk⟩ := hOt9.blk
  replace hB2 := hB2.ext hE17
  replace hB3 := hB3.ext hE17
  replace hB5 := hB5.ext hE17
  replace hB6 := hB6.ext hE17
  replace hX := Ext.trans' hX hE17
  replace hRS := Ext.trans' hRS hE17
  have hRT := Ext.rfl' (w := w16)
  have hq_hRS_bp : w5.heap.size ≤ bp := by have := hRS.size; omega
  refine n_alloc H ze29 rfl ?_
  clear H; intro b7 w19 hB7 hE20 hs_b7; clear a; intro a H
  have hn_b2_b7 : b2 ≠ b7 := by have := hB2.lt; omega
  have hn_b7_b2 := hn_b2_b7.symm
  have hlt_b2_b7 : b2 < b7 := by have := hB2.lt; omega
  have hn_b3_b7 : b3 ≠ b7 := by have := hB3.lt; omega
  have hn_b7_b3 := hn_b3_b7.symm
  have hlt_b3_b7 : b3 < b7 := by have := hB3.lt; omega
  have hn_b5_b7 : b5 ≠ b7 := by have := hB5.lt; omega
  have hn_b7_b5 := hn_b5_b7.symm
  have hlt_b5_b7 : b5 < b7 := by have := hB5.lt; omega
  have hn_b6_b7 : b6 ≠ b7 := by have := hB6.lt; omega
  have hn_b7_b6 := hn_b6_b7.symm
  have hlt_b6_b7 : b6 < b7 := by have := hB6.lt; omega
  have hn_bp_b7 : bp ≠ b7 := by have := hBp.lt; omega
  have hn_b7_bp := hn_bp_b7.symm
  have hlt_bp_b7 : bp < b7 := by have := hBp.lt; omega
  have hw_b7 : w.heap.size ≤ b7 := by have := hX.size; omega
  have hq_hRS_b7 : w5.heap.size ≤ b7 := by have := hRS.size; omega
  have hq_hRT_b7 : w16.heap.size ≤ b7 := by have := hRT.size; omega
  replace hB2 := hB2.ext hE20
  replace hB3 := hB3.ext hE20
  replace hB5 := hB5.ext hE20
  replace hB6 := hB6.ext hE20
  replace hBp := hBp.ext hE20
  replace hX := Ext.trans' hX hE20
  replace hRS := Ext.trans' hRS hE20
  replace hRT := Ext.trans' hRT hE20
  refine n_storeAll H rfl rfl rfl sz29 hB7 rfl (by simp [hft.now.1.r.one, hft.now.2.1.r.one, hft.now.2.2.1.r.one, hft.now.2.2.2.1.r.one, hft.now.2.2.2.2.1.r.one, hft.now.2.2.2.2.2.r.one, hOt9.one]) ?_
  clear H; intro w21 hB7N hC22 hz; clear a; intro a H
  replace hB7 := hB7N; clear hB7N
  clear hz
  replace hB2 := hC22.blk hB2 (by simp [blks] <;> omega)
  replace hB3 := hC22.blk hB3 (by simp [blks] <;> omega)
  replace hB5 := hC22.blk hB5 (by simp [blks] <;> omega)
  replace hB6 := hC22.blk hB6 (by simp [blks] <;> omega)
  replace hBp := hC22.blk hBp (by simp [blks] <;> omega)
  replace hRS := Chg.below hRS hC22 (Nat.le_refl _) (by simp [blks] <;> omega)
  replace hRT := Chg.below hRT hC22 (Nat.le_refl _) (by simp [blks] <;> omega)
  replace hX := Chg.below hX hC22 (Nat.le_refl _) (by simp [blks] <;> omega)
  refine n_nil ?_
  refine then_normal ?_
  refine wp_seq ?_
  refine wp_region_lit ?_
  refine n_q H (q_fieldAddr0 rfl fo29_9) rfl ?_
  clear H a; intro a H
  refine n_q H (q_load rfl (hB7.ld ag27 rfl)) rfl ?_
  clear H a; intro a H
  refine n_q H (q_indexAddr0 (i := 0) Try.underlying27 sz40 rfl rfl (by decide)) rfl ?_
  clear H a; intro a H
  refine n_q H (q_fieldAddrO rfl fo40_1) rfl ?_
  clear H a; intro a H
  refine n_store1 H rfl rfl sz4 hBp (by have : someS.pages.length = 1 := rfl; omega) rfl ?_
  clear H; intro w99 hBpN hC99 hz; clear a; intro a H
  replace hBp := hBpN; clear hBpN
  have hOT2 : Own w99 40 66 (.slice (some ⟨bp, 0, none⟩) someS.pages.length capp) someS.pages.length (someT.pages.flatMap ePage) := Own.ofBlk' hBp hnc hcm (by simp [hcl]) (take_set' htk) (by rfl)
  have hfT2 := (hft.ext hRT).chg hC99 (fun b hb _ hf => by simp at hb; subst hb; exact (hnt _ (by simp [blks])).2 hf)
  have hTI : IsState w99 (.agg #[.int .i64 someT.id, .int .i64 someT.frame, .int .i64 someT.epoch, t3, t4, t5, t6, t7, t8, .slice (some ⟨bp, 0, none⟩) someS.pages.length capp]) someT := ⟨_, _, _, _, _, _, _, rfl, hfT2.now.1, hfT2.now.2.1, hfT2.now.2.2.1, hfT2.now.2.2.2.1, hfT2.now.2.2.2.2.1, hfT2.now.2.2.2.2.2, hOT2.sl rfl (by simp [someT, ePage]) (by simp [someT, lim])⟩
  replace hB2 := hC99.blk hB2 (by simp [blks] <;> omega)
  replace hB3 := hC99.blk hB3 (by simp [blks] <;> omega)
  replace hB5 := hC99.blk hB5 (by simp [blks] <;> omega)
  replace hB6 := hC99.blk hB6 (by simp [blks] <;> omega)
  replace hB7 := hC99.blk hB7 (by simp [blks] <;> omega)
  replace hRS := Chg.below hRS hC99 (Nat.le_refl _) (by simp [blks] <;> omega)
  replace hX := Chg.below hX hC99 (Nat.le_refl _) (by simp [blks] <;> omega)
  have hRU := Ext.rfl' (w := w99)
  refine n_nil ?_
  refine then_normal ?_
  refine wp_seq ?_
  refine wp_seq ?_
  refine wp_region_lit ?_
  refine n_c H (fun HC => ?_); clear H
  refine nc_q HC (q_load rfl (hB6.ldAll ag29 sz29)) rfl (by kernel_rfl) ?_
  clear HC a; intro a HC
  refine nc_q HC (q_load rfl (hB6.ldAll ag29 sz29)) rfl (by kernel_rfl) ?_
  clear HC a; intro a HC
  refine nc_call HC rfl en7 (Same_w (hSI.ext hRS) (hSI.ext hRS)) rfl (by kernel_rfl) ?_
  clear HC a; intro v25 w23 hv a HC
  obtain ⟨rfl, hE24⟩ := hv
  replace hB2 := hB2.ext hE24
  replace hB3 := hB3.ext hE24
  replace hB5 := hB5.ext hE24
  replace hB6 := hB6.ext hE24
  replace hBp := hBp.ext hE24
  replace hB7 := hB7.ext hE24
  replace hX := Ext.trans' hX hE24
  replace hRS := Ext.trans' hRS hE24
  replace hRU := Ext.trans' hRU hE24
  refine nc_q HC (q_not rfl) rfl (by kernel_rfl) ?_
  clear HC a; intro a HC
  refine nc_q HC (q_move rfl) rfl (by kernel_rfl) ?_
  clear HC a; intro a HC
  refine nc_g HC (q_load rfl (hB6.ldAll ag29 sz29)) (by kernel_rfl) (by kernel_rfl) (by kernel_rfl) ?_
  clear HC a; intro a HC
  refine nc_g HC (q_load rfl (hB7.ldAll ag29 sz29)) (by kernel_rfl) (by kernel_rfl) (by kernel_rfl) ?_
  clear HC a; intro a HC
  refine nc_gcall0 HC rfl en7 (Same_w (hSI.ext hRS) (hTI.ext hRU)) (by kernel_rfl) (by kernel_rfl) (by kernel_rfl) ?_
  clear HC a; intro w26 hE27 a HC
  replace hB2 := hB2.ext hE27
  replace hB3 := hB3.ext hE27
  replace hB5 := hB5.ext hE27
  replace hB6 := hB6.ext hE27
  replace hBp := hBp.ext hE27
  replace hB7 := hB7.ext hE27
  replace hX := Ext.trans' hX hE27
  replace hRS := Ext.trans' hRS hE27
  replace hRU := Ext.trans' hRU hE27
  refine nc_or (j := 4) HC rfl rfl rfl (by kernel_rfl) (by kernel_rfl) ?_
  clear HC a; intro a HC
  refine nc_q HC (q_move rfl) rfl (by kernel_rfl) ?_
  clear HC a; intro a HC
  refine nc_g HC (q_load rfl (hB6.ldAll ag29 sz29)) (by kernel_rfl) (by kernel_rfl) (by kernel_rfl) ?_
  clear HC a; intro a HC
  refine nc_g HC (q_load rfl (hB7.ldAll ag29 sz29)) (by kernel_rfl) (by kernel_rfl) (by kernel_rfl) ?_
  clear HC a; intro a HC
  refine nc_gcall0 HC rfl en8 (Alike_w (hSI.ext hRS) (hTI.ext hRU)) (by kernel_rfl) (by kernel_rfl) (by kernel_rfl) ?_
  clear HC a; intro w28 hE29 a HC
  replace hB2 := hB2.ext hE29
  replace hB3 := hB3.ext hE29
  replace hB5 := hB5.ext hE29
  replace hB6 := hB6.ext hE29
  replace hBp := hBp.ext hE29
  replace hB7 := hB7.ext hE29
  replace hX := Ext.trans' hX hE29
  replace hRS := Ext.trans' hRS hE29
  replace hRU := Ext.trans' hRU hE29
  refine nc_g HC (q_not rfl) (by kernel_rfl) (by kernel_rfl) (by kernel_rfl) ?_
  clear HC a; intro a HC
  refine nc_or (j := 9) HC rfl rfl rfl (by kernel_rfl) (by kernel_rfl) ?_
  clear HC a; intro a HC
  have H := HC.has; clear HC
  refine n_nil ?_
  refine then_normal ?_
  refine c_cond H rfl (fun hc36 => ?_) (fun hc36 => ?_)
  · skip
    exfalso; simp [some_same, some_not, some_alike] at hc36
  · (try simp only [decide_eq_true_eq, decide_eq_false_iff_not, Bool.and_eq_true, Bool.or_eq_true, Bool.and_eq_false_iff, Bool.or_eq_false_iff, beq_iff_eq, bne_iff_ne, beq_eq_false_iff_ne, bne_eq_false_iff_eq, ne_eq, Bool.not_eq_true', Bool.not_eq_false', Int.not_lt, Int.not_le, Bool.not_eq_true, Bool.not_eq_false] at hc36)
    refine wp_skip ?_
    refine then_normal ?_
    refine wp_seq ?_
    refine wp_region_lit ?_
    refine n_q H (q_load rfl (hB2.ldAll ag29 sz29)) rfl ?_
    clear H a; intro a H
    refine n_q H (q_load rfl (hB3.ldAll ag29 sz29)) rfl ?_
    clear H a; intro a H
    refine n_call H rfl en9 (rSame_w (g1.ext hX) (g2.ext hX)) rfl ?_
    clear H a; intro v32 w30 hv a H
    obtain ⟨rfl, hE31⟩ := hv
    replace hB2 := hB2.ext hE31
    replace hB3 := hB3.ext hE31
    replace hB5 := hB5.ext hE31
    replace hB6 := hB6.ext hE31
    replace hBp := hBp.ext hE31
    replace hB7 := hB7.ext hE31
    replace hX := Ext.trans' hX hE31
    replace hRS := Ext.trans' hRS hE31
    replace hRU := Ext.trans' hRU hE31
    refine n_q H (q_assign rfl) rfl ?_
    clear H a; intro a H
    refine n_nil ?_
    refine then_normal ?_
    refine wp_seq ?_
    refine wp_region_lit ?_
    refine n_q H (q_load rfl (hB2.ldAll ag29 sz29)) rfl ?_
    clear H a; intro a H
    refine n_q H (q_load rfl (hB3.ldAll ag29 sz29)) rfl ?_
    clear H a; intro a H
    refine n_call H rfl en10 (rAlike_w (g1.ext hX) (g2.ext hX)) rfl ?_
    clear H a; intro v35 w33 hv a H
    obtain ⟨rfl, hE34⟩ := hv
    replace hB2 := hB2.ext hE34
    replace hB3 := hB3.ext hE34
    replace hB5 := hB5.ext hE34
    replace hB6 := hB6.ext hE34
    replace hBp := hBp.ext hE34
    replace hB7 := hB7.ext hE34
    replace hX := Ext.trans' hX hE34
    replace hRS := Ext.trans' hRS hE34
    replace hRU := Ext.trans' hRU hE34
    refine n_q H (q_assign rfl) rfl ?_
    clear H a; intro a H
    refine n_nil ?_
    refine then_normal ?_
    refine wp_seq ?_
    refine wp_region_lit ?_
    refine n_q H (q_load rfl (hB2.ldAll ag29 sz29)) rfl ?_
    clear H a; intro a H
    refine n_call H rfl en6 (rCopy_w (g1.ext hX)) rfl ?_
    clear H a; intro v38 w36 hv a H
    obtain ⟨hR, hE37⟩ := hv
    replace hB2 := hB2.ext hE37
    replace hB3 := hB3.ext hE37
    replace hB5 := hB5.ext hE37
    replace hB6 := hB6.ext hE37
    replace hBp := hBp.ext hE37
    replace hB7 := hB7.ext hE37
    replace hX := Ext.trans' hX hE37
    replace hRS := Ext.trans' hRS hE37
    replace hRU := Ext.trans' hRU hE37
    have hRI := hR.is
    obtain ⟨r3, r4, r5, r6, r7, r8, r9, fpr, rfl, hfr, hOr9, hnr, hlr, hbr⟩ := hR
    have hRR := Ext.rfl' (w := w36)
    refine n_alloc H ze29 rfl ?_
    clear H; intro b10 w39 hB10 hE40 hs_b10; clear a; intro a H
    have hn_b2_b10 : b2 ≠ b10 := by have := hB2.lt; omega
    have hn_b10_b2 := hn_b2_b10.symm
    have hlt_b2_b10 : b2 < b10 := by have := hB2.lt; omega
    have hn_b3_b10 : b3 ≠ b10 := by have := hB3.lt; omega
    have hn_b10_b3 := hn_b3_b10.symm
    have hlt_b3_b10 : b3 < b10 := by have := hB3.lt; omega
    have hn_b5_b10 : b5 ≠ b10 := by have := hB5.lt; omega
    have hn_b10_b5 := hn_b5_b10.symm
    have hlt_b5_b10 : b5 < b10 := by have := hB5.lt; omega
    have hn_b6_b10 : b6 ≠ b10 := by have := hB6.lt; omega
    have hn_b10_b6 := hn_b6_b10.symm
    have hlt_b6_b10 : b6 < b10 := by have := hB6.lt; omega
    have hn_bp_b10 : bp ≠ b10 := by have := hBp.lt; omega
    have hn_b10_bp := hn_bp_b10.symm
    have hlt_bp_b10 : bp < b10 := by have := hBp.lt; omega
    have hn_b7_b10 : b7 ≠ b10 := by have := hB7.lt; omega
    have hn_b10_b7 := hn_b7_b10.symm
    have hlt_b7_b10 : b7 < b10 := by have := hB7.lt; omega
    have hw_b10 : w.heap.size ≤ b10 := by have := hX.size; omega
    have hq_hRS_b10 : w5.heap.size ≤ b10 := by have := hRS.size; omega
    have hq_hRU_b10 : w99.heap.size ≤ b10 := by have := hRU.size; omega
    have hq_hRR_b10 : w36.heap.size ≤ b10 := by have := hRR.size; omega
    replace hB2 := hB2.ext hE40
    replace hB3 := hB3.ext hE40
    replace hB5 := hB5.ext hE40
    replace hB6 := hB6.ext hE40
    replace hBp := hBp.ext hE40
    replace hB7 := hB7.ext hE40
    replace hX := Ext.trans' hX hE40
    replace hRS := Ext.trans' hRS hE40
    replace hRU := Ext.trans' hRU hE40
    replace hRR := Ext.trans' hRR hE40
    refine n_storeAll H rfl rfl rfl sz29 hB10 rfl (by simp [hfr.now.1.r.one, hfr.now.2.1.r.one, hfr.now.2.2.1.r.one, hfr.now.2.2.2.1.r.one, hfr.now.2.2.2.2.1.r.one, hfr.now.2.2.2.2.2.r.one, hOr9.one]) ?_
    clear H; intro w41 hB10N hC42 hz; clear a; intro a H
    replace hB10 := hB10N; clear hB10N
    clear hz
    replace hB2 := hC42.blk hB2 (by simp [blks] <;> omega)
    replace hB3 := hC42.blk hB3 (by simp [blks] <;> omega)
    replace hB5 := hC42.blk hB5 (by simp [blks] <;> omega)
    replace hB6 := hC42.blk hB6 (by simp [blks] <;> omega)
    replace hBp := hC42.blk hBp (by simp [blks] <;> omega)
    replace hB7 := hC42.blk hB7 (by simp [blks] <;> omega)
    replace hRS := Chg.below hRS hC42 (Nat.le_refl _) (by simp [blks] <;> omega)
    replace hRU := Chg.below hRU hC42 (Nat.le_refl _) (by simp [blks] <;> omega)
    replace hRR := Chg.below hRR hC42 (Nat.le_refl _) (by simp [blks] <;> omega)
    replace hX := Chg.below hX hC42 (Nat.le_refl _) (by simp [blks] <;> omega)
    refine n_nil ?_
    refine then_normal ?_
    refine wp_seq ?_
    refine wp_seq ?_
    refine wp_region_lit ?_
    refine n_c H (fun HC => ?_); clear H
    refine nc_q HC (q_load rfl (hB2.ldAll ag29 sz29)) rfl (by kernel_rfl) ?_
    clear HC a; intro a HC
    refine nc_q HC (q_load rfl (hB3.ldAll ag29 sz29)) rfl (by kernel_rfl) ?_
    clear HC a; intro a HC
    refine nc_call HC rfl en7 (Same_w (g1.ext hX) (g2.ext hX)) rfl (by kernel_rfl) ?_
    clear HC a; intro v45 w43 hv a HC
    obtain ⟨rfl, hE44⟩ := hv
    replace hB2 := hB2.ext hE44
    replace hB3 := hB3.ext hE44
    replace hB5 := hB5.ext hE44
    replace hB6 := hB6.ext hE44
    replace hBp := hBp.ext hE44
    replace hB7 := hB7.ext hE44
    replace hB10 := hB10.ext hE44
    replace hX := Ext.trans' hX hE44
    replace hRS := Ext.trans' hRS hE44
    replace hRU := Ext.trans' hRU hE44
    replace hRR := Ext.trans' hRR hE44
    refine nc_q HC (q_move rfl) rfl (by kernel_rfl) ?_
    clear HC a; intro a HC
    refine nc_q HC (q_neqB Try.underlying4 rfl rfl) rfl (by kernel_rfl) ?_
    clear HC a; intro a HC
    refine nc_q HC (q_move rfl) rfl (by kernel_rfl) ?_
    clear HC a; intro a HC
    refine nc_g HC (q_load rfl (hB2.ldAll ag29 sz29)) (by kernel_rfl) (by kernel_rfl) (by kernel_rfl) ?_
    clear HC a; intro a HC
    refine nc_g HC (q_load rfl (hB3.ldAll ag29 sz29)) (by kernel_rfl) (by kernel_rfl) (by kernel_rfl) ?_
    clear HC a; intro a HC
    refine nc_gcall0 HC rfl en8 (Alike_w (g1.ext hX) (g2.ext hX)) (by kernel_rfl) (by kernel_rfl) (by kernel_rfl) ?_
    clear HC a; intro w46 hE47 a HC
    replace hB2 := hB2.ext hE47
    replace hB3 := hB3.ext hE47
    replace hB5 := hB5.ext hE47
    replace hB6 := hB6.ext hE47
    replace hBp := hBp.ext hE47
    replace hB7 := hB7.ext hE47
    replace hB10 := hB10.ext hE47
    replace hX := Ext.trans' hX hE47
    replace hRS := Ext.trans' hRS hE47
    replace hRU := Ext.trans' hRU hE47
    replace hRR := Ext.trans' hRR hE47
    refine nc_g HC (q_move rfl) (by kernel_rfl) (by kernel_rfl) (by kernel_rfl) ?_
    clear HC a; intro a HC
    refine nc_g HC (q_neqB Try.underlying4 rfl rfl) (by kernel_rfl) (by kernel_rfl) (by kernel_rfl) ?_
    clear HC a; intro a HC
    refine nc_or (j := 5) HC rfl rfl rfl (by kernel_rfl) (by kernel_rfl) ?_
    clear HC a; intro a HC
    have H := HC.has; clear HC
    refine n_nil ?_
    refine then_normal ?_
    refine c_cond H rfl (fun hc56 => ?_) (fun hc56 => ?_)
    · skip
      exfalso; simp at hc56
    · (try simp only [decide_eq_true_eq, decide_eq_false_iff_not, Bool.and_eq_true, Bool.or_eq_true, Bool.and_eq_false_iff, Bool.or_eq_false_iff, beq_iff_eq, bne_iff_ne, beq_eq_false_iff_ne, bne_eq_false_iff_eq, ne_eq, Bool.not_eq_true', Bool.not_eq_false', Int.not_lt, Int.not_le, Bool.not_eq_true, Bool.not_eq_false] at hc56)
      refine wp_skip ?_
      refine then_normal ?_
      refine wp_seq ?_
      refine wp_region_lit ?_
      refine n_q H (q_load rfl (hB2.ldAll ag29 sz29)) rfl ?_
      clear H a; intro a H
      refine n_call H rfl en11 (Copy_w (g1.ext hX)) rfl ?_
      clear H a; intro v50 w48 hv a H
      obtain ⟨hC, hE49⟩ := hv
      replace hB2 := hB2.ext hE49
      replace hB3 := hB3.ext hE49
      replace hB5 := hB5.ext hE49
      replace hB6 := hB6.ext hE49
      replace hBp := hBp.ext hE49
      replace hB7 := hB7.ext hE49
      replace hB10 := hB10.ext hE49
      replace hX := Ext.trans' hX hE49
      replace hRS := Ext.trans' hRS hE49
      replace hRU := Ext.trans' hRU hE49
      replace hRR := Ext.trans' hRR hE49
      have hCI := hC.is
      obtain ⟨c3, c4, c5, c6, c7, c8, c9, fpc, rfl, hfc, hOc9, hnc, hlc, hbc⟩ := hC
      have hRC := Ext.rfl' (w := w48)
      refine n_alloc H ze29 rfl ?_
      clear H; intro b11 w51 hB11 hE52 hs_b11; clear a; intro a H
      have hn_b2_b11 : b2 ≠ b11 := by have := hB2.lt; omega
      have hn_b11_b2 := hn_b2_b11.symm
      have hlt_b2_b11 : b2 < b11 := by have := hB2.lt; omega
      have hn_b3_b11 : b3 ≠ b11 := by have := hB3.lt; omega
      have hn_b11_b3 := hn_b3_b11.symm
      have hlt_b3_b11 : b3 < b11 := by have := hB3.lt; omega
      have hn_b5_b11 : b5 ≠ b11 := by have := hB5.lt; omega
      have hn_b11_b5 := hn_b5_b11.symm
      have hlt_b5_b11 : b5 < b11 := by have := hB5.lt; omega
      have hn_b6_b11 : b6 ≠ b11 := by have := hB6.lt; omega
      have hn_b11_b6 := hn_b6_b11.symm
      have hlt_b6_b11 : b6 < b11 := by have := hB6.lt; omega
      have hn_bp_b11 : bp ≠ b11 := by have := hBp.lt; omega
      have hn_b11_bp := hn_bp_b11.symm
      have hlt_bp_b11 : bp < b11 := by have := hBp.lt; omega
      have hn_b7_b11 : b7 ≠ b11 := by have := hB7.lt; omega
      have hn_b11_b7 := hn_b7_b11.symm
      have hlt_b7_b11 : b7 < b11 := by have := hB7.lt; omega
      have hn_b10_b11 : b10 ≠ b11 := by have := hB10.lt; omega
      have hn_b11_b10 := hn_b10_b11.symm
      have hlt_b10_b11 : b10 < b11 := by have := hB10.lt; omega
      have hw_b11 : w.heap.size ≤ b11 := by have := hX.size; omega
      have hq_hRS_b11 : w5.heap.size ≤ b11 := by have := hRS.size; omega
      have hq_hRU_b11 : w99.heap.size ≤ b11 := by have := hRU.size; omega
      have hq_hRR_b11 : w36.heap.size ≤ b11 := by have := hRR.size; omega
      have hq_hRC_b11 : w48.heap.size ≤ b11 := by have := hRC.size; omega
      replace hB2 := hB2.ext hE52
      replace hB3 := hB3.ext hE52
      replace hB5 := hB5.ext hE52
      replace hB6 := hB6.ext hE52
      replace hBp := hBp.ext hE52
      replace hB7 := hB7.ext hE52
      replace hB10 := hB10.ext hE52
      replace hX := Ext.trans' hX hE52
      replace hRS := Ext.trans' hRS hE52
      replace hRU := Ext.trans' hRU hE52
      replace hRR := Ext.trans' hRR hE52
      replace hRC := Ext.trans' hRC hE52
      refine n_storeAll H rfl rfl rfl sz29 hB11 rfl (by simp [hfc.now.1.r.one, hfc.now.2.1.r.one, hfc.now.2.2.1.r.one, hfc.now.2.2.2.1.r.one, hfc.now.2.2.2.2.1.r.one, hfc.now.2.2.2.2.2.r.one, hOc9.one]) ?_
      clear H; intro w53 hB11N hC54 hz; clear a; intro a H
      replace hB11 := hB11N; clear hB11N
      clear hz
      replace hB2 := hC54.blk hB2 (by simp [blks] <;> omega)
      replace hB3 := hC54.blk hB3 (by simp [blks] <;> omega)
      replace hB5 := hC54.blk hB5 (by simp [blks] <;> omega)
      replace hB6 := hC54.blk hB6 (by simp [blks] <;> omega)
      replace hBp := hC54.blk hBp (by simp [blks] <;> omega)
      replace hB7 := hC54.blk hB7 (by simp [blks] <;> omega)
      replace hB10 := hC54.blk hB10 (by simp [blks] <;> omega)
      replace hRS := Chg.below hRS hC54 (Nat.le_refl _) (by simp [blks] <;> omega)
      replace hRU := Chg.below hRU hC54 (Nat.le_refl _) (by simp [blks] <;> omega)
      replace hRR := Chg.below hRR hC54 (Nat.le_refl _) (by simp [blks] <;> omega)
      replace hRC := Chg.below hRC hC54 (Nat.le_refl _) (by simp [blks] <;> omega)
      replace hX := Chg.below hX hC54 (Nat.le_refl _) (by simp [blks] <;> omega)
      refine n_nil ?_
      refine then_normal ?_
      refine wp_seq ?_
      refine wp_region_lit ?_
      refine n_c H (fun HC => ?_); clear H
      refine nc_q HC (q_load rfl (hB11.ldAll ag29 sz29)) rfl (by kernel_rfl) ?_
      clear HC a; intro a HC
      refine nc_q HC (q_load rfl (hB10.ldAll ag29 sz29)) rfl (by kernel_rfl) ?_
      clear HC a; intro a HC
      refine nc_call HC rfl en9 (rSame_w (hCI.ext hRC) (hRI.ext hRR)) rfl (by kernel_rfl) ?_
      clear HC a; intro v57 w55 hv a HC
      obtain ⟨rfl, hE56⟩ := hv
      replace hB2 := hB2.ext hE56
      replace hB3 := hB3.ext hE56
      replace hB5 := hB5.ext hE56
      replace hB6 := hB6.ext hE56
      replace hBp := hBp.ext hE56
      replace hB7 := hB7.ext hE56
      replace hB10 := hB10.ext hE56
      replace hB11 := hB11.ext hE56
      replace hX := Ext.trans' hX hE56
      replace hRS := Ext.trans' hRS hE56
      replace hRU := Ext.trans' hRU hE56
      replace hRR := Ext.trans' hRR hE56
      replace hRC := Ext.trans' hRC hE56
      refine nc_q HC (q_move rfl) rfl (by kernel_rfl) ?_
      clear HC a; intro a HC
      refine nc_g HC (q_load rfl (hB2.ldAll ag29 sz29)) (by kernel_rfl) (by kernel_rfl) (by kernel_rfl) ?_
      clear HC a; intro a HC
      refine nc_g HC (q_load rfl (hB10.ldAll ag29 sz29)) (by kernel_rfl) (by kernel_rfl) (by kernel_rfl) ?_
      clear HC a; intro a HC
      refine nc_gcall0 HC rfl en9 (rSame_w (g1.ext hX) (hRI.ext hRR)) (by kernel_rfl) (by kernel_rfl) (by kernel_rfl) ?_
      clear HC a; intro w58 hE59 a HC
      replace hB2 := hB2.ext hE59
      replace hB3 := hB3.ext hE59
      replace hB5 := hB5.ext hE59
      replace hB6 := hB6.ext hE59
      replace hBp := hBp.ext hE59
      replace hB7 := hB7.ext hE59
      replace hB10 := hB10.ext hE59
      replace hB11 := hB11.ext hE59
      replace hX := Ext.trans' hX hE59
      replace hRS := Ext.trans' hRS hE59
      replace hRU := Ext.trans' hRU hE59
      replace hRR := Ext.trans' hRR hE59
      replace hRC := Ext.trans' hRC hE59
      refine nc_and (j := 3) HC rfl rfl rfl (by kernel_rfl) (by kernel_rfl) ?_
      clear HC a; intro a HC
      refine nc_q HC (q_assign rfl) rfl (by kernel_rfl) ?_
      clear HC a; intro a HC
      have H := HC.has; clear HC
      refine n_nil ?_
      refine then_normal ?_
      refine wp_ret ?_
      refine ret1 H (.inr rfl) rfl rfl ?_
      exact ⟨congrArg Value.bool (by simp [sameM_refl]), hX⟩

end Go.Proofs.Ytfoijpfmjmjjpaa
