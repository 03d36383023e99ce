/- valid.alike, Same, Alike (written by wip/tools) -/
import Derived.Test.YtfoijpfmjmjjpaaLib11
set_option linter.unusedVariables false
set_option linter.unusedSimpArgs false
set_option maxRecDepth 10000
namespace Go.Proofs.Ytfoijpfmjmjjpaa
open Go Go.RowKit
theorem ag22 : aggB Try.prog 22 = some false := by kernel_rfl
theorem ag23 : aggB Try.prog 23 = some false := by kernel_rfl
theorem ag24 : aggB Try.prog 24 = some false := by kernel_rfl
theorem ag25 : aggB Try.prog 25 = some false := by kernel_rfl
theorem ag26 : aggB Try.prog 26 = some false := by kernel_rfl
theorem ag27 : aggB Try.prog 27 = some false := by kernel_rfl
theorem ag29 : aggB Try.prog 29 = some true := by kernel_rfl
theorem ag53 : aggB Try.prog 53 = some false := by kernel_rfl
theorem ag55 : aggB Try.prog 55 = some true := by kernel_rfl
theorem en12 : entersB Try.prog 12 = true := by kernel_rfl
theorem en13 : entersB Try.prog 13 = true := by kernel_rfl
theorem en14 : entersB Try.prog 14 = true := by kernel_rfl
theorem en15 : entersB Try.prog 15 = true := by kernel_rfl
theorem en24 : entersB Try.prog 24 = true := by kernel_rfl
theorem en25 : entersB Try.prog 25 = true := by kernel_rfl
theorem en26 : entersB Try.prog 26 = true := by kernel_rfl
theorem en27 : entersB Try.prog 27 = true := by kernel_rfl
theorem en28 : entersB Try.prog 28 = true := by kernel_rfl
theorem en29 : entersB Try.prog 29 = true := by kernel_rfl
theorem en30 : entersB Try.prog 30 = true := by kernel_rfl
theorem fo29_0 : fOff Try.prog 29 0 = some 0 := by kernel_rfl
theorem fo29_1 : fOff Try.prog 29 1 = some 1 := by kernel_rfl
theorem fo29_2 : fOff Try.prog 29 2 = some 2 := by kernel_rfl
theorem fo29_3 : fOff Try.prog 29 3 = some 3 := by kernel_rfl
theorem fo29_4 : fOff Try.prog 29 4 = some 4 := by kernel_rfl
theorem fo29_5 : fOff Try.prog 29 5 = some 5 := by kernel_rfl
theorem fo29_6 : fOff Try.prog 29 6 = some 6 := by kernel_rfl
theorem fo29_7 : fOff Try.prog 29 7 = some 7 := by kernel_rfl
theorem fo29_8 : fOff Try.prog 29 8 = some 8 := by kernel_rfl
theorem fo29_9 : fOff Try.prog 29 9 = some 9 := by kernel_rfl
theorem fo40_0 : fOff Try.prog 40 0 = some 0 := by kernel_rfl
theorem fo40_2 : fOff Try.prog 40 2 = some 2 := by kernel_rfl
theorem fo55_0 : fOff Try.prog 55 0 = some 0 := by kernel_rfl
theorem fo55_1 : fOff Try.prog 55 1 = some 1 := by kernel_rfl
theorem gd38 : Try.prog.eqGuardType Try.prog.depth 38 = false := by kernel_rfl
theorem sz29 : sizeB Try.prog 29 = some 10 := by kernel_rfl
theorem sz55 : sizeB Try.prog 55 = some 2 := by kernel_rfl
theorem ze40 : zeroB Try.prog 40 = some [.int .i64 0, .bool false, .int .u8 0, .int .u8 0, .int .u8 0, .int .u8 0, .int .u8 0, .int .u8 0, .int .u8 0, .int .u8 0, .int .u8 0, .int .u8 0, .int .u8 0, .int .u8 0, .int .u8 0, .int .u8 0, .int .u8 0, .int .u8 0, .int .u8 0, .int .u8 0, .int .u8 0, .int .u8 0, .int .u8 0, .int .u8 0, .int .u8 0, .int .u8 0, .int .u8 0, .int .u8 0, .int .u8 0, .int .u8 0, .int .u8 0, .int .u8 0, .int .u8 0, .int .u8 0, .int .u8 0, .int .u8 0, .int .u8 0, .int .u8 0, .int .u8 0, .int .u8 0, .int .u8 0, .int .u8 0, .int .u8 0, .int .u8 0, .int .u8 0, .int .u8 0, .int .u8 0, .int .u8 0, .int .u8 0, .int .u8 0, .int .u8 0, .int .u8 0, .int .u8 0, .int .u8 0, .int .u8 0, .int .u8 0, .int .u8 0, .int .u8 0, .int .u8 0, .int .u8 0, .int .u8 0, .int .u8 0, .int .u8 0, .int .u8 0, .int .u8 0, .int .u8 0] := by kernel_rfl
theorem ze55 : zeroB Try.prog 55 = some [.slice none 0 0, .int .i64 0] := by kernel_rfl

theorem portEq {w : World} {v1 v2 : Value} {m1 m2 : List ByteArray} {a1 a2 : Int} (h1 : SlR w 1 (Flat eS) v1 m1) (h2 : SlR w 1 (Flat eS) v2 m2) :
    Calls Try.prog 29 [.agg #[v1, .int .i64 a1], .agg #[v2, .int .i64 a2]].toArray w (Ret fun u w' => u = .bool (a1 == a2 && decide (m1 = m2)) ∧ Ext w w') := by
  refine enter Try.func29 rfl rfl rfl ?_
  intro a H
  dsimp only [enumL, Nat.zero_add, Nat.reduceAdd] at H
  refine wp_seq ?_
  refine wp_region_lit ?_
  refine n_box H rfl (cs := _) rfl rfl ?_
  clear H; intro b2 w1 hB2 hE2 hs_b2; clear a; intro a H
  have hw_b2 : w.heap.size ≤ b2 := by omega
  have hX := hE2
  refine n_box H rfl (cs := _) rfl rfl ?_
  clear H; intro b3 w3 hB3 hE4 hs_b3; clear a; intro a H
  have hn_b2_b3 : b2 ≠ b3 := by have := hB2.lt; omega
  have hn_b3_b2 := hn_b2_b3.symm
  have hlt_b2_b3 : b2 < b3 := by have := hB2.lt; omega
  have hw_b3 : w.heap.size ≤ b3 := by have := hX.size; omega
  replace hB2 := hB2.ext hE4
  replace hX := Ext.trans' hX hE4
  refine n_q H (q_assign rfl) rfl ?_
  clear H a; intro a H
  refine n_nil ?_
  refine then_normal ?_
  refine wp_seq ?_
  refine wp_region_lit ?_
  refine n_c H (fun HC => ?_); clear H
  refine nc_q HC (q_fieldAddr0 rfl fo55_1) rfl (by kernel_rfl) ?_
  clear HC a; intro a HC
  refine nc_q HC (q_load rfl (hB2.ld ag3 rfl)) rfl (by kernel_rfl) ?_
  clear HC a; intro a HC
  refine nc_q HC (q_fieldAddr0 rfl fo55_1) rfl (by kernel_rfl) ?_
  clear HC a; intro a HC
  refine nc_q HC (q_load rfl (hB3.ld ag3 rfl)) rfl (by kernel_rfl) ?_
  clear HC a; intro a HC
  refine nc_q HC (q_eql rfl rfl) rfl (by kernel_rfl) ?_
  clear HC a; intro a HC
  refine nc_q HC (q_move rfl) rfl (by kernel_rfl) ?_
  clear HC a; intro a HC
  refine nc_g HC (q_fieldAddr0 rfl fo55_0) (by kernel_rfl) (by kernel_rfl) (by kernel_rfl) ?_
  clear HC a; intro a HC
  refine nc_g HC (q_load rfl (hB2.ld ag53 rfl)) (by kernel_rfl) (by kernel_rfl) (by kernel_rfl) ?_
  clear HC a; intro a HC
  refine nc_g HC (q_fieldAddr0 rfl fo55_0) (by kernel_rfl) (by kernel_rfl) (by kernel_rfl) ?_
  clear HC a; intro a HC
  refine nc_g HC (q_load rfl (hB3.ld ag53 rfl)) (by kernel_rfl) (by kernel_rfl) (by kernel_rfl) ?_
  clear HC a; intro a HC
  refine nc_gcall0 HC rfl en30 (equal_string (h1.ext (Flat.mono _) hX) (h2.ext (Flat.mono _) hX)) (by kernel_rfl) (by kernel_rfl) (by kernel_rfl) ?_
  clear HC a; intro w5 hE6 a HC
  replace hB2 := hB2.ext hE6
  replace hB3 := hB3.ext hE6
  replace hX := Ext.trans' hX hE6
  refine nc_and (j := 5) HC rfl rfl rfl (by kernel_rfl) (by kernel_rfl) ?_
  clear HC a; intro a HC
  refine nc_q HC (q_assign rfl) rfl (by kernel_rfl) ?_
  clear HC a; intro a HC
  have H := HC.has; clear HC
  refine n_nil ?_
  refine then_normal ?_
  refine wp_ret ?_
  refine ret1 H (.inr rfl) rfl rfl ?_
  exact ⟨rfl, hX⟩

theorem ePage_len {p : PageM} (h : (ePage p).length = 66) : p.data.length = 64 := by simpa [ePage] using h
theorem ePage_data {p : PageM} (h : (ePage p).length = 66) : ((ePage p).drop 2).take 64 = p.data.map (Value.int .u8) := by
  simp only [ePage, List.drop_succ_cons, List.drop_zero]
  exact List.take_of_length_le (by simp [ePage_len h])
theorem ePage_one {p : PageM} : ∀ u ∈ ePage p, u.oneCell' = true := by simp [ePage, Value.oneCell']
theorem Blk.ldData {w : World} {b T : Nat} {p : PageM} (hp : (ePage p).length = 66) (h : Blk w b (ePage p) T) : LdX Try.prog 38 w ⟨b, 2, none⟩ (.agg (p.data.map (Value.int .u8)).toArray) := by
  have := h.ldPart 2 64 ag38 sz38 (by omega)
  rwa [ePage_data hp] at this
theorem pageEq {w : World} {p q : PageM} (hp : (ePage p).length = 66) (hq : (ePage q).length = 66) :
    Calls Try.prog 15 [.agg (ePage p).toArray, .agg (ePage q).toArray].toArray w (Ret fun u w' => u = .bool (p.rights == q.rights && decide (p.data = q.data)) ∧ Ext w w') := by
  refine enter Try.func15 rfl rfl rfl ?_
  intro a H
  dsimp only [enumL, Nat.zero_add, Nat.reduceAdd] at H
  refine wp_seq ?_
  refine wp_region_lit ?_
  refine n_box H rfl (cs := ePage p) rfl rfl ?_
  clear H; intro b2 w1 hB2 hE2 hs_b2; clear a; intro a H
  have hw_b2 : w.heap.size ≤ b2 := by omega
  have hX := hE2
  refine n_box H rfl (cs := ePage q) rfl rfl ?_
  clear H; intro b3 w3 hB3 hE4 hs_b3; clear a; intro a H
  have hn_b2_b3 : b2 ≠ b3 := by have := hB2.lt; omega
  have hn_b3_b2 := hn_b2_b3.symm
  have hlt_b2_b3 : b2 < b3 := by have := hB2.lt; omega
  have hw_b3 : w.heap.size ≤ b3 := by have := hX.size; omega
  replace hB2 := hB2.ext hE4
  replace hX := Ext.trans' hX hE4
  refine n_q H (q_assign rfl) rfl ?_
  clear H a; intro a H
  refine n_nil ?_
  refine then_normal ?_
  refine wp_seq ?_
  refine wp_region_lit ?_
  refine n_c H (fun HC => ?_); clear H
  refine nc_q HC (q_fieldAddr0 rfl fo40_0) rfl (by kernel_rfl) ?_
  clear HC a; intro a HC
  refine nc_q HC (q_load rfl (hB2.ld ag3 rfl)) rfl (by kernel_rfl) ?_
  clear HC a; intro a HC
  refine nc_q HC (q_fieldAddr0 rfl fo40_0) rfl (by kernel_rfl) ?_
  clear HC a; intro a HC
  refine nc_q HC (q_load rfl (hB3.ld ag3 rfl)) rfl (by kernel_rfl) ?_
  clear HC a; intro a HC
  refine nc_q HC (q_eql rfl rfl) rfl (by kernel_rfl) ?_
  clear HC a; intro a HC
  refine nc_q HC (q_move rfl) rfl (by kernel_rfl) ?_
  clear HC a; intro a HC
  refine nc_g HC (q_fieldAddr0 rfl fo40_2) (by kernel_rfl) (by kernel_rfl) (by kernel_rfl) ?_
  clear HC a; intro a HC
  refine nc_g HC (q_load rfl (hB2.ldData hp)) (by kernel_rfl) (by kernel_rfl) (by kernel_rfl) ?_
  clear HC a; intro a HC
  refine nc_g HC (q_fieldAddr0 rfl fo40_2) (by kernel_rfl) (by kernel_rfl) (by kernel_rfl) ?_
  clear HC a; intro a HC
  refine nc_g HC (q_load rfl (hB3.ldData hq)) (by kernel_rfl) (by kernel_rfl) (by kernel_rfl) ?_
  clear HC a; intro a HC
  refine nc_g HC (q_eqlG gd38 (eqIn_ints Try.underlying38 sz5 ag5 Try.underlying5 (ePage_len hp) (ePage_len hq)) (by omega) rfl rfl) (by kernel_rfl) (by kernel_rfl) (by kernel_rfl) ?_
  clear HC a; intro a HC
  refine nc_and (j := 5) HC rfl rfl rfl (by kernel_rfl) (by kernel_rfl) ?_
  clear HC a; intro a HC
  refine nc_q HC (q_assign rfl) rfl (by kernel_rfl) ?_
  clear HC a; intro a HC
  have H := HC.has; clear HC
  refine n_nil ?_
  refine then_normal ?_
  refine wp_ret ?_
  refine ret1 H (.inr rfl) rfl rfl ?_
  exact ⟨rfl, hX⟩

theorem equalFunc_port {w : World} {v1 v2 : Value} {xs ys : List PortM} (h1 : SlR w 2 RPort v1 xs) (h2 : SlR w 2 RPort v2 ys) :
    Calls Try.prog 28 [v1, v2, .func (.func 29) #[] #[]].toArray w (Ret fun u w' => u = .bool (decide (xs = ys)) ∧ Ext w w') := by
  obtain ⟨A1, c1, rfl, hl1, hm1, hn1⟩ := h1.form
  obtain ⟨A2, c2, rfl, hl2, hm2, hn2⟩ := h2.form
  refine enter Try.func28 rfl rfl rfl ?_
  intro a H
  dsimp only [enumL, Nat.zero_add, Nat.reduceAdd] at H
  refine wp_seq ?_
  refine wp_region_lit ?_
  refine n_q H (q_assign rfl) rfl ?_
  clear H a; intro a H
  refine n_nil ?_
  refine then_normal ?_
  refine wp_seq ?_
  refine wp_seq ?_
  refine wp_region_lit ?_
  refine n_q H (q_move rfl) rfl ?_
  clear H a; intro a H
  refine n_q H (q_lenSl Try.underlying26 rfl) rfl ?_
  clear H a; intro a H
  refine n_q H (q_move rfl) rfl ?_
  clear H a; intro a H
  refine n_q H (q_lenSl Try.underlying26 rfl) rfl ?_
  clear H a; intro a H
  refine n_q H (q_neq rfl rfl) rfl ?_
  clear H a; intro a H
  refine n_nil ?_
  refine then_normal ?_
  refine c_cond H rfl (fun hc14 => ?_) (fun hc14 => ?_)
  · (try simp only [decide_eq_true_eq, decide_eq_false_iff_not, Bool.and_eq_true, Bool.or_eq_true, Bool.and_eq_false_iff, Bool.or_eq_false_iff, beq_iff_eq, bne_iff_ne, beq_eq_false_iff_ne, bne_eq_false_iff_eq, ne_eq, Bool.not_eq_true', Bool.not_eq_false', Int.not_lt, Int.not_le, Bool.not_eq_true, Bool.not_eq_false] at hc14)
    refine wp_seq ?_
    refine wp_region_lit ?_
    refine n_q H (q_assign rfl) rfl ?_
    clear H a; intro a H
    refine n_nil ?_
    refine then_normal ?_
    refine wp_ret ?_
    refine then_ret ?_
    refine ret1 H (.inr rfl) rfl rfl ?_
    exact ⟨congrArg Value.bool (Eq.symm (by rw [decide_eq_false]; intro e; rw [e] at hc14; exact hc14 rfl)), Ext.rfl'⟩
  · (try simp only [decide_eq_true_eq, decide_eq_false_iff_not, Bool.and_eq_true, Bool.or_eq_true, Bool.and_eq_false_iff, Bool.or_eq_false_iff, beq_iff_eq, bne_iff_ne, beq_eq_false_iff_ne, bne_eq_false_iff_eq, ne_eq, Bool.not_eq_true', Bool.not_eq_false', Int.not_lt, Int.not_le, Bool.not_eq_true, Bool.not_eq_false] at hc14)
    refine wp_skip ?_
    refine then_normal ?_
    refine wp_seq ?_
    refine wp_seq ?_
    refine wp_region_lit ?_
    refine n_q H (q_move rfl) rfl ?_
    clear H a; intro a H
    refine n_q H (q_lenSl Try.underlying26 rfl) rfl ?_
    clear H a; intro a H
    refine n_q H (q_move rfl) rfl ?_
    clear H a; intro a H
    refine n_nil ?_
    refine then_normal ?_
    refine wp_block ?_
    refine c_loop (σ := Nat) (fun i => [(0, .slice A1 xs.length c1), (1, .slice A2 ys.length c2), (2, .func (.func 29) #[] #[]), (15, .slice A1 xs.length c1), (16, .int .i64 (xs.length : Nat)), (17, .int .i64 (i : Nat))]) (fun i wl => i ≤ xs.length ∧ xs.take i = ys.take i ∧ Ext w wl) (fun i => xs.length - i) 0 H ⟨rfl, rfl, rfl, rfl, rfl, rfl, trivial⟩ ⟨Nat.zero_le _, by simp, Ext.rfl'⟩ ?_
    clear H; clear a; intro i a w1 H hR
    simp only [ent, List.map_cons, List.map_nil] at H
    try dsimp only at hR
    obtain ⟨hi, htk, hE2⟩ := hR
    have hX := hE2
    have hY3 := hE2
    refine wp_seq ?_
    refine wp_region_lit ?_
    refine n_q H (q_lss rfl rfl) rfl ?_
    clear H a; intro a H
    refine n_nil ?_
    refine then_normal ?_
    refine wp_seq ?_
    refine c_cond H rfl (fun hc18 => ?_) (fun hc18 => ?_)
    · (try simp only [decide_eq_true_eq, decide_eq_false_iff_not, Bool.and_eq_true, Bool.or_eq_true, Bool.and_eq_false_iff, Bool.or_eq_false_iff, beq_iff_eq, bne_iff_ne, beq_eq_false_iff_ne, bne_eq_false_iff_eq, ne_eq, Bool.not_eq_true', Bool.not_eq_false', Int.not_lt, Int.not_le, Bool.not_eq_true, Bool.not_eq_false] at hc18)
      have hi1 : i < xs.length := by omega
      have hi2 : i < ys.length := by omega
      obtain ⟨x, hx1⟩ := h1.at hi1
      obtain ⟨y, hx2⟩ := h2.at hi2
      obtain ⟨ad1, rfl⟩ := h1.addr hi1
      obtain ⟨ad2, rfl⟩ := h2.addr hi2
      obtain ⟨cs1, hcl1, hr1, hc1⟩ := h1.el hx1
      obtain ⟨cs2, hcl2, hr2, hc2⟩ := h2.el hx2
      obtain ⟨m1, rfl, hm1s⟩ := hr1
      obtain ⟨m2, rfl, hm2s⟩ := hr2
      have o1 := hm1s.r.one
      have o2 := hm2s.r.one
      refine wp_skip ?_
      refine then_normal ?_
      refine wp_seq ?_
      refine wp_block ?_
      refine wp_seq ?_
      refine wp_region_lit ?_
      refine n_q H (q_move rfl) rfl ?_
      clear H a; intro a H
      refine n_q H (q_indexAddr Try.underlying26 sz55 rfl rfl (by omega) (by omega)) rfl ?_
      clear H a; intro a H
      refine n_q H (q_load rfl (LdX.ext (ldEl ag55 sz55 hcl1 hc1) hX)) rfl ?_
      clear H a; intro a H
      refine n_alloc H ze55 rfl ?_
      clear H; intro b8 w4 hB8 hE5 hs_b8; clear a; intro a H
      have hw_b8 : w.heap.size ≤ b8 := by have := hX.size; omega
      have hq_hY3_b8 : w.heap.size ≤ b8 := by have := hY3.size; omega
      replace hX := Ext.trans' hX hE5
      replace hY3 := Ext.trans' hY3 hE5
      refine n_q H (q_assign rfl) rfl ?_
      clear H a; intro a H
      refine n_storeAll H rfl rfl rfl sz55 hB8 rfl (by simp [o1, o2]) ?_
      clear H; intro w6 hB8N hC7 hz; clear a; intro a H
      replace hB8 := hB8N; clear hB8N
      clear hz
      replace hY3 := Chg.below hY3 hC7 (Nat.le_refl _) (by simp [blks] <;> omega)
      replace hX := Chg.below hX hC7 (Nat.le_refl _) (by simp [blks] <;> omega)
      refine n_nil ?_
      refine then_normal ?_
      refine wp_seq ?_
      refine wp_region_lit ?_
      refine n_q H (q_move rfl) rfl ?_
      clear H a; intro a H
      refine n_q H (q_move rfl) rfl ?_
      clear H a; intro a H
      refine n_q H (q_indexAddr Try.underlying26 sz55 rfl rfl (by omega) (by omega)) rfl ?_
      clear H a; intro a H
      refine n_q H (q_load rfl (LdX.ext (ldEl ag55 sz55 hcl2 hc2) hX)) rfl ?_
      clear H a; intro a H
      refine n_alloc H ze55 rfl ?_
      clear H; intro b9 w8 hB9 hE9 hs_b9; clear a; intro a H
      have hn_b8_b9 : b8 ≠ b9 := by have := hB8.lt; omega
      have hn_b9_b8 := hn_b8_b9.symm
      have hlt_b8_b9 : b8 < b9 := by have := hB8.lt; omega
      have hw_b9 : w.heap.size ≤ b9 := by have := hX.size; omega
      have hq_hY3_b9 : w.heap.size ≤ b9 := by have := hY3.size; omega
      replace hB8 := hB8.ext hE9
      replace hX := Ext.trans' hX hE9
      replace hY3 := Ext.trans' hY3 hE9
      refine n_storeAll H rfl rfl rfl sz55 hB9 rfl (by simp [o1, o2]) ?_
      clear H; intro w10 hB9N hC11 hz; clear a; intro a H
      replace hB9 := hB9N; clear hB9N
      clear hz
      replace hB8 := hC11.blk hB8 (by simp [blks] <;> omega)
      replace hY3 := Chg.below hY3 hC11 (Nat.le_refl _) (by simp [blks] <;> omega)
      replace hX := Chg.below hX hC11 (Nat.le_refl _) (by simp [blks] <;> omega)
      refine n_nil ?_
      refine then_normal ?_
      refine wp_seq ?_
      refine wp_region_lit ?_
      refine n_q H (q_move rfl) rfl ?_
      clear H a; intro a H
      refine n_q H (q_load rfl (hB8.ldAll ag55 sz55)) rfl ?_
      clear H a; intro a H
      refine n_q H (q_load rfl (hB9.ldAll ag55 sz55)) rfl ?_
      clear H a; intro a H
      refine n_callv H rfl rfl en29 (portEq (hm1s.r.ext (Flat.mono _) hX) (hm2s.r.ext (Flat.mono _) hX)) rfl ?_
      clear H a; intro v14 w12 hv a H
      obtain ⟨rfl, hE13⟩ := hv
      replace hB8 := hB8.ext hE13
      replace hB9 := hB9.ext hE13
      replace hX := Ext.trans' hX hE13
      replace hY3 := Ext.trans' hY3 hE13
      refine n_q H (q_not rfl) rfl ?_
      clear H a; intro a H
      refine n_nil ?_
      refine then_normal ?_
      refine c_cond H rfl (fun hc30 => ?_) (fun hc30 => ?_)
      · (try simp only [decide_eq_true_eq, decide_eq_false_iff_not, Bool.and_eq_true, Bool.or_eq_true, Bool.and_eq_false_iff, Bool.or_eq_false_iff, beq_iff_eq, bne_iff_ne, beq_eq_false_iff_ne, bne_eq_false_iff_eq, ne_eq, Bool.not_eq_true', Bool.not_eq_false', Int.not_lt, Int.not_le, Bool.not_eq_true, Bool.not_eq_false] at hc30)
        have hxy : ¬ (x = y) := by cases x; cases y; simp only [PortM.mk.injEq]; rintro ⟨q1, q2⟩; simp [q1, q2] at hc30
        refine wp_seq ?_
        refine wp_region_lit ?_
        refine n_q H (q_assign rfl) rfl ?_
        clear H a; intro a H
        refine n_nil ?_
        refine then_normal ?_
        refine wp_ret ?_
        refine block_ret ?_
        refine then_ret ?_
        refine then_ret ?_
        refine block_ret ?_
        refine then_ret ?_
        refine ret1 H (.inr rfl) rfl rfl ?_
        exact ⟨congrArg Value.bool (Eq.symm (by rw [decide_eq_false]; intro e; rw [e, hx2] at hx1; exact hxy (Option.some.inj hx1).symm)), hX⟩
      · (try simp only [decide_eq_true_eq, decide_eq_false_iff_not, Bool.and_eq_true, Bool.or_eq_true, Bool.and_eq_false_iff, Bool.or_eq_false_iff, beq_iff_eq, bne_iff_ne, beq_eq_false_iff_ne, bne_eq_false_iff_eq, ne_eq, Bool.not_eq_true', Bool.not_eq_false', Int.not_lt, Int.not_le, Bool.not_eq_true, Bool.not_eq_false] at hc30)
        have hxy : x = y := by cases x; cases y; simp only [PortM.mk.injEq]; simp at hc30; exact ⟨hc30.2, hc30.1⟩
        refine wp_skip ?_
        refine block_normal ?_
        refine then_normal ?_
        refine wp_region_lit ?_
        refine n_q H (q_add rfl rfl (by constructor <;> omega)) rfl ?_
        clear H a; intro a H
        refine n_q H (q_move rfl) rfl ?_
        clear H a; intro a H
        refine n_nil ?_
        refine then_normal ?_
        exact round (i + 1) H ⟨rfl, rfl, rfl, rfl, rfl, rfl, trivial⟩ ⟨by omega, by rw [take_snoc hx1, take_snoc hx2, htk, hxy], hX⟩ (by first | omega | (dsimp only; omega))
    · (try simp only [decide_eq_true_eq, decide_eq_false_iff_not, Bool.and_eq_true, Bool.or_eq_true, Bool.and_eq_false_iff, Bool.or_eq_false_iff, beq_iff_eq, bne_iff_ne, beq_eq_false_iff_ne, bne_eq_false_iff_eq, ne_eq, Bool.not_eq_true', Bool.not_eq_false', Int.not_lt, Int.not_le, Bool.not_eq_true, Bool.not_eq_false] at hc18)
      refine wp_exit ?_
      refine then_exit ?_
      refine then_exit ?_
      refine block_exit ?_
      refine then_normal ?_
      refine wp_seq ?_
      refine wp_region_lit ?_
      refine n_q H (q_assign rfl) rfl ?_
      clear H a; intro a H
      refine n_nil ?_
      refine then_normal ?_
      refine wp_ret ?_
      refine ret1 H (.inr rfl) rfl rfl ?_
      exact ⟨congrArg Value.bool (Eq.symm (by rw [decide_eq_true]; exact eq_of_take htk (by omega) (by omega))), hX⟩

/-- The pages are the same but for their marks. -/
def samePages : List PageM → List PageM → Bool
  | [], [] => true
  | x :: xs, y :: ys => (x.rights == y.rights && decide (x.data = y.data)) && samePages xs ys
  | _, _ => false
theorem samePages_len : ∀ {xs ys : List PageM}, samePages xs ys = true → xs.length = ys.length
  | [], [], _ => rfl
  | [], _ :: _, h => by simp [samePages] at h
  | _ :: _, [], h => by simp [samePages] at h
  | x :: xs, y :: ys, h => by simp only [samePages, Bool.and_eq_true] at h; simp [samePages_len h.2]
theorem samePages_snoc : ∀ {xs ys : List PageM} {x y : PageM}, samePages xs ys = true → x.rights = y.rights → x.data = y.data → samePages (xs ++ [x]) (ys ++ [y]) = true
  | [], [], x, y, _, h1, h2 => by simp [samePages, h1, h2]
  | [], _ :: _, _, _, h, _, _ => by simp [samePages] at h
  | _ :: _, [], _, _, h, _, _ => by simp [samePages] at h
  | a :: xs, b :: ys, x, y, h, h1, h2 => by
    simp only [samePages, Bool.and_eq_true, List.cons_append] at h ⊢
    exact ⟨h.1, samePages_snoc h.2 h1 h2⟩
theorem samePages_at : ∀ {xs ys : List PageM} {i : Nat} {x y : PageM}, samePages xs ys = true → xs[i]? = some x → ys[i]? = some y → x.rights = y.rights ∧ x.data = y.data
  | [], [], i, _, _, _, h, _ => by simp at h
  | [], _ :: _, _, _, _, h, _, _ => by simp [samePages] at h
  | _ :: _, [], _, _, _, h, _, _ => by simp [samePages] at h
  | a :: xs, b :: ys, 0, x, y, h, hx, hy => by
    simp only [samePages, Bool.and_eq_true, beq_iff_eq, decide_eq_true_eq] at h
    simp only [List.getElem?_cons_zero, Option.some.injEq] at hx hy
    subst hx; subst hy; exact h.1
  | a :: xs, b :: ys, i + 1, x, y, h, hx, hy => by
    simp only [samePages, Bool.and_eq_true] at h
    simp only [List.getElem?_cons_succ] at hx hy
    exact samePages_at h.2 hx hy
theorem equalFunc_page {w : World} {v1 v2 : Value} {xs ys : List PageM} (h1 : SlR w 66 (Flat ePage) v1 xs) (h2 : SlR w 66 (Flat ePage) v2 ys) :
    Calls Try.prog 14 [v1, v2, .func (.func 15) #[] #[]].toArray w (Ret fun u w' => u = .bool (samePages xs ys) ∧ Ext w w') := by
  obtain ⟨A1, c1, rfl, hl1, hm1, hn1⟩ := h1.form
  obtain ⟨A2, c2, rfl, hl2, hm2, hn2⟩ := h2.form
  refine enter Try.func14 rfl rfl rfl ?_
  intro a H
  dsimp only [enumL, Nat.zero_add, Nat.reduceAdd] at H
  refine wp_seq ?_
  refine wp_region_lit ?_
  refine n_q H (q_assign rfl) rfl ?_
  clear H a; intro a H
  refine n_nil ?_
  refine then_normal ?_
  refine wp_seq ?_
  refine wp_seq ?_
  refine wp_region_lit ?_
  refine n_q H (q_move rfl) rfl ?_
  clear H a; intro a H
  refine n_q H (q_lenSl Try.underlying27 rfl) rfl ?_
  clear H a; intro a H
  refine n_q H (q_move rfl) rfl ?_
  clear H a; intro a H
  refine n_q H (q_lenSl Try.underlying27 rfl) rfl ?_
  clear H a; intro a H
  refine n_q H (q_neq rfl rfl) rfl ?_
  clear H a; intro a H
  refine n_nil ?_
  refine then_normal ?_
  refine c_cond H rfl (fun hc14 => ?_) (fun hc14 => ?_)
  · (try simp only [decide_eq_true_eq, decide_eq_false_iff_not, Bool.and_eq_true, Bool.or_eq_true, Bool.and_eq_false_iff, Bool.or_eq_false_iff, beq_iff_eq, bne_iff_ne, beq_eq_false_iff_ne, bne_eq_false_iff_eq, ne_eq, Bool.not_eq_true', Bool.not_eq_false', Int.not_lt, Int.not_le, Bool.not_eq_true, Bool.not_eq_false] at hc14)
    refine wp_seq ?_
    refine wp_region_lit ?_
    refine n_q H (q_assign rfl) rfl ?_
    clear H a; intro a H
    refine n_nil ?_
    refine then_normal ?_
    refine wp_ret ?_
    refine then_ret ?_
    refine ret1 H (.inr rfl) rfl rfl ?_
    exact ⟨congrArg Value.bool (Eq.symm (by cases hq : samePages xs ys with | false => rfl | true => exact absurd (congrArg (fun n : Nat => (n : Int)) (samePages_len hq)) hc14)), Ext.rfl'⟩
  · (try simp only [decide_eq_true_eq, decide_eq_false_iff_not, Bool.and_eq_true, Bool.or_eq_true, Bool.and_eq_false_iff, Bool.or_eq_false_iff, beq_iff_eq, bne_iff_ne, beq_eq_false_iff_ne, bne_eq_false_iff_eq, ne_eq, Bool.not_eq_true', Bool.not_eq_false', Int.not_lt, Int.not_le, Bool.not_eq_true, Bool.not_eq_false] at hc14)
    refine wp_skip ?_
    refine then_normal ?_
    refine wp_seq ?_
    refine wp_seq ?_
    refine wp_region_lit ?_
    refine n_q H (q_move rfl) rfl ?_
    clear H a; intro a H
    refine n_q H (q_lenSl Try.underlying27 rfl) rfl ?_
    clear H a; intro a H
    refine n_q H (q_move rfl) rfl ?_
    clear H a; intro a H
    refine n_nil ?_
    refine then_normal ?_
    refine wp_block ?_
    refine c_loop (σ := Nat) (fun i => [(0, .slice A1 xs.length c1), (1, .slice A2 ys.length c2), (2, .func (.func 15) #[] #[]), (15, .slice A1 xs.length c1), (16, .int .i64 (xs.length : Nat)), (17, .int .i64 (i : Nat))]) (fun i wl => i ≤ xs.length ∧ samePages (xs.take i) (ys.take i) = true ∧ Ext w wl) (fun i => xs.length - i) 0 H ⟨rfl, rfl, rfl, rfl, rfl, rfl, trivial⟩ ⟨Nat.zero_le _, by simp [samePages], Ext.rfl'⟩ ?_
    clear H; clear a; intro i a w1 H hR
    simp only [ent, List.map_cons, List.map_nil] at H
    try dsimp only at hR
    obtain ⟨hi, htk, hE2⟩ := hR
    have hX := hE2
    have hY3 := hE2
    refine wp_seq ?_
    refine wp_region_lit ?_
    refine n_q H (q_lss rfl rfl) rfl ?_
    clear H a; intro a H
    refine n_nil ?_
    refine then_normal ?_
    refine wp_seq ?_
    refine c_cond H rfl (fun hc18 => ?_) (fun hc18 => ?_)
    · (try simp only [decide_eq_true_eq, decide_eq_false_iff_not, Bool.and_eq_true, Bool.or_eq_true, Bool.and_eq_false_iff, Bool.or_eq_false_iff, beq_iff_eq, bne_iff_ne, beq_eq_false_iff_ne, bne_eq_false_iff_eq, ne_eq, Bool.not_eq_true', Bool.not_eq_false', Int.not_lt, Int.not_le, Bool.not_eq_true, Bool.not_eq_false] at hc18)
      have hi1 : i < xs.length := by omega
      have hi2 : i < ys.length := by omega
      obtain ⟨x, hx1⟩ := h1.at hi1
      obtain ⟨y, hx2⟩ := h2.at hi2
      obtain ⟨ad1, rfl⟩ := h1.addr hi1
      obtain ⟨ad2, rfl⟩ := h2.addr hi2
      have hp1 := h1.elen hx1
      have hp2 := h2.elen hx2
      refine wp_skip ?_
      refine then_normal ?_
      refine wp_seq ?_
      refine wp_block ?_
      refine wp_seq ?_
      refine wp_region_lit ?_
      refine n_q H (q_move rfl) rfl ?_
      clear H a; intro a H
      refine n_q H (q_indexAddr Try.underlying27 sz40 rfl rfl (by omega) (by omega)) rfl ?_
      clear H a; intro a H
      refine n_q H (q_load rfl (LdX.ext (h1.ldAgg ag40 sz40 hx1) hX)) rfl ?_
      clear H a; intro a H
      refine n_alloc H ze40 rfl ?_
      clear H; intro b8 w4 hB8 hE5 hs_b8; clear a; intro a H
      have hw_b8 : w.heap.size ≤ b8 := by have := hX.size; omega
      have hq_hY3_b8 : w.heap.size ≤ b8 := by have := hY3.size; omega
      replace hX := Ext.trans' hX hE5
      replace hY3 := Ext.trans' hY3 hE5
      refine n_q H (q_assign rfl) rfl ?_
      clear H a; intro a H
      refine n_storeAll H rfl rfl (vs := ePage x) rfl (by rw [hp1]; exact sz40) hB8 (by rw [hp1]; rfl) ePage_one ?_
      clear H; intro w6 hB8N hC7 hz; clear a; intro a H
      replace hB8 := hB8N; clear hB8N
      clear hz
      replace hY3 := Chg.below hY3 hC7 (Nat.le_refl _) (by simp [blks] <;> omega)
      replace hX := Chg.below hX hC7 (Nat.le_refl _) (by simp [blks] <;> omega)
      refine n_nil ?_
      refine then_normal ?_
      refine wp_seq ?_
      refine wp_region_lit ?_
      refine n_q H (q_move rfl) rfl ?_
      clear H a; intro a H
      refine n_q H (q_move rfl) rfl ?_
      clear H a; intro a H
      refine n_q H (q_indexAddr Try.underlying27 sz40 rfl rfl (by omega) (by omega)) rfl ?_
      clear H a; intro a H
      refine n_q H (q_load rfl (LdX.ext (h2.ldAgg ag40 sz40 hx2) hX)) rfl ?_
      clear H a; intro a H
      refine n_alloc H ze40 rfl ?_
      clear H; intro b9 w8 hB9 hE9 hs_b9; clear a; intro a H
      have hn_b8_b9 : b8 ≠ b9 := by have := hB8.lt; omega
      have hn_b9_b8 := hn_b8_b9.symm
      have hlt_b8_b9 : b8 < b9 := by have := hB8.lt; omega
      have hw_b9 : w.heap.size ≤ b9 := by have := hX.size; omega
      have hq_hY3_b9 : w.heap.size ≤ b9 := by have := hY3.size; omega
      replace hB8 := hB8.ext hE9
      replace hX := Ext.trans' hX hE9
      replace hY3 := Ext.trans' hY3 hE9
      refine n_storeAll H rfl rfl (vs := ePage y) rfl (by rw [hp2]; exact sz40) hB9 (by rw [hp2]; rfl) ePage_one ?_
      clear H; intro w10 hB9N hC11 hz; clear a; intro a H
      replace hB9 := hB9N; clear hB9N
      clear hz
      replace hB8 := hC11.blk hB8 (by simp [blks] <;> omega)
      replace hY3 := Chg.below hY3 hC11 (Nat.le_refl _) (by simp [blks] <;> omega)
      replace hX := Chg.below hX hC11 (Nat.le_refl _) (by simp [blks] <;> omega)
      refine n_nil ?_
      refine then_normal ?_
      refine wp_seq ?_
      refine wp_region_lit ?_
      refine n_q H (q_move rfl) rfl ?_
      clear H a; intro a H
      refine n_q H (q_load rfl (hB8.ldAll ag40 (by rw [hp1]; exact sz40))) rfl ?_
      clear H a; intro a H
      refine n_q H (q_load rfl (hB9.ldAll ag40 (by rw [hp2]; exact sz40))) rfl ?_
      clear H a; intro a H
      refine n_callv H rfl rfl en15 (pageEq hp1 hp2) rfl ?_
      clear H a; intro v14 w12 hv a H
      obtain ⟨rfl, hE13⟩ := hv
      replace hB8 := hB8.ext hE13
      replace hB9 := hB9.ext hE13
      replace hX := Ext.trans' hX hE13
      replace hY3 := Ext.trans' hY3 hE13
      refine n_q H (q_not rfl) rfl ?_
      clear H a; intro a H
      refine n_nil ?_
      refine then_normal ?_
      refine c_cond H rfl (fun hc30 => ?_) (fun hc30 => ?_)
      · (try simp only [decide_eq_true_eq, decide_eq_false_iff_not, Bool.and_eq_true, Bool.or_eq_true, Bool.and_eq_false_iff, Bool.or_eq_false_iff, beq_iff_eq, bne_iff_ne, beq_eq_false_iff_ne, bne_eq_false_iff_eq, ne_eq, Bool.not_eq_true', Bool.not_eq_false', Int.not_lt, Int.not_le, Bool.not_eq_true, Bool.not_eq_false] at hc30)
        have hxy : ¬ (x.rights = y.rights ∧ x.data = y.data) := by rintro ⟨q1, q2⟩; simp [q1, q2] at hc30
        refine wp_seq ?_
        refine wp_region_lit ?_
        refine n_q H (q_assign rfl) rfl ?_
        clear H a; intro a H
        refine n_nil ?_
        refine then_normal ?_
        refine wp_ret ?_
        refine block_ret ?_
        refine then_ret ?_
        refine then_ret ?_
        refine block_ret ?_
        refine then_ret ?_
        refine ret1 H (.inr rfl) rfl rfl ?_
        exact ⟨congrArg Value.bool (Eq.symm (by cases hq : samePages xs ys with | false => rfl | true => exact absurd (samePages_at hq hx1 hx2) hxy)), hX⟩
      · (try simp only [decide_eq_true_eq, decide_eq_false_iff_not, Bool.and_eq_true, Bool.or_eq_true, Bool.and_eq_false_iff, Bool.or_eq_false_iff, beq_iff_eq, bne_iff_ne, beq_eq_false_iff_ne, bne_eq_false_iff_eq, ne_eq, Bool.not_eq_true', Bool.not_eq_false', Int.not_lt, Int.not_le, Bool.not_eq_true, Bool.not_eq_false] at hc30)
        have hxy : x.rights = y.rights ∧ x.data = y.data := by simpa using hc30
        refine wp_skip ?_
        refine block_normal ?_
        refine then_normal ?_
        refine wp_region_lit ?_
        refine n_q H (q_add rfl rfl (by constructor <;> omega)) rfl ?_
        clear H a; intro a H
        refine n_q H (q_move rfl) rfl ?_
        clear H a; intro a H
        refine n_nil ?_
        refine then_normal ?_
        exact round (i + 1) H ⟨rfl, rfl, rfl, rfl, rfl, rfl, trivial⟩ ⟨by omega, by rw [take_snoc hx1, take_snoc hx2]; exact samePages_snoc htk hxy.1 hxy.2, hX⟩ (by first | omega | (dsimp only; omega))
    · (try simp only [decide_eq_true_eq, decide_eq_false_iff_not, Bool.and_eq_true, Bool.or_eq_true, Bool.and_eq_false_iff, Bool.or_eq_false_iff, beq_iff_eq, bne_iff_ne, beq_eq_false_iff_ne, bne_eq_false_iff_eq, ne_eq, Bool.not_eq_true', Bool.not_eq_false', Int.not_lt, Int.not_le, Bool.not_eq_true, Bool.not_eq_false] at hc18)
      refine wp_exit ?_
      refine then_exit ?_
      refine then_exit ?_
      refine block_exit ?_
      refine then_normal ?_
      refine wp_seq ?_
      refine wp_region_lit ?_
      refine n_q H (q_assign rfl) rfl ?_
      clear H a; intro a H
      refine n_nil ?_
      refine then_normal ?_
      refine wp_ret ?_
      refine ret1 H (.inr rfl) rfl rfl ?_
      exact ⟨congrArg Value.bool (Eq.symm (by rw [List.take_of_length_le (by omega), List.take_of_length_le (by omega)] at htk; rw [htk])), hX⟩

/-- valid.alike. -/
def alikeM (s t : StateM') : Bool := (((((((s.id == t.id && s.frame == t.frame) && decide (s.procs = t.procs)) && decide (s.ready = t.ready)) && decide (s.timers = t.timers)) && decide (s.up = t.up)) && decide (s.sems = t.sems)) && decide (s.ports = t.ports))
theorem alike_w {w : World} {v1 v2 : Value} {s t : StateM'} (h1 : IsState w v1 s) (h2 : IsState w v2 t) :
    Calls Try.prog 12 [v1, v2].toArray w (Ret fun u w' => u = .bool (alikeM s t) ∧ Ext w w') := by
  obtain ⟨v3, v4, v5, v6, v7, v8, v9, rfl, h3, h4, h5, h6, h7, h8, h9⟩ := h1
  obtain ⟨u3, u4, u5, u6, u7, u8, u9, rfl, k3, k4, k5, k6, k7, k8, k9⟩ := h2
  refine enter Try.func12 rfl rfl rfl ?_
  intro a H
  dsimp only [enumL, Nat.zero_add, Nat.reduceAdd] at H
  refine wp_seq ?_
  refine wp_region_lit ?_
  refine n_box H rfl (cs := _) rfl rfl ?_
  clear H; intro b2 w1 hB2 hE2 hs_b2; clear a; intro a H
  have hw_b2 : w.heap.size ≤ b2 := by omega
  have hX := hE2
  refine n_box H rfl (cs := _) rfl rfl ?_
  clear H; intro b3 w3 hB3 hE4 hs_b3; clear a; intro a H
  have hn_b2_b3 : b2 ≠ b3 := by have := hB2.lt; omega
  have hn_b3_b2 := hn_b2_b3.symm
  have hlt_b2_b3 : b2 < b3 := by have := hB2.lt; omega
  have hw_b3 : w.heap.size ≤ b3 := by have := hX.size; omega
  replace hB2 := hB2.ext hE4
  replace hX := Ext.trans' hX hE4
  refine n_q H (q_assign rfl) rfl ?_
  clear H a; intro a H
  refine n_nil ?_
  refine then_normal ?_
  refine wp_seq ?_
  refine wp_region_lit ?_
  refine n_c H (fun HC => ?_); clear H
  refine nc_q HC (q_fieldAddr0 rfl fo29_0) rfl (by kernel_rfl) ?_
  clear HC a; intro a HC
  refine nc_q HC (q_load rfl (hB2.ld ag3 rfl)) rfl (by kernel_rfl) ?_
  clear HC a; intro a HC
  refine nc_q HC (q_fieldAddr0 rfl fo29_0) rfl (by kernel_rfl) ?_
  clear HC a; intro a HC
  refine nc_q HC (q_load rfl (hB3.ld ag3 rfl)) rfl (by kernel_rfl) ?_
  clear HC a; intro a HC
  refine nc_q HC (q_eql rfl rfl) rfl (by kernel_rfl) ?_
  clear HC a; intro a HC
  refine nc_q HC (q_move rfl) rfl (by kernel_rfl) ?_
  clear HC a; intro a HC
  refine nc_g HC (q_fieldAddr0 rfl fo29_1) (by kernel_rfl) (by kernel_rfl) (by kernel_rfl) ?_
  clear HC a; intro a HC
  refine nc_g HC (q_load rfl (hB2.ld ag3 rfl)) (by kernel_rfl) (by kernel_rfl) (by kernel_rfl) ?_
  clear HC a; intro a HC
  refine nc_g HC (q_fieldAddr0 rfl fo29_1) (by kernel_rfl) (by kernel_rfl) (by kernel_rfl) ?_
  clear HC a; intro a HC
  refine nc_g HC (q_load rfl (hB3.ld ag3 rfl)) (by kernel_rfl) (by kernel_rfl) (by kernel_rfl) ?_
  clear HC a; intro a HC
  refine nc_g HC (q_eql rfl rfl) (by kernel_rfl) (by kernel_rfl) (by kernel_rfl) ?_
  clear HC a; intro a HC
  refine nc_and (j := 5) HC rfl rfl rfl (by kernel_rfl) (by kernel_rfl) ?_
  clear HC a; intro a HC
  refine nc_q HC (q_move rfl) rfl (by kernel_rfl) ?_
  clear HC a; intro a HC
  refine nc_g HC (q_fieldAddr0 rfl fo29_3) (by kernel_rfl) (by kernel_rfl) (by kernel_rfl) ?_
  clear HC a; intro a HC
  refine nc_g HC (q_load rfl (hB2.ld ag22 rfl)) (by kernel_rfl) (by kernel_rfl) (by kernel_rfl) ?_
  clear HC a; intro a HC
  refine nc_g HC (q_fieldAddr0 rfl fo29_3) (by kernel_rfl) (by kernel_rfl) (by kernel_rfl) ?_
  clear HC a; intro a HC
  refine nc_g HC (q_load rfl (hB3.ld ag22 rfl)) (by kernel_rfl) (by kernel_rfl) (by kernel_rfl) ?_
  clear HC a; intro a HC
  refine nc_gcall0 HC rfl en24 (equal_proc (h3.r.ext (Flat.mono _) hX) (k3.r.ext (Flat.mono _) hX)) (by kernel_rfl) (by kernel_rfl) (by kernel_rfl) ?_
  clear HC a; intro w5 hE6 a HC
  replace hB2 := hB2.ext hE6
  replace hB3 := hB3.ext hE6
  replace hX := Ext.trans' hX hE6
  refine nc_and (j := 12) HC rfl rfl rfl (by kernel_rfl) (by kernel_rfl) ?_
  clear HC a; intro a HC
  refine nc_q HC (q_move rfl) rfl (by kernel_rfl) ?_
  clear HC a; intro a HC
  refine nc_g HC (q_fieldAddr0 rfl fo29_4) (by kernel_rfl) (by kernel_rfl) (by kernel_rfl) ?_
  clear HC a; intro a HC
  refine nc_g HC (q_load rfl (hB2.ld ag23 rfl)) (by kernel_rfl) (by kernel_rfl) (by kernel_rfl) ?_
  clear HC a; intro a HC
  refine nc_g HC (q_fieldAddr0 rfl fo29_4) (by kernel_rfl) (by kernel_rfl) (by kernel_rfl) ?_
  clear HC a; intro a HC
  refine nc_g HC (q_load rfl (hB3.ld ag23 rfl)) (by kernel_rfl) (by kernel_rfl) (by kernel_rfl) ?_
  clear HC a; intro a HC
  refine nc_gcall0 HC rfl en25 (equal_int (h4.r.ext (Flat.mono _) hX) (k4.r.ext (Flat.mono _) hX)) (by kernel_rfl) (by kernel_rfl) (by kernel_rfl) ?_
  clear HC a; intro w7 hE8 a HC
  replace hB2 := hB2.ext hE8
  replace hB3 := hB3.ext hE8
  replace hX := Ext.trans' hX hE8
  refine nc_and (j := 19) HC rfl rfl rfl (by kernel_rfl) (by kernel_rfl) ?_
  clear HC a; intro a HC
  refine nc_q HC (q_move rfl) rfl (by kernel_rfl) ?_
  clear HC a; intro a HC
  refine nc_g HC (q_fieldAddr0 rfl fo29_5) (by kernel_rfl) (by kernel_rfl) (by kernel_rfl) ?_
  clear HC a; intro a HC
  refine nc_g HC (q_load rfl (hB2.ld ag24 rfl)) (by kernel_rfl) (by kernel_rfl) (by kernel_rfl) ?_
  clear HC a; intro a HC
  refine nc_g HC (q_fieldAddr0 rfl fo29_5) (by kernel_rfl) (by kernel_rfl) (by kernel_rfl) ?_
  clear HC a; intro a HC
  refine nc_g HC (q_load rfl (hB3.ld ag24 rfl)) (by kernel_rfl) (by kernel_rfl) (by kernel_rfl) ?_
  clear HC a; intro a HC
  refine nc_gcall0 HC rfl en26 (equal_timer (h5.r.ext (Flat.mono _) hX) (k5.r.ext (Flat.mono _) hX)) (by kernel_rfl) (by kernel_rfl) (by kernel_rfl) ?_
  clear HC a; intro w9 hE10 a HC
  replace hB2 := hB2.ext hE10
  replace hB3 := hB3.ext hE10
  replace hX := Ext.trans' hX hE10
  refine nc_and (j := 26) HC rfl rfl rfl (by kernel_rfl) (by kernel_rfl) ?_
  clear HC a; intro a HC
  refine nc_q HC (q_move rfl) rfl (by kernel_rfl) ?_
  clear HC a; intro a HC
  refine nc_g HC (q_fieldAddr0 rfl fo29_6) (by kernel_rfl) (by kernel_rfl) (by kernel_rfl) ?_
  clear HC a; intro a HC
  refine nc_g HC (q_load rfl (hB2.ld ag25 rfl)) (by kernel_rfl) (by kernel_rfl) (by kernel_rfl) ?_
  clear HC a; intro a HC
  refine nc_g HC (q_fieldAddr0 rfl fo29_6) (by kernel_rfl) (by kernel_rfl) (by kernel_rfl) ?_
  clear HC a; intro a HC
  refine nc_g HC (q_load rfl (hB3.ld ag25 rfl)) (by kernel_rfl) (by kernel_rfl) (by kernel_rfl) ?_
  clear HC a; intro a HC
  refine nc_gcall0 HC rfl en27 (equal_bool (h6.r.ext (Flat.mono _) hX) (k6.r.ext (Flat.mono _) hX)) (by kernel_rfl) (by kernel_rfl) (by kernel_rfl) ?_
  clear HC a; intro w11 hE12 a HC
  replace hB2 := hB2.ext hE12
  replace hB3 := hB3.ext hE12
  replace hX := Ext.trans' hX hE12
  refine nc_and (j := 33) HC rfl rfl rfl (by kernel_rfl) (by kernel_rfl) ?_
  clear HC a; intro a HC
  refine nc_q HC (q_move rfl) rfl (by kernel_rfl) ?_
  clear HC a; intro a HC
  refine nc_g HC (q_fieldAddr0 rfl fo29_7) (by kernel_rfl) (by kernel_rfl) (by kernel_rfl) ?_
  clear HC a; intro a HC
  refine nc_g HC (q_load rfl (hB2.ld ag23 rfl)) (by kernel_rfl) (by kernel_rfl) (by kernel_rfl) ?_
  clear HC a; intro a HC
  refine nc_g HC (q_fieldAddr0 rfl fo29_7) (by kernel_rfl) (by kernel_rfl) (by kernel_rfl) ?_
  clear HC a; intro a HC
  refine nc_g HC (q_load rfl (hB3.ld ag23 rfl)) (by kernel_rfl) (by kernel_rfl) (by kernel_rfl) ?_
  clear HC a; intro a HC
  refine nc_gcall0 HC rfl en25 (equal_int (h7.r.ext (Flat.mono _) hX) (k7.r.ext (Flat.mono _) hX)) (by kernel_rfl) (by kernel_rfl) (by kernel_rfl) ?_
  clear HC a; intro w13 hE14 a HC
  replace hB2 := hB2.ext hE14
  replace hB3 := hB3.ext hE14
  replace hX := Ext.trans' hX hE14
  refine nc_and (j := 40) HC rfl rfl rfl (by kernel_rfl) (by kernel_rfl) ?_
  clear HC a; intro a HC
  refine nc_q HC (q_move rfl) rfl (by kernel_rfl) ?_
  clear HC a; intro a HC
  refine nc_g HC (q_fieldAddr0 rfl fo29_8) (by kernel_rfl) (by kernel_rfl) (by kernel_rfl) ?_
  clear HC a; intro a HC
  refine nc_g HC (q_load rfl (hB2.ld ag26 rfl)) (by kernel_rfl) (by kernel_rfl) (by kernel_rfl) ?_
  clear HC a; intro a HC
  refine nc_g HC (q_fieldAddr0 rfl fo29_8) (by kernel_rfl) (by kernel_rfl) (by kernel_rfl) ?_
  clear HC a; intro a HC
  refine nc_g HC (q_load rfl (hB3.ld ag26 rfl)) (by kernel_rfl) (by kernel_rfl) (by kernel_rfl) ?_
  clear HC a; intro a HC
  refine nc_gcall0 HC rfl en28 (equalFunc_port (h8.r.ext RPort.mono hX) (k8.r.ext RPort.mono hX)) (by kernel_rfl) (by kernel_rfl) (by kernel_rfl) ?_
  clear HC a; intro w15 hE16 a HC
  replace hB2 := hB2.ext hE16
  replace hB3 := hB3.ext hE16
  replace hX := Ext.trans' hX hE16
  refine nc_and (j := 47) HC rfl rfl rfl (by kernel_rfl) (by kernel_rfl) ?_
  clear HC a; intro a HC
  refine nc_q HC (q_assign rfl) rfl (by kernel_rfl) ?_
  clear HC a; intro a HC
  have H := HC.has; clear HC
  refine n_nil ?_
  refine then_normal ?_
  refine wp_ret ?_
  refine ret1 H (.inr rfl) rfl rfl ?_
  exact ⟨rfl, hX⟩

def sameM (s t : StateM') : Bool := ((alikeM s t && s.epoch == t.epoch) && decide (s.pages = t.pages))
def alikesM (s t : StateM') : Bool := (alikeM s t && samePages s.pages t.pages)
theorem Same_w {w : World} {v1 v2 : Value} {s t : StateM'} (h1 : IsState w v1 s) (h2 : IsState w v2 t) :
    Calls Try.prog 7 [v1, v2].toArray w (Ret fun u w' => u = .bool (sameM s t) ∧ Ext w w') := by
  have g1 := h1
  have g2 := h2
  obtain ⟨v3, v4, v5, v6, v7, v8, v9, rfl, h3, h4, h5, h6, h7, h8, h9⟩ := h1
  obtain ⟨u3, u4, u5, u6, u7, u8, u9, rfl, k3, k4, k5, k6, k7, k8, k9⟩ := h2
  refine enter Try.func7 rfl rfl rfl ?_
  intro a H
  dsimp only [enumL, Nat.zero_add, Nat.reduceAdd] at H
  refine wp_seq ?_
  refine wp_region_lit ?_
  refine n_box H rfl (cs := _) rfl rfl ?_
  clear H; intro b2 w1 hB2 hE2 hs_b2; clear a; intro a H
  have hw_b2 : w.heap.size ≤ b2 := by omega
  have hX := hE2
  refine n_box H rfl (cs := _) rfl rfl ?_
  clear H; intro b3 w3 hB3 hE4 hs_b3; clear a; intro a H
  have hn_b2_b3 : b2 ≠ b3 := by have := hB2.lt; omega
  have hn_b3_b2 := hn_b2_b3.symm
  have hlt_b2_b3 : b2 < b3 := by have := hB2.lt; omega
  have hw_b3 : w.heap.size ≤ b3 := by have := hX.size; omega
  replace hB2 := hB2.ext hE4
  replace hX := Ext.trans' hX hE4
  refine n_q H (q_assign rfl) rfl ?_
  clear H a; intro a H
  refine n_nil ?_
  refine then_normal ?_
  refine wp_seq ?_
  refine wp_region_lit ?_
  refine n_c H (fun HC => ?_); clear H
  refine nc_q HC (q_load rfl (hB2.ldAll ag29 sz29)) rfl (by kernel_rfl) ?_
  clear HC a; intro a HC
  refine nc_q HC (q_load rfl (hB3.ldAll ag29 sz29)) rfl (by kernel_rfl) ?_
  clear HC a; intro a HC
  refine nc_call HC rfl en12 (alike_w (g1.ext hX) (g2.ext hX)) rfl (by kernel_rfl) ?_
  clear HC a; intro v7 w5 hv a HC
  obtain ⟨rfl, hE6⟩ := hv
  replace hB2 := hB2.ext hE6
  replace hB3 := hB3.ext hE6
  replace hX := Ext.trans' hX hE6
  refine nc_q HC (q_move rfl) rfl (by kernel_rfl) ?_
  clear HC a; intro a HC
  refine nc_g HC (q_fieldAddr0 rfl fo29_2) (by kernel_rfl) (by kernel_rfl) (by kernel_rfl) ?_
  clear HC a; intro a HC
  refine nc_g HC (q_load rfl (hB2.ld ag3 rfl)) (by kernel_rfl) (by kernel_rfl) (by kernel_rfl) ?_
  clear HC a; intro a HC
  refine nc_g HC (q_fieldAddr0 rfl fo29_2) (by kernel_rfl) (by kernel_rfl) (by kernel_rfl) ?_
  clear HC a; intro a HC
  refine nc_g HC (q_load rfl (hB3.ld ag3 rfl)) (by kernel_rfl) (by kernel_rfl) (by kernel_rfl) ?_
  clear HC a; intro a HC
  refine nc_g HC (q_eql rfl rfl) (by kernel_rfl) (by kernel_rfl) (by kernel_rfl) ?_
  clear HC a; intro a HC
  refine nc_and (j := 3) HC rfl rfl rfl (by kernel_rfl) (by kernel_rfl) ?_
  clear HC a; intro a HC
  refine nc_q HC (q_move rfl) rfl (by kernel_rfl) ?_
  clear HC a; intro a HC
  refine nc_g HC (q_fieldAddr0 rfl fo29_9) (by kernel_rfl) (by kernel_rfl) (by kernel_rfl) ?_
  clear HC a; intro a HC
  refine nc_g HC (q_load rfl (hB2.ld ag27 rfl)) (by kernel_rfl) (by kernel_rfl) (by kernel_rfl) ?_
  clear HC a; intro a HC
  refine nc_g HC (q_fieldAddr0 rfl fo29_9) (by kernel_rfl) (by kernel_rfl) (by kernel_rfl) ?_
  clear HC a; intro a HC
  refine nc_g HC (q_load rfl (hB3.ld ag27 rfl)) (by kernel_rfl) (by kernel_rfl) (by kernel_rfl) ?_
  clear HC a; intro a HC
  refine nc_gcall0 HC rfl en13 (equal_page (h9.r.ext (Flat.mono _) hX) (k9.r.ext (Flat.mono _) hX)) (by kernel_rfl) (by kernel_rfl) (by kernel_rfl) ?_
  clear HC a; intro w8 hE9 a HC
  replace hB2 := hB2.ext hE9
  replace hB3 := hB3.ext hE9
  replace hX := Ext.trans' hX hE9
  refine nc_and (j := 10) HC rfl rfl rfl (by kernel_rfl) (by kernel_rfl) ?_
  clear HC a; intro a HC
  refine nc_q HC (q_assign rfl) rfl (by kernel_rfl) ?_
  clear HC a; intro a HC
  have H := HC.has; clear HC
  refine n_nil ?_
  refine then_normal ?_
  refine wp_ret ?_
  refine ret1 H (.inr rfl) rfl rfl ?_
  exact ⟨rfl, hX⟩

theorem Alike_w {w : World} {v1 v2 : Value} {s t : StateM'} (h1 : IsState w v1 s) (h2 : IsState w v2 t) :
    Calls Try.prog 8 [v1, v2].toArray w (Ret fun u w' => u = .bool (alikesM s t) ∧ Ext w w') := by
  have g1 := h1
  have g2 := h2
  obtain ⟨v3, v4, v5, v6, v7, v8, v9, rfl, h3, h4, h5, h6, h7, h8, h9⟩ := h1
  obtain ⟨u3, u4, u5, u6, u7, u8, u9, rfl, k3, k4, k5, k6, k7, k8, k9⟩ := h2
  refine enter Try.func8 rfl rfl rfl ?_
  intro a H
  dsimp only [enumL, Nat.zero_add, Nat.reduceAdd] at H
  refine wp_seq ?_
  refine wp_region_lit ?_
  refine n_box H rfl (cs := _) rfl rfl ?_
  clear H; intro b2 w1 hB2 hE2 hs_b2; clear a; intro a H
  have hw_b2 : w.heap.size ≤ b2 := by omega
  have hX := hE2
  refine n_box H rfl (cs := _) rfl rfl ?_
  clear H; intro b3 w3 hB3 hE4 hs_b3; clear a; intro a H
  have hn_b2_b3 : b2 ≠ b3 := by have := hB2.lt; omega
  have hn_b3_b2 := hn_b2_b3.symm
  have hlt_b2_b3 : b2 < b3 := by have := hB2.lt; omega
  have hw_b3 : w.heap.size ≤ b3 := by have := hX.size; omega
  replace hB2 := hB2.ext hE4
  replace hX := Ext.trans' hX hE4
  refine n_q H (q_assign rfl) rfl ?_
  clear H a; intro a H
  refine n_nil ?_
  refine then_normal ?_
  refine wp_seq ?_
  refine wp_region_lit ?_
  refine n_c H (fun HC => ?_); clear H
  refine nc_q HC (q_load rfl (hB2.ldAll ag29 sz29)) rfl (by kernel_rfl) ?_
  clear HC a; intro a HC
  refine nc_q HC (q_load rfl (hB3.ldAll ag29 sz29)) rfl (by kernel_rfl) ?_
  clear HC a; intro a HC
  refine nc_call HC rfl en12 (alike_w (g1.ext hX) (g2.ext hX)) rfl (by kernel_rfl) ?_
  clear HC a; intro v7 w5 hv a HC
  obtain ⟨rfl, hE6⟩ := hv
  replace hB2 := hB2.ext hE6
  replace hB3 := hB3.ext hE6
  replace hX := Ext.trans' hX hE6
  refine nc_q HC (q_move rfl) rfl (by kernel_rfl) ?_
  clear HC a; intro a HC
  refine nc_g HC (q_fieldAddr0 rfl fo29_9) (by kernel_rfl) (by kernel_rfl) (by kernel_rfl) ?_
  clear HC a; intro a HC
  refine nc_g HC (q_load rfl (hB2.ld ag27 rfl)) (by kernel_rfl) (by kernel_rfl) (by kernel_rfl) ?_
  clear HC a; intro a HC
  refine nc_g HC (q_fieldAddr0 rfl fo29_9) (by kernel_rfl) (by kernel_rfl) (by kernel_rfl) ?_
  clear HC a; intro a HC
  refine nc_g HC (q_load rfl (hB3.ld ag27 rfl)) (by kernel_rfl) (by kernel_rfl) (by kernel_rfl) ?_
  clear HC a; intro a HC
  refine nc_gcall0 HC rfl en14 (equalFunc_page (h9.r.ext (Flat.mono _) hX) (k9.r.ext (Flat.mono _) hX)) (by kernel_rfl) (by kernel_rfl) (by kernel_rfl) ?_
  clear HC a; intro w8 hE9 a HC
  replace hB2 := hB2.ext hE9
  replace hB3 := hB3.ext hE9
  replace hX := Ext.trans' hX hE9
  refine nc_and (j := 3) HC rfl rfl rfl (by kernel_rfl) (by kernel_rfl) ?_
  clear HC a; intro a HC
  refine nc_q HC (q_assign rfl) rfl (by kernel_rfl) ?_
  clear HC a; intro a HC
  have H := HC.has; clear HC
  refine n_nil ?_
  refine then_normal ?_
  refine wp_ret ?_
  refine ret1 H (.inr rfl) rfl rfl ?_
  exact ⟨rfl, hX⟩

end Go.Proofs.Ytfoijpfmjmjjpaa
