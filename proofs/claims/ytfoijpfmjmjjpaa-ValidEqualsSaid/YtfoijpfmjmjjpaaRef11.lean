/- ferryref11.ints, rest, Same, Alike (written by wip/tools) -/
import Derived.Test.YtfoijpfmjmjjpaaValid11
set_option linter.unusedVariables false
set_option linter.unusedSimpArgs false
set_option maxRecDepth 10000
namespace Go.Proofs.Ytfoijpfmjmjjpaa
open Go Go.RowKit
theorem en16 : entersB Try.prog 16 = true := by kernel_rfl
theorem en31 : entersB Try.prog 31 = true := by kernel_rfl
theorem sz53 : sizeB Try.prog 53 = some 1 := by kernel_rfl

theorem ints_w {w : World} {v1 v2 : Value} {xs ys : List Int} (h1 : SlR w 1 (Flat eI) v1 xs) (h2 : SlR w 1 (Flat eI) v2 ys) :
    Calls Try.prog 31 [v1, v2].toArray w (Ret fun u w' => u = .bool (decide (xs = ys)) ∧ Ext w w') := by
  obtain ⟨A1, c1, rfl, hl1, hm1, hn1⟩ := h1.form
  obtain ⟨A2, c2, rfl, hl2, hm2, hn2⟩ := h2.form
  refine enter Try.func31 rfl rfl rfl ?_
  intro a H
  dsimp only [enumL, Nat.zero_add, Nat.reduceAdd] at H
  refine wp_seq ?_
  refine wp_region_lit ?_
  refine n_q H (q_assign rfl) rfl ?_
  clear H a; intro a H
  refine n_nil ?_
  refine then_normal ?_
  refine wp_seq ?_
  refine wp_seq ?_
  refine wp_region_lit ?_
  refine n_q H (q_move rfl) rfl ?_
  clear H a; intro a H
  refine n_q H (q_lenSl Try.underlying23 rfl) rfl ?_
  clear H a; intro a H
  refine n_q H (q_move rfl) rfl ?_
  clear H a; intro a H
  refine n_q H (q_lenSl Try.underlying23 rfl) rfl ?_
  clear H a; intro a H
  refine n_q H (q_neq rfl rfl) rfl ?_
  clear H a; intro a H
  refine n_nil ?_
  refine then_normal ?_
  refine c_cond H rfl (fun hc10 => ?_) (fun hc10 => ?_)
  · (try simp only [decide_eq_true_eq, decide_eq_false_iff_not, Bool.and_eq_true, Bool.or_eq_true, Bool.and_eq_false_iff, Bool.or_eq_false_iff, beq_iff_eq, bne_iff_ne, beq_eq_false_iff_ne, bne_eq_false_iff_eq, ne_eq, Bool.not_eq_true', Bool.not_eq_false', Int.not_lt, Int.not_le, Bool.not_eq_true, Bool.not_eq_false] at hc10)
    refine wp_seq ?_
    refine wp_region_lit ?_
    refine n_q H (q_assign rfl) rfl ?_
    clear H a; intro a H
    refine n_nil ?_
    refine then_normal ?_
    refine wp_ret ?_
    refine then_ret ?_
    refine ret1 H (.inr rfl) rfl rfl ?_
    exact ⟨by rw [decide_eq_false]; intro e; rw [e] at hc10; exact hc10 rfl, Ext.rfl'⟩
  · (try simp only [decide_eq_true_eq, decide_eq_false_iff_not, Bool.and_eq_true, Bool.or_eq_true, Bool.and_eq_false_iff, Bool.or_eq_false_iff, beq_iff_eq, bne_iff_ne, beq_eq_false_iff_ne, bne_eq_false_iff_eq, ne_eq, Bool.not_eq_true', Bool.not_eq_false', Int.not_lt, Int.not_le, Bool.not_eq_true, Bool.not_eq_false] at hc10)
    refine wp_skip ?_
    refine then_normal ?_
    refine wp_seq ?_
    refine wp_seq ?_
    refine wp_region_lit ?_
    refine n_q H (q_assign rfl) rfl ?_
    clear H a; intro a H
    refine n_nil ?_
    refine then_normal ?_
    refine wp_block ?_
    refine c_loop (σ := Nat) (fun i => [(0, .slice A1 xs.length c1), (1, .slice A2 ys.length c2), (5, .int .i64 (i : Nat))]) (fun i wl => i ≤ xs.length ∧ xs.take i = ys.take i ∧ Ext w wl) (fun i => xs.length - i) 0 H ⟨rfl, rfl, rfl, trivial⟩ ⟨Nat.zero_le _, by simp, Ext.rfl'⟩ ?_
    clear H; clear a; intro i a w1 H hR
    simp only [ent, List.map_cons, List.map_nil] at H
    try dsimp only at hR
    obtain ⟨hi, htk, hE2⟩ := hR
    have hX := hE2
    have hY3 := hE2
    refine wp_seq ?_
    refine wp_seq ?_
    refine wp_region_lit ?_
    refine n_q H (q_move rfl) rfl ?_
    clear H a; intro a H
    refine n_q H (q_move rfl) rfl ?_
    clear H a; intro a H
    refine n_q H (q_lenSl Try.underlying23 rfl) rfl ?_
    clear H a; intro a H
    refine n_q H (q_lss rfl rfl) rfl ?_
    clear H a; intro a H
    refine n_nil ?_
    refine then_normal ?_
    refine c_cond H rfl (fun hc14 => ?_) (fun hc14 => ?_)
    · (try simp only [decide_eq_true_eq, decide_eq_false_iff_not, Bool.and_eq_true, Bool.or_eq_true, Bool.and_eq_false_iff, Bool.or_eq_false_iff, beq_iff_eq, bne_iff_ne, beq_eq_false_iff_ne, bne_eq_false_iff_eq, ne_eq, Bool.not_eq_true', Bool.not_eq_false', Int.not_lt, Int.not_le, Bool.not_eq_true, Bool.not_eq_false] at hc14)
      have hi1 : i < xs.length := by omega
      have hi2 : i < ys.length := by omega
      obtain ⟨x, hx1⟩ := h1.at hi1
      obtain ⟨y, hx2⟩ := h2.at hi2
      obtain ⟨ad1, rfl⟩ := h1.addr hi1
      obtain ⟨ad2, rfl⟩ := h2.addr hi2
      refine wp_skip ?_
      refine then_normal ?_
      refine wp_seq ?_
      refine wp_block ?_
      refine wp_seq ?_
      refine c_quiet (by kernel_rfl) (by kernel_rfl) ?_
      refine qq_q H (q_move rfl) rfl ?_
      clear H a; intro a H
      refine qq_q H (q_move rfl) rfl ?_
      clear H a; intro a H
      refine qq_q H (q_indexAddr Try.underlying23 sz3 rfl rfl (by omega) (by omega)) rfl ?_
      clear H a; intro a H
      refine qq_q H (q_load rfl (LdX.ext (h1.ldOne ag3 hx1 rfl) hX)) rfl ?_
      clear H a; intro a H
      refine qq_q H (q_move rfl) rfl ?_
      clear H a; intro a H
      refine qq_q H (q_move rfl) rfl ?_
      clear H a; intro a H
      refine qq_q H (q_indexAddr Try.underlying23 sz3 rfl rfl (by omega) (by omega)) rfl ?_
      clear H a; intro a H
      refine qq_q H (q_load rfl (LdX.ext (h2.ldOne ag3 hx2 rfl) hX)) rfl ?_
      clear H a; intro a H
      refine qq_q H (q_neq rfl rfl) rfl ?_
      clear H a; intro a H
      refine qq_nil ?_
      intro w4 hE5
      replace hX := Ext.trans' hX hE5
      replace hY3 := Ext.trans' hY3 hE5
      refine then_normal ?_
      refine c_cond H rfl (fun hc25 => ?_) (fun hc25 => ?_)
      · (try simp only [decide_eq_true_eq, decide_eq_false_iff_not, Bool.and_eq_true, Bool.or_eq_true, Bool.and_eq_false_iff, Bool.or_eq_false_iff, beq_iff_eq, bne_iff_ne, beq_eq_false_iff_ne, bne_eq_false_iff_eq, ne_eq, Bool.not_eq_true', Bool.not_eq_false', Int.not_lt, Int.not_le, Bool.not_eq_true, Bool.not_eq_false] at hc25)
        have hxy : x ≠ y := by simpa using hc25
        refine wp_seq ?_
        refine wp_region_lit ?_
        refine n_q H (q_assign rfl) rfl ?_
        clear H a; intro a H
        refine n_nil ?_
        refine then_normal ?_
        refine wp_ret ?_
        refine block_ret ?_
        refine then_ret ?_
        refine then_ret ?_
        refine block_ret ?_
        refine then_ret ?_
        refine ret1 H (.inr rfl) rfl rfl ?_
        exact ⟨by rw [decide_eq_false]; intro e; rw [e, hx2] at hx1; exact hxy (Option.some.inj hx1).symm, hX⟩
      · (try simp only [decide_eq_true_eq, decide_eq_false_iff_not, Bool.and_eq_true, Bool.or_eq_true, Bool.and_eq_false_iff, Bool.or_eq_false_iff, beq_iff_eq, bne_iff_ne, beq_eq_false_iff_ne, bne_eq_false_iff_eq, ne_eq, Bool.not_eq_true', Bool.not_eq_false', Int.not_lt, Int.not_le, Bool.not_eq_true, Bool.not_eq_false] at hc25)
        have hxy : x = y := by simpa using hc25
        refine wp_skip ?_
        refine block_normal ?_
        refine then_normal ?_
        refine wp_region_lit ?_
        refine n_q H (q_move rfl) rfl ?_
        clear H a; intro a H
        refine n_q H (q_add rfl rfl (by constructor <;> omega)) rfl ?_
        clear H a; intro a H
        refine n_q H (q_assign rfl) rfl ?_
        clear H a; intro a H
        refine n_nil ?_
        refine then_normal ?_
        exact round (i + 1) H ⟨rfl, rfl, rfl, trivial⟩ ⟨by omega, by rw [take_snoc hx1, take_snoc hx2, htk, hxy], hY3⟩ (by first | omega | (dsimp only; omega))
    · (try simp only [decide_eq_true_eq, decide_eq_false_iff_not, Bool.and_eq_true, Bool.or_eq_true, Bool.and_eq_false_iff, Bool.or_eq_false_iff, beq_iff_eq, bne_iff_ne, beq_eq_false_iff_ne, bne_eq_false_iff_eq, ne_eq, Bool.not_eq_true', Bool.not_eq_false', Int.not_lt, Int.not_le, Bool.not_eq_true, Bool.not_eq_false] at hc14)
      refine wp_exit ?_
      refine then_exit ?_
      refine then_exit ?_
      refine block_exit ?_
      refine then_normal ?_
      refine wp_seq ?_
      refine wp_region_lit ?_
      refine n_q H (q_assign rfl) rfl ?_
      clear H a; intro a H
      refine n_nil ?_
      refine then_normal ?_
      refine wp_ret ?_
      refine ret1 H (.inr rfl) rfl rfl ?_
      exact ⟨by rw [decide_eq_true]; exact eq_of_take htk (by omega) (by omega), hX⟩

theorem alikeM_iff {s t : StateM'} : alikeM s t = true ↔ s.id = t.id ∧ s.frame = t.frame ∧ s.procs = t.procs ∧ s.ready = t.ready ∧ s.timers = t.timers ∧ s.up = t.up ∧ s.sems = t.sems ∧ s.ports = t.ports := by
  simp [alikeM, and_assoc]
theorem eqFalse {b : Bool} (h : b = true → False) : (false : Bool) = b := by
  cases b with
  | false => rfl
  | true => exact absurd rfl h
theorem ne_at {α : Type} {xs ys : List α} {i : Nat} {x y : α} (hx : xs[i]? = some x) (hy : ys[i]? = some y) (hxy : x ≠ y) (e : xs = ys) : False := by
  rw [e, hy] at hx
  exact hxy (Option.some.inj hx).symm
/-- A cell of an element whose cells are known. -/
theorem ldElC {P : Program} {w : World} {T k i j : Nat} {ad : Addr} {cs : List Value} {v : Value} (ht : aggB P T = some false) (hc : ∀ j u, cs[j]? = some u → w.cell? (ad.add (i * k + j)) = some u) (hj : cs[j]? = some v) : LdX P T w ((ad.add (i * k)).add j) v :=
  LdX.one ht (by rw [add_add]; exact hc j v hj)
theorem rest_w {w : World} {v1 v2 : Value} {s t : StateM'} (h1 : IsState w v1 s) (h2 : IsState w v2 t) :
    Calls Try.prog 16 [v1, v2].toArray w (Ret fun u w' => u = .bool (alikeM s t) ∧ Ext w w') := by
  obtain ⟨v3, v4, v5, v6, v7, v8, v9, rfl, h3, h4, h5, h6, h7, h8, h9⟩ := h1
  obtain ⟨u3, u4, u5, u6, u7, u8, u9, rfl, k3, k4, k5, k6, k7, k8, k9⟩ := h2
  obtain ⟨A3, c3, rfl, hl3, hm3, hn3⟩ := h3.r.form
  obtain ⟨A4, c4, rfl, hl4, hm4, hn4⟩ := h4.r.form
  obtain ⟨A5, c5, rfl, hl5, hm5, hn5⟩ := h5.r.form
  obtain ⟨A6, c6, rfl, hl6, hm6, hn6⟩ := h6.r.form
  obtain ⟨A7, c7, rfl, hl7, hm7, hn7⟩ := h7.r.form
  obtain ⟨A8, c8, rfl, hl8, hm8, hn8⟩ := h8.r.form
  obtain ⟨A9, c9, rfl, hl9, hm9, hn9⟩ := h9.r.form
  obtain ⟨B3, e3, rfl, kl3, km3, kn3⟩ := k3.r.form
  obtain ⟨B4, e4, rfl, kl4, km4, kn4⟩ := k4.r.form
  obtain ⟨B5, e5, rfl, kl5, km5, kn5⟩ := k5.r.form
  obtain ⟨B6, e6, rfl, kl6, km6, kn6⟩ := k6.r.form
  obtain ⟨B7, e7, rfl, kl7, km7, kn7⟩ := k7.r.form
  obtain ⟨B8, e8, rfl, kl8, km8, kn8⟩ := k8.r.form
  obtain ⟨B9, e9, rfl, kl9, km9, kn9⟩ := k9.r.form
  refine enter Try.func16 rfl rfl rfl ?_
  intro a H
  dsimp only [enumL, Nat.zero_add, Nat.reduceAdd] at H
  refine wp_seq ?_
  refine wp_region_lit ?_
  refine n_box H rfl (cs := _) rfl rfl ?_
  clear H; intro b2 w1 hB2 hE2 hs_b2; clear a; intro a H
  have hw_b2 : w.heap.size ≤ b2 := by omega
  have hX := hE2
  refine n_box H rfl (cs := _) rfl rfl ?_
  clear H; intro b3 w3 hB3 hE4 hs_b3; clear a; intro a H
  have hn_b2_b3 : b2 ≠ b3 := by have := hB2.lt; omega
  have hn_b3_b2 := hn_b2_b3.symm
  have hlt_b2_b3 : b2 < b3 := by have := hB2.lt; omega
  have hw_b3 : w.heap.size ≤ b3 := by have := hX.size; omega
  replace hB2 := hB2.ext hE4
  replace hX := Ext.trans' hX hE4
  refine n_q H (q_assign rfl) rfl ?_
  clear H a; intro a H
  refine n_nil ?_
  refine then_normal ?_
  refine wp_seq ?_
  refine wp_seq ?_
  refine wp_region_lit ?_
  refine n_c H (fun HC => ?_); clear H
  refine nc_q HC (q_fieldAddr0 rfl fo29_0) rfl (by kernel_rfl) ?_
  clear HC a; intro a HC
  refine nc_q HC (q_load rfl (hB2.ld ag3 rfl)) rfl (by kernel_rfl) ?_
  clear HC a; intro a HC
  refine nc_q HC (q_fieldAddr0 rfl fo29_0) rfl (by kernel_rfl) ?_
  clear HC a; intro a HC
  refine nc_q HC (q_load rfl (hB3.ld ag3 rfl)) rfl (by kernel_rfl) ?_
  clear HC a; intro a HC
  refine nc_q HC (q_neq rfl rfl) rfl (by kernel_rfl) ?_
  clear HC a; intro a HC
  refine nc_q HC (q_move rfl) rfl (by kernel_rfl) ?_
  clear HC a; intro a HC
  refine nc_g HC (q_fieldAddr0 rfl fo29_1) (by kernel_rfl) (by kernel_rfl) (by kernel_rfl) ?_
  clear HC a; intro a HC
  refine nc_g HC (q_load rfl (hB2.ld ag3 rfl)) (by kernel_rfl) (by kernel_rfl) (by kernel_rfl) ?_
  clear HC a; intro a HC
  refine nc_g HC (q_fieldAddr0 rfl fo29_1) (by kernel_rfl) (by kernel_rfl) (by kernel_rfl) ?_
  clear HC a; intro a HC
  refine nc_g HC (q_load rfl (hB3.ld ag3 rfl)) (by kernel_rfl) (by kernel_rfl) (by kernel_rfl) ?_
  clear HC a; intro a HC
  refine nc_g HC (q_neq rfl rfl) (by kernel_rfl) (by kernel_rfl) (by kernel_rfl) ?_
  clear HC a; intro a HC
  refine nc_or (j := 5) HC rfl rfl rfl (by kernel_rfl) (by kernel_rfl) ?_
  clear HC a; intro a HC
  refine nc_q HC (q_move rfl) rfl (by kernel_rfl) ?_
  clear HC a; intro a HC
  refine nc_g HC (q_fieldAddr0 rfl fo29_3) (by kernel_rfl) (by kernel_rfl) (by kernel_rfl) ?_
  clear HC a; intro a HC
  refine nc_g HC (q_load rfl (hB2.ld ag22 rfl)) (by kernel_rfl) (by kernel_rfl) (by kernel_rfl) ?_
  clear HC a; intro a HC
  refine nc_g HC (q_lenSl Try.underlying22 rfl) (by kernel_rfl) (by kernel_rfl) (by kernel_rfl) ?_
  clear HC a; intro a HC
  refine nc_g HC (q_fieldAddr0 rfl fo29_3) (by kernel_rfl) (by kernel_rfl) (by kernel_rfl) ?_
  clear HC a; intro a HC
  refine nc_g HC (q_load rfl (hB3.ld ag22 rfl)) (by kernel_rfl) (by kernel_rfl) (by kernel_rfl) ?_
  clear HC a; intro a HC
  refine nc_g HC (q_lenSl Try.underlying22 rfl) (by kernel_rfl) (by kernel_rfl) (by kernel_rfl) ?_
  clear HC a; intro a HC
  refine nc_g HC (q_neq rfl rfl) (by kernel_rfl) (by kernel_rfl) (by kernel_rfl) ?_
  clear HC a; intro a HC
  refine nc_or (j := 12) HC rfl rfl rfl (by kernel_rfl) (by kernel_rfl) ?_
  clear HC a; intro a HC
  refine nc_q HC (q_move rfl) rfl (by kernel_rfl) ?_
  clear HC a; intro a HC
  refine nc_g HC (q_fieldAddr0 rfl fo29_5) (by kernel_rfl) (by kernel_rfl) (by kernel_rfl) ?_
  clear HC a; intro a HC
  refine nc_g HC (q_load rfl (hB2.ld ag24 rfl)) (by kernel_rfl) (by kernel_rfl) (by kernel_rfl) ?_
  clear HC a; intro a HC
  refine nc_g HC (q_lenSl Try.underlying24 rfl) (by kernel_rfl) (by kernel_rfl) (by kernel_rfl) ?_
  clear HC a; intro a HC
  refine nc_g HC (q_fieldAddr0 rfl fo29_5) (by kernel_rfl) (by kernel_rfl) (by kernel_rfl) ?_
  clear HC a; intro a HC
  refine nc_g HC (q_load rfl (hB3.ld ag24 rfl)) (by kernel_rfl) (by kernel_rfl) (by kernel_rfl) ?_
  clear HC a; intro a HC
  refine nc_g HC (q_lenSl Try.underlying24 rfl) (by kernel_rfl) (by kernel_rfl) (by kernel_rfl) ?_
  clear HC a; intro a HC
  refine nc_g HC (q_neq rfl rfl) (by kernel_rfl) (by kernel_rfl) (by kernel_rfl) ?_
  clear HC a; intro a HC
  refine nc_or (j := 21) HC rfl rfl rfl (by kernel_rfl) (by kernel_rfl) ?_
  clear HC a; intro a HC
  refine nc_q HC (q_move rfl) rfl (by kernel_rfl) ?_
  clear HC a; intro a HC
  refine nc_g HC (q_fieldAddr0 rfl fo29_6) (by kernel_rfl) (by kernel_rfl) (by kernel_rfl) ?_
  clear HC a; intro a HC
  refine nc_g HC (q_load rfl (hB2.ld ag25 rfl)) (by kernel_rfl) (by kernel_rfl) (by kernel_rfl) ?_
  clear HC a; intro a HC
  refine nc_g HC (q_lenSl Try.underlying25 rfl) (by kernel_rfl) (by kernel_rfl) (by kernel_rfl) ?_
  clear HC a; intro a HC
  refine nc_g HC (q_fieldAddr0 rfl fo29_6) (by kernel_rfl) (by kernel_rfl) (by kernel_rfl) ?_
  clear HC a; intro a HC
  refine nc_g HC (q_load rfl (hB3.ld ag25 rfl)) (by kernel_rfl) (by kernel_rfl) (by kernel_rfl) ?_
  clear HC a; intro a HC
  refine nc_g HC (q_lenSl Try.underlying25 rfl) (by kernel_rfl) (by kernel_rfl) (by kernel_rfl) ?_
  clear HC a; intro a HC
  refine nc_g HC (q_neq rfl rfl) (by kernel_rfl) (by kernel_rfl) (by kernel_rfl) ?_
  clear HC a; intro a HC
  refine nc_or (j := 30) HC rfl rfl rfl (by kernel_rfl) (by kernel_rfl) ?_
  clear HC a; intro a HC
  refine nc_q HC (q_move rfl) rfl (by kernel_rfl) ?_
  clear HC a; intro a HC
  refine nc_g HC (q_fieldAddr0 rfl fo29_8) (by kernel_rfl) (by kernel_rfl) (by kernel_rfl) ?_
  clear HC a; intro a HC
  refine nc_g HC (q_load rfl (hB2.ld ag26 rfl)) (by kernel_rfl) (by kernel_rfl) (by kernel_rfl) ?_
  clear HC a; intro a HC
  refine nc_g HC (q_lenSl Try.underlying26 rfl) (by kernel_rfl) (by kernel_rfl) (by kernel_rfl) ?_
  clear HC a; intro a HC
  refine nc_g HC (q_fieldAddr0 rfl fo29_8) (by kernel_rfl) (by kernel_rfl) (by kernel_rfl) ?_
  clear HC a; intro a HC
  refine nc_g HC (q_load rfl (hB3.ld ag26 rfl)) (by kernel_rfl) (by kernel_rfl) (by kernel_rfl) ?_
  clear HC a; intro a HC
  refine nc_g HC (q_lenSl Try.underlying26 rfl) (by kernel_rfl) (by kernel_rfl) (by kernel_rfl) ?_
  clear HC a; intro a HC
  refine nc_g HC (q_neq rfl rfl) (by kernel_rfl) (by kernel_rfl) (by kernel_rfl) ?_
  clear HC a; intro a HC
  refine nc_or (j := 39) HC rfl rfl rfl (by kernel_rfl) (by kernel_rfl) ?_
  clear HC a; intro a HC
  have H := HC.has; clear HC
  refine n_nil ?_
  refine then_normal ?_
  refine c_cond H rfl (fun hc57 => ?_) (fun hc57 => ?_)
  · (try simp only [decide_eq_true_eq, decide_eq_false_iff_not, Bool.and_eq_true, Bool.or_eq_true, Bool.and_eq_false_iff, Bool.or_eq_false_iff, beq_iff_eq, bne_iff_ne, beq_eq_false_iff_ne, bne_eq_false_iff_eq, ne_eq, Bool.not_eq_true', Bool.not_eq_false', Int.not_lt, Int.not_le, Bool.not_eq_true, Bool.not_eq_false] at hc57)
    refine wp_seq ?_
    refine wp_region_lit ?_
    refine n_q H (q_assign rfl) rfl ?_
    clear H a; intro a H
    refine n_nil ?_
    refine then_normal ?_
    refine wp_ret ?_
    refine then_ret ?_
    refine ret1 H (.inr rfl) rfl rfl ?_
    exact ⟨congrArg Value.bool (eqFalse fun e => by obtain ⟨g1, g2, g3, g4, g5, g6, g7, g8⟩ := alikeM_iff.1 e; simp [g1, g2, g3, g5, g6, g8] at hc57), hX⟩
  · (try simp only [decide_eq_true_eq, decide_eq_false_iff_not, Bool.and_eq_true, Bool.or_eq_true, Bool.and_eq_false_iff, Bool.or_eq_false_iff, beq_iff_eq, bne_iff_ne, beq_eq_false_iff_ne, bne_eq_false_iff_eq, ne_eq, Bool.not_eq_true', Bool.not_eq_false', Int.not_lt, Int.not_le, Bool.not_eq_true, Bool.not_eq_false] at hc57)
    obtain ⟨⟨⟨⟨⟨hid, hfr⟩, hq3⟩, hq5⟩, hq6⟩, hq8⟩ := hc57
    refine wp_skip ?_
    refine then_normal ?_
    refine wp_seq ?_
    refine wp_seq ?_
    refine wp_region_lit ?_
    refine n_q H (q_assign rfl) rfl ?_
    clear H a; intro a H
    refine n_nil ?_
    refine then_normal ?_
    refine wp_block ?_
    refine c_loop (σ := Nat) (fun i => [(2, .pointer (some ⟨b2, 0, none⟩)), (3, .pointer (some ⟨b3, 0, none⟩)), (5, .int .i64 (i : Nat))]) (fun i wl => i ≤ s.procs.length ∧ s.procs.take i = t.procs.take i ∧ Ext w3 wl) (fun i => s.procs.length - i) 0 H ⟨rfl, rfl, rfl, trivial⟩ ⟨Nat.zero_le _, by simp, Ext.rfl'⟩ ?_
    clear H; clear a; intro i a w5 H hR
    simp only [ent, List.map_cons, List.map_nil] at H
    try dsimp only at hR
    obtain ⟨hi, htk, hE6⟩ := hR
    replace hB2 := hB2.ext hE6
    replace hB3 := hB3.ext hE6
    replace hX := Ext.trans' hX hE6
    have hY7 := hE6
    refine wp_seq ?_
    refine wp_seq ?_
    refine wp_region_lit ?_
    refine n_q H (q_move rfl) rfl ?_
    clear H a; intro a H
    refine n_q H (q_fieldAddr0 rfl fo29_3) rfl ?_
    clear H a; intro a H
    refine n_q H (q_load rfl (hB2.ld ag22 rfl)) rfl ?_
    clear H a; intro a H
    refine n_q H (q_lenSl Try.underlying22 rfl) rfl ?_
    clear H a; intro a H
    refine n_q H (q_lss rfl rfl) rfl ?_
    clear H a; intro a H
    refine n_nil ?_
    refine then_normal ?_
    refine c_cond H rfl (fun hc62 => ?_) (fun hc62 => ?_)
    · (try simp only [decide_eq_true_eq, decide_eq_false_iff_not, Bool.and_eq_true, Bool.or_eq_true, Bool.and_eq_false_iff, Bool.or_eq_false_iff, beq_iff_eq, bne_iff_ne, beq_eq_false_iff_ne, bne_eq_false_iff_eq, ne_eq, Bool.not_eq_true', Bool.not_eq_false', Int.not_lt, Int.not_le, Bool.not_eq_true, Bool.not_eq_false] at hc62)
      have hi1 : i < s.procs.length := by omega
      have hi2 : i < t.procs.length := by omega
      obtain ⟨x, hx1⟩ := h3.r.at hi1
      obtain ⟨y, hx2⟩ := k3.r.at hi2
      obtain ⟨a1, rfl⟩ := h3.r.addr hi1
      obtain ⟨a2, rfl⟩ := k3.r.addr hi2
      refine wp_skip ?_
      refine then_normal ?_
      refine wp_seq ?_
      refine wp_block ?_
      refine wp_seq ?_
      refine c_quiet (by kernel_rfl) (by kernel_rfl) ?_
      refine qq_q H (q_fieldAddr0 rfl fo29_3) rfl ?_
      clear H a; intro a H
      refine qq_q H (q_load rfl (hB2.ld ag22 rfl)) rfl ?_
      clear H a; intro a H
      refine qq_q H (q_move rfl) rfl ?_
      clear H a; intro a H
      refine qq_q H (q_indexAddr Try.underlying22 sz52 rfl rfl (by omega) (by omega)) rfl ?_
      clear H a; intro a H
      refine qq_q H (q_load rfl (LdX.ext (h3.r.ldAgg ag52 sz52 hx1) hX)) rfl ?_
      clear H a; intro a H
      refine qq_q H (q_fieldAddr0 rfl fo29_3) rfl ?_
      clear H a; intro a H
      refine qq_q H (q_load rfl (hB3.ld ag22 rfl)) rfl ?_
      clear H a; intro a H
      refine qq_q H (q_move rfl) rfl ?_
      clear H a; intro a H
      refine qq_q H (q_indexAddr Try.underlying22 sz52 rfl rfl (by omega) (by omega)) rfl ?_
      clear H a; intro a H
      refine qq_q H (q_load rfl (LdX.ext (k3.r.ldAgg ag52 sz52 hx2) hX)) rfl ?_
      clear H a; intro a H
      refine qq_q H (q_neqG (structB_guard st52) (eqIn_proc st52 Try.underlying3 ag3 Try.underlying50 ag50 sz50 Try.underlying49 sz49 ag49 x y (h3.r.elen hx1) (k3.r.elen hx2)) (by omega) rfl rfl) rfl ?_
      clear H a; intro a H
      refine qq_nil ?_
      intro w8 hE9
      replace hB2 := hB2.ext hE9
      replace hB3 := hB3.ext hE9
      replace hX := Ext.trans' hX hE9
      replace hY7 := Ext.trans' hY7 hE9
      refine then_normal ?_
      refine c_cond H rfl (fun hc75 => ?_) (fun hc75 => ?_)
      · (try simp only [decide_eq_true_eq, decide_eq_false_iff_not, Bool.and_eq_true, Bool.or_eq_true, Bool.and_eq_false_iff, Bool.or_eq_false_iff, beq_iff_eq, bne_iff_ne, beq_eq_false_iff_ne, bne_eq_false_iff_eq, ne_eq, Bool.not_eq_true', Bool.not_eq_false', Int.not_lt, Int.not_le, Bool.not_eq_true, Bool.not_eq_false] at hc75)
        have hxy : x ≠ y := by simpa using hc75
        refine wp_seq ?_
        refine wp_region_lit ?_
        refine n_q H (q_assign rfl) rfl ?_
        clear H a; intro a H
        refine n_nil ?_
        refine then_normal ?_
        refine wp_ret ?_
        refine block_ret ?_
        refine then_ret ?_
        refine then_ret ?_
        refine block_ret ?_
        refine then_ret ?_
        refine ret1 H (.inr rfl) rfl rfl ?_
        exact ⟨congrArg Value.bool (eqFalse fun e => by obtain ⟨g1, g2, g3, g4, g5, g6, g7, g8⟩ := alikeM_iff.1 e; exact ne_at hx1 hx2 hxy g3), hX⟩
      · (try simp only [decide_eq_true_eq, decide_eq_false_iff_not, Bool.and_eq_true, Bool.or_eq_true, Bool.and_eq_false_iff, Bool.or_eq_false_iff, beq_iff_eq, bne_iff_ne, beq_eq_false_iff_ne, bne_eq_false_iff_eq, ne_eq, Bool.not_eq_true', Bool.not_eq_false', Int.not_lt, Int.not_le, Bool.not_eq_true, Bool.not_eq_false] at hc75)
        have hxy : x = y := by simpa using hc75
        refine wp_skip ?_
        refine block_normal ?_
        refine then_normal ?_
        refine wp_region_lit ?_
        refine n_q H (q_move rfl) rfl ?_
        clear H a; intro a H
        refine n_q H (q_add rfl rfl (by constructor <;> omega)) rfl ?_
        clear H a; intro a H
        refine n_q H (q_assign rfl) rfl ?_
        clear H a; intro a H
        refine n_nil ?_
        refine then_normal ?_
        exact round (i + 1) H ⟨rfl, rfl, rfl, trivial⟩ ⟨by omega, by rw [take_snoc hx1, take_snoc hx2, htk, hxy], hY7⟩ (by first | omega | (dsimp only; omega))
    · (try simp only [decide_eq_true_eq, decide_eq_false_iff_not, Bool.and_eq_true, Bool.or_eq_true, Bool.and_eq_false_iff, Bool.or_eq_false_iff, beq_iff_eq, bne_iff_ne, beq_eq_false_iff_ne, bne_eq_false_iff_eq, ne_eq, Bool.not_eq_true', Bool.not_eq_false', Int.not_lt, Int.not_le, Bool.not_eq_true, Bool.not_eq_false] at hc62)
      have E3 : s.procs = t.procs := eq_of_take htk (by omega) (by omega)
      clear htk hi
      refine wp_exit ?_
      refine then_exit ?_
      refine then_exit ?_
      refine block_exit ?_
      refine then_normal ?_
      refine wp_seq ?_
      refine wp_seq ?_
      refine wp_region_lit ?_
      refine n_q H (q_assign rfl) rfl ?_
      clear H a; intro a H
      refine n_nil ?_
      refine then_normal ?_
      refine wp_block ?_
      refine c_loop (σ := Nat) (fun i => [(2, .pointer (some ⟨b2, 0, none⟩)), (3, .pointer (some ⟨b3, 0, none⟩)), (6, .int .i64 (i : Nat))]) (fun i wl => i ≤ s.timers.length ∧ s.timers.take i = t.timers.take i ∧ Ext w5 wl) (fun i => s.timers.length - i) 0 H ⟨rfl, rfl, rfl, trivial⟩ ⟨Nat.zero_le _, by simp, Ext.rfl'⟩ ?_
      clear H; clear a; intro i a w10 H hR
      simp only [ent, List.map_cons, List.map_nil] at H
      try dsimp only at hR
      obtain ⟨hi, htk, hE11⟩ := hR
      replace hB2 := hB2.ext hE11
      replace hB3 := hB3.ext hE11
      replace hX := Ext.trans' hX hE11
      replace hY7 := Ext.trans' hY7 hE11
      have hY12 := hE11
      refine wp_seq ?_
      refine wp_seq ?_
      refine wp_region_lit ?_
      refine n_q H (q_move rfl) rfl ?_
      clear H a; intro a H
      refine n_q H (q_fieldAddr0 rfl fo29_5) rfl ?_
      clear H a; intro a H
      refine n_q H (q_load rfl (hB2.ld ag24 rfl)) rfl ?_
      clear H a; intro a H
      refine n_q H (q_lenSl Try.underlying24 rfl) rfl ?_
      clear H a; intro a H
      refine n_q H (q_lss rfl rfl) rfl ?_
      clear H a; intro a H
      refine n_nil ?_
      refine then_normal ?_
      refine c_cond H rfl (fun hc80 => ?_) (fun hc80 => ?_)
      · (try simp only [decide_eq_true_eq, decide_eq_false_iff_not, Bool.and_eq_true, Bool.or_eq_true, Bool.and_eq_false_iff, Bool.or_eq_false_iff, beq_iff_eq, bne_iff_ne, beq_eq_false_iff_ne, bne_eq_false_iff_eq, ne_eq, Bool.not_eq_true', Bool.not_eq_false', Int.not_lt, Int.not_le, Bool.not_eq_true, Bool.not_eq_false] at hc80)
        have hi1 : i < s.timers.length := by omega
        have hi2 : i < t.timers.length := by omega
        obtain ⟨x, hx1⟩ := h5.r.at hi1
        obtain ⟨y, hx2⟩ := k5.r.at hi2
        obtain ⟨a1, rfl⟩ := h5.r.addr hi1
        obtain ⟨a2, rfl⟩ := k5.r.addr hi2
        refine wp_skip ?_
        refine then_normal ?_
        refine wp_seq ?_
        refine wp_block ?_
        refine wp_seq ?_
        refine c_quiet (by kernel_rfl) (by kernel_rfl) ?_
        refine qq_q H (q_fieldAddr0 rfl fo29_5) rfl ?_
        clear H a; intro a H
        refine qq_q H (q_load rfl (hB2.ld ag24 rfl)) rfl ?_
        clear H a; intro a H
        refine qq_q H (q_move rfl) rfl ?_
        clear H a; intro a H
        refine qq_q H (q_indexAddr Try.underlying24 sz63 rfl rfl (by omega) (by omega)) rfl ?_
        clear H a; intro a H
        refine qq_q H (q_load rfl (LdX.ext (h5.r.ldAgg ag63 sz63 hx1) hX)) rfl ?_
        clear H a; intro a H
        refine qq_q H (q_fieldAddr0 rfl fo29_5) rfl ?_
        clear H a; intro a H
        refine qq_q H (q_load rfl (hB3.ld ag24 rfl)) rfl ?_
        clear H a; intro a H
        refine qq_q H (q_move rfl) rfl ?_
        clear H a; intro a H
        refine qq_q H (q_indexAddr Try.underlying24 sz63 rfl rfl (by omega) (by omega)) rfl ?_
        clear H a; intro a H
        refine qq_q H (q_load rfl (LdX.ext (k5.r.ldAgg ag63 sz63 hx2) hX)) rfl ?_
        clear H a; intro a H
        refine qq_q H (q_neqG (structB_guard st63) (eqIn_timer st63 Try.underlying3 ag3 x y) (by omega) rfl rfl) rfl ?_
        clear H a; intro a H
        refine qq_nil ?_
        intro w13 hE14
        replace hB2 := hB2.ext hE14
        replace hB3 := hB3.ext hE14
        replace hX := Ext.trans' hX hE14
        replace hY7 := Ext.trans' hY7 hE14
        replace hY12 := Ext.trans' hY12 hE14
        refine then_normal ?_
        refine c_cond H rfl (fun hc93 => ?_) (fun hc93 => ?_)
        · (try simp only [decide_eq_true_eq, decide_eq_false_iff_not, Bool.and_eq_true, Bool.or_eq_true, Bool.and_eq_false_iff, Bool.or_eq_false_iff, beq_iff_eq, bne_iff_ne, beq_eq_false_iff_ne, bne_eq_false_iff_eq, ne_eq, Bool.not_eq_true', Bool.not_eq_false', Int.not_lt, Int.not_le, Bool.not_eq_true, Bool.not_eq_false] at hc93)
          have hxy : x ≠ y := by simpa using hc93
          refine wp_seq ?_
          refine wp_region_lit ?_
          refine n_q H (q_assign rfl) rfl ?_
          clear H a; intro a H
          refine n_nil ?_
          refine then_normal ?_
          refine wp_ret ?_
          refine block_ret ?_
          refine then_ret ?_
          refine then_ret ?_
          refine block_ret ?_
          refine then_ret ?_
          refine ret1 H (.inr rfl) rfl rfl ?_
          exact ⟨congrArg Value.bool (eqFalse fun e => by obtain ⟨g1, g2, g3, g4, g5, g6, g7, g8⟩ := alikeM_iff.1 e; exact ne_at hx1 hx2 hxy g5), hX⟩
        · (try simp only [decide_eq_true_eq, decide_eq_false_iff_not, Bool.and_eq_true, Bool.or_eq_true, Bool.and_eq_false_iff, Bool.or_eq_false_iff, beq_iff_eq, bne_iff_ne, beq_eq_false_iff_ne, bne_eq_false_iff_eq, ne_eq, Bool.not_eq_true', Bool.not_eq_false', Int.not_lt, Int.not_le, Bool.not_eq_true, Bool.not_eq_false] at hc93)
          have hxy : x = y := by simpa using hc93
          refine wp_skip ?_
          refine block_normal ?_
          refine then_normal ?_
          refine wp_region_lit ?_
          refine n_q H (q_move rfl) rfl ?_
          clear H a; intro a H
          refine n_q H (q_add rfl rfl (by constructor <;> omega)) rfl ?_
          clear H a; intro a H
          refine n_q H (q_assign rfl) rfl ?_
          clear H a; intro a H
          refine n_nil ?_
          refine then_normal ?_
          exact round (i + 1) H ⟨rfl, rfl, rfl, trivial⟩ ⟨by omega, by rw [take_snoc hx1, take_snoc hx2, htk, hxy], hY12⟩ (by first | omega | (dsimp only; omega))
      · (try simp only [decide_eq_true_eq, decide_eq_false_iff_not, Bool.and_eq_true, Bool.or_eq_true, Bool.and_eq_false_iff, Bool.or_eq_false_iff, beq_iff_eq, bne_iff_ne, beq_eq_false_iff_ne, bne_eq_false_iff_eq, ne_eq, Bool.not_eq_true', Bool.not_eq_false', Int.not_lt, Int.not_le, Bool.not_eq_true, Bool.not_eq_false] at hc80)
        have E5 : s.timers = t.timers := eq_of_take htk (by omega) (by omega)
        clear htk hi
        refine wp_exit ?_
        refine then_exit ?_
        refine then_exit ?_
        refine block_exit ?_
        refine then_normal ?_
        refine wp_seq ?_
        refine wp_seq ?_
        refine wp_region_lit ?_
        refine n_q H (q_assign rfl) rfl ?_
        clear H a; intro a H
        refine n_nil ?_
        refine then_normal ?_
        refine wp_block ?_
        refine c_loop (σ := Nat) (fun i => [(2, .pointer (some ⟨b2, 0, none⟩)), (3, .pointer (some ⟨b3, 0, none⟩)), (7, .int .i64 (i : Nat))]) (fun i wl => i ≤ s.up.length ∧ s.up.take i = t.up.take i ∧ Ext w10 wl) (fun i => s.up.length - i) 0 H ⟨rfl, rfl, rfl, trivial⟩ ⟨Nat.zero_le _, by simp, Ext.rfl'⟩ ?_
        clear H; clear a; intro i a w15 H hR
        simp only [ent, List.map_cons, List.map_nil] at H
        try dsimp only at hR
        obtain ⟨hi, htk, hE16⟩ := hR
        replace hB2 := hB2.ext hE16
        replace hB3 := hB3.ext hE16
        replace hX := Ext.trans' hX hE16
        replace hY7 := Ext.trans' hY7 hE16
        replace hY12 := Ext.trans' hY12 hE16
        have hY17 := hE16
        refine wp_seq ?_
        refine wp_seq ?_
        refine wp_region_lit ?_
        refine n_q H (q_move rfl) rfl ?_
        clear H a; intro a H
        refine n_q H (q_fieldAddr0 rfl fo29_6) rfl ?_
        clear H a; intro a H
        refine n_q H (q_load rfl (hB2.ld ag25 rfl)) rfl ?_
        clear H a; intro a H
        refine n_q H (q_lenSl Try.underlying25 rfl) rfl ?_
        clear H a; intro a H
        refine n_q H (q_lss rfl rfl) rfl ?_
        clear H a; intro a H
        refine n_nil ?_
        refine then_normal ?_
        refine c_cond H rfl (fun hc98 => ?_) (fun hc98 => ?_)
        · (try simp only [decide_eq_true_eq, decide_eq_false_iff_not, Bool.and_eq_true, Bool.or_eq_true, Bool.and_eq_false_iff, Bool.or_eq_false_iff, beq_iff_eq, bne_iff_ne, beq_eq_false_iff_ne, bne_eq_false_iff_eq, ne_eq, Bool.not_eq_true', Bool.not_eq_false', Int.not_lt, Int.not_le, Bool.not_eq_true, Bool.not_eq_false] at hc98)
          have hi1 : i < s.up.length := by omega
          have hi2 : i < t.up.length := by omega
          obtain ⟨x, hx1⟩ := h6.r.at hi1
          obtain ⟨y, hx2⟩ := k6.r.at hi2
          obtain ⟨a1, rfl⟩ := h6.r.addr hi1
          obtain ⟨a2, rfl⟩ := k6.r.addr hi2
          refine wp_skip ?_
          refine then_normal ?_
          refine wp_seq ?_
          refine wp_block ?_
          refine wp_seq ?_
          refine c_quiet (by kernel_rfl) (by kernel_rfl) ?_
          refine qq_q H (q_fieldAddr0 rfl fo29_6) rfl ?_
          clear H a; intro a H
          refine qq_q H (q_load rfl (hB2.ld ag25 rfl)) rfl ?_
          clear H a; intro a H
          refine qq_q H (q_move rfl) rfl ?_
          clear H a; intro a H
          refine qq_q H (q_indexAddr Try.underlying25 sz4 rfl rfl (by omega) (by omega)) rfl ?_
          clear H a; intro a H
          refine qq_q H (q_load rfl (LdX.ext (h6.r.ldOne ag4 hx1 rfl) hX)) rfl ?_
          clear H a; intro a H
          refine qq_q H (q_fieldAddr0 rfl fo29_6) rfl ?_
          clear H a; intro a H
          refine qq_q H (q_load rfl (hB3.ld ag25 rfl)) rfl ?_
          clear H a; intro a H
          refine qq_q H (q_move rfl) rfl ?_
          clear H a; intro a H
          refine qq_q H (q_indexAddr Try.underlying25 sz4 rfl rfl (by omega) (by omega)) rfl ?_
          clear H a; intro a H
          refine qq_q H (q_load rfl (LdX.ext (k6.r.ldOne ag4 hx2 rfl) hX)) rfl ?_
          clear H a; intro a H
          refine qq_q H (q_neqB Try.underlying4 rfl rfl) rfl ?_
          clear H a; intro a H
          refine qq_nil ?_
          intro w18 hE19
          replace hB2 := hB2.ext hE19
          replace hB3 := hB3.ext hE19
          replace hX := Ext.trans' hX hE19
          replace hY7 := Ext.trans' hY7 hE19
          replace hY12 := Ext.trans' hY12 hE19
          replace hY17 := Ext.trans' hY17 hE19
          refine then_normal ?_
          refine c_cond H rfl (fun hc111 => ?_) (fun hc111 => ?_)
          · (try simp only [decide_eq_true_eq, decide_eq_false_iff_not, Bool.and_eq_true, Bool.or_eq_true, Bool.and_eq_false_iff, Bool.or_eq_false_iff, beq_iff_eq, bne_iff_ne, beq_eq_false_iff_ne, bne_eq_false_iff_eq, ne_eq, Bool.not_eq_true', Bool.not_eq_false', Int.not_lt, Int.not_le, Bool.not_eq_true, Bool.not_eq_false] at hc111)
            have hxy : x ≠ y := by simpa using hc111
            refine wp_seq ?_
            refine wp_region_lit ?_
            refine n_q H (q_assign rfl) rfl ?_
            clear H a; intro a H
            refine n_nil ?_
            refine then_normal ?_
            refine wp_ret ?_
            refine block_ret ?_
            refine then_ret ?_
            refine then_ret ?_
            refine block_ret ?_
            refine then_ret ?_
            refine ret1 H (.inr rfl) rfl rfl ?_
            exact ⟨congrArg Value.bool (eqFalse fun e => by obtain ⟨g1, g2, g3, g4, g5, g6, g7, g8⟩ := alikeM_iff.1 e; exact ne_at hx1 hx2 hxy g6), hX⟩
          · (try simp only [decide_eq_true_eq, decide_eq_false_iff_not, Bool.and_eq_true, Bool.or_eq_true, Bool.and_eq_false_iff, Bool.or_eq_false_iff, beq_iff_eq, bne_iff_ne, beq_eq_false_iff_ne, bne_eq_false_iff_eq, ne_eq, Bool.not_eq_true', Bool.not_eq_false', Int.not_lt, Int.not_le, Bool.not_eq_true, Bool.not_eq_false] at hc111)
            have hxy : x = y := by simpa using hc111
            refine wp_skip ?_
            refine block_normal ?_
            refine then_normal ?_
            refine wp_region_lit ?_
            refine n_q H (q_move rfl) rfl ?_
            clear H a; intro a H
            refine n_q H (q_add rfl rfl (by constructor <;> omega)) rfl ?_
            clear H a; intro a H
            refine n_q H (q_assign rfl) rfl ?_
            clear H a; intro a H
            refine n_nil ?_
            refine then_normal ?_
            exact round (i + 1) H ⟨rfl, rfl, rfl, trivial⟩ ⟨by omega, by rw [take_snoc hx1, take_snoc hx2, htk, hxy], hY17⟩ (by first | omega | (dsimp only; omega))
        · (try simp only [decide_eq_true_eq, decide_eq_false_iff_not, Bool.and_eq_true, Bool.or_eq_true, Bool.and_eq_false_iff, Bool.or_eq_false_iff, beq_iff_eq, bne_iff_ne, beq_eq_false_iff_ne, bne_eq_false_iff_eq, ne_eq, Bool.not_eq_true', Bool.not_eq_false', Int.not_lt, Int.not_le, Bool.not_eq_true, Bool.not_eq_false] at hc98)
          have E6 : s.up = t.up := eq_of_take htk (by omega) (by omega)
          clear htk hi
          refine wp_exit ?_
          refine then_exit ?_
          refine then_exit ?_
          refine block_exit ?_
          refine then_normal ?_
          refine wp_seq ?_
          refine wp_seq ?_
          refine wp_region_lit ?_
          refine n_q H (q_assign rfl) rfl ?_
          clear H a; intro a H
          refine n_nil ?_
          refine then_normal ?_
          refine wp_block ?_
          refine c_loop (σ := Nat) (fun i => [(2, .pointer (some ⟨b2, 0, none⟩)), (3, .pointer (some ⟨b3, 0, none⟩)), (8, .int .i64 (i : Nat))]) (fun i wl => i ≤ s.ports.length ∧ s.ports.take i = t.ports.take i ∧ Ext w15 wl) (fun i => s.ports.length - i) 0 H ⟨rfl, rfl, rfl, trivial⟩ ⟨Nat.zero_le _, by simp, Ext.rfl'⟩ ?_
          clear H; clear a; intro i a w20 H hR
          simp only [ent, List.map_cons, List.map_nil] at H
          try dsimp only at hR
          obtain ⟨hi, htk, hE21⟩ := hR
          replace hB2 := hB2.ext hE21
          replace hB3 := hB3.ext hE21
          replace hX := Ext.trans' hX hE21
          replace hY7 := Ext.trans' hY7 hE21
          replace hY12 := Ext.trans' hY12 hE21
          replace hY17 := Ext.trans' hY17 hE21
          have hY22 := hE21
          refine wp_seq ?_
          refine wp_seq ?_
          refine wp_region_lit ?_
          refine n_q H (q_move rfl) rfl ?_
          clear H a; intro a H
          refine n_q H (q_fieldAddr0 rfl fo29_8) rfl ?_
          clear H a; intro a H
          refine n_q H (q_load rfl (hB2.ld ag26 rfl)) rfl ?_
          clear H a; intro a H
          refine n_q H (q_lenSl Try.underlying26 rfl) rfl ?_
          clear H a; intro a H
          refine n_q H (q_lss rfl rfl) rfl ?_
          clear H a; intro a H
          refine n_nil ?_
          refine then_normal ?_
          refine c_cond H rfl (fun hc116 => ?_) (fun hc116 => ?_)
          · (try simp only [decide_eq_true_eq, decide_eq_false_iff_not, Bool.and_eq_true, Bool.or_eq_true, Bool.and_eq_false_iff, Bool.or_eq_false_iff, beq_iff_eq, bne_iff_ne, beq_eq_false_iff_ne, bne_eq_false_iff_eq, ne_eq, Bool.not_eq_true', Bool.not_eq_false', Int.not_lt, Int.not_le, Bool.not_eq_true, Bool.not_eq_false] at hc116)
            have hi1 : i < s.ports.length := by omega
            have hi2 : i < t.ports.length := by omega
            obtain ⟨x, hx1⟩ := h8.r.at hi1
            obtain ⟨y, hx2⟩ := k8.r.at hi2
            obtain ⟨a1, rfl⟩ := h8.r.addr hi1
            obtain ⟨a2, rfl⟩ := k8.r.addr hi2
            obtain ⟨cs1, hcl1, hr1, hc1⟩ := h8.r.el hx1
            obtain ⟨cs2, hcl2, hr2, hc2⟩ := k8.r.el hx2
            obtain ⟨m1, rfl, hm1s⟩ := hr1
            obtain ⟨m2, rfl, hm2s⟩ := hr2
            obtain ⟨M1, f1, rfl, fl1, fm1, fn1⟩ := hm1s.r.form
            obtain ⟨M2, f2, rfl, fl2, fm2, fn2⟩ := hm2s.r.form
            refine wp_skip ?_
            refine then_normal ?_
            refine wp_seq ?_
            refine wp_block ?_
            refine wp_seq ?_
            refine wp_seq ?_
            refine c_quiet (by kernel_rfl) (by kernel_rfl) ?_
            refine qq_c H (fun HC => ?_); clear H
            refine qc_q HC (q_fieldAddr0 rfl fo29_8) rfl (by kernel_rfl) ?_
            clear HC a; intro a HC
            refine qc_q HC (q_load rfl (hB2.ld ag26 rfl)) rfl (by kernel_rfl) ?_
            clear HC a; intro a HC
            refine qc_q HC (q_move rfl) rfl (by kernel_rfl) ?_
            clear HC a; intro a HC
            refine qc_q HC (q_indexAddr Try.underlying26 sz55 rfl rfl (by omega) (by omega)) rfl (by kernel_rfl) ?_
            clear HC a; intro a HC
            refine qc_q HC (q_fieldAddr rfl fo55_1) rfl (by kernel_rfl) ?_
            clear HC a; intro a HC
            refine qc_q HC (q_load rfl (LdX.ext (ldElC (j := 1) ag3 hc1 rfl) hX)) rfl (by kernel_rfl) ?_
            clear HC a; intro a HC
            refine qc_q HC (q_fieldAddr0 rfl fo29_8) rfl (by kernel_rfl) ?_
            clear HC a; intro a HC
            refine qc_q HC (q_load rfl (hB3.ld ag26 rfl)) rfl (by kernel_rfl) ?_
            clear HC a; intro a HC
            refine qc_q HC (q_move rfl) rfl (by kernel_rfl) ?_
            clear HC a; intro a HC
            refine qc_q HC (q_indexAddr Try.underlying26 sz55 rfl rfl (by omega) (by omega)) rfl (by kernel_rfl) ?_
            clear HC a; intro a HC
            refine qc_q HC (q_fieldAddr rfl fo55_1) rfl (by kernel_rfl) ?_
            clear HC a; intro a HC
            refine qc_q HC (q_load rfl (LdX.ext (ldElC (j := 1) ag3 hc2 rfl) hX)) rfl (by kernel_rfl) ?_
            clear HC a; intro a HC
            refine qc_q HC (q_neq rfl rfl) rfl (by kernel_rfl) ?_
            clear HC a; intro a HC
            refine qc_q HC (q_move rfl) rfl (by kernel_rfl) ?_
            clear HC a; intro a HC
            refine qc_g HC (q_fieldAddr0 rfl fo29_8) (by kernel_rfl) (by kernel_rfl) (by kernel_rfl) ?_
            clear HC a; intro a HC
            refine qc_g HC (q_load rfl (hB2.ld ag26 rfl)) (by kernel_rfl) (by kernel_rfl) (by kernel_rfl) ?_
            clear HC a; intro a HC
            refine qc_g HC (q_move rfl) (by kernel_rfl) (by kernel_rfl) (by kernel_rfl) ?_
            clear HC a; intro a HC
            refine qc_g HC (q_indexAddr Try.underlying26 sz55 rfl rfl (by omega) (by omega)) (by kernel_rfl) (by kernel_rfl) (by kernel_rfl) ?_
            clear HC a; intro a HC
            refine qc_g HC (q_fieldAddr rfl fo55_0) (by kernel_rfl) (by kernel_rfl) (by kernel_rfl) ?_
            clear HC a; intro a HC
            refine qc_g HC (q_load rfl (LdX.ext (ldElC (j := 0) ag53 hc1 rfl) hX)) (by kernel_rfl) (by kernel_rfl) (by kernel_rfl) ?_
            clear HC a; intro a HC
            refine qc_g HC (q_lenSl Try.underlying53 rfl) (by kernel_rfl) (by kernel_rfl) (by kernel_rfl) ?_
            clear HC a; intro a HC
            refine qc_g HC (q_fieldAddr0 rfl fo29_8) (by kernel_rfl) (by kernel_rfl) (by kernel_rfl) ?_
            clear HC a; intro a HC
            refine qc_g HC (q_load rfl (hB3.ld ag26 rfl)) (by kernel_rfl) (by kernel_rfl) (by kernel_rfl) ?_
            clear HC a; intro a HC
            refine qc_g HC (q_move rfl) (by kernel_rfl) (by kernel_rfl) (by kernel_rfl) ?_
            clear HC a; intro a HC
            refine qc_g HC (q_indexAddr Try.underlying26 sz55 rfl rfl (by omega) (by omega)) (by kernel_rfl) (by kernel_rfl) (by kernel_rfl) ?_
            clear HC a; intro a HC
            refine qc_g HC (q_fieldAddr rfl fo55_0) (by kernel_rfl) (by kernel_rfl) (by kernel_rfl) ?_
            clear HC a; intro a HC
            refine qc_g HC (q_load rfl (LdX.ext (ldElC (j := 0) ag53 hc2 rfl) hX)) (by kernel_rfl) (by kernel_rfl) (by kernel_rfl) ?_
            clear HC a; intro a HC
            refine qc_g HC (q_lenSl Try.underlying53 rfl) (by kernel_rfl) (by kernel_rfl) (by kernel_rfl) ?_
            clear HC a; intro a HC
            refine qc_g HC (q_neq rfl rfl) (by kernel_rfl) (by kernel_rfl) (by kernel_rfl) ?_
            clear HC a; intro a HC
            refine qc_or (j := 13) HC rfl rfl rfl (by kernel_rfl) (by kernel_rfl) ?_
            clear HC a; intro a HC
            have H := HC.has; clear HC
            refine qq_nil ?_
            intro w23 hE24
            replace hB2 := hB2.ext hE24
            replace hB3 := hB3.ext hE24
            replace hX := Ext.trans' hX hE24
            replace hY7 := Ext.trans' hY7 hE24
            replace hY12 := Ext.trans' hY12 hE24
            replace hY17 := Ext.trans' hY17 hE24
            replace hY22 := Ext.trans' hY22 hE24
            refine then_normal ?_
            refine c_cond H rfl (fun hc148 => ?_) (fun hc148 => ?_)
            · (try simp only [decide_eq_true_eq, decide_eq_false_iff_not, Bool.and_eq_true, Bool.or_eq_true, Bool.and_eq_false_iff, Bool.or_eq_false_iff, beq_iff_eq, bne_iff_ne, beq_eq_false_iff_ne, bne_eq_false_iff_eq, ne_eq, Bool.not_eq_true', Bool.not_eq_false', Int.not_lt, Int.not_le, Bool.not_eq_true, Bool.not_eq_false] at hc148)
              have hxy : x ≠ y := by intro e; subst e; simp at hc148
              refine wp_seq ?_
              refine wp_region_lit ?_
              refine n_q H (q_assign rfl) rfl ?_
              clear H a; intro a H
              refine n_nil ?_
              refine then_normal ?_
              refine wp_ret ?_
              refine then_ret ?_
              refine block_ret ?_
              refine then_ret ?_
              refine then_ret ?_
              refine block_ret ?_
              refine then_ret ?_
              refine ret1 H (.inr rfl) rfl rfl ?_
              exact ⟨congrArg Value.bool (eqFalse fun e => by obtain ⟨g1, g2, g3, g4, g5, g6, g7, g8⟩ := alikeM_iff.1 e; exact ne_at hx1 hx2 hxy g8), hX⟩
            · (try simp only [decide_eq_true_eq, decide_eq_false_iff_not, Bool.and_eq_true, Bool.or_eq_true, Bool.and_eq_false_iff, Bool.or_eq_false_iff, beq_iff_eq, bne_iff_ne, beq_eq_false_iff_ne, bne_eq_false_iff_eq, ne_eq, Bool.not_eq_true', Bool.not_eq_false', Int.not_lt, Int.not_le, Bool.not_eq_true, Bool.not_eq_false] at hc148)
              obtain ⟨hage, hml⟩ := hc148
              refine wp_skip ?_
              refine then_normal ?_
              refine wp_seq ?_
              refine wp_region_lit ?_
              refine n_q H (q_assign rfl) rfl ?_
              clear H a; intro a H
              refine n_nil ?_
              refine then_normal ?_
              refine wp_block ?_
              refine c_loop (σ := Nat) (fun j => [(2, .pointer (some ⟨b2, 0, none⟩)), (3, .pointer (some ⟨b3, 0, none⟩)), (8, .int .i64 (i : Nat)), (9, .int .i64 (j : Nat))]) (fun j wl => j ≤ x.msgs.length ∧ x.msgs.take j = y.msgs.take j ∧ Ext w23 wl) (fun j => x.msgs.length - j) 0 H ⟨rfl, rfl, rfl, rfl, trivial⟩ ⟨Nat.zero_le _, by simp, Ext.rfl'⟩ ?_
              clear H; clear a; intro j a w25 H hR
              simp only [ent, List.map_cons, List.map_nil] at H
              try dsimp only at hR
              obtain ⟨hj, htj, hE26⟩ := hR
              replace hB2 := hB2.ext hE26
              replace hB3 := hB3.ext hE26
              replace hX := Ext.trans' hX hE26
              replace hY7 := Ext.trans' hY7 hE26
              replace hY12 := Ext.trans' hY12 hE26
              replace hY17 := Ext.trans' hY17 hE26
              replace hY22 := Ext.trans' hY22 hE26
              have hY27 := hE26
              refine wp_seq ?_
              refine wp_seq ?_
              refine wp_region_lit ?_
              refine n_q H (q_move rfl) rfl ?_
              clear H a; intro a H
              refine n_q H (q_fieldAddr0 rfl fo29_8) rfl ?_
              clear H a; intro a H
              refine n_q H (q_load rfl (hB2.ld ag26 rfl)) rfl ?_
              clear H a; intro a H
              refine n_q H (q_move rfl) rfl ?_
              clear H a; intro a H
              refine n_q H (q_indexAddr Try.underlying26 sz55 rfl rfl (by omega) (by omega)) rfl ?_
              clear H a; intro a H
              refine n_q H (q_fieldAddr rfl fo55_0) rfl ?_
              clear H a; intro a H
              refine n_q H (q_load rfl (LdX.ext (ldElC (j := 0) ag53 hc1 rfl) hX)) rfl ?_
              clear H a; intro a H
              refine n_q H (q_lenSl Try.underlying53 rfl) rfl ?_
              clear H a; intro a H
              refine n_q H (q_lss rfl rfl) rfl ?_
              clear H a; intro a H
              refine n_nil ?_
              refine then_normal ?_
              refine c_cond H rfl (fun hc157 => ?_) (fun hc157 => ?_)
              · (try simp only [decide_eq_true_eq, decide_eq_false_iff_not, Bool.and_eq_true, Bool.or_eq_true, Bool.and_eq_false_iff, Bool.or_eq_false_iff, beq_iff_eq, bne_iff_ne, beq_eq_false_iff_ne, bne_eq_false_iff_eq, ne_eq, Bool.not_eq_true', Bool.not_eq_false', Int.not_lt, Int.not_le, Bool.not_eq_true, Bool.not_eq_false] at hc157)
                have hj1 : j < x.msgs.length := by omega
                have hj2 : j < y.msgs.length := by omega
                obtain ⟨z1, hz1⟩ := hm1s.r.at hj1
                obtain ⟨z2, hz2⟩ := hm2s.r.at hj2
                obtain ⟨d1, rfl⟩ := hm1s.r.addr hj1
                obtain ⟨d2, rfl⟩ := hm2s.r.addr hj2
                refine wp_skip ?_
                refine then_normal ?_
                refine wp_seq ?_
                refine wp_block ?_
                refine wp_seq ?_
                refine c_quiet (by kernel_rfl) (by kernel_rfl) ?_
                refine qq_q H (q_fieldAddr0 rfl fo29_8) rfl ?_
                clear H a; intro a H
                refine qq_q H (q_load rfl (hB2.ld ag26 rfl)) rfl ?_
                clear H a; intro a H
                refine qq_q H (q_move rfl) rfl ?_
                clear H a; intro a H
                refine qq_q H (q_indexAddr Try.underlying26 sz55 rfl rfl (by omega) (by omega)) rfl ?_
                clear H a; intro a H
                refine qq_q H (q_fieldAddr rfl fo55_0) rfl ?_
                clear H a; intro a H
                refine qq_q H (q_load rfl (LdX.ext (ldElC (j := 0) ag53 hc1 rfl) hX)) rfl ?_
                clear H a; intro a H
                refine qq_q H (q_move rfl) rfl ?_
                clear H a; intro a H
                refine qq_q H (q_indexAddr Try.underlying53 sz9 rfl rfl (by omega) (by omega)) rfl ?_
                clear H a; intro a H
                refine qq_q H (q_load rfl (LdX.ext (hm1s.r.ldOne ag9 hz1 rfl) hX)) rfl ?_
                clear H a; intro a H
                refine qq_q H (q_fieldAddr0 rfl fo29_8) rfl ?_
                clear H a; intro a H
                refine qq_q H (q_load rfl (hB3.ld ag26 rfl)) rfl ?_
                clear H a; intro a H
                refine qq_q H (q_move rfl) rfl ?_
                clear H a; intro a H
                refine qq_q H (q_indexAddr Try.underlying26 sz55 rfl rfl (by omega) (by omega)) rfl ?_
                clear H a; intro a H
                refine qq_q H (q_fieldAddr rfl fo55_0) rfl ?_
                clear H a; intro a H
                refine qq_q H (q_load rfl (LdX.ext (ldElC (j := 0) ag53 hc2 rfl) hX)) rfl ?_
                clear H a; intro a H
                refine qq_q H (q_move rfl) rfl ?_
                clear H a; intro a H
                refine qq_q H (q_indexAddr Try.underlying53 sz9 rfl rfl (by omega) (by omega)) rfl ?_
                clear H a; intro a H
                refine qq_q H (q_load rfl (LdX.ext (hm2s.r.ldOne ag9 hz2 rfl) hX)) rfl ?_
                clear H a; intro a H
                refine qq_q H (q_neqS rfl rfl) rfl ?_
                clear H a; intro a H
                refine qq_nil ?_
                intro w28 hE29
                replace hB2 := hB2.ext hE29
                replace hB3 := hB3.ext hE29
                replace hX := Ext.trans' hX hE29
                replace hY7 := Ext.trans' hY7 hE29
                replace hY12 := Ext.trans' hY12 hE29
                replace hY17 := Ext.trans' hY17 hE29
                replace hY22 := Ext.trans' hY22 hE29
                replace hY27 := Ext.trans' hY27 hE29
                refine then_normal ?_
                refine c_cond H rfl (fun hc178 => ?_) (fun hc178 => ?_)
                · (try simp only [decide_eq_true_eq, decide_eq_false_iff_not, Bool.and_eq_true, Bool.or_eq_true, Bool.and_eq_false_iff, Bool.or_eq_false_iff, beq_iff_eq, bne_iff_ne, beq_eq_false_iff_ne, bne_eq_false_iff_eq, ne_eq, Bool.not_eq_true', Bool.not_eq_false', Int.not_lt, Int.not_le, Bool.not_eq_true, Bool.not_eq_false] at hc178)
                  have hzz : z1 ≠ z2 := by simpa using hc178
                  refine wp_seq ?_
                  refine wp_region_lit ?_
                  refine n_q H (q_assign rfl) rfl ?_
                  clear H a; intro a H
                  refine n_nil ?_
                  refine then_normal ?_
                  refine wp_ret ?_
                  refine block_ret ?_
                  refine then_ret ?_
                  refine then_ret ?_
                  refine block_ret ?_
                  refine block_ret ?_
                  refine then_ret ?_
                  refine then_ret ?_
                  refine block_ret ?_
                  refine then_ret ?_
                  refine ret1 H (.inr rfl) rfl rfl ?_
                  exact ⟨congrArg Value.bool (eqFalse fun e => by obtain ⟨g1, g2, g3, g4, g5, g6, g7, g8⟩ := alikeM_iff.1 e; exact ne_at hx1 hx2 (fun e => ne_at hz1 hz2 hzz (by rw [e])) g8), hX⟩
                · (try simp only [decide_eq_true_eq, decide_eq_false_iff_not, Bool.and_eq_true, Bool.or_eq_true, Bool.and_eq_false_iff, Bool.or_eq_false_iff, beq_iff_eq, bne_iff_ne, beq_eq_false_iff_ne, bne_eq_false_iff_eq, ne_eq, Bool.not_eq_true', Bool.not_eq_false', Int.not_lt, Int.not_le, Bool.not_eq_true, Bool.not_eq_false] at hc178)
                  have hzz : z1 = z2 := by simpa using hc178
                  refine wp_skip ?_
                  refine block_normal ?_
                  refine then_normal ?_
                  refine wp_region_lit ?_
                  refine n_q H (q_move rfl) rfl ?_
                  clear H a; intro a H
                  refine n_q H (q_add rfl rfl (by constructor <;> omega)) rfl ?_
                  clear H a; intro a H
                  refine n_q H (q_assign rfl) rfl ?_
                  clear H a; intro a H
                  refine n_nil ?_
                  refine then_normal ?_
                  exact round (j + 1) H ⟨rfl, rfl, rfl, rfl, trivial⟩ ⟨by omega, by rw [take_snoc hz1, take_snoc hz2, htj, hzz], hY27⟩ (by first | omega | (dsimp only; omega))
              · (try simp only [decide_eq_true_eq, decide_eq_false_iff_not, Bool.and_eq_true, Bool.or_eq_true, Bool.and_eq_false_iff, Bool.or_eq_false_iff, beq_iff_eq, bne_iff_ne, beq_eq_false_iff_ne, bne_eq_false_iff_eq, ne_eq, Bool.not_eq_true', Bool.not_eq_false', Int.not_lt, Int.not_le, Bool.not_eq_true, Bool.not_eq_false] at hc157)
                have Em : x.msgs = y.msgs := eq_of_take htj (by omega) (by omega)
                have hxy : x = y := by cases x; cases y; simp only [PortM.mk.injEq]; exact ⟨Em, hage⟩
                clear htj hj
                refine wp_exit ?_
                refine then_exit ?_
                refine then_exit ?_
                refine block_exit ?_
                refine block_normal ?_
                refine then_normal ?_
                refine wp_region_lit ?_
                refine n_q H (q_move rfl) rfl ?_
                clear H a; intro a H
                refine n_q H (q_add rfl rfl (by constructor <;> omega)) rfl ?_
                clear H a; intro a H
                refine n_q H (q_assign rfl) rfl ?_
                clear H a; intro a H
                refine n_nil ?_
                refine then_normal ?_
                exact round (i + 1) H ⟨rfl, rfl, rfl, trivial⟩ ⟨by omega, by rw [take_snoc hx1, take_snoc hx2, htk, hxy], hY22⟩ (by first | omega | (dsimp only; omega))
          · (try simp only [decide_eq_true_eq, decide_eq_false_iff_not, Bool.and_eq_true, Bool.or_eq_true, Bool.and_eq_false_iff, Bool.or_eq_false_iff, beq_iff_eq, bne_iff_ne, beq_eq_false_iff_ne, bne_eq_false_iff_eq, ne_eq, Bool.not_eq_true', Bool.not_eq_false', Int.not_lt, Int.not_le, Bool.not_eq_true, Bool.not_eq_false] at hc116)
            have E8 : s.ports = t.ports := eq_of_take htk (by omega) (by omega)
            clear htk hi
            refine wp_exit ?_
            refine then_exit ?_
            refine then_exit ?_
            refine block_exit ?_
            refine then_normal ?_
            refine wp_seq ?_
            refine wp_region_lit ?_
            refine n_c H (fun HC => ?_); clear H
            refine nc_q HC (q_fieldAddr0 rfl fo29_4) rfl (by kernel_rfl) ?_
            clear HC a; intro a HC
            refine nc_q HC (q_load rfl (hB2.ld ag23 rfl)) rfl (by kernel_rfl) ?_
            clear HC a; intro a HC
            refine nc_q HC (q_fieldAddr0 rfl fo29_4) rfl (by kernel_rfl) ?_
            clear HC a; intro a HC
            refine nc_q HC (q_load rfl (hB3.ld ag23 rfl)) rfl (by kernel_rfl) ?_
            clear HC a; intro a HC
            refine nc_call HC rfl en31 (ints_w (h4.r.ext (Flat.mono _) hX) (k4.r.ext (Flat.mono _) hX)) rfl (by kernel_rfl) ?_
            clear HC a; intro v32 w30 hv a HC
            obtain ⟨rfl, hE31⟩ := hv
            replace hB2 := hB2.ext hE31
            replace hB3 := hB3.ext hE31
            replace hX := Ext.trans' hX hE31
            replace hY7 := Ext.trans' hY7 hE31
            replace hY12 := Ext.trans' hY12 hE31
            replace hY17 := Ext.trans' hY17 hE31
            replace hY22 := Ext.trans' hY22 hE31
            refine nc_q HC (q_move rfl) rfl (by kernel_rfl) ?_
            clear HC a; intro a HC
            refine nc_g HC (q_fieldAddr0 rfl fo29_7) (by kernel_rfl) (by kernel_rfl) (by kernel_rfl) ?_
            clear HC a; intro a HC
            refine nc_g HC (q_load rfl (hB2.ld ag23 rfl)) (by kernel_rfl) (by kernel_rfl) (by kernel_rfl) ?_
            clear HC a; intro a HC
            refine nc_g HC (q_fieldAddr0 rfl fo29_7) (by kernel_rfl) (by kernel_rfl) (by kernel_rfl) ?_
            clear HC a; intro a HC
            refine nc_g HC (q_load rfl (hB3.ld ag23 rfl)) (by kernel_rfl) (by kernel_rfl) (by kernel_rfl) ?_
            clear HC a; intro a HC
            refine nc_gcall0 HC rfl en31 (ints_w (h7.r.ext (Flat.mono _) hX) (k7.r.ext (Flat.mono _) hX)) (by kernel_rfl) (by kernel_rfl) (by kernel_rfl) ?_
            clear HC a; intro w33 hE34 a HC
            replace hB2 := hB2.ext hE34
            replace hB3 := hB3.ext hE34
            replace hX := Ext.trans' hX hE34
            replace hY7 := Ext.trans' hY7 hE34
            replace hY12 := Ext.trans' hY12 hE34
            replace hY17 := Ext.trans' hY17 hE34
            replace hY22 := Ext.trans' hY22 hE34
            refine nc_and (j := 5) HC rfl rfl rfl (by kernel_rfl) (by kernel_rfl) ?_
            clear HC a; intro a HC
            refine nc_q HC (q_assign rfl) rfl (by kernel_rfl) ?_
            clear HC a; intro a HC
            have H := HC.has; clear HC
            refine n_nil ?_
            refine then_normal ?_
            refine wp_ret ?_
            refine ret1 H (.inr rfl) rfl rfl ?_
            exact ⟨congrArg Value.bool (by simp [alikeM, hid, hfr, E3, E5, E6, E8]), hX⟩

theorem rSame_w {w : World} {v1 v2 : Value} {s t : StateM'} (h1 : IsState w v1 s) (h2 : IsState w v2 t) :
    Calls Try.prog 9 [v1, v2].toArray w (Ret fun u w' => u = .bool (sameM s t) ∧ Ext w w') := by
  have g1 := h1
  have g2 := h2
  obtain ⟨v3, v4, v5, v6, v7, v8, v9, rfl, h3, h4, h5, h6, h7, h8, h9⟩ := h1
  obtain ⟨u3, u4, u5, u6, u7, u8, u9, rfl, k3, k4, k5, k6, k7, k8, k9⟩ := h2
  obtain ⟨A3, c3, rfl, hl3, hm3, hn3⟩ := h3.r.form
  obtain ⟨A4, c4, rfl, hl4, hm4, hn4⟩ := h4.r.form
  obtain ⟨A5, c5, rfl, hl5, hm5, hn5⟩ := h5.r.form
  obtain ⟨A6, c6, rfl, hl6, hm6, hn6⟩ := h6.r.form
  obtain ⟨A7, c7, rfl, hl7, hm7, hn7⟩ := h7.r.form
  obtain ⟨A8, c8, rfl, hl8, hm8, hn8⟩ := h8.r.form
  obtain ⟨A9, c9, rfl, hl9, hm9, hn9⟩ := h9.r.form
  obtain ⟨B3, e3, rfl, kl3, km3, kn3⟩ := k3.r.form
  obtain ⟨B4, e4, rfl, kl4, km4, kn4⟩ := k4.r.form
  obtain ⟨B5, e5, rfl, kl5, km5, kn5⟩ := k5.r.form
  obtain ⟨B6, e6, rfl, kl6, km6, kn6⟩ := k6.r.form
  obtain ⟨B7, e7, rfl, kl7, km7, kn7⟩ := k7.r.form
  obtain ⟨B8, e8, rfl, kl8, km8, kn8⟩ := k8.r.form
  obtain ⟨B9, e9, rfl, kl9, km9, kn9⟩ := k9.r.form
  refine enter Try.func9 rfl rfl rfl ?_
  intro a H
  dsimp only [enumL, Nat.zero_add, Nat.reduceAdd] at H
  refine wp_seq ?_
  refine wp_region_lit ?_
  refine n_box H rfl (cs := _) rfl rfl ?_
  clear H; intro b2 w1 hB2 hE2 hs_b2; clear a; intro a H
  have hw_b2 : w.heap.size ≤ b2 := by omega
  have hX := hE2
  refine n_box H rfl (cs := _) rfl rfl ?_
  clear H; intro b3 w3 hB3 hE4 hs_b3; clear a; intro a H
  have hn_b2_b3 : b2 ≠ b3 := by have := hB2.lt; omega
  have hn_b3_b2 := hn_b2_b3.symm
  have hlt_b2_b3 : b2 < b3 := by have := hB2.lt; omega
  have hw_b3 : w.heap.size ≤ b3 := by have := hX.size; omega
  replace hB2 := hB2.ext hE4
  replace hX := Ext.trans' hX hE4
  refine n_q H (q_assign rfl) rfl ?_
  clear H a; intro a H
  refine n_nil ?_
  refine then_normal ?_
  refine wp_seq ?_
  refine wp_seq ?_
  refine wp_region_lit ?_
  refine n_c H (fun HC => ?_); clear H
  refine nc_q HC (q_load rfl (hB2.ldAll ag29 sz29)) rfl (by kernel_rfl) ?_
  clear HC a; intro a HC
  refine nc_q HC (q_load rfl (hB3.ldAll ag29 sz29)) rfl (by kernel_rfl) ?_
  clear HC a; intro a HC
  refine nc_call HC rfl en16 (rest_w (g1.ext hX) (g2.ext hX)) rfl (by kernel_rfl) ?_
  clear HC a; intro v7 w5 hv a HC
  obtain ⟨rfl, hE6⟩ := hv
  replace hB2 := hB2.ext hE6
  replace hB3 := hB3.ext hE6
  replace hX := Ext.trans' hX hE6
  refine nc_q HC (q_not rfl) rfl (by kernel_rfl) ?_
  clear HC a; intro a HC
  refine nc_q HC (q_move rfl) rfl (by kernel_rfl) ?_
  clear HC a; intro a HC
  refine nc_g HC (q_fieldAddr0 rfl fo29_2) (by kernel_rfl) (by kernel_rfl) (by kernel_rfl) ?_
  clear HC a; intro a HC
  refine nc_g HC (q_load rfl (hB2.ld ag3 rfl)) (by kernel_rfl) (by kernel_rfl) (by kernel_rfl) ?_
  clear HC a; intro a HC
  refine nc_g HC (q_fieldAddr0 rfl fo29_2) (by kernel_rfl) (by kernel_rfl) (by kernel_rfl) ?_
  clear HC a; intro a HC
  refine nc_g HC (q_load rfl (hB3.ld ag3 rfl)) (by kernel_rfl) (by kernel_rfl) (by kernel_rfl) ?_
  clear HC a; intro a HC
  refine nc_g HC (q_neq rfl rfl) (by kernel_rfl) (by kernel_rfl) (by kernel_rfl) ?_
  clear HC a; intro a HC
  refine nc_or (j := 4) HC rfl rfl rfl (by kernel_rfl) (by kernel_rfl) ?_
  clear HC a; intro a HC
  refine nc_q HC (q_move rfl) rfl (by kernel_rfl) ?_
  clear HC a; intro a HC
  refine nc_g HC (q_fieldAddr0 rfl fo29_9) (by kernel_rfl) (by kernel_rfl) (by kernel_rfl) ?_
  clear HC a; intro a HC
  refine nc_g HC (q_load rfl (hB2.ld ag27 rfl)) (by kernel_rfl) (by kernel_rfl) (by kernel_rfl) ?_
  clear HC a; intro a HC
  refine nc_g HC (q_lenSl Try.underlying27 rfl) (by kernel_rfl) (by kernel_rfl) (by kernel_rfl) ?_
  clear HC a; intro a HC
  refine nc_g HC (q_fieldAddr0 rfl fo29_9) (by kernel_rfl) (by kernel_rfl) (by kernel_rfl) ?_
  clear HC a; intro a HC
  refine nc_g HC (q_load rfl (hB3.ld ag27 rfl)) (by kernel_rfl) (by kernel_rfl) (by kernel_rfl) ?_
  clear HC a; intro a HC
  refine nc_g HC (q_lenSl Try.underlying27 rfl) (by kernel_rfl) (by kernel_rfl) (by kernel_rfl) ?_
  clear HC a; intro a HC
  refine nc_g HC (q_neq rfl rfl) (by kernel_rfl) (by kernel_rfl) (by kernel_rfl) ?_
  clear HC a; intro a HC
  refine nc_or (j := 11) HC rfl rfl rfl (by kernel_rfl) (by kernel_rfl) ?_
  clear HC a; intro a HC
  have H := HC.has; clear HC
  refine n_nil ?_
  refine then_normal ?_
  refine c_cond H rfl (fun hc25 => ?_) (fun hc25 => ?_)
  · (try simp only [decide_eq_true_eq, decide_eq_false_iff_not, Bool.and_eq_true, Bool.or_eq_true, Bool.and_eq_false_iff, Bool.or_eq_false_iff, beq_iff_eq, bne_iff_ne, beq_eq_false_iff_ne, bne_eq_false_iff_eq, ne_eq, Bool.not_eq_true', Bool.not_eq_false', Int.not_lt, Int.not_le, Bool.not_eq_true, Bool.not_eq_false] at hc25)
    refine wp_seq ?_
    refine wp_region_lit ?_
    refine n_q H (q_assign rfl) rfl ?_
    clear H a; intro a H
    refine n_nil ?_
    refine then_normal ?_
    refine wp_ret ?_
    refine then_ret ?_
    refine ret1 H (.inr rfl) rfl rfl ?_
    exact ⟨congrArg Value.bool (eqFalse fun e => by simp only [sameM, Bool.and_eq_true, beq_iff_eq, decide_eq_true_eq] at e; simp [e.1.1, e.1.2, e.2] at hc25), hX⟩
  · (try simp only [decide_eq_true_eq, decide_eq_false_iff_not, Bool.and_eq_true, Bool.or_eq_true, Bool.and_eq_false_iff, Bool.or_eq_false_iff, beq_iff_eq, bne_iff_ne, beq_eq_false_iff_ne, bne_eq_false_iff_eq, ne_eq, Bool.not_eq_true', Bool.not_eq_false', Int.not_lt, Int.not_le, Bool.not_eq_true, Bool.not_eq_false] at hc25)
    obtain ⟨⟨hrst, hep⟩, hq9⟩ := hc25
    refine wp_skip ?_
    refine then_normal ?_
    refine wp_seq ?_
    refine wp_seq ?_
    refine wp_region_lit ?_
    refine n_q H (q_assign rfl) rfl ?_
    clear H a; intro a H
    refine n_nil ?_
    refine then_normal ?_
    refine wp_block ?_
    refine c_loop (σ := Nat) (fun i => [(2, .pointer (some ⟨b2, 0, none⟩)), (3, .pointer (some ⟨b3, 0, none⟩)), (5, .int .i64 (i : Nat))]) (fun i wl => i ≤ s.pages.length ∧ s.pages.take i = t.pages.take i ∧ Ext w5 wl) (fun i => s.pages.length - i) 0 H ⟨rfl, rfl, rfl, trivial⟩ ⟨Nat.zero_le _, by simp, Ext.rfl'⟩ ?_
    clear H; clear a; intro i a w8 H hR
    simp only [ent, List.map_cons, List.map_nil] at H
    try dsimp only at hR
    obtain ⟨hi, htk, hE9⟩ := hR
    replace hB2 := hB2.ext hE9
    replace hB3 := hB3.ext hE9
    replace hX := Ext.trans' hX hE9
    have hY10 := hE9
    refine wp_seq ?_
    refine wp_seq ?_
    refine wp_region_lit ?_
    refine n_q H (q_move rfl) rfl ?_
    clear H a; intro a H
    refine n_q H (q_fieldAddr0 rfl fo29_9) rfl ?_
    clear H a; intro a H
    refine n_q H (q_load rfl (hB2.ld ag27 rfl)) rfl ?_
    clear H a; intro a H
    refine n_q H (q_lenSl Try.underlying27 rfl) rfl ?_
    clear H a; intro a H
    refine n_q H (q_lss rfl rfl) rfl ?_
    clear H a; intro a H
    refine n_nil ?_
    refine then_normal ?_
    refine c_cond H rfl (fun hc30 => ?_) (fun hc30 => ?_)
    · (try simp only [decide_eq_true_eq, decide_eq_false_iff_not, Bool.and_eq_true, Bool.or_eq_true, Bool.and_eq_false_iff, Bool.or_eq_false_iff, beq_iff_eq, bne_iff_ne, beq_eq_false_iff_ne, bne_eq_false_iff_eq, ne_eq, Bool.not_eq_true', Bool.not_eq_false', Int.not_lt, Int.not_le, Bool.not_eq_true, Bool.not_eq_false] at hc30)
      have hi1 : i < s.pages.length := by omega
      have hi2 : i < t.pages.length := by omega
      obtain ⟨x, hx1⟩ := h9.r.at hi1
      obtain ⟨y, hx2⟩ := k9.r.at hi2
      obtain ⟨a1, rfl⟩ := h9.r.addr hi1
      obtain ⟨a2, rfl⟩ := k9.r.addr hi2
      refine wp_skip ?_
      refine then_normal ?_
      refine wp_seq ?_
      refine wp_block ?_
      refine wp_seq ?_
      refine c_quiet (by kernel_rfl) (by kernel_rfl) ?_
      refine qq_q H (q_fieldAddr0 rfl fo29_9) rfl ?_
      clear H a; intro a H
      refine qq_q H (q_load rfl (hB2.ld ag27 rfl)) rfl ?_
      clear H a; intro a H
      refine qq_q H (q_move rfl) rfl ?_
      clear H a; intro a H
      refine qq_q H (q_indexAddr Try.underlying27 sz40 rfl rfl (by omega) (by omega)) rfl ?_
      clear H a; intro a H
      refine qq_q H (q_load rfl (LdX.ext (h9.r.ldAgg ag40 sz40 hx1) hX)) rfl ?_
      clear H a; intro a H
      refine qq_q H (q_fieldAddr0 rfl fo29_9) rfl ?_
      clear H a; intro a H
      refine qq_q H (q_load rfl (hB3.ld ag27 rfl)) rfl ?_
      clear H a; intro a H
      refine qq_q H (q_move rfl) rfl ?_
      clear H a; intro a H
      refine qq_q H (q_indexAddr Try.underlying27 sz40 rfl rfl (by omega) (by omega)) rfl ?_
      clear H a; intro a H
      refine qq_q H (q_load rfl (LdX.ext (k9.r.ldAgg ag40 sz40 hx2) hX)) rfl ?_
      clear H a; intro a H
      refine qq_q H (q_neqG (structB_guard st40) (eqIn_page st40 Try.underlying3 ag3 Try.underlying4 ag4 Try.underlying38 ag38 sz38 Try.underlying5 sz5 ag5 x y (h9.r.elen hx1) (k9.r.elen hx2)) (by omega) rfl rfl) rfl ?_
      clear H a; intro a H
      refine qq_nil ?_
      intro w11 hE12
      replace hB2 := hB2.ext hE12
      replace hB3 := hB3.ext hE12
      replace hX := Ext.trans' hX hE12
      replace hY10 := Ext.trans' hY10 hE12
      refine then_normal ?_
      refine c_cond H rfl (fun hc43 => ?_) (fun hc43 => ?_)
      · (try simp only [decide_eq_true_eq, decide_eq_false_iff_not, Bool.and_eq_true, Bool.or_eq_true, Bool.and_eq_false_iff, Bool.or_eq_false_iff, beq_iff_eq, bne_iff_ne, beq_eq_false_iff_ne, bne_eq_false_iff_eq, ne_eq, Bool.not_eq_true', Bool.not_eq_false', Int.not_lt, Int.not_le, Bool.not_eq_true, Bool.not_eq_false] at hc43)
        have hxy : x ≠ y := by simpa using hc43
        refine wp_seq ?_
        refine wp_region_lit ?_
        refine n_q H (q_assign rfl) rfl ?_
        clear H a; intro a H
        refine n_nil ?_
        refine then_normal ?_
        refine wp_ret ?_
        refine block_ret ?_
        refine then_ret ?_
        refine then_ret ?_
        refine block_ret ?_
        refine then_ret ?_
        refine ret1 H (.inr rfl) rfl rfl ?_
        exact ⟨congrArg Value.bool (eqFalse fun e => by simp only [sameM, Bool.and_eq_true, beq_iff_eq, decide_eq_true_eq] at e; exact ne_at hx1 hx2 hxy e.2), hX⟩
      · (try simp only [decide_eq_true_eq, decide_eq_false_iff_not, Bool.and_eq_true, Bool.or_eq_true, Bool.and_eq_false_iff, Bool.or_eq_false_iff, beq_iff_eq, bne_iff_ne, beq_eq_false_iff_ne, bne_eq_false_iff_eq, ne_eq, Bool.not_eq_true', Bool.not_eq_false', Int.not_lt, Int.not_le, Bool.not_eq_true, Bool.not_eq_false] at hc43)
        have hxy : x = y := by simpa using hc43
        refine wp_skip ?_
        refine block_normal ?_
        refine then_normal ?_
        refine wp_region_lit ?_
        refine n_q H (q_move rfl) rfl ?_
        clear H a; intro a H
        refine n_q H (q_add rfl rfl (by constructor <;> omega)) rfl ?_
        clear H a; intro a H
        refine n_q H (q_assign rfl) rfl ?_
        clear H a; intro a H
        refine n_nil ?_
        refine then_normal ?_
        exact round (i + 1) H ⟨rfl, rfl, rfl, trivial⟩ ⟨by omega, by rw [take_snoc hx1, take_snoc hx2, htk, hxy], hY10⟩ (by first | omega | (dsimp only; omega))
    · (try simp only [decide_eq_true_eq, decide_eq_false_iff_not, Bool.and_eq_true, Bool.or_eq_true, Bool.and_eq_false_iff, Bool.or_eq_false_iff, beq_iff_eq, bne_iff_ne, beq_eq_false_iff_ne, bne_eq_false_iff_eq, ne_eq, Bool.not_eq_true', Bool.not_eq_false', Int.not_lt, Int.not_le, Bool.not_eq_true, Bool.not_eq_false] at hc30)
      have E9 : s.pages = t.pages := eq_of_take htk (by omega) (by omega)
      refine wp_exit ?_
      refine then_exit ?_
      refine then_exit ?_
      refine block_exit ?_
      refine then_normal ?_
      refine wp_seq ?_
      refine wp_region_lit ?_
      refine n_q H (q_assign rfl) rfl ?_
      clear H a; intro a H
      refine n_nil ?_
      refine then_normal ?_
      refine wp_ret ?_
      refine ret1 H (.inr rfl) rfl rfl ?_
      exact ⟨congrArg Value.bool (by simp [sameM, hrst, hep, E9]), hX⟩

theorem SlR.ldPageR {w : World} {ad : Addr} {n c i : Nat} {xs : List PageM} {x : PageM} (h : SlR w 66 (Flat ePage) (.slice (some ad) n c) xs) (hx : xs[i]? = some x) : LdX Try.prog 3 w ((ad.add (i * 66)).add 0) (.int .i64 x.rights) := h.ldCell ag3 hx rfl
theorem SlR.ldPageD {w : World} {ad : Addr} {n c i : Nat} {xs : List PageM} {x : PageM} (h : SlR w 66 (Flat ePage) (.slice (some ad) n c) xs) (hx : xs[i]? = some x) : LdX Try.prog 38 w ((ad.add (i * 66)).add 2) (.agg (x.data.map (Value.int .u8)).toArray) := by
  have hl := h.elen hx
  obtain ⟨cs, h1, h2, h3⟩ := h.el hx
  have h2' : cs = ePage x := h2
  subst h2'
  refine LdX.agg ag38 (by rw [sz38]; simp [ePage_len hl]) fun j u hu => ?_
  rw [add_add, add_add]
  try rw [Nat.add_assoc]
  exact h3 (2 + j) u (by rw [Nat.add_comm]; exact hu)
theorem rAlike_w {w : World} {v1 v2 : Value} {s t : StateM'} (h1 : IsState w v1 s) (h2 : IsState w v2 t) :
    Calls Try.prog 10 [v1, v2].toArray w (Ret fun u w' => u = .bool (alikesM s t) ∧ Ext w w') := by
  have g1 := h1
  have g2 := h2
  obtain ⟨v3, v4, v5, v6, v7, v8, v9, rfl, h3, h4, h5, h6, h7, h8, h9⟩ := h1
  obtain ⟨u3, u4, u5, u6, u7, u8, u9, rfl, k3, k4, k5, k6, k7, k8, k9⟩ := h2
  obtain ⟨A3, c3, rfl, hl3, hm3, hn3⟩ := h3.r.form
  obtain ⟨A4, c4, rfl, hl4, hm4, hn4⟩ := h4.r.form
  obtain ⟨A5, c5, rfl, hl5, hm5, hn5⟩ := h5.r.form
  obtain ⟨A6, c6, rfl, hl6, hm6, hn6⟩ := h6.r.form
  obtain ⟨A7, c7, rfl, hl7, hm7, hn7⟩ := h7.r.form
  obtain ⟨A8, c8, rfl, hl8, hm8, hn8⟩ := h8.r.form
  obtain ⟨A9, c9, rfl, hl9, hm9, hn9⟩ := h9.r.form
  obtain ⟨B3, e3, rfl, kl3, km3, kn3⟩ := k3.r.form
  obtain ⟨B4, e4, rfl, kl4, km4, kn4⟩ := k4.r.form
  obtain ⟨B5, e5, rfl, kl5, km5, kn5⟩ := k5.r.form
  obtain ⟨B6, e6, rfl, kl6, km6, kn6⟩ := k6.r.form
  obtain ⟨B7, e7, rfl, kl7, km7, kn7⟩ := k7.r.form
  obtain ⟨B8, e8, rfl, kl8, km8, kn8⟩ := k8.r.form
  obtain ⟨B9, e9, rfl, kl9, km9, kn9⟩ := k9.r.form
  refine enter Try.func10 rfl rfl rfl ?_
  intro a H
  dsimp only [enumL, Nat.zero_add, Nat.reduceAdd] at H
  refine wp_seq ?_
  refine wp_region_lit ?_
  refine n_box H rfl (cs := _) rfl rfl ?_
  clear H; intro b2 w1 hB2 hE2 hs_b2; clear a; intro a H
  have hw_b2 : w.heap.size ≤ b2 := by omega
  have hX := hE2
  refine n_box H rfl (cs := _) rfl rfl ?_
  clear H; intro b3 w3 hB3 hE4 hs_b3; clear a; intro a H
  have hn_b2_b3 : b2 ≠ b3 := by have := hB2.lt; omega
  have hn_b3_b2 := hn_b2_b3.symm
  have hlt_b2_b3 : b2 < b3 := by have := hB2.lt; omega
  have hw_b3 : w.heap.size ≤ b3 := by have := hX.size; omega
  replace hB2 := hB2.ext hE4
  replace hX := Ext.trans' hX hE4
  refine n_q H (q_assign rfl) rfl ?_
  clear H a; intro a H
  refine n_nil ?_
  refine then_normal ?_
  refine wp_seq ?_
  refine wp_seq ?_
  refine wp_region_lit ?_
  refine n_c H (fun HC => ?_); clear H
  refine nc_q HC (q_load rfl (hB2.ldAll ag29 sz29)) rfl (by kernel_rfl) ?_
  clear HC a; intro a HC
  refine nc_q HC (q_load rfl (hB3.ldAll ag29 sz29)) rfl (by kernel_rfl) ?_
  clear HC a; intro a HC
  refine nc_call HC rfl en16 (rest_w (g1.ext hX) (g2.ext hX)) rfl (by kernel_rfl) ?_
  clear HC a; intro v7 w5 hv a HC
  obtain ⟨rfl, hE6⟩ := hv
  replace hB2 := hB2.ext hE6
  replace hB3 := hB3.ext hE6
  replace hX := Ext.trans' hX hE6
  refine nc_q HC (q_not rfl) rfl (by kernel_rfl) ?_
  clear HC a; intro a HC
  refine nc_q HC (q_move rfl) rfl (by kernel_rfl) ?_
  clear HC a; intro a HC
  refine nc_g HC (q_fieldAddr0 rfl fo29_9) (by kernel_rfl) (by kernel_rfl) (by kernel_rfl) ?_
  clear HC a; intro a HC
  refine nc_g HC (q_load rfl (hB2.ld ag27 rfl)) (by kernel_rfl) (by kernel_rfl) (by kernel_rfl) ?_
  clear HC a; intro a HC
  refine nc_g HC (q_lenSl Try.underlying27 rfl) (by kernel_rfl) (by kernel_rfl) (by kernel_rfl) ?_
  clear HC a; intro a HC
  refine nc_g HC (q_fieldAddr0 rfl fo29_9) (by kernel_rfl) (by kernel_rfl) (by kernel_rfl) ?_
  clear HC a; intro a HC
  refine nc_g HC (q_load rfl (hB3.ld ag27 rfl)) (by kernel_rfl) (by kernel_rfl) (by kernel_rfl) ?_
  clear HC a; intro a HC
  refine nc_g HC (q_lenSl Try.underlying27 rfl) (by kernel_rfl) (by kernel_rfl) (by kernel_rfl) ?_
  clear HC a; intro a HC
  refine nc_g HC (q_neq rfl rfl) (by kernel_rfl) (by kernel_rfl) (by kernel_rfl) ?_
  clear HC a; intro a HC
  refine nc_or (j := 4) HC rfl rfl rfl (by kernel_rfl) (by kernel_rfl) ?_
  clear HC a; intro a HC
  have H := HC.has; clear HC
  refine n_nil ?_
  refine then_normal ?_
  refine c_cond H rfl (fun hc18 => ?_) (fun hc18 => ?_)
  · (try simp only [decide_eq_true_eq, decide_eq_false_iff_not, Bool.and_eq_true, Bool.or_eq_true, Bool.and_eq_false_iff, Bool.or_eq_false_iff, beq_iff_eq, bne_iff_ne, beq_eq_false_iff_ne, bne_eq_false_iff_eq, ne_eq, Bool.not_eq_true', Bool.not_eq_false', Int.not_lt, Int.not_le, Bool.not_eq_true, Bool.not_eq_false] at hc18)
    refine wp_seq ?_
    refine wp_region_lit ?_
    refine n_q H (q_assign rfl) rfl ?_
    clear H a; intro a H
    refine n_nil ?_
    refine then_normal ?_
    refine wp_ret ?_
    refine then_ret ?_
    refine ret1 H (.inr rfl) rfl rfl ?_
    exact ⟨congrArg Value.bool (eqFalse fun e => by simp only [alikesM, Bool.and_eq_true] at e; simp [e.1, samePages_len e.2] at hc18), hX⟩
  · (try simp only [decide_eq_true_eq, decide_eq_false_iff_not, Bool.and_eq_true, Bool.or_eq_true, Bool.and_eq_false_iff, Bool.or_eq_false_iff, beq_iff_eq, bne_iff_ne, beq_eq_false_iff_ne, bne_eq_false_iff_eq, ne_eq, Bool.not_eq_true', Bool.not_eq_false', Int.not_lt, Int.not_le, Bool.not_eq_true, Bool.not_eq_false] at hc18)
    obtain ⟨hrst, hq9⟩ := hc18
    refine wp_skip ?_
    refine then_normal ?_
    refine wp_seq ?_
    refine wp_seq ?_
    refine wp_region_lit ?_
    refine n_q H (q_assign rfl) rfl ?_
    clear H a; intro a H
    refine n_nil ?_
    refine then_normal ?_
    refine wp_block ?_
    refine c_loop (σ := Nat) (fun i => [(2, .pointer (some ⟨b2, 0, none⟩)), (3, .pointer (some ⟨b3, 0, none⟩)), (5, .int .i64 (i : Nat))]) (fun i wl => i ≤ s.pages.length ∧ samePages (s.pages.take i) (t.pages.take i) = true ∧ Ext w5 wl) (fun i => s.pages.length - i) 0 H ⟨rfl, rfl, rfl, trivial⟩ ⟨Nat.zero_le _, by simp [samePages], Ext.rfl'⟩ ?_
    clear H; clear a; intro i a w8 H hR
    simp only [ent, List.map_cons, List.map_nil] at H
    try dsimp only at hR
    obtain ⟨hi, htk, hE9⟩ := hR
    replace hB2 := hB2.ext hE9
    replace hB3 := hB3.ext hE9
    replace hX := Ext.trans' hX hE9
    have hY10 := hE9
    refine wp_seq ?_
    refine wp_seq ?_
    refine wp_region_lit ?_
    refine n_q H (q_move rfl) rfl ?_
    clear H a; intro a H
    refine n_q H (q_fieldAddr0 rfl fo29_9) rfl ?_
    clear H a; intro a H
    refine n_q H (q_load rfl (hB2.ld ag27 rfl)) rfl ?_
    clear H a; intro a H
    refine n_q H (q_lenSl Try.underlying27 rfl) rfl ?_
    clear H a; intro a H
    refine n_q H (q_lss rfl rfl) rfl ?_
    clear H a; intro a H
    refine n_nil ?_
    refine then_normal ?_
    refine c_cond H rfl (fun hc23 => ?_) (fun hc23 => ?_)
    · (try simp only [decide_eq_true_eq, decide_eq_false_iff_not, Bool.and_eq_true, Bool.or_eq_true, Bool.and_eq_false_iff, Bool.or_eq_false_iff, beq_iff_eq, bne_iff_ne, beq_eq_false_iff_ne, bne_eq_false_iff_eq, ne_eq, Bool.not_eq_true', Bool.not_eq_false', Int.not_lt, Int.not_le, Bool.not_eq_true, Bool.not_eq_false] at hc23)
      have hi1 : i < s.pages.length := by omega
      have hi2 : i < t.pages.length := by omega
      obtain ⟨x, hx1⟩ := h9.r.at hi1
      obtain ⟨y, hx2⟩ := k9.r.at hi2
      obtain ⟨a1, rfl⟩ := h9.r.addr hi1
      obtain ⟨a2, rfl⟩ := k9.r.addr hi2
      refine wp_skip ?_
      refine then_normal ?_
      refine wp_seq ?_
      refine wp_block ?_
      refine wp_seq ?_
      refine c_quiet (by kernel_rfl) (by kernel_rfl) ?_
      refine qq_c H (fun HC => ?_); clear H
      refine qc_q HC (q_fieldAddr0 rfl fo29_9) rfl (by kernel_rfl) ?_
      clear HC a; intro a HC
      refine qc_q HC (q_load rfl (hB2.ld ag27 rfl)) rfl (by kernel_rfl) ?_
      clear HC a; intro a HC
      refine qc_q HC (q_move rfl) rfl (by kernel_rfl) ?_
      clear HC a; intro a HC
      refine qc_q HC (q_indexAddr Try.underlying27 sz40 rfl rfl (by omega) (by omega)) rfl (by kernel_rfl) ?_
      clear HC a; intro a HC
      refine qc_q HC (q_fieldAddr rfl fo40_0) rfl (by kernel_rfl) ?_
      clear HC a; intro a HC
      refine qc_q HC (q_load rfl (LdX.ext (h9.r.ldPageR hx1) hX)) rfl (by kernel_rfl) ?_
      clear HC a; intro a HC
      refine qc_q HC (q_fieldAddr0 rfl fo29_9) rfl (by kernel_rfl) ?_
      clear HC a; intro a HC
      refine qc_q HC (q_load rfl (hB3.ld ag27 rfl)) rfl (by kernel_rfl) ?_
      clear HC a; intro a HC
      refine qc_q HC (q_move rfl) rfl (by kernel_rfl) ?_
      clear HC a; intro a HC
      refine qc_q HC (q_indexAddr Try.underlying27 sz40 rfl rfl (by omega) (by omega)) rfl (by kernel_rfl) ?_
      clear HC a; intro a HC
      refine qc_q HC (q_fieldAddr rfl fo40_0) rfl (by kernel_rfl) ?_
      clear HC a; intro a HC
      refine qc_q HC (q_load rfl (LdX.ext (k9.r.ldPageR hx2) hX)) rfl (by kernel_rfl) ?_
      clear HC a; intro a HC
      refine qc_q HC (q_neq rfl rfl) rfl (by kernel_rfl) ?_
      clear HC a; intro a HC
      refine qc_q HC (q_move rfl) rfl (by kernel_rfl) ?_
      clear HC a; intro a HC
      refine qc_g HC (q_fieldAddr0 rfl fo29_9) (by kernel_rfl) (by kernel_rfl) (by kernel_rfl) ?_
      clear HC a; intro a HC
      refine qc_g HC (q_load rfl (hB2.ld ag27 rfl)) (by kernel_rfl) (by kernel_rfl) (by kernel_rfl) ?_
      clear HC a; intro a HC
      refine qc_g HC (q_move rfl) (by kernel_rfl) (by kernel_rfl) (by kernel_rfl) ?_
      clear HC a; intro a HC
      refine qc_g HC (q_indexAddr Try.underlying27 sz40 rfl rfl (by omega) (by omega)) (by kernel_rfl) (by kernel_rfl) (by kernel_rfl) ?_
      clear HC a; intro a HC
      refine qc_g HC (q_fieldAddr rfl fo40_2) (by kernel_rfl) (by kernel_rfl) (by kernel_rfl) ?_
      clear HC a; intro a HC
      refine qc_g HC (q_load rfl (LdX.ext (h9.r.ldPageD hx1) hX)) (by kernel_rfl) (by kernel_rfl) (by kernel_rfl) ?_
      clear HC a; intro a HC
      refine qc_g HC (q_fieldAddr0 rfl fo29_9) (by kernel_rfl) (by kernel_rfl) (by kernel_rfl) ?_
      clear HC a; intro a HC
      refine qc_g HC (q_load rfl (hB3.ld ag27 rfl)) (by kernel_rfl) (by kernel_rfl) (by kernel_rfl) ?_
      clear HC a; intro a HC
      refine qc_g HC (q_move rfl) (by kernel_rfl) (by kernel_rfl) (by kernel_rfl) ?_
      clear HC a; intro a HC
      refine qc_g HC (q_indexAddr Try.underlying27 sz40 rfl rfl (by omega) (by omega)) (by kernel_rfl) (by kernel_rfl) (by kernel_rfl) ?_
      clear HC a; intro a HC
      refine qc_g HC (q_fieldAddr rfl fo40_2) (by kernel_rfl) (by kernel_rfl) (by kernel_rfl) ?_
      clear HC a; intro a HC
      refine qc_g HC (q_load rfl (LdX.ext (k9.r.ldPageD hx2) hX)) (by kernel_rfl) (by kernel_rfl) (by kernel_rfl) ?_
      clear HC a; intro a HC
      refine qc_g HC (q_neqG gd38 (eqIn_ints Try.underlying38 sz5 ag5 Try.underlying5 (ePage_len (h9.r.elen hx1)) (ePage_len (k9.r.elen hx2))) (by omega) rfl rfl) (by kernel_rfl) (by kernel_rfl) (by kernel_rfl) ?_
      clear HC a; intro a HC
      refine qc_or (j := 13) HC rfl rfl rfl (by kernel_rfl) (by kernel_rfl) ?_
      clear HC a; intro a HC
      have H := HC.has; clear HC
      refine qq_nil ?_
      intro w11 hE12
      replace hB2 := hB2.ext hE12
      replace hB3 := hB3.ext hE12
      replace hX := Ext.trans' hX hE12
      replace hY10 := Ext.trans' hY10 hE12
      refine then_normal ?_
      refine c_cond H rfl (fun hc53 => ?_) (fun hc53 => ?_)
      · (try simp only [decide_eq_true_eq, decide_eq_false_iff_not, Bool.and_eq_true, Bool.or_eq_true, Bool.and_eq_false_iff, Bool.or_eq_false_iff, beq_iff_eq, bne_iff_ne, beq_eq_false_iff_ne, bne_eq_false_iff_eq, ne_eq, Bool.not_eq_true', Bool.not_eq_false', Int.not_lt, Int.not_le, Bool.not_eq_true, Bool.not_eq_false] at hc53)
        have hxy : ¬ (x.rights = y.rights ∧ x.data = y.data) := by rintro ⟨q1, q2⟩; simp [q1, q2] at hc53
        refine wp_seq ?_
        refine wp_region_lit ?_
        refine n_q H (q_assign rfl) rfl ?_
        clear H a; intro a H
        refine n_nil ?_
        refine then_normal ?_
        refine wp_ret ?_
        refine block_ret ?_
        refine then_ret ?_
        refine then_ret ?_
        refine block_ret ?_
        refine then_ret ?_
        refine ret1 H (.inr rfl) rfl rfl ?_
        exact ⟨congrArg Value.bool (eqFalse fun e => by simp only [alikesM, Bool.and_eq_true] at e; exact hxy (samePages_at e.2 hx1 hx2)), hX⟩
      · (try simp only [decide_eq_true_eq, decide_eq_false_iff_not, Bool.and_eq_true, Bool.or_eq_true, Bool.and_eq_false_iff, Bool.or_eq_false_iff, beq_iff_eq, bne_iff_ne, beq_eq_false_iff_ne, bne_eq_false_iff_eq, ne_eq, Bool.not_eq_true', Bool.not_eq_false', Int.not_lt, Int.not_le, Bool.not_eq_true, Bool.not_eq_false] at hc53)
        have hxy : x.rights = y.rights ∧ x.data = y.data := by simpa using hc53
        refine wp_skip ?_
        refine block_normal ?_
        refine then_normal ?_
        refine wp_region_lit ?_
        refine n_q H (q_move rfl) rfl ?_
        clear H a; intro a H
        refine n_q H (q_add rfl rfl (by constructor <;> omega)) rfl ?_
        clear H a; intro a H
        refine n_q H (q_assign rfl) rfl ?_
        clear H a; intro a H
        refine n_nil ?_
        refine then_normal ?_
        exact round (i + 1) H ⟨rfl, rfl, rfl, trivial⟩ ⟨by omega, by rw [take_snoc hx1, take_snoc hx2]; exact samePages_snoc htk hxy.1 hxy.2, hY10⟩ (by first | omega | (dsimp only; omega))
    · (try simp only [decide_eq_true_eq, decide_eq_false_iff_not, Bool.and_eq_true, Bool.or_eq_true, Bool.and_eq_false_iff, Bool.or_eq_false_iff, beq_iff_eq, bne_iff_ne, beq_eq_false_iff_ne, bne_eq_false_iff_eq, ne_eq, Bool.not_eq_true', Bool.not_eq_false', Int.not_lt, Int.not_le, Bool.not_eq_true, Bool.not_eq_false] at hc23)
      rw [List.take_of_length_le (by omega), List.take_of_length_le (by omega)] at htk
      refine wp_exit ?_
      refine then_exit ?_
      refine then_exit ?_
      refine block_exit ?_
      refine then_normal ?_
      refine wp_seq ?_
      refine wp_region_lit ?_
      refine n_q H (q_assign rfl) rfl ?_
      clear H a; intro a H
      refine n_nil ?_
      refine then_normal ?_
      refine wp_ret ?_
      refine ret1 H (.inr rfl) rfl rfl ?_
      exact ⟨congrArg Value.bool (by simp [alikesM, hrst, htk]), hX⟩

end Go.Proofs.Ytfoijpfmjmjjpaa
