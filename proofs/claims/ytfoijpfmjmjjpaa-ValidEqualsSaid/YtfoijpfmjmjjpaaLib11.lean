/- slices.Equal at the types of a state (written by wip/tools) -/
import Derived.Test.YtfoijpfmjmjjpaaModel
import Derived.Test.YtfoijpfmjmjjpaaChecked
set_option linter.unusedVariables false
set_option linter.unusedSimpArgs false
set_option maxRecDepth 10000
namespace Go.Proofs.Ytfoijpfmjmjjpaa
open Go Go.RowKit
theorem ag3 : aggB Try.prog 3 = some false := by kernel_rfl
theorem ag38 : aggB Try.prog 38 = some true := by kernel_rfl
theorem ag4 : aggB Try.prog 4 = some false := by kernel_rfl
theorem ag40 : aggB Try.prog 40 = some true := by kernel_rfl
theorem ag49 : aggB Try.prog 49 = some false := by kernel_rfl
theorem ag5 : aggB Try.prog 5 = some false := by kernel_rfl
theorem ag50 : aggB Try.prog 50 = some true := by kernel_rfl
theorem ag52 : aggB Try.prog 52 = some true := by kernel_rfl
theorem ag63 : aggB Try.prog 63 = some true := by kernel_rfl
theorem ag9 : aggB Try.prog 9 = some false := by kernel_rfl
theorem st40 : structB Try.prog 40 = some [(3, 0), (4, 1), (38, 2)] := by kernel_rfl
theorem st52 : structB Try.prog 52 = some [(50, 0), (49, 16), (3, 17), (3, 18), (3, 19), (3, 20)] := by kernel_rfl
theorem st63 : structB Try.prog 63 = some [(3, 0), (3, 1)] := by kernel_rfl
theorem sz3 : sizeB Try.prog 3 = some 1 := by kernel_rfl
theorem sz38 : sizeB Try.prog 38 = some 64 := by kernel_rfl
theorem sz4 : sizeB Try.prog 4 = some 1 := by kernel_rfl
theorem sz40 : sizeB Try.prog 40 = some 66 := by kernel_rfl
theorem sz49 : sizeB Try.prog 49 = some 1 := by kernel_rfl
theorem sz5 : sizeB Try.prog 5 = some 1 := by kernel_rfl
theorem sz50 : sizeB Try.prog 50 = some 16 := by kernel_rfl
theorem sz52 : sizeB Try.prog 52 = some 21 := by kernel_rfl
theorem sz63 : sizeB Try.prog 63 = some 2 := by kernel_rfl
theorem sz9 : sizeB Try.prog 9 = some 1 := by kernel_rfl

theorem equal_int {w : World} {v1 v2 : Value} {xs ys : List Int} (h1 : SlR w 1 (Flat eI) v1 xs) (h2 : SlR w 1 (Flat eI) v2 ys) :
    Calls Try.prog 25 [v1, v2].toArray w (Ret fun u w' => u = .bool (decide (xs = ys)) ∧ Ext w w') := by
  obtain ⟨A1, c1, rfl, hl1, hm1, hn1⟩ := h1.form
  obtain ⟨A2, c2, rfl, hl2, hm2, hn2⟩ := h2.form
  refine enter Try.func25 rfl rfl rfl ?_
  intro a H
  dsimp only [enumL, Nat.zero_add, Nat.reduceAdd] at H
  refine wp_seq ?_
  refine wp_region_lit ?_
  refine n_q H (q_assign rfl) rfl ?_
  clear H a; intro a H
  refine n_nil ?_
  refine then_normal ?_
  refine wp_seq ?_
  refine wp_seq ?_
  refine wp_region_lit ?_
  refine n_q H (q_move rfl) rfl ?_
  clear H a; intro a H
  refine n_q H (q_lenSl Try.underlying23 rfl) rfl ?_
  clear H a; intro a H
  refine n_q H (q_move rfl) rfl ?_
  clear H a; intro a H
  refine n_q H (q_lenSl Try.underlying23 rfl) rfl ?_
  clear H a; intro a H
  refine n_q H (q_neq rfl rfl) rfl ?_
  clear H a; intro a H
  refine n_nil ?_
  refine then_normal ?_
  refine c_cond H rfl (fun hc10 => ?_) (fun hc10 => ?_)
  · (try simp only [decide_eq_true_eq, decide_eq_false_iff_not, Bool.and_eq_true, Bool.or_eq_true, Bool.and_eq_false_iff, Bool.or_eq_false_iff, beq_iff_eq, bne_iff_ne, beq_eq_false_iff_ne, bne_eq_false_iff_eq, ne_eq, Bool.not_eq_true', Bool.not_eq_false', Int.not_lt, Int.not_le, Bool.not_eq_true, Bool.not_eq_false] at hc10)
    refine wp_seq ?_
    refine wp_region_lit ?_
    refine n_q H (q_assign rfl) rfl ?_
    clear H a; intro a H
    refine n_nil ?_
    refine then_normal ?_
    refine wp_ret ?_
    refine then_ret ?_
    refine ret1 H (.inr rfl) rfl rfl ?_
    exact ⟨by rw [decide_eq_false]; intro e; rw [e] at hc10; exact hc10 rfl, Ext.rfl'⟩
  · (try simp only [decide_eq_true_eq, decide_eq_false_iff_not, Bool.and_eq_true, Bool.or_eq_true, Bool.and_eq_false_iff, Bool.or_eq_false_iff, beq_iff_eq, bne_iff_ne, beq_eq_false_iff_ne, bne_eq_false_iff_eq, ne_eq, Bool.not_eq_true', Bool.not_eq_false', Int.not_lt, Int.not_le, Bool.not_eq_true, Bool.not_eq_false] at hc10)
    refine wp_skip ?_
    refine then_normal ?_
    refine wp_seq ?_
    refine wp_seq ?_
    refine wp_region_lit ?_
    refine n_q H (q_move rfl) rfl ?_
    clear H a; intro a H
    refine n_q H (q_lenSl Try.underlying23 rfl) rfl ?_
    clear H a; intro a H
    refine n_q H (q_move rfl) rfl ?_
    clear H a; intro a H
    refine n_nil ?_
    refine then_normal ?_
    refine wp_block ?_
    refine c_loop (σ := Nat) (fun i => [(0, .slice A1 xs.length c1), (1, .slice A2 ys.length c2), (12, .int .i64 (xs.length : Nat)), (13, .int .i64 (i : Nat))]) (fun i wl => i ≤ xs.length ∧ xs.take i = ys.take i ∧ Ext w wl) (fun i => xs.length - i) 0 H ⟨rfl, rfl, rfl, rfl, trivial⟩ ⟨Nat.zero_le _, by simp, Ext.rfl'⟩ ?_
    clear H; clear a; intro i a w1 H hR
    simp only [ent, List.map_cons, List.map_nil] at H
    try dsimp only at hR
    obtain ⟨hi, htk, hE2⟩ := hR
    have hX := hE2
    have hY3 := hE2
    refine wp_seq ?_
    refine wp_region_lit ?_
    refine n_q H (q_lss rfl rfl) rfl ?_
    clear H a; intro a H
    refine n_nil ?_
    refine then_normal ?_
    refine wp_seq ?_
    refine c_cond H rfl (fun hc14 => ?_) (fun hc14 => ?_)
    · (try simp only [decide_eq_true_eq, decide_eq_false_iff_not, Bool.and_eq_true, Bool.or_eq_true, Bool.and_eq_false_iff, Bool.or_eq_false_iff, beq_iff_eq, bne_iff_ne, beq_eq_false_iff_ne, bne_eq_false_iff_eq, ne_eq, Bool.not_eq_true', Bool.not_eq_false', Int.not_lt, Int.not_le, Bool.not_eq_true, Bool.not_eq_false] at hc14)
      have hi1 : i < xs.length := by omega
      have hi2 : i < ys.length := by omega
      obtain ⟨x, hx1⟩ := h1.at hi1
      obtain ⟨y, hx2⟩ := h2.at hi2
      obtain ⟨ad1, rfl⟩ := h1.addr hi1
      obtain ⟨ad2, rfl⟩ := h2.addr hi2
      refine wp_skip ?_
      refine then_normal ?_
      refine wp_seq ?_
      refine wp_block ?_
      refine wp_seq ?_
      refine wp_region_lit ?_
      refine n_q H (q_move rfl) rfl ?_
      clear H a; intro a H
      refine n_q H (q_assign rfl) rfl ?_
      clear H a; intro a H
      refine n_nil ?_
      refine then_normal ?_
      refine wp_seq ?_
      refine c_quiet (by kernel_rfl) (by kernel_rfl) ?_
      refine qq_q H (q_move rfl) rfl ?_
      clear H a; intro a H
      refine qq_q H (q_move rfl) rfl ?_
      clear H a; intro a H
      refine qq_q H (q_indexAddr Try.underlying23 sz3 rfl rfl (by omega) (by omega)) rfl ?_
      clear H a; intro a H
      refine qq_q H (q_load rfl (LdX.ext (h1.ldOne ag3 hx1 rfl) hX)) rfl ?_
      clear H a; intro a H
      refine qq_q H (q_move rfl) rfl ?_
      clear H a; intro a H
      refine qq_q H (q_move rfl) rfl ?_
      clear H a; intro a H
      refine qq_q H (q_indexAddr Try.underlying23 sz3 rfl rfl (by omega) (by omega)) rfl ?_
      clear H a; intro a H
      refine qq_q H (q_load rfl (LdX.ext (h2.ldOne ag3 hx2 rfl) hX)) rfl ?_
      clear H a; intro a H
      refine qq_q H (q_neq rfl rfl) rfl ?_
      clear H a; intro a H
      refine qq_nil ?_
      intro w4 hE5
      replace hX := Ext.trans' hX hE5
      replace hY3 := Ext.trans' hY3 hE5
      refine then_normal ?_
      refine c_cond H rfl (fun hc24 => ?_) (fun hc24 => ?_)
      · (try simp only [decide_eq_true_eq, decide_eq_false_iff_not, Bool.and_eq_true, Bool.or_eq_true, Bool.and_eq_false_iff, Bool.or_eq_false_iff, beq_iff_eq, bne_iff_ne, beq_eq_false_iff_ne, bne_eq_false_iff_eq, ne_eq, Bool.not_eq_true', Bool.not_eq_false', Int.not_lt, Int.not_le, Bool.not_eq_true, Bool.not_eq_false] at hc24)
        have hxy : x ≠ y := by simpa using hc24
        refine wp_seq ?_
        refine wp_region_lit ?_
        refine n_q H (q_assign rfl) rfl ?_
        clear H a; intro a H
        refine n_nil ?_
        refine then_normal ?_
        refine wp_ret ?_
        refine block_ret ?_
        refine then_ret ?_
        refine then_ret ?_
        refine block_ret ?_
        refine then_ret ?_
        refine ret1 H (.inr rfl) rfl rfl ?_
        exact ⟨by rw [decide_eq_false]; intro e; rw [e, hx2] at hx1; exact hxy (Option.some.inj hx1).symm, hX⟩
      · (try simp only [decide_eq_true_eq, decide_eq_false_iff_not, Bool.and_eq_true, Bool.or_eq_true, Bool.and_eq_false_iff, Bool.or_eq_false_iff, beq_iff_eq, bne_iff_ne, beq_eq_false_iff_ne, bne_eq_false_iff_eq, ne_eq, Bool.not_eq_true', Bool.not_eq_false', Int.not_lt, Int.not_le, Bool.not_eq_true, Bool.not_eq_false] at hc24)
        have hxy : x = y := by simpa using hc24
        refine wp_skip ?_
        refine block_normal ?_
        refine then_normal ?_
        refine wp_region_lit ?_
        refine n_q H (q_add rfl rfl (by constructor <;> omega)) rfl ?_
        clear H a; intro a H
        refine n_q H (q_move rfl) rfl ?_
        clear H a; intro a H
        refine n_nil ?_
        refine then_normal ?_
        exact round (i + 1) H ⟨rfl, rfl, rfl, rfl, trivial⟩ ⟨by omega, by rw [take_snoc hx1, take_snoc hx2, htk, hxy], hX⟩ (by first | omega | (dsimp only; omega))
    · (try simp only [decide_eq_true_eq, decide_eq_false_iff_not, Bool.and_eq_true, Bool.or_eq_true, Bool.and_eq_false_iff, Bool.or_eq_false_iff, beq_iff_eq, bne_iff_ne, beq_eq_false_iff_ne, bne_eq_false_iff_eq, ne_eq, Bool.not_eq_true', Bool.not_eq_false', Int.not_lt, Int.not_le, Bool.not_eq_true, Bool.not_eq_false] at hc14)
      refine wp_exit ?_
      refine then_exit ?_
      refine then_exit ?_
      refine block_exit ?_
      refine then_normal ?_
      refine wp_seq ?_
      refine wp_region_lit ?_
      refine n_q H (q_assign rfl) rfl ?_
      clear H a; intro a H
      refine n_nil ?_
      refine then_normal ?_
      refine wp_ret ?_
      refine ret1 H (.inr rfl) rfl rfl ?_
      exact ⟨by rw [decide_eq_true]; exact eq_of_take htk (by omega) (by omega), hX⟩

theorem equal_bool {w : World} {v1 v2 : Value} {xs ys : List Bool} (h1 : SlR w 1 (Flat eF) v1 xs) (h2 : SlR w 1 (Flat eF) v2 ys) :
    Calls Try.prog 27 [v1, v2].toArray w (Ret fun u w' => u = .bool (decide (xs = ys)) ∧ Ext w w') := by
  obtain ⟨A1, c1, rfl, hl1, hm1, hn1⟩ := h1.form
  obtain ⟨A2, c2, rfl, hl2, hm2, hn2⟩ := h2.form
  refine enter Try.func27 rfl rfl rfl ?_
  intro a H
  dsimp only [enumL, Nat.zero_add, Nat.reduceAdd] at H
  refine wp_seq ?_
  refine wp_region_lit ?_
  refine n_q H (q_assign rfl) rfl ?_
  clear H a; intro a H
  refine n_nil ?_
  refine then_normal ?_
  refine wp_seq ?_
  refine wp_seq ?_
  refine wp_region_lit ?_
  refine n_q H (q_move rfl) rfl ?_
  clear H a; intro a H
  refine n_q H (q_lenSl Try.underlying25 rfl) rfl ?_
  clear H a; intro a H
  refine n_q H (q_move rfl) rfl ?_
  clear H a; intro a H
  refine n_q H (q_lenSl Try.underlying25 rfl) rfl ?_
  clear H a; intro a H
  refine n_q H (q_neq rfl rfl) rfl ?_
  clear H a; intro a H
  refine n_nil ?_
  refine then_normal ?_
  refine c_cond H rfl (fun hc10 => ?_) (fun hc10 => ?_)
  · (try simp only [decide_eq_true_eq, decide_eq_false_iff_not, Bool.and_eq_true, Bool.or_eq_true, Bool.and_eq_false_iff, Bool.or_eq_false_iff, beq_iff_eq, bne_iff_ne, beq_eq_false_iff_ne, bne_eq_false_iff_eq, ne_eq, Bool.not_eq_true', Bool.not_eq_false', Int.not_lt, Int.not_le, Bool.not_eq_true, Bool.not_eq_false] at hc10)
    refine wp_seq ?_
    refine wp_region_lit ?_
    refine n_q H (q_assign rfl) rfl ?_
    clear H a; intro a H
    refine n_nil ?_
    refine then_normal ?_
    refine wp_ret ?_
    refine then_ret ?_
    refine ret1 H (.inr rfl) rfl rfl ?_
    exact ⟨by rw [decide_eq_false]; intro e; rw [e] at hc10; exact hc10 rfl, Ext.rfl'⟩
  · (try simp only [decide_eq_true_eq, decide_eq_false_iff_not, Bool.and_eq_true, Bool.or_eq_true, Bool.and_eq_false_iff, Bool.or_eq_false_iff, beq_iff_eq, bne_iff_ne, beq_eq_false_iff_ne, bne_eq_false_iff_eq, ne_eq, Bool.not_eq_true', Bool.not_eq_false', Int.not_lt, Int.not_le, Bool.not_eq_true, Bool.not_eq_false] at hc10)
    refine wp_skip ?_
    refine then_normal ?_
    refine wp_seq ?_
    refine wp_seq ?_
    refine wp_region_lit ?_
    refine n_q H (q_move rfl) rfl ?_
    clear H a; intro a H
    refine n_q H (q_lenSl Try.underlying25 rfl) rfl ?_
    clear H a; intro a H
    refine n_q H (q_move rfl) rfl ?_
    clear H a; intro a H
    refine n_nil ?_
    refine then_normal ?_
    refine wp_block ?_
    refine c_loop (σ := Nat) (fun i => [(0, .slice A1 xs.length c1), (1, .slice A2 ys.length c2), (12, .int .i64 (xs.length : Nat)), (13, .int .i64 (i : Nat))]) (fun i wl => i ≤ xs.length ∧ xs.take i = ys.take i ∧ Ext w wl) (fun i => xs.length - i) 0 H ⟨rfl, rfl, rfl, rfl, trivial⟩ ⟨Nat.zero_le _, by simp, Ext.rfl'⟩ ?_
    clear H; clear a; intro i a w1 H hR
    simp only [ent, List.map_cons, List.map_nil] at H
    try dsimp only at hR
    obtain ⟨hi, htk, hE2⟩ := hR
    have hX := hE2
    have hY3 := hE2
    refine wp_seq ?_
    refine wp_region_lit ?_
    refine n_q H (q_lss rfl rfl) rfl ?_
    clear H a; intro a H
    refine n_nil ?_
    refine then_normal ?_
    refine wp_seq ?_
    refine c_cond H rfl (fun hc14 => ?_) (fun hc14 => ?_)
    · (try simp only [decide_eq_true_eq, decide_eq_false_iff_not, Bool.and_eq_true, Bool.or_eq_true, Bool.and_eq_false_iff, Bool.or_eq_false_iff, beq_iff_eq, bne_iff_ne, beq_eq_false_iff_ne, bne_eq_false_iff_eq, ne_eq, Bool.not_eq_true', Bool.not_eq_false', Int.not_lt, Int.not_le, Bool.not_eq_true, Bool.not_eq_false] at hc14)
      have hi1 : i < xs.length := by omega
      have hi2 : i < ys.length := by omega
      obtain ⟨x, hx1⟩ := h1.at hi1
      obtain ⟨y, hx2⟩ := h2.at hi2
      obtain ⟨ad1, rfl⟩ := h1.addr hi1
      obtain ⟨ad2, rfl⟩ := h2.addr hi2
      refine wp_skip ?_
      refine then_normal ?_
      refine wp_seq ?_
      refine wp_block ?_
      refine wp_seq ?_
      refine wp_region_lit ?_
      refine n_q H (q_move rfl) rfl ?_
      clear H a; intro a H
      refine n_q H (q_assign rfl) rfl ?_
      clear H a; intro a H
      refine n_nil ?_
      refine then_normal ?_
      refine wp_seq ?_
      refine c_quiet (by kernel_rfl) (by kernel_rfl) ?_
      refine qq_q H (q_move rfl) rfl ?_
      clear H a; intro a H
      refine qq_q H (q_move rfl) rfl ?_
      clear H a; intro a H
      refine qq_q H (q_indexAddr Try.underlying25 sz4 rfl rfl (by omega) (by omega)) rfl ?_
      clear H a; intro a H
      refine qq_q H (q_load rfl (LdX.ext (h1.ldOne ag4 hx1 rfl) hX)) rfl ?_
      clear H a; intro a H
      refine qq_q H (q_move rfl) rfl ?_
      clear H a; intro a H
      refine qq_q H (q_move rfl) rfl ?_
      clear H a; intro a H
      refine qq_q H (q_indexAddr Try.underlying25 sz4 rfl rfl (by omega) (by omega)) rfl ?_
      clear H a; intro a H
      refine qq_q H (q_load rfl (LdX.ext (h2.ldOne ag4 hx2 rfl) hX)) rfl ?_
      clear H a; intro a H
      refine qq_q H (q_neqB Try.underlying4 rfl rfl) rfl ?_
      clear H a; intro a H
      refine qq_nil ?_
      intro w4 hE5
      replace hX := Ext.trans' hX hE5
      replace hY3 := Ext.trans' hY3 hE5
      refine then_normal ?_
      refine c_cond H rfl (fun hc24 => ?_) (fun hc24 => ?_)
      · (try simp only [decide_eq_true_eq, decide_eq_false_iff_not, Bool.and_eq_true, Bool.or_eq_true, Bool.and_eq_false_iff, Bool.or_eq_false_iff, beq_iff_eq, bne_iff_ne, beq_eq_false_iff_ne, bne_eq_false_iff_eq, ne_eq, Bool.not_eq_true', Bool.not_eq_false', Int.not_lt, Int.not_le, Bool.not_eq_true, Bool.not_eq_false] at hc24)
        have hxy : x ≠ y := by simpa using hc24
        refine wp_seq ?_
        refine wp_region_lit ?_
        refine n_q H (q_assign rfl) rfl ?_
        clear H a; intro a H
        refine n_nil ?_
        refine then_normal ?_
        refine wp_ret ?_
        refine block_ret ?_
        refine then_ret ?_
        refine then_ret ?_
        refine block_ret ?_
        refine then_ret ?_
        refine ret1 H (.inr rfl) rfl rfl ?_
        exact ⟨by rw [decide_eq_false]; intro e; rw [e, hx2] at hx1; exact hxy (Option.some.inj hx1).symm, hX⟩
      · (try simp only [decide_eq_true_eq, decide_eq_false_iff_not, Bool.and_eq_true, Bool.or_eq_true, Bool.and_eq_false_iff, Bool.or_eq_false_iff, beq_iff_eq, bne_iff_ne, beq_eq_false_iff_ne, bne_eq_false_iff_eq, ne_eq, Bool.not_eq_true', Bool.not_eq_false', Int.not_lt, Int.not_le, Bool.not_eq_true, Bool.not_eq_false] at hc24)
        have hxy : x = y := by simpa using hc24
        refine wp_skip ?_
        refine block_normal ?_
        refine then_normal ?_
        refine wp_region_lit ?_
        refine n_q H (q_add rfl rfl (by constructor <;> omega)) rfl ?_
        clear H a; intro a H
        refine n_q H (q_move rfl) rfl ?_
        clear H a; intro a H
        refine n_nil ?_
        refine then_normal ?_
        exact round (i + 1) H ⟨rfl, rfl, rfl, rfl, trivial⟩ ⟨by omega, by rw [take_snoc hx1, take_snoc hx2, htk, hxy], hX⟩ (by first | omega | (dsimp only; omega))
    · (try simp only [decide_eq_true_eq, decide_eq_false_iff_not, Bool.and_eq_true, Bool.or_eq_true, Bool.and_eq_false_iff, Bool.or_eq_false_iff, beq_iff_eq, bne_iff_ne, beq_eq_false_iff_ne, bne_eq_false_iff_eq, ne_eq, Bool.not_eq_true', Bool.not_eq_false', Int.not_lt, Int.not_le, Bool.not_eq_true, Bool.not_eq_false] at hc14)
      refine wp_exit ?_
      refine then_exit ?_
      refine then_exit ?_
      refine block_exit ?_
      refine then_normal ?_
      refine wp_seq ?_
      refine wp_region_lit ?_
      refine n_q H (q_assign rfl) rfl ?_
      clear H a; intro a H
      refine n_nil ?_
      refine then_normal ?_
      refine wp_ret ?_
      refine ret1 H (.inr rfl) rfl rfl ?_
      exact ⟨by rw [decide_eq_true]; exact eq_of_take htk (by omega) (by omega), hX⟩

theorem equal_string {w : World} {v1 v2 : Value} {xs ys : List ByteArray} (h1 : SlR w 1 (Flat eS) v1 xs) (h2 : SlR w 1 (Flat eS) v2 ys) :
    Calls Try.prog 30 [v1, v2].toArray w (Ret fun u w' => u = .bool (decide (xs = ys)) ∧ Ext w w') := by
  obtain ⟨A1, c1, rfl, hl1, hm1, hn1⟩ := h1.form
  obtain ⟨A2, c2, rfl, hl2, hm2, hn2⟩ := h2.form
  refine enter Try.func30 rfl rfl rfl ?_
  intro a H
  dsimp only [enumL, Nat.zero_add, Nat.reduceAdd] at H
  refine wp_seq ?_
  refine wp_region_lit ?_
  refine n_q H (q_assign rfl) rfl ?_
  clear H a; intro a H
  refine n_nil ?_
  refine then_normal ?_
  refine wp_seq ?_
  refine wp_seq ?_
  refine wp_region_lit ?_
  refine n_q H (q_move rfl) rfl ?_
  clear H a; intro a H
  refine n_q H (q_lenSl Try.underlying53 rfl) rfl ?_
  clear H a; intro a H
  refine n_q H (q_move rfl) rfl ?_
  clear H a; intro a H
  refine n_q H (q_lenSl Try.underlying53 rfl) rfl ?_
  clear H a; intro a H
  refine n_q H (q_neq rfl rfl) rfl ?_
  clear H a; intro a H
  refine n_nil ?_
  refine then_normal ?_
  refine c_cond H rfl (fun hc10 => ?_) (fun hc10 => ?_)
  · (try simp only [decide_eq_true_eq, decide_eq_false_iff_not, Bool.and_eq_true, Bool.or_eq_true, Bool.and_eq_false_iff, Bool.or_eq_false_iff, beq_iff_eq, bne_iff_ne, beq_eq_false_iff_ne, bne_eq_false_iff_eq, ne_eq, Bool.not_eq_true', Bool.not_eq_false', Int.not_lt, Int.not_le, Bool.not_eq_true, Bool.not_eq_false] at hc10)
    refine wp_seq ?_
    refine wp_region_lit ?_
    refine n_q H (q_assign rfl) rfl ?_
    clear H a; intro a H
    refine n_nil ?_
    refine then_normal ?_
    refine wp_ret ?_
    refine then_ret ?_
    refine ret1 H (.inr rfl) rfl rfl ?_
    exact ⟨by rw [decide_eq_false]; intro e; rw [e] at hc10; exact hc10 rfl, Ext.rfl'⟩
  · (try simp only [decide_eq_true_eq, decide_eq_false_iff_not, Bool.and_eq_true, Bool.or_eq_true, Bool.and_eq_false_iff, Bool.or_eq_false_iff, beq_iff_eq, bne_iff_ne, beq_eq_false_iff_ne, bne_eq_false_iff_eq, ne_eq, Bool.not_eq_true', Bool.not_eq_false', Int.not_lt, Int.not_le, Bool.not_eq_true, Bool.not_eq_false] at hc10)
    refine wp_skip ?_
    refine then_normal ?_
    refine wp_seq ?_
    refine wp_seq ?_
    refine wp_region_lit ?_
    refine n_q H (q_move rfl) rfl ?_
    clear H a; intro a H
    refine n_q H (q_lenSl Try.underlying53 rfl) rfl ?_
    clear H a; intro a H
    refine n_q H (q_move rfl) rfl ?_
    clear H a; intro a H
    refine n_nil ?_
    refine then_normal ?_
    refine wp_block ?_
    refine c_loop (σ := Nat) (fun i => [(0, .slice A1 xs.length c1), (1, .slice A2 ys.length c2), (12, .int .i64 (xs.length : Nat)), (13, .int .i64 (i : Nat))]) (fun i wl => i ≤ xs.length ∧ xs.take i = ys.take i ∧ Ext w wl) (fun i => xs.length - i) 0 H ⟨rfl, rfl, rfl, rfl, trivial⟩ ⟨Nat.zero_le _, by simp, Ext.rfl'⟩ ?_
    clear H; clear a; intro i a w1 H hR
    simp only [ent, List.map_cons, List.map_nil] at H
    try dsimp only at hR
    obtain ⟨hi, htk, hE2⟩ := hR
    have hX := hE2
    have hY3 := hE2
    refine wp_seq ?_
    refine wp_region_lit ?_
    refine n_q H (q_lss rfl rfl) rfl ?_
    clear H a; intro a H
    refine n_nil ?_
    refine then_normal ?_
    refine wp_seq ?_
    refine c_cond H rfl (fun hc14 => ?_) (fun hc14 => ?_)
    · (try simp only [decide_eq_true_eq, decide_eq_false_iff_not, Bool.and_eq_true, Bool.or_eq_true, Bool.and_eq_false_iff, Bool.or_eq_false_iff, beq_iff_eq, bne_iff_ne, beq_eq_false_iff_ne, bne_eq_false_iff_eq, ne_eq, Bool.not_eq_true', Bool.not_eq_false', Int.not_lt, Int.not_le, Bool.not_eq_true, Bool.not_eq_false] at hc14)
      have hi1 : i < xs.length := by omega
      have hi2 : i < ys.length := by omega
      obtain ⟨x, hx1⟩ := h1.at hi1
      obtain ⟨y, hx2⟩ := h2.at hi2
      obtain ⟨ad1, rfl⟩ := h1.addr hi1
      obtain ⟨ad2, rfl⟩ := h2.addr hi2
      refine wp_skip ?_
      refine then_normal ?_
      refine wp_seq ?_
      refine wp_block ?_
      refine wp_seq ?_
      refine wp_region_lit ?_
      refine n_q H (q_move rfl) rfl ?_
      clear H a; intro a H
      refine n_q H (q_assign rfl) rfl ?_
      clear H a; intro a H
      refine n_nil ?_
      refine then_normal ?_
      refine wp_seq ?_
      refine c_quiet (by kernel_rfl) (by kernel_rfl) ?_
      refine qq_q H (q_move rfl) rfl ?_
      clear H a; intro a H
      refine qq_q H (q_move rfl) rfl ?_
      clear H a; intro a H
      refine qq_q H (q_indexAddr Try.underlying53 sz9 rfl rfl (by omega) (by omega)) rfl ?_
      clear H a; intro a H
      refine qq_q H (q_load rfl (LdX.ext (h1.ldOne ag9 hx1 rfl) hX)) rfl ?_
      clear H a; intro a H
      refine qq_q H (q_move rfl) rfl ?_
      clear H a; intro a H
      refine qq_q H (q_move rfl) rfl ?_
      clear H a; intro a H
      refine qq_q H (q_indexAddr Try.underlying53 sz9 rfl rfl (by omega) (by omega)) rfl ?_
      clear H a; intro a H
      refine qq_q H (q_load rfl (LdX.ext (h2.ldOne ag9 hx2 rfl) hX)) rfl ?_
      clear H a; intro a H
      refine qq_q H (q_neqS rfl rfl) rfl ?_
      clear H a; intro a H
      refine qq_nil ?_
      intro w4 hE5
      replace hX := Ext.trans' hX hE5
      replace hY3 := Ext.trans' hY3 hE5
      refine then_normal ?_
      refine c_cond H rfl (fun hc24 => ?_) (fun hc24 => ?_)
      · (try simp only [decide_eq_true_eq, decide_eq_false_iff_not, Bool.and_eq_true, Bool.or_eq_true, Bool.and_eq_false_iff, Bool.or_eq_false_iff, beq_iff_eq, bne_iff_ne, beq_eq_false_iff_ne, bne_eq_false_iff_eq, ne_eq, Bool.not_eq_true', Bool.not_eq_false', Int.not_lt, Int.not_le, Bool.not_eq_true, Bool.not_eq_false] at hc24)
        have hxy : x ≠ y := by simpa using hc24
        refine wp_seq ?_
        refine wp_region_lit ?_
        refine n_q H (q_assign rfl) rfl ?_
        clear H a; intro a H
        refine n_nil ?_
        refine then_normal ?_
        refine wp_ret ?_
        refine block_ret ?_
        refine then_ret ?_
        refine then_ret ?_
        refine block_ret ?_
        refine then_ret ?_
        refine ret1 H (.inr rfl) rfl rfl ?_
        exact ⟨by rw [decide_eq_false]; intro e; rw [e, hx2] at hx1; exact hxy (Option.some.inj hx1).symm, hX⟩
      · (try simp only [decide_eq_true_eq, decide_eq_false_iff_not, Bool.and_eq_true, Bool.or_eq_true, Bool.and_eq_false_iff, Bool.or_eq_false_iff, beq_iff_eq, bne_iff_ne, beq_eq_false_iff_ne, bne_eq_false_iff_eq, ne_eq, Bool.not_eq_true', Bool.not_eq_false', Int.not_lt, Int.not_le, Bool.not_eq_true, Bool.not_eq_false] at hc24)
        have hxy : x = y := by simpa using hc24
        refine wp_skip ?_
        refine block_normal ?_
        refine then_normal ?_
        refine wp_region_lit ?_
        refine n_q H (q_add rfl rfl (by constructor <;> omega)) rfl ?_
        clear H a; intro a H
        refine n_q H (q_move rfl) rfl ?_
        clear H a; intro a H
        refine n_nil ?_
        refine then_normal ?_
        exact round (i + 1) H ⟨rfl, rfl, rfl, rfl, trivial⟩ ⟨by omega, by rw [take_snoc hx1, take_snoc hx2, htk, hxy], hX⟩ (by first | omega | (dsimp only; omega))
    · (try simp only [decide_eq_true_eq, decide_eq_false_iff_not, Bool.and_eq_true, Bool.or_eq_true, Bool.and_eq_false_iff, Bool.or_eq_false_iff, beq_iff_eq, bne_iff_ne, beq_eq_false_iff_ne, bne_eq_false_iff_eq, ne_eq, Bool.not_eq_true', Bool.not_eq_false', Int.not_lt, Int.not_le, Bool.not_eq_true, Bool.not_eq_false] at hc14)
      refine wp_exit ?_
      refine then_exit ?_
      refine then_exit ?_
      refine block_exit ?_
      refine then_normal ?_
      refine wp_seq ?_
      refine wp_region_lit ?_
      refine n_q H (q_assign rfl) rfl ?_
      clear H a; intro a H
      refine n_nil ?_
      refine then_normal ?_
      refine wp_ret ?_
      refine ret1 H (.inr rfl) rfl rfl ?_
      exact ⟨by rw [decide_eq_true]; exact eq_of_take htk (by omega) (by omega), hX⟩

theorem equal_timer {w : World} {v1 v2 : Value} {xs ys : List TimerM} (h1 : SlR w 2 (Flat eTimer) v1 xs) (h2 : SlR w 2 (Flat eTimer) v2 ys) :
    Calls Try.prog 26 [v1, v2].toArray w (Ret fun u w' => u = .bool (decide (xs = ys)) ∧ Ext w w') := by
  obtain ⟨A1, c1, rfl, hl1, hm1, hn1⟩ := h1.form
  obtain ⟨A2, c2, rfl, hl2, hm2, hn2⟩ := h2.form
  refine enter Try.func26 rfl rfl rfl ?_
  intro a H
  dsimp only [enumL, Nat.zero_add, Nat.reduceAdd] at H
  refine wp_seq ?_
  refine wp_region_lit ?_
  refine n_q H (q_assign rfl) rfl ?_
  clear H a; intro a H
  refine n_nil ?_
  refine then_normal ?_
  refine wp_seq ?_
  refine wp_seq ?_
  refine wp_region_lit ?_
  refine n_q H (q_move rfl) rfl ?_
  clear H a; intro a H
  refine n_q H (q_lenSl Try.underlying24 rfl) rfl ?_
  clear H a; intro a H
  refine n_q H (q_move rfl) rfl ?_
  clear H a; intro a H
  refine n_q H (q_lenSl Try.underlying24 rfl) rfl ?_
  clear H a; intro a H
  refine n_q H (q_neq rfl rfl) rfl ?_
  clear H a; intro a H
  refine n_nil ?_
  refine then_normal ?_
  refine c_cond H rfl (fun hc10 => ?_) (fun hc10 => ?_)
  · (try simp only [decide_eq_true_eq, decide_eq_false_iff_not, Bool.and_eq_true, Bool.or_eq_true, Bool.and_eq_false_iff, Bool.or_eq_false_iff, beq_iff_eq, bne_iff_ne, beq_eq_false_iff_ne, bne_eq_false_iff_eq, ne_eq, Bool.not_eq_true', Bool.not_eq_false', Int.not_lt, Int.not_le, Bool.not_eq_true, Bool.not_eq_false] at hc10)
    refine wp_seq ?_
    refine wp_region_lit ?_
    refine n_q H (q_assign rfl) rfl ?_
    clear H a; intro a H
    refine n_nil ?_
    refine then_normal ?_
    refine wp_ret ?_
    refine then_ret ?_
    refine ret1 H (.inr rfl) rfl rfl ?_
    exact ⟨by rw [decide_eq_false]; intro e; rw [e] at hc10; exact hc10 rfl, Ext.rfl'⟩
  · (try simp only [decide_eq_true_eq, decide_eq_false_iff_not, Bool.and_eq_true, Bool.or_eq_true, Bool.and_eq_false_iff, Bool.or_eq_false_iff, beq_iff_eq, bne_iff_ne, beq_eq_false_iff_ne, bne_eq_false_iff_eq, ne_eq, Bool.not_eq_true', Bool.not_eq_false', Int.not_lt, Int.not_le, Bool.not_eq_true, Bool.not_eq_false] at hc10)
    refine wp_skip ?_
    refine then_normal ?_
    refine wp_seq ?_
    refine wp_seq ?_
    refine wp_region_lit ?_
    refine n_q H (q_move rfl) rfl ?_
    clear H a; intro a H
    refine n_q H (q_lenSl Try.underlying24 rfl) rfl ?_
    clear H a; intro a H
    refine n_q H (q_move rfl) rfl ?_
    clear H a; intro a H
    refine n_nil ?_
    refine then_normal ?_
    refine wp_block ?_
    refine c_loop (σ := Nat) (fun i => [(0, .slice A1 xs.length c1), (1, .slice A2 ys.length c2), (12, .int .i64 (xs.length : Nat)), (13, .int .i64 (i : Nat))]) (fun i wl => i ≤ xs.length ∧ xs.take i = ys.take i ∧ Ext w wl) (fun i => xs.length - i) 0 H ⟨rfl, rfl, rfl, rfl, trivial⟩ ⟨Nat.zero_le _, by simp, Ext.rfl'⟩ ?_
    clear H; clear a; intro i a w1 H hR
    simp only [ent, List.map_cons, List.map_nil] at H
    try dsimp only at hR
    obtain ⟨hi, htk, hE2⟩ := hR
    have hX := hE2
    have hY3 := hE2
    refine wp_seq ?_
    refine wp_region_lit ?_
    refine n_q H (q_lss rfl rfl) rfl ?_
    clear H a; intro a H
    refine n_nil ?_
    refine then_normal ?_
    refine wp_seq ?_
    refine c_cond H rfl (fun hc14 => ?_) (fun hc14 => ?_)
    · (try simp only [decide_eq_true_eq, decide_eq_false_iff_not, Bool.and_eq_true, Bool.or_eq_true, Bool.and_eq_false_iff, Bool.or_eq_false_iff, beq_iff_eq, bne_iff_ne, beq_eq_false_iff_ne, bne_eq_false_iff_eq, ne_eq, Bool.not_eq_true', Bool.not_eq_false', Int.not_lt, Int.not_le, Bool.not_eq_true, Bool.not_eq_false] at hc14)
      have hi1 : i < xs.length := by omega
      have hi2 : i < ys.length := by omega
      obtain ⟨x, hx1⟩ := h1.at hi1
      obtain ⟨y, hx2⟩ := h2.at hi2
      obtain ⟨ad1, rfl⟩ := h1.addr hi1
      obtain ⟨ad2, rfl⟩ := h2.addr hi2
      refine wp_skip ?_
      refine then_normal ?_
      refine wp_seq ?_
      refine wp_block ?_
      refine wp_seq ?_
      refine wp_region_lit ?_
      refine n_q H (q_move rfl) rfl ?_
      clear H a; intro a H
      refine n_q H (q_assign rfl) rfl ?_
      clear H a; intro a H
      refine n_nil ?_
      refine then_normal ?_
      refine wp_seq ?_
      refine c_quiet (by kernel_rfl) (by kernel_rfl) ?_
      refine qq_q H (q_move rfl) rfl ?_
      clear H a; intro a H
      refine qq_q H (q_move rfl) rfl ?_
      clear H a; intro a H
      refine qq_q H (q_indexAddr Try.underlying24 sz63 rfl rfl (by omega) (by omega)) rfl ?_
      clear H a; intro a H
      refine qq_q H (q_load rfl (LdX.ext (h1.ldAgg ag63 sz63 hx1) hX)) rfl ?_
      clear H a; intro a H
      refine qq_q H (q_move rfl) rfl ?_
      clear H a; intro a H
      refine qq_q H (q_move rfl) rfl ?_
      clear H a; intro a H
      refine qq_q H (q_indexAddr Try.underlying24 sz63 rfl rfl (by omega) (by omega)) rfl ?_
      clear H a; intro a H
      refine qq_q H (q_load rfl (LdX.ext (h2.ldAgg ag63 sz63 hx2) hX)) rfl ?_
      clear H a; intro a H
      refine qq_q H (q_neqG (structB_guard st63) (eqIn_timer st63 Try.underlying3 ag3 x y) (by omega) rfl rfl) rfl ?_
      clear H a; intro a H
      refine qq_nil ?_
      intro w4 hE5
      replace hX := Ext.trans' hX hE5
      replace hY3 := Ext.trans' hY3 hE5
      refine then_normal ?_
      refine c_cond H rfl (fun hc24 => ?_) (fun hc24 => ?_)
      · (try simp only [decide_eq_true_eq, decide_eq_false_iff_not, Bool.and_eq_true, Bool.or_eq_true, Bool.and_eq_false_iff, Bool.or_eq_false_iff, beq_iff_eq, bne_iff_ne, beq_eq_false_iff_ne, bne_eq_false_iff_eq, ne_eq, Bool.not_eq_true', Bool.not_eq_false', Int.not_lt, Int.not_le, Bool.not_eq_true, Bool.not_eq_false] at hc24)
        have hxy : x ≠ y := by simpa using hc24
        refine wp_seq ?_
        refine wp_region_lit ?_
        refine n_q H (q_assign rfl) rfl ?_
        clear H a; intro a H
        refine n_nil ?_
        refine then_normal ?_
        refine wp_ret ?_
        refine block_ret ?_
        refine then_ret ?_
        refine then_ret ?_
        refine block_ret ?_
        refine then_ret ?_
        refine ret1 H (.inr rfl) rfl rfl ?_
        exact ⟨by rw [decide_eq_false]; intro e; rw [e, hx2] at hx1; exact hxy (Option.some.inj hx1).symm, hX⟩
      · (try simp only [decide_eq_true_eq, decide_eq_false_iff_not, Bool.and_eq_true, Bool.or_eq_true, Bool.and_eq_false_iff, Bool.or_eq_false_iff, beq_iff_eq, bne_iff_ne, beq_eq_false_iff_ne, bne_eq_false_iff_eq, ne_eq, Bool.not_eq_true', Bool.not_eq_false', Int.not_lt, Int.not_le, Bool.not_eq_true, Bool.not_eq_false] at hc24)
        have hxy : x = y := by simpa using hc24
        refine wp_skip ?_
        refine block_normal ?_
        refine then_normal ?_
        refine wp_region_lit ?_
        refine n_q H (q_add rfl rfl (by constructor <;> omega)) rfl ?_
        clear H a; intro a H
        refine n_q H (q_move rfl) rfl ?_
        clear H a; intro a H
        refine n_nil ?_
        refine then_normal ?_
        exact round (i + 1) H ⟨rfl, rfl, rfl, rfl, trivial⟩ ⟨by omega, by rw [take_snoc hx1, take_snoc hx2, htk, hxy], hX⟩ (by first | omega | (dsimp only; omega))
    · (try simp only [decide_eq_true_eq, decide_eq_false_iff_not, Bool.and_eq_true, Bool.or_eq_true, Bool.and_eq_false_iff, Bool.or_eq_false_iff, beq_iff_eq, bne_iff_ne, beq_eq_false_iff_ne, bne_eq_false_iff_eq, ne_eq, Bool.not_eq_true', Bool.not_eq_false', Int.not_lt, Int.not_le, Bool.not_eq_true, Bool.not_eq_false] at hc14)
      refine wp_exit ?_
      refine then_exit ?_
      refine then_exit ?_
      refine block_exit ?_
      refine then_normal ?_
      refine wp_seq ?_
      refine wp_region_lit ?_
      refine n_q H (q_assign rfl) rfl ?_
      clear H a; intro a H
      refine n_nil ?_
      refine then_normal ?_
      refine wp_ret ?_
      refine ret1 H (.inr rfl) rfl rfl ?_
      exact ⟨by rw [decide_eq_true]; exact eq_of_take htk (by omega) (by omega), hX⟩

theorem equal_proc {w : World} {v1 v2 : Value} {xs ys : List ProcM} (h1 : SlR w 21 (Flat eProc) v1 xs) (h2 : SlR w 21 (Flat eProc) v2 ys) :
    Calls Try.prog 24 [v1, v2].toArray w (Ret fun u w' => u = .bool (decide (xs = ys)) ∧ Ext w w') := by
  obtain ⟨A1, c1, rfl, hl1, hm1, hn1⟩ := h1.form
  obtain ⟨A2, c2, rfl, hl2, hm2, hn2⟩ := h2.form
  refine enter Try.func24 rfl rfl rfl ?_
  intro a H
  dsimp only [enumL, Nat.zero_add, Nat.reduceAdd] at H
  refine wp_seq ?_
  refine wp_region_lit ?_
  refine n_q H (q_assign rfl) rfl ?_
  clear H a; intro a H
  refine n_nil ?_
  refine then_normal ?_
  refine wp_seq ?_
  refine wp_seq ?_
  refine wp_region_lit ?_
  refine n_q H (q_move rfl) rfl ?_
  clear H a; intro a H
  refine n_q H (q_lenSl Try.underlying22 rfl) rfl ?_
  clear H a; intro a H
  refine n_q H (q_move rfl) rfl ?_
  clear H a; intro a H
  refine n_q H (q_lenSl Try.underlying22 rfl) rfl ?_
  clear H a; intro a H
  refine n_q H (q_neq rfl rfl) rfl ?_
  clear H a; intro a H
  refine n_nil ?_
  refine then_normal ?_
  refine c_cond H rfl (fun hc10 => ?_) (fun hc10 => ?_)
  · (try simp only [decide_eq_true_eq, decide_eq_false_iff_not, Bool.and_eq_true, Bool.or_eq_true, Bool.and_eq_false_iff, Bool.or_eq_false_iff, beq_iff_eq, bne_iff_ne, beq_eq_false_iff_ne, bne_eq_false_iff_eq, ne_eq, Bool.not_eq_true', Bool.not_eq_false', Int.not_lt, Int.not_le, Bool.not_eq_true, Bool.not_eq_false] at hc10)
    refine wp_seq ?_
    refine wp_region_lit ?_
    refine n_q H (q_assign rfl) rfl ?_
    clear H a; intro a H
    refine n_nil ?_
    refine then_normal ?_
    refine wp_ret ?_
    refine then_ret ?_
    refine ret1 H (.inr rfl) rfl rfl ?_
    exact ⟨by rw [decide_eq_false]; intro e; rw [e] at hc10; exact hc10 rfl, Ext.rfl'⟩
  · (try simp only [decide_eq_true_eq, decide_eq_false_iff_not, Bool.and_eq_true, Bool.or_eq_true, Bool.and_eq_false_iff, Bool.or_eq_false_iff, beq_iff_eq, bne_iff_ne, beq_eq_false_iff_ne, bne_eq_false_iff_eq, ne_eq, Bool.not_eq_true', Bool.not_eq_false', Int.not_lt, Int.not_le, Bool.not_eq_true, Bool.not_eq_false] at hc10)
    refine wp_skip ?_
    refine then_normal ?_
    refine wp_seq ?_
    refine wp_seq ?_
    refine wp_region_lit ?_
    refine n_q H (q_move rfl) rfl ?_
    clear H a; intro a H
    refine n_q H (q_lenSl Try.underlying22 rfl) rfl ?_
    clear H a; intro a H
    refine n_q H (q_move rfl) rfl ?_
    clear H a; intro a H
    refine n_nil ?_
    refine then_normal ?_
    refine wp_block ?_
    refine c_loop (σ := Nat) (fun i => [(0, .slice A1 xs.length c1), (1, .slice A2 ys.length c2), (12, .int .i64 (xs.length : Nat)), (13, .int .i64 (i : Nat))]) (fun i wl => i ≤ xs.length ∧ xs.take i = ys.take i ∧ Ext w wl) (fun i => xs.length - i) 0 H ⟨rfl, rfl, rfl, rfl, trivial⟩ ⟨Nat.zero_le _, by simp, Ext.rfl'⟩ ?_
    clear H; clear a; intro i a w1 H hR
    simp only [ent, List.map_cons, List.map_nil] at H
    try dsimp only at hR
    obtain ⟨hi, htk, hE2⟩ := hR
    have hX := hE2
    have hY3 := hE2
    refine wp_seq ?_
    refine wp_region_lit ?_
    refine n_q H (q_lss rfl rfl) rfl ?_
    clear H a; intro a H
    refine n_nil ?_
    refine then_normal ?_
    refine wp_seq ?_
    refine c_cond H rfl (fun hc14 => ?_) (fun hc14 => ?_)
    · (try simp only [decide_eq_true_eq, decide_eq_false_iff_not, Bool.and_eq_true, Bool.or_eq_true, Bool.and_eq_false_iff, Bool.or_eq_false_iff, beq_iff_eq, bne_iff_ne, beq_eq_false_iff_ne, bne_eq_false_iff_eq, ne_eq, Bool.not_eq_true', Bool.not_eq_false', Int.not_lt, Int.not_le, Bool.not_eq_true, Bool.not_eq_false] at hc14)
      have hi1 : i < xs.length := by omega
      have hi2 : i < ys.length := by omega
      obtain ⟨x, hx1⟩ := h1.at hi1
      obtain ⟨y, hx2⟩ := h2.at hi2
      obtain ⟨ad1, rfl⟩ := h1.addr hi1
      obtain ⟨ad2, rfl⟩ := h2.addr hi2
      refine wp_skip ?_
      refine then_normal ?_
      refine wp_seq ?_
      refine wp_block ?_
      refine wp_seq ?_
      refine wp_region_lit ?_
      refine n_q H (q_move rfl) rfl ?_
      clear H a; intro a H
      refine n_q H (q_assign rfl) rfl ?_
      clear H a; intro a H
      refine n_nil ?_
      refine then_normal ?_
      refine wp_seq ?_
      refine c_quiet (by kernel_rfl) (by kernel_rfl) ?_
      refine qq_q H (q_move rfl) rfl ?_
      clear H a; intro a H
      refine qq_q H (q_move rfl) rfl ?_
      clear H a; intro a H
      refine qq_q H (q_indexAddr Try.underlying22 sz52 rfl rfl (by omega) (by omega)) rfl ?_
      clear H a; intro a H
      refine qq_q H (q_load rfl (LdX.ext (h1.ldAgg ag52 sz52 hx1) hX)) rfl ?_
      clear H a; intro a H
      refine qq_q H (q_move rfl) rfl ?_
      clear H a; intro a H
      refine qq_q H (q_move rfl) rfl ?_
      clear H a; intro a H
      refine qq_q H (q_indexAddr Try.underlying22 sz52 rfl rfl (by omega) (by omega)) rfl ?_
      clear H a; intro a H
      refine qq_q H (q_load rfl (LdX.ext (h2.ldAgg ag52 sz52 hx2) hX)) rfl ?_
      clear H a; intro a H
      refine qq_q H (q_neqG (structB_guard st52) (eqIn_proc st52 Try.underlying3 ag3 Try.underlying50 ag50 sz50 Try.underlying49 sz49 ag49 x y (h1.elen hx1) (h2.elen hx2)) (by omega) rfl rfl) rfl ?_
      clear H a; intro a H
      refine qq_nil ?_
      intro w4 hE5
      replace hX := Ext.trans' hX hE5
      replace hY3 := Ext.trans' hY3 hE5
      refine then_normal ?_
      refine c_cond H rfl (fun hc24 => ?_) (fun hc24 => ?_)
      · (try simp only [decide_eq_true_eq, decide_eq_false_iff_not, Bool.and_eq_true, Bool.or_eq_true, Bool.and_eq_false_iff, Bool.or_eq_false_iff, beq_iff_eq, bne_iff_ne, beq_eq_false_iff_ne, bne_eq_false_iff_eq, ne_eq, Bool.not_eq_true', Bool.not_eq_false', Int.not_lt, Int.not_le, Bool.not_eq_true, Bool.not_eq_false] at hc24)
        have hxy : x ≠ y := by simpa using hc24
        refine wp_seq ?_
        refine wp_region_lit ?_
        refine n_q H (q_assign rfl) rfl ?_
        clear H a; intro a H
        refine n_nil ?_
        refine then_normal ?_
        refine wp_ret ?_
        refine block_ret ?_
        refine then_ret ?_
        refine then_ret ?_
        refine block_ret ?_
        refine then_ret ?_
        refine ret1 H (.inr rfl) rfl rfl ?_
        exact ⟨by rw [decide_eq_false]; intro e; rw [e, hx2] at hx1; exact hxy (Option.some.inj hx1).symm, hX⟩
      · (try simp only [decide_eq_true_eq, decide_eq_false_iff_not, Bool.and_eq_true, Bool.or_eq_true, Bool.and_eq_false_iff, Bool.or_eq_false_iff, beq_iff_eq, bne_iff_ne, beq_eq_false_iff_ne, bne_eq_false_iff_eq, ne_eq, Bool.not_eq_true', Bool.not_eq_false', Int.not_lt, Int.not_le, Bool.not_eq_true, Bool.not_eq_false] at hc24)
        have hxy : x = y := by simpa using hc24
        refine wp_skip ?_
        refine block_normal ?_
        refine then_normal ?_
        refine wp_region_lit ?_
        refine n_q H (q_add rfl rfl (by constructor <;> omega)) rfl ?_
        clear H a; intro a H
        refine n_q H (q_move rfl) rfl ?_
        clear H a; intro a H
        refine n_nil ?_
        refine then_normal ?_
        exact round (i + 1) H ⟨rfl, rfl, rfl, rfl, trivial⟩ ⟨by omega, by rw [take_snoc hx1, take_snoc hx2, htk, hxy], hX⟩ (by first | omega | (dsimp only; omega))
    · (try simp only [decide_eq_true_eq, decide_eq_false_iff_not, Bool.and_eq_true, Bool.or_eq_true, Bool.and_eq_false_iff, Bool.or_eq_false_iff, beq_iff_eq, bne_iff_ne, beq_eq_false_iff_ne, bne_eq_false_iff_eq, ne_eq, Bool.not_eq_true', Bool.not_eq_false', Int.not_lt, Int.not_le, Bool.not_eq_true, Bool.not_eq_false] at hc14)
      refine wp_exit ?_
      refine then_exit ?_
      refine then_exit ?_
      refine block_exit ?_
      refine then_normal ?_
      refine wp_seq ?_
      refine wp_region_lit ?_
      refine n_q H (q_assign rfl) rfl ?_
      clear H a; intro a H
      refine n_nil ?_
      refine then_normal ?_
      refine wp_ret ?_
      refine ret1 H (.inr rfl) rfl rfl ?_
      exact ⟨by rw [decide_eq_true]; exact eq_of_take htk (by omega) (by omega), hX⟩

theorem equal_page {w : World} {v1 v2 : Value} {xs ys : List PageM} (h1 : SlR w 66 (Flat ePage) v1 xs) (h2 : SlR w 66 (Flat ePage) v2 ys) :
    Calls Try.prog 13 [v1, v2].toArray w (Ret fun u w' => u = .bool (decide (xs = ys)) ∧ Ext w w') := by
  obtain ⟨A1, c1, rfl, hl1, hm1, hn1⟩ := h1.form
  obtain ⟨A2, c2, rfl, hl2, hm2, hn2⟩ := h2.form
  refine enter Try.func13 rfl rfl rfl ?_
  intro a H
  dsimp only [enumL, Nat.zero_add, Nat.reduceAdd] at H
  refine wp_seq ?_
  refine wp_region_lit ?_
  refine n_q H (q_assign rfl) rfl ?_
  clear H a; intro a H
  refine n_nil ?_
  refine then_normal ?_
  refine wp_seq ?_
  refine wp_seq ?_
  refine wp_region_lit ?_
  refine n_q H (q_move rfl) rfl ?_
  clear H a; intro a H
  refine n_q H (q_lenSl Try.underlying27 rfl) rfl ?_
  clear H a; intro a H
  refine n_q H (q_move rfl) rfl ?_
  clear H a; intro a H
  refine n_q H (q_lenSl Try.underlying27 rfl) rfl ?_
  clear H a; intro a H
  refine n_q H (q_neq rfl rfl) rfl ?_
  clear H a; intro a H
  refine n_nil ?_
  refine then_normal ?_
  refine c_cond H rfl (fun hc10 => ?_) (fun hc10 => ?_)
  · (try simp only [decide_eq_true_eq, decide_eq_false_iff_not, Bool.and_eq_true, Bool.or_eq_true, Bool.and_eq_false_iff, Bool.or_eq_false_iff, beq_iff_eq, bne_iff_ne, beq_eq_false_iff_ne, bne_eq_false_iff_eq, ne_eq, Bool.not_eq_true', Bool.not_eq_false', Int.not_lt, Int.not_le, Bool.not_eq_true, Bool.not_eq_false] at hc10)
    refine wp_seq ?_
    refine wp_region_lit ?_
    refine n_q H (q_assign rfl) rfl ?_
    clear H a; intro a H
    refine n_nil ?_
    refine then_normal ?_
    refine wp_ret ?_
    refine then_ret ?_
    refine ret1 H (.inr rfl) rfl rfl ?_
    exact ⟨by rw [decide_eq_false]; intro e; rw [e] at hc10; exact hc10 rfl, Ext.rfl'⟩
  · (try simp only [decide_eq_true_eq, decide_eq_false_iff_not, Bool.and_eq_true, Bool.or_eq_true, Bool.and_eq_false_iff, Bool.or_eq_false_iff, beq_iff_eq, bne_iff_ne, beq_eq_false_iff_ne, bne_eq_false_iff_eq, ne_eq, Bool.not_eq_true', Bool.not_eq_false', Int.not_lt, Int.not_le, Bool.not_eq_true, Bool.not_eq_false] at hc10)
    refine wp_skip ?_
    refine then_normal ?_
    refine wp_seq ?_
    refine wp_seq ?_
    refine wp_region_lit ?_
    refine n_q H (q_move rfl) rfl ?_
    clear H a; intro a H
    refine n_q H (q_lenSl Try.underlying27 rfl) rfl ?_
    clear H a; intro a H
    refine n_q H (q_move rfl) rfl ?_
    clear H a; intro a H
    refine n_nil ?_
    refine then_normal ?_
    refine wp_block ?_
    refine c_loop (σ := Nat) (fun i => [(0, .slice A1 xs.length c1), (1, .slice A2 ys.length c2), (12, .int .i64 (xs.length : Nat)), (13, .int .i64 (i : Nat))]) (fun i wl => i ≤ xs.length ∧ xs.take i = ys.take i ∧ Ext w wl) (fun i => xs.length - i) 0 H ⟨rfl, rfl, rfl, rfl, trivial⟩ ⟨Nat.zero_le _, by simp, Ext.rfl'⟩ ?_
    clear H; clear a; intro i a w1 H hR
    simp only [ent, List.map_cons, List.map_nil] at H
    try dsimp only at hR
    obtain ⟨hi, htk, hE2⟩ := hR
    have hX := hE2
    have hY3 := hE2
    refine wp_seq ?_
    refine wp_region_lit ?_
    refine n_q H (q_lss rfl rfl) rfl ?_
    clear H a; intro a H
    refine n_nil ?_
    refine then_normal ?_
    refine wp_seq ?_
    refine c_cond H rfl (fun hc14 => ?_) (fun hc14 => ?_)
    · (try simp only [decide_eq_true_eq, decide_eq_false_iff_not, Bool.and_eq_true, Bool.or_eq_true, Bool.and_eq_false_iff, Bool.or_eq_false_iff, beq_iff_eq, bne_iff_ne, beq_eq_false_iff_ne, bne_eq_false_iff_eq, ne_eq, Bool.not_eq_true', Bool.not_eq_false', Int.not_lt, Int.not_le, Bool.not_eq_true, Bool.not_eq_false] at hc14)
      have hi1 : i < xs.length := by omega
      have hi2 : i < ys.length := by omega
      obtain ⟨x, hx1⟩ := h1.at hi1
      obtain ⟨y, hx2⟩ := h2.at hi2
      obtain ⟨ad1, rfl⟩ := h1.addr hi1
      obtain ⟨ad2, rfl⟩ := h2.addr hi2
      refine wp_skip ?_
      refine then_normal ?_
      refine wp_seq ?_
      refine wp_block ?_
      refine wp_seq ?_
      refine wp_region_lit ?_
      refine n_q H (q_move rfl) rfl ?_
      clear H a; intro a H
      refine n_q H (q_assign rfl) rfl ?_
      clear H a; intro a H
      refine n_nil ?_
      refine then_normal ?_
      refine wp_seq ?_
      refine c_quiet (by kernel_rfl) (by kernel_rfl) ?_
      refine qq_q H (q_move rfl) rfl ?_
      clear H a; intro a H
      refine qq_q H (q_move rfl) rfl ?_
      clear H a; intro a H
      refine qq_q H (q_indexAddr Try.underlying27 sz40 rfl rfl (by omega) (by omega)) rfl ?_
      clear H a; intro a H
      refine qq_q H (q_load rfl (LdX.ext (h1.ldAgg ag40 sz40 hx1) hX)) rfl ?_
      clear H a; intro a H
      refine qq_q H (q_move rfl) rfl ?_
      clear H a; intro a H
      refine qq_q H (q_move rfl) rfl ?_
      clear H a; intro a H
      refine qq_q H (q_indexAddr Try.underlying27 sz40 rfl rfl (by omega) (by omega)) rfl ?_
      clear H a; intro a H
      refine qq_q H (q_load rfl (LdX.ext (h2.ldAgg ag40 sz40 hx2) hX)) rfl ?_
      clear H a; intro a H
      refine qq_q H (q_neqG (structB_guard st40) (eqIn_page st40 Try.underlying3 ag3 Try.underlying4 ag4 Try.underlying38 ag38 sz38 Try.underlying5 sz5 ag5 x y (h1.elen hx1) (h2.elen hx2)) (by omega) rfl rfl) rfl ?_
      clear H a; intro a H
      refine qq_nil ?_
      intro w4 hE5
      replace hX := Ext.trans' hX hE5
      replace hY3 := Ext.trans' hY3 hE5
      refine then_normal ?_
      refine c_cond H rfl (fun hc24 => ?_) (fun hc24 => ?_)
      · (try simp only [decide_eq_true_eq, decide_eq_false_iff_not, Bool.and_eq_true, Bool.or_eq_true, Bool.and_eq_false_iff, Bool.or_eq_false_iff, beq_iff_eq, bne_iff_ne, beq_eq_false_iff_ne, bne_eq_false_iff_eq, ne_eq, Bool.not_eq_true', Bool.not_eq_false', Int.not_lt, Int.not_le, Bool.not_eq_true, Bool.not_eq_false] at hc24)
        have hxy : x ≠ y := by simpa using hc24
        refine wp_seq ?_
        refine wp_region_lit ?_
        refine n_q H (q_assign rfl) rfl ?_
        clear H a; intro a H
        refine n_nil ?_
        refine then_normal ?_
        refine wp_ret ?_
        refine block_ret ?_
        refine then_ret ?_
        refine then_ret ?_
        refine block_ret ?_
        refine then_ret ?_
        refine ret1 H (.inr rfl) rfl rfl ?_
        exact ⟨by rw [decide_eq_false]; intro e; rw [e, hx2] at hx1; exact hxy (Option.some.inj hx1).symm, hX⟩
      · (try simp only [decide_eq_true_eq, decide_eq_false_iff_not, Bool.and_eq_true, Bool.or_eq_true, Bool.and_eq_false_iff, Bool.or_eq_false_iff, beq_iff_eq, bne_iff_ne, beq_eq_false_iff_ne, bne_eq_false_iff_eq, ne_eq, Bool.not_eq_true', Bool.not_eq_false', Int.not_lt, Int.not_le, Bool.not_eq_true, Bool.not_eq_false] at hc24)
        have hxy : x = y := by simpa using hc24
        refine wp_skip ?_
        refine block_normal ?_
        refine then_normal ?_
        refine wp_region_lit ?_
        refine n_q H (q_add rfl rfl (by constructor <;> omega)) rfl ?_
        clear H a; intro a H
        refine n_q H (q_move rfl) rfl ?_
        clear H a; intro a H
        refine n_nil ?_
        refine then_normal ?_
        exact round (i + 1) H ⟨rfl, rfl, rfl, rfl, trivial⟩ ⟨by omega, by rw [take_snoc hx1, take_snoc hx2, htk, hxy], hX⟩ (by first | omega | (dsimp only; omega))
    · (try simp only [decide_eq_true_eq, decide_eq_false_iff_not, Bool.and_eq_true, Bool.or_eq_true, Bool.and_eq_false_iff, Bool.or_eq_false_iff, beq_iff_eq, bne_iff_ne, beq_eq_false_iff_ne, bne_eq_false_iff_eq, ne_eq, Bool.not_eq_true', Bool.not_eq_false', Int.not_lt, Int.not_le, Bool.not_eq_true, Bool.not_eq_false] at hc14)
      refine wp_exit ?_
      refine then_exit ?_
      refine then_exit ?_
      refine block_exit ?_
      refine then_normal ?_
      refine wp_seq ?_
      refine wp_region_lit ?_
      refine n_q H (q_assign rfl) rfl ?_
      clear H a; intro a H
      refine n_nil ?_
      refine then_normal ?_
      refine wp_ret ?_
      refine ret1 H (.inr rfl) rfl rfl ?_
      exact ⟨by rw [decide_eq_true]; exact eq_of_take htk (by omega) (by omega), hX⟩

end Go.Proofs.Ytfoijpfmjmjjpaa
