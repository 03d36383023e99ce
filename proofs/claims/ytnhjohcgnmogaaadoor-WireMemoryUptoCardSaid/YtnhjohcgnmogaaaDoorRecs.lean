/- Lists of records (written by wip/tools) -/
import Derived.Test.YtnhjohcgnmogaaaDoorUnhex
import Derived.Test.YtnhjohcgnmogaaaDoorRec
set_option linter.unusedVariables false
set_option linter.unusedSimpArgs false
set_option maxRecDepth 10000
namespace Go.Proofs.YtnhjohcgnmogaaaDoor
open Go Go.RowKit
theorem ag102 : aggB Tryd.prog 102 = some true := by kernel_rfl
theorem ag22 : aggB Tryd.prog 22 = some false := by kernel_rfl
theorem ag36 : aggB Tryd.prog 36 = some false := by kernel_rfl
theorem ag44 : aggB Tryd.prog 44 = some false := by kernel_rfl
theorem ag54 : aggB Tryd.prog 54 = some true := by kernel_rfl
theorem bd54 : bdB Tryd.prog 54 = true := by kernel_rfl
theorem pl54 : placesB Tryd.prog 54 = some #[(0, 1), (1, 1)] := by kernel_rfl
theorem el23 : ElemOk Tryd.prog 23 1 24 [.slice none 0 0] := ⟨by kernel_rfl, by kernel_rfl, by kernel_rfl, rfl, by decide⟩
theorem el54 : ElemOk Tryd.prog 54 2 32 [.int .i64 0, .slice none 0 0] := ⟨by kernel_rfl, by kernel_rfl, by kernel_rfl, rfl, by decide⟩
theorem en50 : entersB Tryd.prog 50 = true := by kernel_rfl
theorem en51 : entersB Tryd.prog 51 = true := by kernel_rfl
theorem en54 : entersB Tryd.prog 54 = true := by kernel_rfl
theorem fo102_0 : fOff Tryd.prog 102 0 = some 0 := by kernel_rfl
theorem fo102_1 : fOff Tryd.prog 102 1 = some 1 := by kernel_rfl
theorem fo54_0 : fOff Tryd.prog 54 0 = some 0 := by kernel_rfl
theorem fo54_1 : fOff Tryd.prog 54 1 = some 1 := by kernel_rfl
theorem sz102 : sizeB Tryd.prog 102 = some 2 := by kernel_rfl
theorem sz22 : sizeB Tryd.prog 22 = some 1 := by kernel_rfl
theorem sz36 : sizeB Tryd.prog 36 = some 1 := by kernel_rfl
theorem sz44 : sizeB Tryd.prog 44 = some 1 := by kernel_rfl
theorem sz54 : sizeB Tryd.prog 54 = some 2 := by kernel_rfl
theorem ze23 : zeroB Tryd.prog 23 = some [.slice none 0 0] := by kernel_rfl
theorem ze54 : zeroB Tryd.prog 54 = some [.int .i64 0, .slice none 0 0] := by kernel_rfl

set_option maxHeartbeats 2000000 in
theorem recs_w {w : World} {v : Value} {xs : List RecM} (h : SlR w 2 (Flat eRec) v xs) (hr : RecsIn w xs) (hz : xs.length ≤ 1048576) (hb : ∀ r ∈ xs, r.body.length ≤ 1048576) : Calls Tryd.prog 10 [v].toArray w (Ret fun u w' => ∃ ys n, n = ys.length ∧ ys.map RecM.key = xs.map RecM.key ∧ St NB w w' [ownR 54 2 u n (ys.flatMap eRec), anyR (fun w' => RecsIn w' ys)]) := by
  have hS := St.begin NB w
  obtain ⟨A0, c0, rfl, hl0, hm0, hn0⟩ := h.form
  refine enter Tryd.func10 rfl rfl rfl ?_
  intro a H
  dsimp only [enumL, Nat.zero_add, Nat.reduceAdd] at H
  refine wp_seq ?_
  refine wp_region_lit ?_
  refine n_q H (q_assign rfl) rfl ?_
  clear H a; intro a H
  refine n_nil ?_
  refine then_normal ?_
  refine wp_seq ?_
  refine wp_region_lit ?_
  refine n_q H (q_assign rfl) rfl ?_
  clear H a; intro a H
  refine n_nil ?_
  refine then_normal ?_
  refine wp_seq ?_
  refine wp_seq ?_
  refine wp_region_lit ?_
  refine n_q H (q_assign rfl) rfl ?_
  clear H a; intro a H
  refine n_nil ?_
  refine then_normal ?_
  refine wp_block ?_
  replace hS := hS.trivAny (F := fun w' => RecsIn w' []) (fun w' => RecsIn.nil w')
  replace hS := hS.nilOwn 54 2
  replace hS := hS.pick 1 rfl
  dsimp only [List.eraseIdx] at hS
  replace hS := hS.pick 1 rfl
  dsimp only [List.eraseIdx] at hS
  refine c_loop (σ := Nat × Value × List RecM) (fun (i, vb, ys) => [(0, .slice A0 xs.length c0), (3, vb), (4, .int .i64 (i : Nat))]) (fun (i, vb, ys) wl => i ≤ xs.length ∧ ys.length = i ∧ ys.map RecM.key = (xs.take i).map RecM.key ∧ St NB w wl [ownR 54 2 vb i (ys.flatMap eRec), anyR (fun w' => RecsIn w' ys)]) (fun (i, vb, ys) => xs.length - i) (0, .slice none 0 0, []) H ⟨rfl, rfl, rfl, trivial⟩ ⟨Nat.zero_le _, rfl, rfl, hS⟩ ?_
  clear H hS; clear a; intro xx a w1 H hR
  obtain ⟨i, vb, ys⟩ := xx
  simp only [ent, List.map_cons, List.map_nil] at H
  try dsimp only at hR
  obtain ⟨hi, hyl, hk, hS⟩ := hR; try clear hR
  refine wp_seq ?_
  refine wp_seq ?_
  refine wp_region_lit ?_
  refine n_q H (q_move rfl) rfl ?_
  clear H a; intro a H
  refine n_q H (q_move rfl) rfl ?_
  clear H a; intro a H
  refine n_q H (q_lenSl Tryd.underlying22 rfl) rfl ?_
  clear H a; intro a H
  refine n_q H (q_lss rfl rfl) rfl ?_
  clear H a; intro a H
  refine n_nil ?_
  refine then_normal ?_
  refine c_cond H rfl (fun hc8 => ?_) (fun hc8 => ?_)
  · skip
    have hi1 : i < xs.length := by simp at hc8; omega
    obtain ⟨r, hx⟩ := h.at hi1
    obtain ⟨ad0, had⟩ := h.addr hi1
    subst had
    have hrb := hr r (List.mem_of_getElem? hx)
    have hrl := hb r (List.mem_of_getElem? hx)
    have hge := hS.ownGe (i := 0) rfl
    refine wp_skip ?_
    refine then_normal ?_
    refine wp_seq ?_
    refine wp_block ?_
    refine c_ord (blks vb) 17 (by kernel_rfl) ?_
    obtain ⟨w2, hw2⟩ : ∃ x, x = w1.drew := ⟨_, rfl⟩
    rw [← hw2]
    have hE3 : Ext w1 w2 := by rw [hw2]; exact Ext.drew' _
    clear hw2
    replace hS := hS.ext hE3
    have hh0 := hS.x.size
    refine k_take 0 H rfl (q_move rfl) rfl (by kernel_rfl) (by kernel_rfl) (by kernel_rfl) (by kernel_rfl) (fun _ _ _ h => h) ?_
    clear H a; intro a H
    refine k_take 1 H rfl (q_move rfl) rfl (by kernel_rfl) (by kernel_rfl) (by kernel_rfl) (by kernel_rfl) (fun _ _ _ h => h) ?_
    clear H a; intro a H
    refine k_take 2 H rfl (q_move rfl) rfl (by kernel_rfl) (by kernel_rfl) (by kernel_rfl) (by kernel_rfl) (fun _ _ _ h => h) ?_
    clear H a; intro a H
    refine k_take 3 H rfl (q_indexAddr Tryd.underlying22 sz102 rfl rfl (by omega) (by omega)) rfl (by kernel_rfl) (by kernel_rfl) (by kernel_rfl) (by kernel_rfl) (fun _ _ _ h => h) ?_
    clear H a; intro a H
    refine k_take 4 H rfl (q_fieldAddr rfl fo102_0) rfl (by kernel_rfl) (by kernel_rfl) (by kernel_rfl) (by kernel_rfl) (fun _ _ _ h => h) ?_
    clear H a; intro a H
    refine k_take 5 H rfl (q_load rfl (LdC.old (h.ldCell ag3 hx (j := 0) rfl) hS.x hh0 hge)) rfl (by kernel_rfl) (by kernel_rfl) (by kernel_rfl) (by kernel_rfl) (fun _ _ _ h => h) ?_
    clear H a; intro a H
    refine k_take 7 H rfl (q_move rfl) rfl (by kernel_rfl) (by kernel_rfl) (by kernel_rfl) (by kernel_rfl) (fun _ _ _ h => h) ?_
    clear H a; intro a H
    refine k_take 8 H rfl (q_move rfl) rfl (by kernel_rfl) (by kernel_rfl) (by kernel_rfl) (by kernel_rfl) (fun _ _ _ h => h) ?_
    clear H a; intro a H
    refine k_take 9 H rfl (q_indexAddr Tryd.underlying22 sz102 rfl rfl (by omega) (by omega)) rfl (by kernel_rfl) (by kernel_rfl) (by kernel_rfl) (by kernel_rfl) (fun _ _ _ h => h) ?_
    clear H a; intro a H
    refine k_take 10 H rfl (q_fieldAddr rfl fo102_1) rfl (by kernel_rfl) (by kernel_rfl) (by kernel_rfl) (by kernel_rfl) (fun _ _ _ h => h) ?_
    clear H a; intro a H
    refine k_take 11 H rfl (q_load rfl (LdC.old (h.ldCell ag23 hx (j := 1) rfl) hS.x hh0 hge)) rfl (by kernel_rfl) (by kernel_rfl) (by kernel_rfl) (by kernel_rfl) (fun _ _ _ h => h) ?_
    clear H a; intro a H
    refine k_buildSlice 6 H rfl Tryd.underlying23 sz5 ze5 rfl rfl rfl (cs := []) (by kernel_rfl) rfl (by kernel_rfl) ?_
    clear H; intro b17 w4 hN hE5 hs_b17; clear a; intro a H
    have hz_b17 := hE5.size
    replace hS := hS.newBlk hN hE5 hs_b17; clear hN hE5
    replace hS := hS.blkOwn 0 1 (by simp) (by simp [maxLen])
    refine k_append 12 H rfl rfl rfl Tryd.underlying23 Tryd.underlying23 (by simp) el5 (hS.own 0 rfl) ((hrb.ext (Flat.mono _) hS.x).srcB) (flat_one eB_one _) (by omega) (by simp only [maxLen]; omega) rfl (by kernel_rfl) (.inl (by simp [blks]; omega)) ?_
    clear H; intro v23 w6 hN hC7 hb23 hnil23; clear a; intro a H
    have hz23 := hC7.size
    replace hS := hS.setOwn hN hC7 hb23; clear hN
    simp only [Nat.zero_add, List.nil_append] at hS
    obtain ⟨A23, c23, hv23, _⟩ := (hS.own 0 rfl).form
    subst hv23
    refine k_take 13 H rfl (q_build (cs := [.int .i64 r.tag, .slice A23 r.body.length c23]) ze54 bd54 pl54 rfl (by kernel_rfl)) rfl (by kernel_rfl) (by kernel_rfl) (by kernel_rfl) (by kernel_rfl) (fun _ _ _ h => h) ?_
    clear H a; intro a H
    refine k_buildSlice 14 H rfl Tryd.underlying36 sz54 ze54 rfl rfl rfl (cs := [.int .i64 r.tag, .slice A23 r.body.length c23]) (by kernel_rfl) rfl (by kernel_rfl) ?_
    clear H; intro b25 w8 hN hE9 hs_b25; clear a; intro a H
    have hz_b25 := hE9.size
    replace hS := hS.newBlk hN hE9 hs_b25; clear hN hE9
    replace hS := hS.pick 2 rfl
    dsimp only [List.eraseIdx] at hS
    refine k_append 15 H rfl rfl rfl Tryd.underlying36 Tryd.underlying36 (by simp) el54 (hS.own 0 rfl) (show Src _ 2 _ 1 (([⟨r.tag, .slice A23 r.body.length c23, r.body⟩] : List RecM).flatMap eRec) from (Own.ofBlk (n := 1) (k := 2) (hS.blk 1 rfl) rfl (by simp [maxLen])).src) (by simp [eRec, Value.oneCell']) (by omega) (by simp only [maxLen]; omega) rfl (by kernel_rfl) (.inl (fun b hb _ => hb)) ?_
    clear H; intro v26 w10 hN hC11 hb26 hnil26; clear a; intro a H
    have hz26 := hC11.size
    replace hS := hS.setOwn hN hC11 hb26; clear hN
    rw [← List.flatMap_append] at hS
    refine k_take 16 H rfl (q_assign rfl) rfl (by kernel_rfl) (by kernel_rfl) (by kernel_rfl) (by kernel_rfl) (fun _ _ _ h => h) ?_
    clear H a; intro a H
    refine k_done (by kernel_rfl) ?_
    refine block_normal ?_
    refine then_normal ?_
    refine wp_region_lit ?_
    refine n_q H (q_move rfl) rfl ?_
    clear H a; intro a H
    refine n_q H (q_add rfl rfl (by constructor <;> omega)) rfl ?_
    clear H a; intro a H
    refine n_q H (q_assign rfl) rfl ?_
    clear H a; intro a H
    refine n_nil ?_
    refine then_normal ?_
    replace hS := hS.pick 3 rfl
    dsimp only [List.eraseIdx] at hS
    replace hS := hS.pick 3 rfl
    dsimp only [List.eraseIdx] at hS
    replace hS := hS.take 3
    simp only [List.take_succ_cons, List.take_zero] at hS
    replace hS := St.recAdd (r := ⟨r.tag, .slice A23 r.body.length c23, r.body⟩) hS rfl
    replace hS := hS.pick 1 rfl
    dsimp only [List.eraseIdx] at hS
    exact round (i + 1, v26, ys ++ [⟨r.tag, .slice A23 r.body.length c23, r.body⟩]) H ⟨rfl, rfl, rfl, trivial⟩ ⟨by omega, by simp; omega, key_snoc hk hx rfl, hS⟩ (by first | omega | (dsimp only; omega))
  · skip
    obtain rfl : i = xs.length := by simp at hc8; omega
    rw [List.take_length] at hk
    refine wp_exit ?_
    refine then_exit ?_
    refine then_exit ?_
    refine block_exit ?_
    refine then_normal ?_
    refine wp_seq ?_
    refine wp_region_lit ?_
    refine n_q H (q_move rfl) rfl ?_
    clear H a; intro a H
    refine n_q H (q_assign rfl) rfl ?_
    clear H a; intro a H
    refine n_nil ?_
    refine then_normal ?_
    refine wp_ret ?_
    replace hS := hS.pick 1 rfl
    dsimp only [List.eraseIdx] at hS
    replace hS := hS.pick 1 rfl
    dsimp only [List.eraseIdx] at hS
    refine ret1 H (.inr rfl) rfl rfl ?_
    exact ⟨ys, _, hyl.symm, hk, hS⟩

theorem keys_at {xs ys : List RecM} {i : Nat} {r s : RecM} (h : (xs.take i).map RecM.key = (ys.take i).map RecM.key) (hx : xs[i]? = some r) (hy : ys[i]? = some s) (h1 : r.tag = s.tag) (h2 : r.body = s.body) : (xs.take (i + 1)).map RecM.key = (ys.take (i + 1)).map RecM.key := by
  rw [take_snoc hx, take_snoc hy, List.map_append, List.map_append, h]
  simp [RecM.key, h1, h2]
theorem keys_no {xs ys : List RecM} {i : Nat} {r s : RecM} (hx : xs[i]? = some r) (hy : ys[i]? = some s) (h : ¬ (r.tag = s.tag ∧ r.body = s.body)) : ¬ xs.map RecM.key = ys.map RecM.key := fun he => by
  have h1 : (xs.map RecM.key)[i]? = some r.key := by simp [hx]
  have h2 : (ys.map RecM.key)[i]? = some s.key := by simp [hy]
  rw [he, h2] at h1
  have := Option.some.inj h1
  simp only [RecM.key, Prod.mk.injEq] at this
  exact h ⟨this.1.symm, this.2.symm⟩
set_option maxHeartbeats 2000000 in
theorem sameRecs_w {w : World} {v v' : Value} {xs ys : List RecM} (h : SlR w 2 (Flat eRec) v xs) (hr : RecsIn w xs) (h' : SlR w 2 (Flat eRec) v' ys) (hr' : RecsIn w ys) : Calls Tryd.prog 14 [v, v'].toArray w (Ret fun u w' => u = .bool (decide (xs.map RecM.key = ys.map RecM.key)) ∧ Ext w w') := by
  have hS := St.begin NB w
  obtain ⟨A0, c0, rfl, hl0, hm0, hn0⟩ := h.form
  obtain ⟨A1, c1, rfl, hl1, hm1, hn1⟩ := h'.form
  refine enter Tryd.func14 rfl rfl rfl ?_
  intro a H
  dsimp only [enumL, Nat.zero_add, Nat.reduceAdd] at H
  refine wp_seq ?_
  refine wp_region_lit ?_
  refine n_q H (q_assign rfl) rfl ?_
  clear H a; intro a H
  refine n_nil ?_
  refine then_normal ?_
  refine wp_seq ?_
  refine wp_seq ?_
  refine wp_region_lit ?_
  refine n_q H (q_move rfl) rfl ?_
  clear H a; intro a H
  refine n_q H (q_lenSl Tryd.underlying36 rfl) rfl ?_
  clear H a; intro a H
  refine n_q H (q_move rfl) rfl ?_
  clear H a; intro a H
  refine n_q H (q_lenSl Tryd.underlying22 rfl) rfl ?_
  clear H a; intro a H
  refine n_q H (q_neq rfl rfl) rfl ?_
  clear H a; intro a H
  refine n_nil ?_
  refine then_normal ?_
  refine c_cond H rfl (fun hc10 => ?_) (fun hc10 => ?_)
  · skip
    have hne : ¬ xs.length = ys.length := by simp at hc10; omega
    refine wp_seq ?_
    refine wp_region_lit ?_
    refine n_q H (q_assign rfl) rfl ?_
    clear H a; intro a H
    refine n_nil ?_
    refine then_normal ?_
    refine wp_ret ?_
    refine then_ret ?_
    refine ret1 H (.inr rfl) rfl rfl ?_
    exact ⟨congrArg Value.bool (decide_eq_false fun he => hne (by have := congrArg List.length he; simpa using this)).symm, hS.x⟩
  · skip
    have hlen : xs.length = ys.length := by simp at hc10; omega
    refine wp_skip ?_
    refine then_normal ?_
    refine wp_seq ?_
    refine wp_seq ?_
    refine wp_region_lit ?_
    refine n_q H (q_assign rfl) rfl ?_
    clear H a; intro a H
    refine n_nil ?_
    refine then_normal ?_
    refine wp_block ?_
    refine c_loop (σ := Nat) (fun i => [(0, .slice A0 xs.length c0), (1, .slice A1 ys.length c1), (5, .int .i64 (i : Nat))]) (fun i wl => i ≤ xs.length ∧ (xs.take i).map RecM.key = (ys.take i).map RecM.key ∧ St NB w wl []) (fun i => xs.length - i) 0 H ⟨rfl, rfl, rfl, trivial⟩ ⟨Nat.zero_le _, rfl, hS⟩ ?_
    clear H hS; clear a; intro i a w1 H hR
    simp only [ent, List.map_cons, List.map_nil] at H
    try dsimp only at hR
    obtain ⟨hi, hk, hS⟩ := hR; try clear hR
    refine wp_seq ?_
    refine wp_seq ?_
    refine wp_region_lit ?_
    refine n_q H (q_move rfl) rfl ?_
    clear H a; intro a H
    refine n_q H (q_move rfl) rfl ?_
    clear H a; intro a H
    refine n_q H (q_lenSl Tryd.underlying36 rfl) rfl ?_
    clear H a; intro a H
    refine n_q H (q_lss rfl rfl) rfl ?_
    clear H a; intro a H
    refine n_nil ?_
    refine then_normal ?_
    refine c_cond H rfl (fun hc14 => ?_) (fun hc14 => ?_)
    · skip
      have hi1 : i < xs.length := by simp at hc14; omega
      obtain ⟨r, hx⟩ := h.at hi1
      obtain ⟨ad0, had⟩ := h.addr hi1
      subst had
      obtain ⟨s, hy⟩ := h'.at (show i < ys.length by omega)
      obtain ⟨ad1, had1⟩ := h'.addr (show i < ys.length by omega)
      subst had1
      have hxb := hr r (List.mem_of_getElem? hx)
      have hyb := hr' s (List.mem_of_getElem? hy)
      obtain ⟨Ax, cx, hqx, _⟩ := hxb.form
      obtain ⟨Ay, cy, hqy, _⟩ := hyb.form
      refine wp_skip ?_
      refine then_normal ?_
      refine wp_seq ?_
      refine wp_block ?_
      refine wp_seq ?_
      refine c_quiet (by kernel_rfl) (by kernel_rfl) ?_
      refine qq_c H (fun HC => ?_); clear H
      refine qc_q HC (q_move rfl) rfl (by kernel_rfl) ?_
      clear HC a; intro a HC
      refine qc_q HC (q_move rfl) rfl (by kernel_rfl) ?_
      clear HC a; intro a HC
      refine qc_q HC (q_indexAddr Tryd.underlying36 sz54 rfl rfl (by omega) (by omega)) rfl (by kernel_rfl) ?_
      clear HC a; intro a HC
      refine qc_q HC (q_fieldAddr rfl fo54_0) rfl (by kernel_rfl) ?_
      clear HC a; intro a HC
      refine qc_q HC (q_load rfl (LdX.ext ((h.ldCell ag3 hx (j := 0) rfl)) hS.x)) rfl (by kernel_rfl) ?_
      clear HC a; intro a HC
      refine qc_q HC (q_move rfl) rfl (by kernel_rfl) ?_
      clear HC a; intro a HC
      refine qc_q HC (q_move rfl) rfl (by kernel_rfl) ?_
      clear HC a; intro a HC
      refine qc_q HC (q_indexAddr Tryd.underlying22 sz102 rfl rfl (by omega) (by omega)) rfl (by kernel_rfl) ?_
      clear HC a; intro a HC
      refine qc_q HC (q_fieldAddr rfl fo102_0) rfl (by kernel_rfl) ?_
      clear HC a; intro a HC
      refine qc_q HC (q_load rfl (LdX.ext ((h'.ldCell ag3 hy (j := 0) rfl)) hS.x)) rfl (by kernel_rfl) ?_
      clear HC a; intro a HC
      refine qc_q HC (q_neq rfl rfl) rfl (by kernel_rfl) ?_
      clear HC a; intro a HC
      refine qc_q HC (q_move rfl) rfl (by kernel_rfl) ?_
      clear HC a; intro a HC
      refine qc_g HC (q_move rfl) (by kernel_rfl) (by kernel_rfl) (by kernel_rfl) ?_
      clear HC a; intro a HC
      refine qc_g HC (q_move rfl) (by kernel_rfl) (by kernel_rfl) (by kernel_rfl) ?_
      clear HC a; intro a HC
      refine qc_g HC (q_indexAddr Tryd.underlying36 sz54 rfl rfl (by omega) (by omega)) (by kernel_rfl) (by kernel_rfl) (by kernel_rfl) ?_
      clear HC a; intro a HC
      refine qc_g HC (q_fieldAddr rfl fo54_1) (by kernel_rfl) (by kernel_rfl) (by kernel_rfl) ?_
      clear HC a; intro a HC
      refine qc_g HC (q_load rfl (LdX.ext ((h.ldCell ag23 hx (j := 1) (congrArg some hqx))) hS.x)) (by kernel_rfl) (by kernel_rfl) (by kernel_rfl) ?_
      clear HC a; intro a HC
      refine qc_g HC (q_str Tryd.underlying23 Tryd.underlying5 Tryd.underlying9 rfl (fun w' e => (hqx ▸ hxb).ext (Flat.mono _) (Ext.trans' hS.x e))) (by kernel_rfl) (by kernel_rfl) (by kernel_rfl) ?_
      clear HC a; intro a HC
      refine qc_g HC (q_move rfl) (by kernel_rfl) (by kernel_rfl) (by kernel_rfl) ?_
      clear HC a; intro a HC
      refine qc_g HC (q_move rfl) (by kernel_rfl) (by kernel_rfl) (by kernel_rfl) ?_
      clear HC a; intro a HC
      refine qc_g HC (q_indexAddr Tryd.underlying22 sz102 rfl rfl (by omega) (by omega)) (by kernel_rfl) (by kernel_rfl) (by kernel_rfl) ?_
      clear HC a; intro a HC
      refine qc_g HC (q_fieldAddr rfl fo102_1) (by kernel_rfl) (by kernel_rfl) (by kernel_rfl) ?_
      clear HC a; intro a HC
      refine qc_g HC (q_load rfl (LdX.ext ((h'.ldCell ag23 hy (j := 1) (congrArg some hqy))) hS.x)) (by kernel_rfl) (by kernel_rfl) (by kernel_rfl) ?_
      clear HC a; intro a HC
      refine qc_g HC (q_str Tryd.underlying23 Tryd.underlying5 Tryd.underlying9 rfl (fun w' e => (hqy ▸ hyb).ext (Flat.mono _) (Ext.trans' hS.x e))) (by kernel_rfl) (by kernel_rfl) (by kernel_rfl) ?_
      clear HC a; intro a HC
      refine qc_g HC (q_neqS rfl rfl) (by kernel_rfl) (by kernel_rfl) (by kernel_rfl) ?_
      clear HC a; intro a HC
      refine qc_or (j := 11) HC rfl rfl rfl (by kernel_rfl) (by kernel_rfl) ?_
      clear HC a; intro a HC
      have H := HC.has; clear HC
      refine qq_nil ?_
      intro w2 hE3
      replace hS := hS.ext hE3
      refine then_normal ?_
      refine c_cond H rfl (fun hc42 => ?_) (fun hc42 => ?_)
      · skip
        have hne : ¬ (r.tag = s.tag ∧ r.body = s.body) := fun he => by rw [he.1, he.2] at hc42; simp at hc42
        refine wp_seq ?_
        refine wp_region_lit ?_
        refine n_q H (q_assign rfl) rfl ?_
        clear H a; intro a H
        refine n_nil ?_
        refine then_normal ?_
        refine wp_ret ?_
        refine block_ret ?_
        refine then_ret ?_
        refine then_ret ?_
        refine block_ret ?_
        refine then_ret ?_
        refine ret1 H (.inr rfl) rfl rfl ?_
        exact ⟨congrArg Value.bool (decide_eq_false (keys_no hx hy hne)).symm, hS.x⟩
      · skip
        have heq : r.tag = s.tag ∧ r.body = s.body := by
          simp at hc42
          exact ⟨hc42.1, strB_inj.1 hc42.2⟩
        refine wp_skip ?_
        refine block_normal ?_
        refine then_normal ?_
        refine wp_region_lit ?_
        refine n_q H (q_move rfl) rfl ?_
        clear H a; intro a H
        refine n_q H (q_add rfl rfl (by constructor <;> omega)) rfl ?_
        clear H a; intro a H
        refine n_q H (q_assign rfl) rfl ?_
        clear H a; intro a H
        refine n_nil ?_
        refine then_normal ?_
        exact round (i + 1) H ⟨rfl, rfl, rfl, trivial⟩ ⟨by omega, keys_at hk hx hy heq.1 heq.2, hS⟩ (by first | omega | (dsimp only; omega))
    · skip
      obtain rfl : i = xs.length := by simp at hc14; omega
      rw [List.take_length, hlen, List.take_length] at hk
      refine wp_exit ?_
      refine then_exit ?_
      refine then_exit ?_
      refine block_exit ?_
      refine then_normal ?_
      refine wp_seq ?_
      refine wp_region_lit ?_
      refine n_q H (q_assign rfl) rfl ?_
      clear H a; intro a H
      refine n_nil ?_
      refine then_normal ?_
      refine wp_ret ?_
      refine ret1 H (.inr rfl) rfl rfl ?_
      exact ⟨congrArg Value.bool (decide_eq_true hk).symm, hS.x⟩

/-- Join. -/
def joinM (ks : List (Int × List UInt8)) : WM := ks.foldl (fun x k => x.record k.1 k.2) ⟨[], .nil⟩
theorem joinM_snoc {xs : List RecM} {i : Nat} {r : RecM} (hx : xs[i]? = some r) : joinM ((xs.take (i + 1)).map RecM.key) = (joinM ((xs.take i).map RecM.key)).record r.tag r.body := by
  rw [take_snoc hx, List.map_append]
  simp [joinM, RecM.key]
def bulkR (xs : List RecM) : Nat := (xs.map fun r => r.body.length + 3).sum
theorem bulkR_snoc {xs : List RecM} {i : Nat} {r : RecM} (hx : xs[i]? = some r) : bulkR (xs.take (i + 1)) = bulkR (xs.take i) + (r.body.length + 3) := by
  rw [take_snoc hx]; simp [bulkR]
theorem bulkR_le (xs : List RecM) (i : Nat) : bulkR (xs.take i) ≤ bulkR xs := by
  have h2 : ∀ a b : List RecM, bulkR (a ++ b) = bulkR a + bulkR b := fun a b => by simp [bulkR]
  have e : bulkR xs = bulkR (xs.take i) + bulkR (xs.drop i) := by rw [← h2, List.take_append_drop]
  omega
theorem record_len (x : WM) (t : Int) (b : List UInt8) : (x.record t b).buf.length ≤ x.buf.length + b.length + 3 := by
  have sp : ∀ g, (x.spoil g).buf.length = x.buf.length := fun g => by unfold WM.spoil; split <;> rfl
  unfold WM.record
  split
  · rw [sp]; omega
  split
  · rw [sp]; omega
  · have h1 := WM.num_len x t 1
    have h2 := WM.num_len (x.num t 1) b.length 2
    have h3 := WM.put_len ((x.num t 1).num b.length 2) b
    have e1 : (1 : Int).toNat = 1 := rfl
    have e2 : (2 : Int).toNat = 2 := rfl
    omega
set_option maxHeartbeats 2000000 in
theorem join_w {w : World} {A : Nat → Addr} {v : Value} {xs : List RecM} (hG : EV A w) (h : SlR w 2 (Flat eRec) v xs) (hr : RecsIn w xs) (hbk : bulkR xs ≤ 16777216) : Calls Tryd.prog 9 [v].toArray w (Ret fun r w' => ∃ vb e n, n = (joinM (xs.map RecM.key)).out.length ∧ r = .tuple #[vb, e] ∧ St NB w w' [ownR 5 1 vb n ((joinM (xs.map RecM.key)).out.flatMap eB), erR A e (joinM (xs.map RecM.key)).err]) := by
  have hS := St.begin NB w
  obtain ⟨A0, c0, rfl, hl0, hm0, hn0⟩ := h.form
  refine enter Tryd.func9 rfl rfl rfl ?_
  intro a H
  dsimp only [enumL, Nat.zero_add, Nat.reduceAdd] at H
  refine wp_seq ?_
  refine wp_region_lit ?_
  refine n_q H (q_assign rfl) rfl ?_
  clear H a; intro a H
  refine n_q H (q_assign rfl) rfl ?_
  clear H a; intro a H
  refine n_nil ?_
  refine then_normal ?_
  refine wp_seq ?_
  refine wp_region_lit ?_
  refine n_call H rfl en33 (newWriter_w (A := A)) rfl ?_
  clear H a; intro v3 w1 hv a H
  obtain ⟨p1, rfl, hE2⟩ := hv
  replace hS := hS.new hE2
  simp only [List.cons_append, List.nil_append] at hS
  refine n_q H (q_assign rfl) rfl ?_
  clear H a; intro a H
  refine n_nil ?_
  refine then_normal ?_
  refine wp_seq ?_
  refine wp_seq ?_
  refine wp_region_lit ?_
  refine n_q H (q_move rfl) rfl ?_
  clear H a; intro a H
  refine n_q H (q_lenSl Tryd.underlying36 rfl) rfl ?_
  clear H a; intro a H
  refine n_q H (q_move rfl) rfl ?_
  clear H a; intro a H
  refine n_nil ?_
  refine then_normal ?_
  refine wp_block ?_
  refine c_loop (σ := Nat) (fun i => [(4, .pointer (some ⟨p1, 0, none⟩)), (8, .slice A0 xs.length c0), (9, .int .i64 (xs.length : Nat)), (10, .int .i64 (i : Nat))]) (fun i wl => i ≤ xs.length ∧ (joinM ((xs.take i).map RecM.key)).buf.length ≤ bulkR (xs.take i) ∧ ∃ u1, St NB w wl [wrR A p1 u1 (joinM ((xs.take i).map RecM.key))]) (fun i => xs.length - i) 0 H ⟨rfl, rfl, rfl, rfl, trivial⟩ ⟨Nat.zero_le _, Nat.le_refl _, _, hS⟩ ?_
  clear H hS; clear a; intro i a w4 H hR
  simp only [ent, List.map_cons, List.map_nil] at H
  try dsimp only at hR
  obtain ⟨hi, hlb, u1, hS⟩ := hR; try clear hR
  refine wp_seq ?_
  refine wp_region_lit ?_
  refine n_q H (q_lss rfl rfl) rfl ?_
  clear H a; intro a H
  refine n_nil ?_
  refine then_normal ?_
  refine wp_seq ?_
  refine c_cond H rfl (fun hc11 => ?_) (fun hc11 => ?_)
  · skip
    have hi1 : i < xs.length := by simp at hc11; omega
    obtain ⟨r, hx⟩ := h.at hi1
    obtain ⟨ad0, had⟩ := h.addr hi1
    subst had
    have hxb := hr r (List.mem_of_getElem? hx)
    have hb1 := bulkR_snoc hx
    have hb2 := bulkR_le xs (i + 1)
    have hb3 := record_len (joinM ((xs.take i).map RecM.key)) r.tag r.body
    refine wp_skip ?_
    refine then_normal ?_
    refine wp_seq ?_
    refine wp_block ?_
    refine wp_seq ?_
    refine wp_region_lit ?_
    refine n_q H (q_indexAddr Tryd.underlying36 sz54 rfl rfl (by omega) (by omega)) rfl ?_
    clear H a; intro a H
    refine n_q H (q_load rfl (LdX.ext ((h.ldAgg ag54 sz54 hx)) hS.x)) rfl ?_
    clear H a; intro a H
    refine n_alloc H ze54 rfl ?_
    clear H; intro b6 w5 hN hE6 hs_b6; clear a; intro a H
    replace hS := hS.newBlk hN hE6 hs_b6; clear hN hE6
    refine n_storeAll H rfl rfl (vs := eRec r) rfl sz54 (hS.blk 0 rfl) rfl (by intro z hz; simp only [eRec, List.mem_cons, List.not_mem_nil, or_false] at hz; rcases hz with rfl | rfl; rfl; exact hxb.one) ?_
    clear H; intro w7 hN hC8 hz; clear a; intro a H
    replace hS := hS.setBlk hN hC8; clear hN hz
    refine n_nil ?_
    refine then_normal ?_
    refine wp_region_lit ?_
    refine n_q H (q_move rfl) rfl ?_
    clear H a; intro a H
    refine n_q H (q_fieldAddr0 rfl fo54_0) rfl ?_
    clear H a; intro a H
    refine n_q H (q_load rfl ((hS.blk 0 rfl).ld ag3 rfl)) rfl ?_
    clear H a; intro a H
    refine n_q H (q_fieldAddr0 rfl fo54_1) rfl ?_
    clear H a; intro a H
    refine n_q H (q_load rfl ((hS.blk 0 rfl).ld ag23 rfl)) rfl ?_
    clear H a; intro a H
    replace hS := hS.pick 1 rfl
    dsimp only [List.eraseIdx] at hS
    obtain ⟨fp19, hG19, hK19, hR19, hF19⟩ := hS.frame1
    refine n_call H rfl en35 (wRecord_w (t := r.tag) (bs := r.body) (fun w' hw => hG.ext (hK19 _ hw).ext) (fun w' hw => hxb.ext (Flat.mono _) (hK19 _ hw).ext) (by omega) hG19) rfl ?_
    clear H a; intro v11 w9 hv a H
    obtain ⟨rfl, u2, hE10⟩ := hv
    replace hS := hF19 _ _ hE10
    simp only [List.cons_append, List.nil_append] at hS
    clear hG19 hK19 hR19 hF19
    refine n_nil ?_
    refine block_normal ?_
    refine then_normal ?_
    refine wp_region_lit ?_
    refine n_q H (q_add rfl rfl (by constructor <;> omega)) rfl ?_
    clear H a; intro a H
    refine n_q H (q_move rfl) rfl ?_
    clear H a; intro a H
    refine n_nil ?_
    refine then_normal ?_
    replace hS := hS.take 1
    simp only [List.take_succ_cons, List.take_zero] at hS
    exact round (i + 1) H ⟨rfl, rfl, rfl, rfl, trivial⟩ ⟨by omega, by rw [joinM_snoc hx]; omega, _, by rw [joinM_snoc hx]; exact hS⟩ (by first | omega | (dsimp only; omega))
  · skip
    obtain rfl : i = xs.length := by simp at hc11; omega
    have hb2 := bulkR_le xs xs.length
    rw [List.take_length] at hS hlb hb2
    refine wp_exit ?_
    refine then_exit ?_
    refine then_exit ?_
    refine block_exit ?_
    refine then_normal ?_
    refine wp_seq ?_
    refine wp_region_lit ?_
    refine n_q H (q_move rfl) rfl ?_
    clear H a; intro a H
    obtain ⟨fp22, hG22, hK22, hR22, hF22⟩ := hS.frame1
    refine n_call H rfl en36 (wDone_w (by omega) hG22) rfl ?_
    clear H a; intro v14 w12 hv a H
    obtain ⟨v22, rfl, hE13⟩ := hv
    replace hS := hF22 _ _ hE13
    simp only [List.cons_append, List.nil_append] at hS
    clear hG22 hK22 hR22 hF22
    refine n_q H (q_extract rfl rfl) rfl ?_
    clear H a; intro a H
    refine n_q H (q_extract rfl rfl) rfl ?_
    clear H a; intro a H
    refine n_q H (q_assign rfl) rfl ?_
    clear H a; intro a H
    refine n_q H (q_assign rfl) rfl ?_
    clear H a; intro a H
    refine n_nil ?_
    refine then_normal ?_
    refine wp_ret ?_
    obtain ⟨vp, hS1⟩ := hS.wr
    replace hS := hS1
    clear hS1
    replace hS := hS.pick 2 rfl
    dsimp only [List.eraseIdx] at hS
    replace hS := hS.pick 3 rfl
    dsimp only [List.eraseIdx] at hS
    replace hS := hS.take 2
    simp only [List.take_succ_cons, List.take_zero] at hS
    refine ret2 H (.inr rfl) rfl rfl rfl ?_
    exact ⟨_, _, _, rfl, rfl, hS⟩

theorem nextM_form {bs : List UInt8} {a d : Nat} (h1 : a ≤ d) (h2 : d ≤ bs.length) : ((nextM bs a d).2.1 = none ∧ (nextM bs a d).2.2.1 ≠ .nil) ∨ ∃ x, (nextM bs a d).2.1 = some x ∧ (nextM bs a d).2.2.1 = .nil ∧ (nextM bs a d).2.2.2 = x.2 ∧ x.1 ≤ x.2 ∧ x.2 ≤ d ∧ a < x.2 := by
  unfold nextM
  split
  · exact .inl ⟨rfl, by intro h; cases h⟩
  split
  · exact .inl ⟨rfl, by intro h; cases h⟩
  split
  · exact .inl ⟨rfl, by intro h; cases h⟩
  · have hp := peekN_lt (bs := bs) (a := a + 1) (k := 2) (by omega)
    exact .inr ⟨_, rfl, rfl, rfl, by dsimp only; omega, by dsimp only; omega, by dsimp only; omega⟩
theorem recordM_form2 {bs : List UInt8} {a d : Nat} {t : Int} (h1 : a ≤ d) (h2 : d ≤ bs.length) : ((recordM bs a d t).1 = none ∧ (recordM bs a d t).2.1 ≠ .nil) ∨ ∃ x, (recordM bs a d t).1 = some x ∧ (recordM bs a d t).2.1 = .nil ∧ (recordM bs a d t).2.2 = x.2 ∧ x.1 ≤ x.2 ∧ x.2 ≤ d := by
  unfold recordM
  split
  · exact .inl ⟨rfl, by intro h; cases h⟩
  split
  · exact .inl ⟨rfl, by intro h; cases h⟩
  split
  · exact .inl ⟨rfl, by intro h; cases h⟩
  · have hp := peekN_lt (bs := bs) (a := a + 1) (k := 2) (by omega)
    exact .inr ⟨_, rfl, rfl, rfl, by dsimp only; omega, by dsimp only; omega⟩
/-- Split. -/
def splitF (bs : List UInt8) : Nat → Nat → List (Int × List UInt8) → List (Int × List UInt8) × ErrM
  | 0, _, acc => (acc, .nil)
  | f + 1, a, acc => if bs.length ≤ a then (acc, .nil) else
    match (nextM bs a bs.length).2.1 with
    | none => ([], (nextM bs a bs.length).2.2.1)
    | some x => splitF bs f (nextM bs a bs.length).2.2.2 (acc ++ [((nextM bs a bs.length).1, (bs.drop x.1).take (x.2 - x.1))])
def splitM (bs : List UInt8) : List (Int × List UInt8) × ErrM := splitF bs (bs.length + 1) 0 []
/-- Expect. -/
def expF (bs : List UInt8) : List Int → Nat → List (List UInt8) → List (List UInt8) × ErrM
  | [], a, acc => if endM a bs.length = .nil then (acc, .nil) else ([], endM a bs.length)
  | t :: r, a, acc =>
    match (recordM bs a bs.length t).1 with
    | none => ([], (recordM bs a bs.length t).2.1)
    | some x => expF bs r (recordM bs a bs.length t).2.2 (acc ++ [(bs.drop x.1).take (x.2 - x.1)])
def expM (bs : List UInt8) (tags : List Int) : List (List UInt8) × ErrM := expF bs tags 0 []
def eBod (r : RecM) : List Value := [r.q]
set_option maxHeartbeats 2000000 in
theorem split_w {w : World} {A : Nat → Addr} {v : Value} {bs : List UInt8} (hG : EV A w) (hb : ∀ w', Ext w w' → SlR w' 1 (Flat eB) v bs) (hz : bs.length ≤ 16777216) : Calls Tryd.prog 13 [v].toArray w (Ret fun r w' => ∃ vo e ys n er, n = ys.length ∧ (ys.map RecM.key, er) = splitM bs ∧ r = .tuple #[vo, e] ∧ St NB w w' [ownR 54 2 vo n (ys.flatMap eRec), anyR (fun w' => RecsIn w' ys), erR A e er]) := by
  have hS := St.begin NB w
  obtain ⟨A9, c9, hv9, _⟩ := (hb w Ext.rfl').form
  subst hv9
  refine enter Tryd.func13 rfl rfl rfl ?_
  intro a H
  dsimp only [enumL, Nat.zero_add, Nat.reduceAdd] at H
  refine wp_seq ?_
  refine wp_region_lit ?_
  refine n_q H (q_assign rfl) rfl ?_
  clear H a; intro a H
  refine n_q H (q_assign rfl) rfl ?_
  clear H a; intro a H
  refine n_nil ?_
  refine then_normal ?_
  refine wp_seq ?_
  refine wp_region_lit ?_
  refine n_q H (q_assign rfl) rfl ?_
  clear H a; intro a H
  refine n_nil ?_
  refine then_normal ?_
  refine wp_seq ?_
  refine wp_seq ?_
  refine wp_region_lit ?_
  refine n_q H (q_move rfl) rfl ?_
  clear H a; intro a H
  refine n_call H rfl en37 (open_w (bs := bs) (fun w' e => hb w' (hS.x.trans e)) (by omega)) rfl ?_
  clear H a; intro v3 w1 hv a H
  obtain ⟨q1, v2, n2, rfl, hn2, hE2⟩ := hv
  replace hS := hS.new hE2
  simp only [List.cons_append, List.nil_append] at hS
  refine n_q H (q_assign rfl) rfl ?_
  clear H a; intro a H
  refine n_nil ?_
  refine then_normal ?_
  refine wp_block ?_
  replace hS := hS.trivAny (F := fun w' => RecsIn w' []) (fun w' => RecsIn.nil w')
  replace hS := hS.nilOwn 54 2
  replace hS := hS.pick 1 rfl
  dsimp only [List.eraseIdx] at hS
  replace hS := hS.pick 1 rfl
  dsimp only [List.eraseIdx] at hS
  replace hS := hS.pick 3 rfl
  dsimp only [List.eraseIdx] at hS
  replace hS := hS.pick 3 rfl
  dsimp only [List.eraseIdx] at hS
  refine c_loop (σ := Nat × Value × List RecM) (fun (ca, vb, ys) => [(4, vb), (5, .pointer (some ⟨q1, 0, none⟩))]) (fun (ca, vb, ys) wl => (ca ≤ bs.length ∧ ys.length ≤ ca ∧ ∃ f, bs.length - ca < f ∧ splitM bs = splitF bs f ca (ys.map RecM.key)) ∧ St NB w wl [cuR q1 v2 ca bs.length, ownR 5 1 v2 n2 (bs.flatMap eB), ownR 54 2 vb ys.length (ys.flatMap eRec), anyR (fun w' => RecsIn w' ys)]) (fun (ca, vb, ys) => bs.length - ca) (0, .slice none 0 0, []) H ⟨rfl, rfl, trivial⟩ ⟨⟨Nat.zero_le _, Nat.le_refl _, _, Nat.lt_succ_self _, rfl⟩, hS⟩ ?_
  clear H hS; clear a; intro xx a w4 H hR
  obtain ⟨ca, vb, ys⟩ := xx
  simp only [ent, List.map_cons, List.map_nil] at H
  try dsimp only at hR
  obtain ⟨⟨ha, hya, f, hf, hsp⟩, hS⟩ := hR; try clear hR
  refine wp_seq ?_
  refine wp_seq ?_
  refine wp_region_lit ?_
  refine n_q H (q_move rfl) rfl ?_
  clear H a; intro a H
  refine n_call H rfl en40 (cLeft_w ha (by omega) (hS.blk 0 rfl)) rfl ?_
  clear H a; intro v7 w5 hv a H
  obtain ⟨rfl, hE6⟩ := hv
  replace hS := hS.ext hE6
  refine n_q H (q_gtr rfl rfl) rfl ?_
  clear H a; intro a H
  refine n_nil ?_
  refine then_normal ?_
  refine c_cond H rfl (fun hc13 => ?_) (fun hc13 => ?_)
  · skip
    have ha2 : ca < bs.length := by simp at hc13; omega
    refine wp_skip ?_
    refine then_normal ?_
    refine wp_block ?_
    refine wp_seq ?_
    refine wp_region_lit ?_
    refine n_q H (q_move rfl) rfl ?_
    clear H a; intro a H
    obtain ⟨fp16, hG16, hK16, hR16, hF16⟩ := hS.frame1
    refine n_call H rfl en50 (next_w (fun w' hw => hG.ext (hK16 _ hw).ext) (fun w' hw => (restOwn (hR16 0 _ rfl _ hw)).slB hn2) ha (Nat.le_refl _) (by omega) hG16) rfl ?_
    clear H a; intro v10 w8 hv a H
    obtain ⟨q16, u16, rfl, hE9⟩ := hv
    replace hS := hF16 _ _ hE9
    simp only [List.cons_append, List.nil_append] at hS
    clear hG16 hK16 hR16 hF16
    refine n_q H (q_move rfl) rfl ?_
    clear H a; intro a H
    refine n_q H (q_extract rfl rfl) rfl ?_
    clear H a; intro a H
    refine n_q H (q_extract rfl rfl) rfl ?_
    clear H a; intro a H
    refine n_q H (q_extract rfl rfl) rfl ?_
    clear H a; intro a H
    refine n_q H (q_assign rfl) rfl ?_
    clear H a; intro a H
    refine n_q H (q_assign rfl) rfl ?_
    clear H a; intro a H
    refine n_q H (q_assign rfl) rfl ?_
    clear H a; intro a H
    refine n_nil ?_
    refine then_normal ?_
    refine wp_seq ?_
    refine wp_seq ?_
    refine wp_region_lit ?_
    refine n_q H (q_move rfl) rfl ?_
    clear H a; intro a H
    refine n_q H (q_nnilI Tryd.underlying33 rfl rfl (hS.any 1 rfl).form) rfl ?_
    clear H a; intro a H
    refine n_nil ?_
    refine then_normal ?_
    refine c_cond H rfl (fun hc21 => ?_) (fun hc21 => ?_)
    · skip
      have hne : (nextM bs ca bs.length).2.2.1 ≠ .nil := by rw [((hS.any 1 rfl)).isNil] at hc21; simpa using hc21
      have hq : (nextM bs ca bs.length).2.1 = none := by
        rcases nextM_form ha (Nat.le_refl _) with h | ⟨x, _, he, _⟩
        · exact h.1
        · exact absurd he hne
      refine wp_seq ?_
      refine wp_region_lit ?_
      refine n_q H (q_move rfl) rfl ?_
      clear H a; intro a H
      refine n_q H (q_assign rfl) rfl ?_
      clear H a; intro a H
      refine n_q H (q_assign rfl) rfl ?_
      clear H a; intro a H
      refine n_nil ?_
      refine then_normal ?_
      refine wp_ret ?_
      refine then_ret ?_
      refine block_ret ?_
      refine then_ret ?_
      refine block_ret ?_
      refine then_ret ?_
      replace hS := hS.trivAny (F := fun w' => RecsIn w' []) (fun w' => RecsIn.nil w')
      replace hS := hS.nilOwn 54 2
      replace hS := hS.pick 3 rfl
      dsimp only [List.eraseIdx] at hS
      replace hS := hS.pick 2 rfl
      dsimp only [List.eraseIdx] at hS
      replace hS := hS.pick 2 rfl
      dsimp only [List.eraseIdx] at hS
      replace hS := hS.take 3
      simp only [List.take_succ_cons, List.take_zero] at hS
      refine ret2 H (.inr rfl) rfl rfl rfl ?_
      exact ⟨_, _, [], _, _, rfl, by rw [hsp]; obtain ⟨f, rfl⟩ : ∃ g, f = g + 1 := ⟨f - 1, by omega⟩; rw [splitF, if_neg (by omega), hq]; rfl, rfl, hS⟩
    · skip
      have he : (nextM bs ca bs.length).2.2.1 = .nil := by rw [((hS.any 1 rfl)).isNil] at hc21; simpa using hc21
      obtain ⟨x, hq, hx0, hx1⟩ : ∃ x, (nextM bs ca bs.length).2.1 = some x ∧ (nextM bs ca bs.length).2.2.2 = x.2 ∧ (x.1 ≤ x.2 ∧ x.2 ≤ bs.length ∧ ca < x.2) := by
        rcases nextM_form ha (Nat.le_refl _) with h | ⟨x, h1, _, h2, h3⟩
        · exact absurd he h.2
        · exact ⟨x, h1, h2, h3⟩
      replace hS := hS.pick 2 rfl
      dsimp only [List.eraseIdx] at hS
      rw [hq] at hS
      obtain ⟨bq, hq16, hS3⟩ := hS.ncGet
      replace hS := hS3
      clear hS3
      subst hq16
      refine wp_skip ?_
      refine then_normal ?_
      refine wp_region_lit ?_
      refine n_q H (q_move rfl) rfl ?_
      clear H a; intro a H
      refine n_q H (q_move rfl) rfl ?_
      clear H a; intro a H
      refine n_q H (q_move rfl) rfl ?_
      clear H a; intro a H
      obtain ⟨fp26, hG26, hK26, hR26, hF26⟩ := hS.frame1
      refine n_call H rfl en51 (body_w (fun w' hw => hG.ext (hK26 _ hw).ext) (fun w' hw => (restOwn (hR26 2 _ rfl _ hw)).slB hn2) hx1.1 hx1.2.1 (by omega) hG26) rfl ?_
      clear H a; intro v26 w11 hv a H
      obtain ⟨n26, hn26, hE12⟩ := hv
      replace hS := hF26 _ _ hE12
      simp only [List.cons_append, List.nil_append] at hS
      clear hG26 hK26 hR26 hF26
      obtain ⟨A26, c26, hv26, _⟩ := (hS.own 1 rfl).form
      subst hv26
      refine n_q H (q_build (cs := [.int .i64 (nextM bs ca bs.length).1, .slice A26 n26 c26]) ze54 bd54 pl54 rfl (by kernel_rfl)) rfl ?_
      clear H a; intro a H
      refine n_buildSlice H Tryd.underlying36 sz54 ze54 rfl rfl rfl (cs := [.int .i64 (nextM bs ca bs.length).1, .slice A26 n26 c26]) (by kernel_rfl) rfl ?_
      clear H; intro b28 w13 hN hE14 hs_b28; clear a; intro a H
      replace hS := hS.newBlk hN hE14 hs_b28; clear hN hE14
      replace hS := hS.pick 6 rfl
      dsimp only [List.eraseIdx] at hS
      refine n_append H rfl rfl Tryd.underlying36 Tryd.underlying36 (by simp) el54 (hS.own 0 rfl) (show Src _ 2 _ 1 (([⟨(nextM bs ca bs.length).1, .slice A26 n26 c26, (bs.drop x.1).take (x.2 - x.1)⟩] : List RecM).flatMap eRec) from (Own.ofBlk (n := 1) (k := 2) (hS.blk 1 rfl) rfl (by simp [maxLen])).src) (by simp [eRec, Value.oneCell']) (by omega) (by simp only [maxLen]; omega) rfl ?_
      clear H; intro v29 w15 hN hC16 hb29 hnil29; clear a; intro a H
      replace hS := hS.setOwn hN hC16 hb29; clear hN
      rw [← List.flatMap_append] at hS
      refine n_q H (q_assign rfl) rfl ?_
      clear H a; intro a H
      refine n_nil ?_
      refine block_normal ?_
      refine then_normal ?_
      replace hS := hS.pick 6 rfl
      dsimp only [List.eraseIdx] at hS
      replace hS := hS.pick 5 rfl
      dsimp only [List.eraseIdx] at hS
      replace hS := hS.pick 2 rfl
      dsimp only [List.eraseIdx] at hS
      replace hS := hS.pick 7 rfl
      dsimp only [List.eraseIdx] at hS
      replace hS := hS.pick 6 rfl
      dsimp only [List.eraseIdx] at hS
      replace hS := hS.take 5
      simp only [List.take_succ_cons, List.take_zero] at hS
      skip
      replace hS := St.recAdd (r := ⟨(nextM bs ca bs.length).1, .slice A26 n26 c26, (bs.drop x.1).take (x.2 - x.1)⟩) hS hn26
      replace hS := hS.pick 1 rfl
      dsimp only [List.eraseIdx] at hS
      replace hS := hS.pick 3 rfl
      dsimp only [List.eraseIdx] at hS
      replace hS := hS.pick 3 rfl
      dsimp only [List.eraseIdx] at hS
      exact round (x.2, v29, ys ++ [⟨(nextM bs ca bs.length).1, .slice A26 n26 c26, (bs.drop x.1).take (x.2 - x.1)⟩]) H ⟨rfl, rfl, trivial⟩ ⟨⟨hx1.2.1, by simp; omega, f - 1, by omega, by rw [hsp]; obtain ⟨f, rfl⟩ : ∃ g, f = g + 1 := ⟨f - 1, by omega⟩; rw [splitF, if_neg (by omega), hq]; simp [he, hx0, RecM.key]⟩, by simpa [hx0] using hS⟩ (by first | omega | (dsimp only; omega))
  · skip
    have ha2 : bs.length ≤ ca := by simp at hc13; omega
    refine wp_exit ?_
    refine then_exit ?_
    refine then_exit ?_
    refine block_exit ?_
    refine then_normal ?_
    refine wp_seq ?_
    refine wp_region_lit ?_
    refine n_q H (q_move rfl) rfl ?_
    clear H a; intro a H
    refine n_q H (q_assign rfl) rfl ?_
    clear H a; intro a H
    refine n_q H (q_assign rfl) rfl ?_
    clear H a; intro a H
    refine n_nil ?_
    refine then_normal ?_
    refine wp_ret ?_
    replace hS := hS.noErr (A := A)
    replace hS := hS.pick 4 rfl
    dsimp only [List.eraseIdx] at hS
    replace hS := hS.pick 4 rfl
    dsimp only [List.eraseIdx] at hS
    replace hS := hS.take 3
    simp only [List.take_succ_cons, List.take_zero] at hS
    refine ret2 H (.inr rfl) rfl rfl rfl ?_
    exact ⟨_, _, ys, _, _, rfl, by rw [hsp]; obtain ⟨f, rfl⟩ : ∃ g, f = g + 1 := ⟨f - 1, by omega⟩; rw [splitF, if_pos ha2], rfl, hS⟩

theorem drop_cons {α : Type} {l : List α} {i : Nat} {x : α} (h : l[i]? = some x) : l.drop i = x :: l.drop (i + 1) := by
  obtain ⟨hl, e⟩ := List.getElem?_eq_some_iff.1 h
  rw [List.drop_eq_getElem_cons hl, e]
set_option maxHeartbeats 2000000 in
theorem expect_w {w : World} {A : Nat → Addr} {v vt : Value} {bs : List UInt8} {tags : List Int} (hG : EV A w) (hb : ∀ w', Ext w w' → SlR w' 1 (Flat eB) v bs) (ht : SlR w 1 (Flat eI) vt tags) (hz : bs.length ≤ 16777216) (htl : tags.length ≤ 16777216) : Calls Tryd.prog 16 [v, vt].toArray w (Ret fun r w' => ∃ vo e ys n er, n = ys.length ∧ (ys.map RecM.body, er) = expM bs tags ∧ r = .tuple #[vo, e] ∧ St NB w w' [ownR 23 1 vo n (ys.flatMap eBod), anyR (fun w' => RecsIn w' ys), erR A e er]) := by
  have hS := St.begin NB w
  obtain ⟨A9, c9, hv9, _⟩ := (hb w Ext.rfl').form
  subst hv9
  obtain ⟨AT, cT, rfl, hlT, hmT, hnT⟩ := ht.form
  refine enter Tryd.func16 rfl rfl rfl ?_
  intro a H
  dsimp only [enumL, Nat.zero_add, Nat.reduceAdd] at H
  refine wp_seq ?_
  refine wp_region_lit ?_
  refine n_q H (q_assign rfl) rfl ?_
  clear H a; intro a H
  refine n_q H (q_assign rfl) rfl ?_
  clear H a; intro a H
  refine n_nil ?_
  refine then_normal ?_
  refine wp_seq ?_
  refine wp_region_lit ?_
  refine n_q H (q_move rfl) rfl ?_
  clear H a; intro a H
  refine n_call H rfl en37 (open_w (bs := bs) (fun w' e => hb w' (hS.x.trans e)) (by omega)) rfl ?_
  clear H a; intro v3 w1 hv a H
  obtain ⟨q1, v2, n2, rfl, hn2, hE2⟩ := hv
  replace hS := hS.new hE2
  simp only [List.cons_append, List.nil_append] at hS
  refine n_q H (q_assign rfl) rfl ?_
  clear H a; intro a H
  refine n_nil ?_
  refine then_normal ?_
  refine wp_seq ?_
  refine wp_region_lit ?_
  refine n_q H (q_assign rfl) rfl ?_
  clear H a; intro a H
  refine n_nil ?_
  refine then_normal ?_
  refine wp_seq ?_
  refine wp_seq ?_
  refine wp_region_lit ?_
  refine n_q H (q_move rfl) rfl ?_
  clear H a; intro a H
  refine n_q H (q_lenSl Tryd.underlying24 rfl) rfl ?_
  clear H a; intro a H
  refine n_q H (q_move rfl) rfl ?_
  clear H a; intro a H
  refine n_nil ?_
  refine then_normal ?_
  refine wp_block ?_
  replace hS := hS.trivAny (F := fun w' => RecsIn w' []) (fun w' => RecsIn.nil w')
  replace hS := hS.nilOwn 23 1
  replace hS := hS.pick 1 rfl
  dsimp only [List.eraseIdx] at hS
  replace hS := hS.pick 1 rfl
  dsimp only [List.eraseIdx] at hS
  replace hS := hS.pick 3 rfl
  dsimp only [List.eraseIdx] at hS
  replace hS := hS.pick 3 rfl
  dsimp only [List.eraseIdx] at hS
  refine c_loop (σ := Nat × Nat × Value × List RecM) (fun (i, ca, vb, ys) => [(6, .pointer (some ⟨q1, 0, none⟩)), (7, vb), (15, .slice AT tags.length cT), (16, .int .i64 (tags.length : Nat)), (17, .int .i64 (i : Nat))]) (fun (i, ca, vb, ys) wl => (i ≤ tags.length ∧ ca ≤ bs.length ∧ ys.length = i ∧ expM bs tags = expF bs (tags.drop i) ca (ys.map RecM.body)) ∧ St NB w wl [cuR q1 v2 ca bs.length, ownR 5 1 v2 n2 (bs.flatMap eB), ownR 23 1 vb i (ys.flatMap eBod), anyR (fun w' => RecsIn w' ys)]) (fun (i, ca, vb, ys) => tags.length - i) (0, 0, .slice none 0 0, []) H ⟨rfl, rfl, rfl, rfl, rfl, trivial⟩ ⟨⟨Nat.zero_le _, Nat.zero_le _, rfl, rfl⟩, hS⟩ ?_
  clear H hS; clear a; intro xx a w4 H hR
  obtain ⟨i, ca, vb, ys⟩ := xx
  simp only [ent, List.map_cons, List.map_nil] at H
  try dsimp only at hR
  obtain ⟨⟨hi, ha, hyl, hex⟩, hS⟩ := hR; try clear hR
  refine wp_seq ?_
  refine wp_region_lit ?_
  refine n_q H (q_lss rfl rfl) rfl ?_
  clear H a; intro a H
  refine n_nil ?_
  refine then_normal ?_
  refine wp_seq ?_
  refine c_cond H rfl (fun hc18 => ?_) (fun hc18 => ?_)
  · skip
    have hi1 : i < tags.length := by simp at hc18; omega
    obtain ⟨tg, hx⟩ := ht.at hi1
    obtain ⟨ad0, had⟩ := ht.addr hi1
    subst had
    refine wp_skip ?_
    refine then_normal ?_
    refine wp_seq ?_
    refine wp_block ?_
    refine wp_seq ?_
    refine wp_region_lit ?_
    refine n_q H (q_indexAddr Tryd.underlying24 sz3 rfl rfl (by omega) (by omega)) rfl ?_
    clear H a; intro a H
    refine n_q H (q_load rfl (LdX.ext ((ht.ldOne ag3 hx rfl)) hS.x)) rfl ?_
    clear H a; intro a H
    refine n_q H (q_assign rfl) rfl ?_
    clear H a; intro a H
    refine n_nil ?_
    refine then_normal ?_
    refine wp_seq ?_
    refine wp_region_lit ?_
    refine n_q H (q_move rfl) rfl ?_
    clear H a; intro a H
    refine n_q H (q_move rfl) rfl ?_
    clear H a; intro a H
    obtain ⟨fp24, hG24, hK24, hR24, hF24⟩ := hS.frame1
    refine n_call H rfl en38 (cRecord_w (t := tg) (fun w' hw => hG.ext (hK24 _ hw).ext) (fun w' hw => (restOwn (hR24 0 _ rfl _ hw)).slB hn2) ha (Nat.le_refl _) (by omega) hG24) rfl ?_
    clear H a; intro v7 w5 hv a H
    obtain ⟨q24, u24, rfl, hE6⟩ := hv
    replace hS := hF24 _ _ hE6
    simp only [List.cons_append, List.nil_append] at hS
    clear hG24 hK24 hR24 hF24
    refine n_q H (q_move rfl) rfl ?_
    clear H a; intro a H
    refine n_q H (q_extract rfl rfl) rfl ?_
    clear H a; intro a H
    refine n_q H (q_extract rfl rfl) rfl ?_
    clear H a; intro a H
    refine n_q H (q_assign rfl) rfl ?_
    clear H a; intro a H
    refine n_q H (q_assign rfl) rfl ?_
    clear H a; intro a H
    refine n_nil ?_
    refine then_normal ?_
    refine wp_seq ?_
    refine wp_seq ?_
    refine wp_region_lit ?_
    refine n_q H (q_move rfl) rfl ?_
    clear H a; intro a H
    refine n_q H (q_nnilI Tryd.underlying33 rfl rfl (hS.any 1 rfl).form) rfl ?_
    clear H a; intro a H
    refine n_nil ?_
    refine then_normal ?_
    refine c_cond H rfl (fun hc28 => ?_) (fun hc28 => ?_)
    · skip
      have hne : (recordM bs ca bs.length tg).2.1 ≠ .nil := by rw [((hS.any 1 rfl)).isNil] at hc28; simpa using hc28
      have hq : (recordM bs ca bs.length tg).1 = none := by
        rcases recordM_form2 (t := tg) ha (Nat.le_refl _) with h | ⟨x, _, he, _⟩
        · exact h.1
        · exact absurd he hne
      refine wp_seq ?_
      refine wp_region_lit ?_
      refine n_q H (q_move rfl) rfl ?_
      clear H a; intro a H
      refine n_q H (q_assign rfl) rfl ?_
      clear H a; intro a H
      refine n_q H (q_assign rfl) rfl ?_
      clear H a; intro a H
      refine n_nil ?_
      refine then_normal ?_
      refine wp_ret ?_
      refine then_ret ?_
      refine block_ret ?_
      refine then_ret ?_
      refine then_ret ?_
      refine block_ret ?_
      refine then_ret ?_
      replace hS := hS.trivAny (F := fun w' => RecsIn w' []) (fun w' => RecsIn.nil w')
      replace hS := hS.nilOwn 23 1
      replace hS := hS.pick 3 rfl
      dsimp only [List.eraseIdx] at hS
      replace hS := hS.pick 2 rfl
      dsimp only [List.eraseIdx] at hS
      replace hS := hS.pick 2 rfl
      dsimp only [List.eraseIdx] at hS
      replace hS := hS.take 3
      simp only [List.take_succ_cons, List.take_zero] at hS
      refine ret2 H (.inr rfl) rfl rfl rfl ?_
      exact ⟨_, _, [], _, _, rfl, by rw [hex, drop_cons hx, expF, hq]; rfl, rfl, hS⟩
    · skip
      have he : (recordM bs ca bs.length tg).2.1 = .nil := by rw [((hS.any 1 rfl)).isNil] at hc28; simpa using hc28
      obtain ⟨x, hq, hx0, hx1⟩ : ∃ x, (recordM bs ca bs.length tg).1 = some x ∧ (recordM bs ca bs.length tg).2.2 = x.2 ∧ (x.1 ≤ x.2 ∧ x.2 ≤ bs.length) := by
        rcases recordM_form2 (t := tg) ha (Nat.le_refl _) with h | ⟨x, h1, _, h2, h3⟩
        · exact absurd he h.2
        · exact ⟨x, h1, h2, h3⟩
      replace hS := hS.pick 2 rfl
      dsimp only [List.eraseIdx] at hS
      rw [hq] at hS
      obtain ⟨bq, hq24, hS3⟩ := hS.ncGet
      replace hS := hS3
      clear hS3
      subst hq24
      refine wp_skip ?_
      refine then_normal ?_
      refine wp_region_lit ?_
      refine n_q H (q_move rfl) rfl ?_
      clear H a; intro a H
      refine n_q H (q_move rfl) rfl ?_
      clear H a; intro a H
      obtain ⟨fp32, hG32, hK32, hR32, hF32⟩ := hS.frame1
      refine n_call H rfl en51 (body_w (fun w' hw => hG.ext (hK32 _ hw).ext) (fun w' hw => (restOwn (hR32 2 _ rfl _ hw)).slB hn2) hx1.1 hx1.2 (by omega) hG32) rfl ?_
      clear H a; intro v32 w8 hv a H
      obtain ⟨n32, hn32, hE9⟩ := hv
      replace hS := hF32 _ _ hE9
      simp only [List.cons_append, List.nil_append] at hS
      clear hG32 hK32 hR32 hF32
      obtain ⟨A32, c32, hv32, _⟩ := (hS.own 1 rfl).form
      subst hv32
      refine n_buildSlice H Tryd.underlying44 sz23 ze23 rfl rfl rfl (cs := [.slice A32 n32 c32]) (by kernel_rfl) rfl ?_
      clear H; intro b33 w10 hN hE11 hs_b33; clear a; intro a H
      replace hS := hS.newBlk hN hE11 hs_b33; clear hN hE11
      replace hS := hS.pick 6 rfl
      dsimp only [List.eraseIdx] at hS
      refine n_append H rfl rfl Tryd.underlying44 Tryd.underlying44 (by simp) el23 (hS.own 0 rfl) (show Src _ 1 _ 1 (([⟨0, .slice A32 n32 c32, (bs.drop x.1).take (x.2 - x.1)⟩] : List RecM).flatMap eBod) from (Own.ofBlk (n := 1) (k := 1) (hS.blk 1 rfl) rfl (by simp [maxLen])).src) (by simp [eBod, Value.oneCell']) (by omega) (by simp only [maxLen]; omega) rfl ?_
      clear H; intro v34 w12 hN hC13 hb34 hnil34; clear a; intro a H
      replace hS := hS.setOwn hN hC13 hb34; clear hN
      rw [← List.flatMap_append] at hS
      refine n_q H (q_assign rfl) rfl ?_
      clear H a; intro a H
      refine n_nil ?_
      refine block_normal ?_
      refine then_normal ?_
      refine wp_region_lit ?_
      refine n_q H (q_add rfl rfl (by constructor <;> omega)) rfl ?_
      clear H a; intro a H
      refine n_q H (q_move rfl) rfl ?_
      clear H a; intro a H
      refine n_nil ?_
      refine then_normal ?_
      replace hS := hS.pick 6 rfl
      dsimp only [List.eraseIdx] at hS
      replace hS := hS.pick 5 rfl
      dsimp only [List.eraseIdx] at hS
      replace hS := hS.pick 2 rfl
      dsimp only [List.eraseIdx] at hS
      replace hS := hS.pick 7 rfl
      dsimp only [List.eraseIdx] at hS
      replace hS := hS.pick 6 rfl
      dsimp only [List.eraseIdx] at hS
      replace hS := hS.take 5
      simp only [List.take_succ_cons, List.take_zero] at hS
      replace hS := St.recAdd (r := ⟨0, .slice A32 n32 c32, (bs.drop x.1).take (x.2 - x.1)⟩) hS hn32
      replace hS := hS.pick 1 rfl
      dsimp only [List.eraseIdx] at hS
      replace hS := hS.pick 3 rfl
      dsimp only [List.eraseIdx] at hS
      replace hS := hS.pick 3 rfl
      dsimp only [List.eraseIdx] at hS
      exact round (i + 1, x.2, v34, ys ++ [⟨0, .slice A32 n32 c32, (bs.drop x.1).take (x.2 - x.1)⟩]) H ⟨rfl, rfl, rfl, rfl, rfl, trivial⟩ ⟨⟨by omega, hx1.2, by simp; omega, by rw [hex, drop_cons hx, expF, hq]; simp [hx0]⟩, by simpa [hx0] using hS⟩ (by first | omega | (dsimp only; omega))
  · skip
    obtain rfl : i = tags.length := by simp at hc18; omega
    rw [List.drop_length, expF] at hex
    refine wp_exit ?_
    refine then_exit ?_
    refine then_exit ?_
    refine block_exit ?_
    refine then_normal ?_
    refine wp_seq ?_
    refine wp_seq ?_
    refine wp_region_lit ?_
    refine n_q H (q_move rfl) rfl ?_
    clear H a; intro a H
    obtain ⟨fp37, hG37, hK37, hR37, hF37⟩ := hS.frame1
    refine n_call H rfl en54 (cEnd_w (fun w' hw => hG.ext (hK37 _ hw).ext) (fun w' hw => (restOwn (hR37 0 _ rfl _ hw)).slB hn2) ha (Nat.le_refl _) (by omega) hG37) rfl ?_
    clear H a; intro u37 w14 hv a H
    obtain ⟨_, rfl, hE15⟩ := hv
    replace hS := hF37 _ _ hE15
    simp only [List.cons_append, List.nil_append] at hS
    clear hG37 hK37 hR37 hF37
    refine n_q H (q_assign rfl) rfl ?_
    clear H a; intro a H
    refine n_nil ?_
    refine then_normal ?_
    refine wp_seq ?_
    refine wp_region_lit ?_
    refine n_q H (q_move rfl) rfl ?_
    clear H a; intro a H
    refine n_q H (q_nnilI Tryd.underlying33 rfl rfl (hS.any 1 rfl).form) rfl ?_
    clear H a; intro a H
    refine n_nil ?_
    refine then_normal ?_
    refine c_cond H rfl (fun hc39 => ?_) (fun hc39 => ?_)
    · skip
      have hne : endM ca bs.length ≠ .nil := by rw [((hS.any 1 rfl)).isNil] at hc39; simpa using hc39
      rw [if_neg hne] at hex
      refine wp_seq ?_
      refine wp_region_lit ?_
      refine n_q H (q_move rfl) rfl ?_
      clear H a; intro a H
      refine n_q H (q_assign rfl) rfl ?_
      clear H a; intro a H
      refine n_q H (q_assign rfl) rfl ?_
      clear H a; intro a H
      refine n_nil ?_
      refine then_normal ?_
      refine wp_ret ?_
      refine then_ret ?_
      replace hS := hS.trivAny (F := fun w' => RecsIn w' []) (fun w' => RecsIn.nil w')
      replace hS := hS.nilOwn 23 1
      replace hS := hS.pick 3 rfl
      dsimp only [List.eraseIdx] at hS
      replace hS := hS.pick 2 rfl
      dsimp only [List.eraseIdx] at hS
      replace hS := hS.pick 2 rfl
      dsimp only [List.eraseIdx] at hS
      replace hS := hS.take 3
      simp only [List.take_succ_cons, List.take_zero] at hS
      refine ret2 H (.inr rfl) rfl rfl rfl ?_
      exact ⟨_, _, [], _, _, rfl, hex.symm, rfl, hS⟩
    · skip
      have he : endM ca bs.length = .nil := by rw [((hS.any 1 rfl)).isNil] at hc39; simpa using hc39
      rw [if_pos he] at hex
      refine wp_skip ?_
      refine then_normal ?_
      refine wp_seq ?_
      refine wp_region_lit ?_
      refine n_q H (q_move rfl) rfl ?_
      clear H a; intro a H
      refine n_q H (q_assign rfl) rfl ?_
      clear H a; intro a H
      refine n_q H (q_assign rfl) rfl ?_
      clear H a; intro a H
      refine n_nil ?_
      refine then_normal ?_
      refine wp_ret ?_
      replace hS := hS.noErr (A := A)
      replace hS := hS.pick 5 rfl
      dsimp only [List.eraseIdx] at hS
      replace hS := hS.pick 5 rfl
      dsimp only [List.eraseIdx] at hS
      replace hS := hS.take 3
      simp only [List.take_succ_cons, List.take_zero] at hS
      refine ret2 H (.inr rfl) rfl rfl rfl ?_
      exact ⟨_, _, ys, _, _, hyl.symm, hex.symm, rfl, hS⟩

end Go.Proofs.YtnhjohcgnmogaaaDoor
