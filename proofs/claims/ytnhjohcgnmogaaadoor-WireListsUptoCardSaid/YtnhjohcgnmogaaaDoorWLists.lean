/- WireLists (written by wip/tools) -/
import Derived.Test.YtnhjohcgnmogaaaDoorRLists
import Derived.Test.YtnhjohcgnmogaaaDoorGua
set_option linter.unusedVariables false
set_option linter.unusedSimpArgs false
set_option maxRecDepth 10000
namespace Go.Proofs.YtnhjohcgnmogaaaDoor
open Go Go.RowKit
theorem ag24 : aggB Tryd.prog 24 = some false := by kernel_rfl
theorem ag26 : aggB Tryd.prog 26 = some true := by kernel_rfl
theorem el3 : ElemOk Tryd.prog 3 1 8 [.int .i64 0] := ⟨by kernel_rfl, by kernel_rfl, by kernel_rfl, rfl, by decide⟩
theorem en10 : entersB Tryd.prog 10 = true := by kernel_rfl
theorem en11 : entersB Tryd.prog 11 = true := by kernel_rfl
theorem en12 : entersB Tryd.prog 12 = true := by kernel_rfl
theorem en13 : entersB Tryd.prog 13 = true := by kernel_rfl
theorem en14 : entersB Tryd.prog 14 = true := by kernel_rfl
theorem en15 : entersB Tryd.prog 15 = true := by kernel_rfl
theorem en16 : entersB Tryd.prog 16 = true := by kernel_rfl
theorem en17 : entersB Tryd.prog 17 = true := by kernel_rfl
theorem en18 : entersB Tryd.prog 18 = true := by kernel_rfl
theorem en20 : entersB Tryd.prog 20 = true := by kernel_rfl
theorem en7 : entersB Tryd.prog 7 = true := by kernel_rfl
theorem en8 : entersB Tryd.prog 8 = true := by kernel_rfl
theorem en9 : entersB Tryd.prog 9 = true := by kernel_rfl
theorem fo26_0 : fOff Tryd.prog 26 0 = some 0 := by kernel_rfl
theorem fo26_1 : fOff Tryd.prog 26 1 = some 1 := by kernel_rfl
theorem fo26_2 : fOff Tryd.prog 26 2 = some 2 := by kernel_rfl
theorem fo26_3 : fOff Tryd.prog 26 3 = some 3 := by kernel_rfl
theorem sz24 : sizeB Tryd.prog 24 = some 1 := by kernel_rfl
theorem sz26 : sizeB Tryd.prog 26 = some 4 := by kernel_rfl
theorem ze3 : zeroB Tryd.prog 3 = some [.int .i64 0] := by kernel_rfl

theorem Own.strE {w w' : World} {E n : Nat} {v : Value} {xs : List UInt8} {h0 : Nat} (h : Own w E 1 v n (xs.flatMap eB)) (hn : n = xs.length) (hl : ∀ b ∈ blks v, b < h0) (hw : ChgF [] h0 w w') : SlR w' 1 (Flat eB) v xs := by
  have h' : Own w' E 1 v n (xs.flatMap eB) := by
    rcases h with h | ⟨b, cap, cs, rfl, hb, hr⟩
    · exact .inl h
    · exact .inr ⟨b, cap, cs, rfl, hw.blk hb (hl b (by simp [blks])) (by simp), hr⟩
  exact h'.slr hn (fun _ _ => rfl)
theorem bulkR_key (xs : List RecM) : bulkR xs = ((xs.map RecM.key).map fun k => k.2.length + 3).sum := by simp [bulkR, RecM.key, Function.comp_def]
set_option maxHeartbeats 3000000 in
theorem wireLists_w {w : World} {A : Nat → Addr} {vr vB : Value} {AT : Option Addr} {cT : Nat} {xs : List RecM} {bs : List UInt8} {tg : List Int} {s : ByteArray} (hG : EV A w) (hH : HE w) (h : SlR w 2 (Flat eRec) vr xs) (hr : RecsIn w xs) (hB : SlR w 1 (Flat eB) vB bs) (hT : SlR w 1 (Flat eI) (.slice AT tg.length cT) tg) (hz : xs.length ≤ 1048576) (hb : ∀ r ∈ xs, r.body.length ≤ 1048576) (hbk : bulkR xs ≤ 16777216) (hbs : bs.length ≤ 1048576) (htg : tg.length ≤ 1048576) (hs : s.size ≤ 1048576) :
    Calls Tryd.prog 3 [.agg #[vr, vB, .slice AT tg.length cT, .string s]].toArray w (Ret fun r w' => r = .bool true ∧ Ext w w') := by
  have hS := St.begin NB w
  obtain ⟨AB, cB, rfl, hlB, hmB, hnB⟩ := hB.form
  refine enter Tryd.func3 rfl rfl rfl ?_
  intro a H
  dsimp only [enumL, Nat.zero_add, Nat.reduceAdd] at H
  refine wp_seq ?_
  refine wp_region_lit ?_
  refine n_box H rfl (cs := [vr, .slice AB bs.length cB, .slice AT tg.length cT, .string s]) rfl rfl ?_
  clear H; intro b1 w1 hN hE2 hs_b1; clear a; intro a H
  replace hS := hS.newBlk hN hE2 hs_b1; clear hN hE2
  refine n_q H (q_assign rfl) rfl ?_
  clear H a; intro a H
  refine n_nil ?_
  refine then_normal ?_
  refine wp_seq ?_
  refine wp_seq ?_
  refine wp_region_lit ?_
  refine n_call H rfl en7 (fixed_w (hG.ext hS.x) (hH.ext hS.x)) rfl ?_
  clear H a; intro v5 w3 hv a H
  obtain ⟨rfl, hE4⟩ := hv
  replace hS := hS.ext hE4
  refine n_q H (q_not rfl) rfl ?_
  clear H a; intro a H
  refine n_nil ?_
  refine then_normal ?_
  refine c_cond H rfl (fun hc15 => ?_) (fun hc15 => ?_)
  · skip
    cases hc15
  · skip
    refine wp_skip ?_
    refine then_normal ?_
    refine wp_seq ?_
    refine wp_region_lit ?_
    refine n_q H (q_fieldAddr0 rfl fo26_0) rfl ?_
    clear H a; intro a H
    refine n_q H (q_load rfl ((hS.blk 0 rfl).ld ag22 rfl)) rfl ?_
    clear H a; intro a H
    refine n_call H rfl en8 (rJoin_w (h.ext (Flat.mono _) hS.x) (hr.ext hS.x) hbk) rfl ?_
    clear H a; intro v8 w6 hv a H
    obtain ⟨v19, n19, hn19, rfl, hE7⟩ := hv
    replace hS := hS.new hE7
    simp only [List.cons_append, List.nil_append] at hS
    refine n_q H (q_move rfl) rfl ?_
    clear H a; intro a H
    refine n_q H (q_extract rfl rfl) rfl ?_
    clear H a; intro a H
    refine n_q H (q_extract rfl rfl) rfl ?_
    clear H a; intro a H
    refine n_alloc H ze29 rfl ?_
    clear H; intro b4 w9 hN hE10 hs_b4; clear a; intro a H
    replace hS := hS.newBlk hN hE10 hs_b4; clear hN hE10
    refine n_q H (q_assign rfl) rfl ?_
    clear H a; intro a H
    refine n_storeAll H rfl rfl (vs := [.int .i64 (joinM (xs.map RecM.key)).err.code, .int .i64 (joinM (xs.map RecM.key)).err.place]) rfl sz29 (hS.blk 0 rfl) rfl (by simp [Value.oneCell']) ?_
    clear H; intro w11 hN hC12 hz; clear a; intro a H
    replace hS := hS.setBlk hN hC12; clear hN hz
    refine n_nil ?_
    refine then_normal ?_
    refine wp_seq ?_
    refine wp_region_lit ?_
    refine n_q H (q_fieldAddr0 rfl fo26_0) rfl ?_
    clear H a; intro a H
    refine n_q H (q_load rfl ((hS.blk 2 rfl).ld ag22 rfl)) rfl ?_
    clear H a; intro a H
    refine n_call H rfl en10 (recs_w (h.ext (Flat.mono _) hS.x) (hr.ext hS.x) hz hb) rfl ?_
    clear H a; intro v25 w13 hv a H
    obtain ⟨ys, n25, hn25, hk25, hE14⟩ := hv
    replace hS := hS.new hE14
    simp only [List.cons_append, List.nil_append] at hS
    refine n_call H rfl en9 (join_w (hG.ext hS.x) ((hS.own 0 rfl).slr hn25 (eRec_len _)) (hS.any 1 rfl) (by rw [bulkR_key, hk25, ← bulkR_key]; exact hbk)) rfl ?_
    clear H a; intro v17 w15 hv a H
    obtain ⟨v26, u26, n26, hn26, rfl, hE16⟩ := hv
    replace hS := hS.new hE16
    simp only [List.cons_append, List.nil_append] at hS
    rw [hk25] at hn26 hS
    refine n_q H (q_move rfl) rfl ?_
    clear H a; intro a H
    refine n_q H (q_extract rfl rfl) rfl ?_
    clear H a; intro a H
    refine n_q H (q_extract rfl rfl) rfl ?_
    clear H a; intro a H
    refine n_q H (q_assign rfl) rfl ?_
    clear H a; intro a H
    refine n_q H (q_assign rfl) rfl ?_
    clear H a; intro a H
    refine n_nil ?_
    refine then_normal ?_
    refine wp_seq ?_
    refine wp_seq ?_
    refine wp_region_lit ?_
    refine n_c H (fun HC => ?_); clear H
    refine nc_q HC (q_move rfl) rfl (by kernel_rfl) ?_
    clear HC a; intro a HC
    refine nc_q HC (q_load rfl ((hS.blk 4 rfl).ldAll ag29 sz29)) rfl (by kernel_rfl) ?_
    clear HC a; intro a HC
    refine nc_call HC rfl en11 (same_self (hG.ext hS.x) (hH.ext hS.x) (hS.any 1 rfl)) rfl (by kernel_rfl) ?_
    clear HC a; intro v20 w18 hv a HC
    obtain ⟨rfl, hE19⟩ := hv
    replace hS := hS.ext hE19
    refine nc_q HC (q_not rfl) rfl (by kernel_rfl) ?_
    clear HC a; intro a HC
    refine nc_q HC (q_move rfl) rfl (by kernel_rfl) ?_
    clear HC a; intro a HC
    refine nc_yes HC rfl rfl ?_
    refine nc_q HC (q_move rfl) rfl (by kernel_rfl) ?_
    clear HC a; intro a HC
    refine nc_yes HC rfl rfl ?_
    refine nc_q HC (q_str Tryd.underlying23 Tryd.underlying5 Tryd.underlying9 rfl (fun w' e => ((hS.own 0 rfl).ext e).slB hn26)) rfl (by kernel_rfl) ?_
    clear HC a; intro a HC
    refine nc_yes HC rfl rfl ?_
    refine nc_q HC (q_move rfl) rfl (by kernel_rfl) ?_
    clear HC a; intro a HC
    refine nc_yes HC rfl rfl ?_
    refine nc_q HC (q_str Tryd.underlying23 Tryd.underlying5 Tryd.underlying9 rfl (fun w' e => ((hS.own 5 rfl).ext e).slB hn19)) rfl (by kernel_rfl) ?_
    clear HC a; intro a HC
    refine nc_yes HC rfl rfl ?_
    refine nc_q HC (q_cast (q_neqS rfl rfl) (show _ = Value.bool false by simp)) rfl (by kernel_rfl) ?_
    clear HC a; intro a HC
    refine nc_or (j := 4) HC rfl rfl rfl (by kernel_rfl) (by kernel_rfl) ?_
    clear HC a; intro a HC
    have H := HC.has; clear HC
    refine n_nil ?_
    refine then_normal ?_
    refine c_cond H rfl (fun hc39 => ?_) (fun hc39 => ?_)
    · skip
      cases hc39
    · skip
      refine wp_skip ?_
      refine then_normal ?_
      refine wp_seq ?_
      refine wp_region_lit ?_
      refine n_q H (q_fieldAddr0 rfl fo26_1) rfl ?_
      clear H a; intro a H
      refine n_q H (q_load rfl ((hS.blk 6 rfl).ld ag23 rfl)) rfl ?_
      clear H a; intro a H
      refine n_call H rfl en12 (rSplit_w (bs := bs) (fun w' e => hB.ext (Flat.mono _) (Ext.trans' hS.x e)) (by omega)) rfl ?_
      clear H a; intro v23 w21 hv a H
      obtain ⟨v43, ss, n43, e43, hn43, hss, rfl, hE22⟩ := hv
      replace hS := hS.new hE22
      simp only [List.cons_append, List.nil_append] at hS
      obtain ⟨hss1, rfl⟩ : ss.map RecM.key = (splitM bs).1 ∧ e43 = (splitM bs).2 := by rw [← hss]; exact ⟨rfl, rfl⟩
      refine n_q H (q_move rfl) rfl ?_
      clear H a; intro a H
      refine n_q H (q_extract rfl rfl) rfl ?_
      clear H a; intro a H
      refine n_q H (q_extract rfl rfl) rfl ?_
      clear H a; intro a H
      refine n_q H (q_assign rfl) rfl ?_
      clear H a; intro a H
      replace hS := hS.pick 6 rfl
      dsimp only [List.eraseIdx] at hS
      refine n_storeAll H rfl rfl (vs := [.int .i64 (splitM bs).2.code, .int .i64 (splitM bs).2.place]) rfl sz29 (hS.blk 0 rfl) rfl (by simp [Value.oneCell']) ?_
      clear H; intro w24 hN hC25 hz; clear a; intro a H
      replace hS := hS.setBlk hN hC25; clear hN hz
      refine n_nil ?_
      refine then_normal ?_
      refine wp_seq ?_
      refine wp_region_lit ?_
      refine n_buildSlice H Tryd.underlying23 sz5 ze5 rfl rfl rfl (cs := []) (by kernel_rfl) rfl ?_
      clear H; intro b47 w26 hN hE27 hs_b47; clear a; intro a H
      replace hS := hS.newBlk hN hE27 hs_b47; clear hN hE27
      replace hS := hS.blkOwn 0 1 (by simp) (by simp [maxLen])
      refine n_q H (q_fieldAddr0 rfl fo26_1) rfl ?_
      clear H a; intro a H
      refine n_q H (q_load rfl ((hS.blk 9 rfl).ld ag23 rfl)) rfl ?_
      clear H a; intro a H
      refine n_append H rfl rfl Tryd.underlying23 Tryd.underlying23 (by simp) el5 (hS.own 0 rfl) ((hB.ext (Flat.mono _) hS.x).srcB') (flat_one eB_one _) (by omega) (by simp only [maxLen]; omega) rfl ?_
      clear H; intro v50 w28 hN hC29 hb50 hnil50; clear a; intro a H
      replace hS := hS.setOwn hN hC29 hb50; clear hN
      simp only [Nat.zero_add, List.nil_append] at hS
      refine n_call H rfl en13 (split_w (bs := bs) (hG.ext hS.x) (fun w' e => ((hS.own 0 rfl).ext e).slB rfl) (by omega)) rfl ?_
      clear H a; intro v32 w30 hv a H
      obtain ⟨v51, u51, zs, n51, e51, hn51, hsp, rfl, hE31⟩ := hv
      replace hS := hS.new hE31
      simp only [List.cons_append, List.nil_append] at hS
      obtain ⟨hsp1, rfl⟩ : zs.map RecM.key = (splitM bs).1 ∧ e51 = (splitM bs).2 := by rw [← hsp]; exact ⟨rfl, rfl⟩
      refine n_q H (q_move rfl) rfl ?_
      clear H a; intro a H
      refine n_q H (q_extract rfl rfl) rfl ?_
      clear H a; intro a H
      refine n_q H (q_extract rfl rfl) rfl ?_
      clear H a; intro a H
      refine n_q H (q_assign rfl) rfl ?_
      clear H a; intro a H
      refine n_q H (q_assign rfl) rfl ?_
      clear H a; intro a H
      refine n_nil ?_
      refine then_normal ?_
      refine wp_seq ?_
      refine wp_seq ?_
      refine wp_region_lit ?_
      refine n_c H (fun HC => ?_); clear H
      refine nc_q HC (q_move rfl) rfl (by kernel_rfl) ?_
      clear HC a; intro a HC
      refine nc_q HC (q_load rfl ((hS.blk 4 rfl).ldAll ag29 sz29)) rfl (by kernel_rfl) ?_
      clear HC a; intro a HC
      refine nc_call HC rfl en11 (same_self (hG.ext hS.x) (hH.ext hS.x) (hS.any 2 rfl)) rfl (by kernel_rfl) ?_
      clear HC a; intro v35 w33 hv a HC
      obtain ⟨rfl, hE34⟩ := hv
      replace hS := hS.ext hE34
      refine nc_q HC (q_not rfl) rfl (by kernel_rfl) ?_
      clear HC a; intro a HC
      refine nc_q HC (q_move rfl) rfl (by kernel_rfl) ?_
      clear HC a; intro a HC
      refine nc_yes HC rfl rfl ?_
      refine nc_q HC (q_move rfl) rfl (by kernel_rfl) ?_
      clear HC a; intro a HC
      refine nc_yes HC rfl rfl ?_
      refine nc_q HC (q_move rfl) rfl (by kernel_rfl) ?_
      clear HC a; intro a HC
      refine nc_yes HC rfl rfl ?_
      refine nc_call HC rfl en14 (sameRecs_w ((hS.own 0 rfl).slr hn51 (eRec_len _)) (hS.any 1 rfl) ((hS.own 5 rfl).slr hn43 (eRec_len _)) (hS.any 6 rfl)) rfl (by kernel_rfl) ?_
      clear HC a; intro v38 w36 hv a HC
      obtain ⟨rfl, hE37⟩ := hv
      replace hS := hS.ext hE37
      refine nc_yes HC rfl rfl ?_
      refine nc_q HC (q_cast (q_not rfl) (show _ = Value.bool false by rw [hsp1, hss1]; simp)) rfl (by kernel_rfl) ?_
      clear HC a; intro a HC
      refine nc_or (j := 4) HC rfl rfl rfl (by kernel_rfl) (by kernel_rfl) ?_
      clear HC a; intro a HC
      have H := HC.has; clear HC
      refine n_nil ?_
      refine then_normal ?_
      refine c_cond H rfl (fun hc63 => ?_) (fun hc63 => ?_)
      · skip
        cases hc63
      · skip
        refine wp_skip ?_
        refine then_normal ?_
        refine wp_seq ?_
        refine wp_region_lit ?_
        refine n_q H (q_fieldAddr0 rfl fo26_1) rfl ?_
        clear H a; intro a H
        refine n_q H (q_load rfl ((hS.blk 12 rfl).ld ag23 rfl)) rfl ?_
        clear H a; intro a H
        refine n_q H (q_fieldAddr0 rfl fo26_2) rfl ?_
        clear H a; intro a H
        refine n_q H (q_load rfl ((hS.blk 12 rfl).ld ag24 rfl)) rfl ?_
        clear H a; intro a H
        refine n_call H rfl en15 (rExpect_w (bs := bs) (tags := tg) (fun w' e => hB.ext (Flat.mono _) (Ext.trans' hS.x e)) (hT.ext (Flat.mono _) hS.x) (by omega) (by omega)) rfl ?_
        clear H a; intro v41 w39 hv a H
        obtain ⟨v69, bl, nl, e69, hnl, hbl, rfl, hE40⟩ := hv
        replace hS := hS.new hE40
        simp only [List.cons_append, List.nil_append] at hS
        obtain ⟨hbl1, rfl⟩ : bl.map RecM.body = (expM bs tg).1 ∧ e69 = (expM bs tg).2 := by rw [← hbl]; exact ⟨rfl, rfl⟩
        obtain ⟨A69, c69, hv69, _⟩ := (hS.own 0 rfl).form
        subst hv69
        refine n_q H (q_move rfl) rfl ?_
        clear H a; intro a H
        refine n_q H (q_extract rfl rfl) rfl ?_
        clear H a; intro a H
        refine n_q H (q_extract rfl rfl) rfl ?_
        clear H a; intro a H
        refine n_q H (q_assign rfl) rfl ?_
        clear H a; intro a H
        replace hS := hS.pick 6 rfl
        dsimp only [List.eraseIdx] at hS
        refine n_storeAll H rfl rfl (vs := [.int .i64 (expM bs tg).2.code, .int .i64 (expM bs tg).2.place]) rfl sz29 (hS.blk 0 rfl) rfl (by simp [Value.oneCell']) ?_
        clear H; intro w42 hN hC43 hz; clear a; intro a H
        replace hS := hS.setBlk hN hC43; clear hN hz
        refine n_nil ?_
        refine then_normal ?_
        refine c_join (σ := Option Addr × Nat × Value × List RecM × Nat) H (fun (A10, c10, u6, bm, nm) => [(1, .pointer (some ⟨b1, 0, none⟩)), (4, .pointer (some ⟨b4, 0, none⟩)), (6, u6), (9, .slice A69 nl c69), (10, .slice A10 nm c10)]) (fun (A10, c10, u6, bm, nm) wl => (nm = bm.length ∧ bm.map RecM.body = (expM bs tg).1) ∧ St NB w wl [ownR 23 1 (.slice A10 nm c10) nm (bm.flatMap eBod), anyR (fun w' => RecsIn w' bm), ownR 23 1 (.slice A69 nl c69) nl (bl.flatMap eBod), anyR (fun w' => RecsIn w' bl), anyR (fun w' => IsE A w' u6 (expM bs tg).2), blkR b4 [.int .i64 (expM bs tg).2.code, .int .i64 (expM bs tg).2.place] 29, blkR b1 [vr, .slice AB bs.length cB, .slice AT tg.length cT, .string s] 26]) ?_ ?_
        · skip
          refine c_ord [] 14 (by kernel_rfl) ?_
          obtain ⟨w44, hw44⟩ : ∃ x, x = w42.drew := ⟨_, rfl⟩
          rw [← hw44]
          have hE45 : Ext w42 w44 := by rw [hw44]; exact Ext.drew' _
          clear hw44
          replace hS := hS.ext hE45
          refine k_take 1 H rfl (q_fieldAddr0 rfl fo26_1) rfl (by kernel_rfl) (by kernel_rfl) (by kernel_rfl) (by kernel_rfl) (fun _ _ _ h => h) ?_
          clear H a; intro a H
          refine k_take 2 H rfl (q_load rfl (LdC.k0 ((hS.blk 14 rfl).ld ag23 rfl))) rfl (by kernel_rfl) (by kernel_rfl) (by kernel_rfl) (by kernel_rfl) (fun _ _ _ h => h) ?_
          clear H a; intro a H
          refine k_take 5 H rfl (q_fieldAddr0 rfl fo26_2) rfl (by kernel_rfl) (by kernel_rfl) (by kernel_rfl) (by kernel_rfl) (fun _ _ _ h => h) ?_
          clear H a; intro a H
          refine k_take 6 H rfl (q_load rfl (LdC.k0 ((hS.blk 14 rfl).ld ag24 rfl))) rfl (by kernel_rfl) (by kernel_rfl) (by kernel_rfl) (by kernel_rfl) (fun _ _ _ h => h) ?_
          clear H a; intro a H
          refine k_two 0 4 (by kernel_rfl) ?_ ?_
          · skip
            refine kk_buildSlice 0 H rfl Tryd.underlying23 sz5 ze5 rfl rfl rfl (cs := []) (by kernel_rfl) rfl ?_
            clear H; intro b73 w46 hN hE47 hs_b73; clear a; intro a H
            have hz_b73 := hE47.size
            replace hS := hS.newBlk hN hE47 hs_b73; clear hN hE47
            replace hS := hS.blkOwn 0 1 (by simp) (by simp [maxLen])
            refine k_two 3 4 (by kernel_rfl) ?_ ?_
            · skip
              refine kk_append 3 H rfl rfl rfl Tryd.underlying23 Tryd.underlying23 (by simp) el5 (hS.own 0 rfl) ((hB.ext (Flat.mono _) hS.x).srcB') (flat_one eB_one _) (by omega) (by simp only [maxLen]; omega) rfl (.inl (by simp [blks]; omega)) ?_
              clear H; intro v76 w48 hN hC49 hb76 hnil76; clear a; intro a H
              have hz76 := hC49.size
              replace hS := hS.setOwn hN hC49 hb76; clear hN
              simp only [Nat.zero_add, List.nil_append] at hS
              refine k_buildSlice 4 H rfl Tryd.underlying24 sz3 ze3 rfl rfl rfl (cs := []) (by kernel_rfl) rfl (by kernel_rfl) ?_
              clear H; intro b77 w50 hN hE51 hs_b77; clear a; intro a H
              have hz_b77 := hE51.size
              replace hS := hS.newBlk hN hE51 hs_b77; clear hN hE51
              replace hS := hS.blkOwn 0 1 (by simp) (by simp [maxLen])
              refine k_append 7 H rfl rfl rfl Tryd.underlying24 Tryd.underlying24 (by simp) el3 (hS.own 0 rfl) (SlR.src (show SlR _ 1 (Flat eI) (.slice AT tg.length cT) tg from hT.ext (Flat.mono _) hS.x) (fun _ _ => rfl)) (flat_one eI_one _) (by omega) (by simp only [maxLen]; omega) rfl (by kernel_rfl) (.inl (by simp [blks]; omega)) ?_
              clear H; intro v80 w52 hN hC53 hb80 hnil80; clear a; intro a H
              have hz80 := hC53.size
              replace hS := hS.setOwn hN hC53 hb80; clear hN
              simp only [Nat.zero_add, List.nil_append] at hS
              refine k_call 8 H rfl rfl en16 (expect_w (bs := bs) (tags := tg) (hG.ext hS.x) (fun w' e => ((hS.own 1 rfl).ext e).slB rfl) ((hS.own 0 rfl).slr rfl (fun _ _ => rfl)) (by omega) (by omega)) rfl (by kernel_rfl) (fun v w hv => .inl (ChgF.of_ext (by obtain ⟨v81, u81, bm, nm, e81, hnm, hbm, rfl, hE0⟩ := hv; exact hE0.x))) ?_
              clear H a; intro v56 w54 hv a H
              obtain ⟨v81, u81, bm, nm, e81, hnm, hbm, rfl, hE55⟩ := hv
              replace hS := hS.new hE55
              simp only [List.cons_append, List.nil_append] at hS
              obtain ⟨hbm1, rfl⟩ : bm.map RecM.body = (expM bs tg).1 ∧ e81 = (expM bs tg).2 := by rw [← hbm]; exact ⟨rfl, rfl⟩
              obtain ⟨A81, c81, hv81, _⟩ := (hS.own 0 rfl).form
              subst hv81
              refine k_take 9 H rfl (q_move rfl) rfl (by kernel_rfl) (by kernel_rfl) (by kernel_rfl) (by kernel_rfl) (fun _ _ _ h => h) ?_
              clear H a; intro a H
              refine k_take 10 H rfl (q_extract rfl rfl) rfl (by kernel_rfl) (by kernel_rfl) (by kernel_rfl) (by kernel_rfl) (fun _ _ _ h => h) ?_
              clear H a; intro a H
              refine k_take 11 H rfl (q_extract rfl rfl) rfl (by kernel_rfl) (by kernel_rfl) (by kernel_rfl) (by kernel_rfl) (fun _ _ _ h => h) ?_
              clear H a; intro a H
              refine k_take 12 H rfl (q_assign rfl) rfl (by kernel_rfl) (by kernel_rfl) (by kernel_rfl) (by kernel_rfl) (fun _ _ _ h => h) ?_
              clear H a; intro a H
              refine k_take 13 H rfl (q_assign rfl) rfl (by kernel_rfl) (by kernel_rfl) (by kernel_rfl) (by kernel_rfl) (fun _ _ _ h => h) ?_
              clear H a; intro a H
              refine k_done (by kernel_rfl) ?_
              refine then_normal ?_
              replace hS := hS.pick 19 rfl
              dsimp only [List.eraseIdx] at hS
              replace hS := hS.pick 6 rfl
              dsimp only [List.eraseIdx] at hS
              replace hS := hS.pick 4 rfl
              dsimp only [List.eraseIdx] at hS
              replace hS := hS.pick 8 rfl
              dsimp only [List.eraseIdx] at hS
              replace hS := hS.pick 8 rfl
              dsimp only [List.eraseIdx] at hS
              replace hS := hS.pick 6 rfl
              dsimp only [List.eraseIdx] at hS
              replace hS := hS.pick 6 rfl
              dsimp only [List.eraseIdx] at hS
              replace hS := hS.take 7
              simp only [List.take_succ_cons, List.take_zero] at hS
              exact join (_, _, _, bm, nm) H ⟨rfl, rfl, rfl, rfl, rfl, trivial⟩ ⟨⟨hnm, hbm1⟩, hS⟩
            · skip
              refine kk_buildSlice 4 H rfl Tryd.underlying24 sz3 ze3 rfl rfl rfl (cs := []) (by kernel_rfl) rfl ?_
              clear H; intro b77 w57 hN hE58 hs_b77; clear a; intro a H
              have hz_b77 := hE58.size
              replace hS := hS.newBlk hN hE58 hs_b77; clear hN hE58
              replace hS := hS.blkOwn 0 1 (by simp) (by simp [maxLen])
              replace hS := hS.pick 1 rfl
              dsimp only [List.eraseIdx] at hS
              refine k_append 3 H rfl rfl rfl Tryd.underlying23 Tryd.underlying23 (by simp) el5 (hS.own 0 rfl) ((hB.ext (Flat.mono _) hS.x).srcB') (flat_one eB_one _) (by omega) (by simp only [maxLen]; omega) rfl (by kernel_rfl) (.inl (by simp [blks]; omega)) ?_
              clear H; intro v76 w59 hN hC60 hb76 hnil76; clear a; intro a H
              have hz76 := hC60.size
              replace hS := hS.setOwn hN hC60 hb76; clear hN
              simp only [Nat.zero_add, List.nil_append] at hS
              replace hS := hS.pick 1 rfl
              dsimp only [List.eraseIdx] at hS
              refine k_append 7 H rfl rfl rfl Tryd.underlying24 Tryd.underlying24 (by simp) el3 (hS.own 0 rfl) (SlR.src (show SlR _ 1 (Flat eI) (.slice AT tg.length cT) tg from hT.ext (Flat.mono _) hS.x) (fun _ _ => rfl)) (flat_one eI_one _) (by omega) (by simp only [maxLen]; omega) rfl (by kernel_rfl) (.inl (by simp [blks]; omega)) ?_
              clear H; intro v80 w61 hN hC62 hb80 hnil80; clear a; intro a H
              have hz80 := hC62.size
              replace hS := hS.setOwn hN hC62 hb80; clear hN
              simp only [Nat.zero_add, List.nil_append] at hS
              refine k_call 8 H rfl rfl en16 (expect_w (bs := bs) (tags := tg) (hG.ext hS.x) (fun w' e => ((hS.own 1 rfl).ext e).slB rfl) ((hS.own 0 rfl).slr rfl (fun _ _ => rfl)) (by omega) (by omega)) rfl (by kernel_rfl) (fun v w hv => .inl (ChgF.of_ext (by obtain ⟨v81, u81, bm, nm, e81, hnm, hbm, rfl, hE0⟩ := hv; exact hE0.x))) ?_
              clear H a; intro v65 w63 hv a H
              obtain ⟨v81, u81, bm, nm, e81, hnm, hbm, rfl, hE64⟩ := hv
              replace hS := hS.new hE64
              simp only [List.cons_append, List.nil_append] at hS
              obtain ⟨hbm1, rfl⟩ : bm.map RecM.body = (expM bs tg).1 ∧ e81 = (expM bs tg).2 := by rw [← hbm]; exact ⟨rfl, rfl⟩
              obtain ⟨A81, c81, hv81, _⟩ := (hS.own 0 rfl).form
              subst hv81
              refine k_take 9 H rfl (q_move rfl) rfl (by kernel_rfl) (by kernel_rfl) (by kernel_rfl) (by kernel_rfl) (fun _ _ _ h => h) ?_
              clear H a; intro a H
              refine k_take 10 H rfl (q_extract rfl rfl) rfl (by kernel_rfl) (by kernel_rfl) (by kernel_rfl) (by kernel_rfl) (fun _ _ _ h => h) ?_
              clear H a; intro a H
              refine k_take 11 H rfl (q_extract rfl rfl) rfl (by kernel_rfl) (by kernel_rfl) (by kernel_rfl) (by kernel_rfl) (fun _ _ _ h => h) ?_
              clear H a; intro a H
              refine k_take 12 H rfl (q_assign rfl) rfl (by kernel_rfl) (by kernel_rfl) (by kernel_rfl) (by kernel_rfl) (fun _ _ _ h => h) ?_
              clear H a; intro a H
              refine k_take 13 H rfl (q_assign rfl) rfl (by kernel_rfl) (by kernel_rfl) (by kernel_rfl) (by kernel_rfl) (fun _ _ _ h => h) ?_
              clear H a; intro a H
              refine k_done (by kernel_rfl) ?_
              refine then_normal ?_
              replace hS := hS.pick 19 rfl
              dsimp only [List.eraseIdx] at hS
              replace hS := hS.pick 6 rfl
              dsimp only [List.eraseIdx] at hS
              replace hS := hS.pick 4 rfl
              dsimp only [List.eraseIdx] at hS
              replace hS := hS.pick 8 rfl
              dsimp only [List.eraseIdx] at hS
              replace hS := hS.pick 8 rfl
              dsimp only [List.eraseIdx] at hS
              replace hS := hS.pick 6 rfl
              dsimp only [List.eraseIdx] at hS
              replace hS := hS.pick 6 rfl
              dsimp only [List.eraseIdx] at hS
              replace hS := hS.take 7
              simp only [List.take_succ_cons, List.take_zero] at hS
              exact join (_, _, _, bm, nm) H ⟨rfl, rfl, rfl, rfl, rfl, trivial⟩ ⟨⟨hnm, hbm1⟩, hS⟩
          · skip
            refine kk_buildSlice 4 H rfl Tryd.underlying24 sz3 ze3 rfl rfl rfl (cs := []) (by kernel_rfl) rfl ?_
            clear H; intro b77 w66 hN hE67 hs_b77; clear a; intro a H
            have hz_b77 := hE67.size
            replace hS := hS.newBlk hN hE67 hs_b77; clear hN hE67
            replace hS := hS.blkOwn 0 1 (by simp) (by simp [maxLen])
            refine k_buildSlice 0 H rfl Tryd.underlying23 sz5 ze5 rfl rfl rfl (cs := []) (by kernel_rfl) rfl (by kernel_rfl) ?_
            clear H; intro b73 w68 hN hE69 hs_b73; clear a; intro a H
            have hz_b73 := hE69.size
            replace hS := hS.newBlk hN hE69 hs_b73; clear hN hE69
            replace hS := hS.blkOwn 0 1 (by simp) (by simp [maxLen])
            refine k_append 3 H rfl rfl rfl Tryd.underlying23 Tryd.underlying23 (by simp) el5 (hS.own 0 rfl) ((hB.ext (Flat.mono _) hS.x).srcB') (flat_one eB_one _) (by omega) (by simp only [maxLen]; omega) rfl (by kernel_rfl) (.inl (by simp [blks]; omega)) ?_
            clear H; intro v76 w70 hN hC71 hb76 hnil76; clear a; intro a H
            have hz76 := hC71.size
            replace hS := hS.setOwn hN hC71 hb76; clear hN
            simp only [Nat.zero_add, List.nil_append] at hS
            replace hS := hS.pick 1 rfl
            dsimp only [List.eraseIdx] at hS
            refine k_append 7 H rfl rfl rfl Tryd.underlying24 Tryd.underlying24 (by simp) el3 (hS.own 0 rfl) (SlR.src (show SlR _ 1 (Flat eI) (.slice AT tg.length cT) tg from hT.ext (Flat.mono _) hS.x) (fun _ _ => rfl)) (flat_one eI_one _) (by omega) (by simp only [maxLen]; omega) rfl (by kernel_rfl) (.inl (by simp [blks]; omega)) ?_
            clear H; intro v80 w72 hN hC73 hb80 hnil80; clear a; intro a H
            have hz80 := hC73.size
            replace hS := hS.setOwn hN hC73 hb80; clear hN
            simp only [Nat.zero_add, List.nil_append] at hS
            refine k_call 8 H rfl rfl en16 (expect_w (bs := bs) (tags := tg) (hG.ext hS.x) (fun w' e => ((hS.own 1 rfl).ext e).slB rfl) ((hS.own 0 rfl).slr rfl (fun _ _ => rfl)) (by omega) (by omega)) rfl (by kernel_rfl) (fun v w hv => .inl (ChgF.of_ext (by obtain ⟨v81, u81, bm, nm, e81, hnm, hbm, rfl, hE0⟩ := hv; exact hE0.x))) ?_
            clear H a; intro v76 w74 hv a H
            obtain ⟨v81, u81, bm, nm, e81, hnm, hbm, rfl, hE75⟩ := hv
            replace hS := hS.new hE75
            simp only [List.cons_append, List.nil_append] at hS
            obtain ⟨hbm1, rfl⟩ : bm.map RecM.body = (expM bs tg).1 ∧ e81 = (expM bs tg).2 := by rw [← hbm]; exact ⟨rfl, rfl⟩
            obtain ⟨A81, c81, hv81, _⟩ := (hS.own 0 rfl).form
            subst hv81
            refine k_take 9 H rfl (q_move rfl) rfl (by kernel_rfl) (by kernel_rfl) (by kernel_rfl) (by kernel_rfl) (fun _ _ _ h => h) ?_
            clear H a; intro a H
            refine k_take 10 H rfl (q_extract rfl rfl) rfl (by kernel_rfl) (by kernel_rfl) (by kernel_rfl) (by kernel_rfl) (fun _ _ _ h => h) ?_
            clear H a; intro a H
            refine k_take 11 H rfl (q_extract rfl rfl) rfl (by kernel_rfl) (by kernel_rfl) (by kernel_rfl) (by kernel_rfl) (fun _ _ _ h => h) ?_
            clear H a; intro a H
            refine k_take 12 H rfl (q_assign rfl) rfl (by kernel_rfl) (by kernel_rfl) (by kernel_rfl) (by kernel_rfl) (fun _ _ _ h => h) ?_
            clear H a; intro a H
            refine k_take 13 H rfl (q_assign rfl) rfl (by kernel_rfl) (by kernel_rfl) (by kernel_rfl) (by kernel_rfl) (fun _ _ _ h => h) ?_
            clear H a; intro a H
            refine k_done (by kernel_rfl) ?_
            refine then_normal ?_
            replace hS := hS.pick 19 rfl
            dsimp only [List.eraseIdx] at hS
            replace hS := hS.pick 6 rfl
            dsimp only [List.eraseIdx] at hS
            replace hS := hS.pick 4 rfl
            dsimp only [List.eraseIdx] at hS
            replace hS := hS.pick 8 rfl
            dsimp only [List.eraseIdx] at hS
            replace hS := hS.pick 8 rfl
            dsimp only [List.eraseIdx] at hS
            replace hS := hS.pick 6 rfl
            dsimp only [List.eraseIdx] at hS
            replace hS := hS.pick 6 rfl
            dsimp only [List.eraseIdx] at hS
            replace hS := hS.take 7
            simp only [List.take_succ_cons, List.take_zero] at hS
            exact join (_, _, _, bm, nm) H ⟨rfl, rfl, rfl, rfl, rfl, trivial⟩ ⟨⟨hnm, hbm1⟩, hS⟩
        · clear H hS; clear a
          intro xx a w77 H hR
          obtain ⟨A10, c10, u6, bm, nm⟩ := xx
          simp only [ent, List.map_cons, List.map_nil] at H
          try dsimp only at hR
          obtain ⟨⟨hnm, hbm1⟩, hS⟩ := hR; try clear hR
          refine wp_seq ?_
          refine wp_seq ?_
          refine wp_region_lit ?_
          refine n_c H (fun HC => ?_); clear H
          refine nc_q HC (q_move rfl) rfl (by kernel_rfl) ?_
          clear HC a; intro a HC
          refine nc_q HC (q_load rfl ((hS.blk 5 rfl).ldAll ag29 sz29)) rfl (by kernel_rfl) ?_
          clear HC a; intro a HC
          refine nc_call HC rfl en11 (same_self (hG.ext hS.x) (hH.ext hS.x) (hS.any 4 rfl)) rfl (by kernel_rfl) ?_
          clear HC a; intro v80 w78 hv a HC
          obtain ⟨rfl, hE79⟩ := hv
          replace hS := hS.ext hE79
          refine nc_q HC (q_not rfl) rfl (by kernel_rfl) ?_
          clear HC a; intro a HC
          refine nc_q HC (q_move rfl) rfl (by kernel_rfl) ?_
          clear HC a; intro a HC
          refine nc_yes HC rfl rfl ?_
          refine nc_q HC (q_move rfl) rfl (by kernel_rfl) ?_
          clear HC a; intro a HC
          refine nc_yes HC rfl rfl ?_
          refine nc_q HC (q_lenSl Tryd.underlying44 rfl) rfl (by kernel_rfl) ?_
          clear HC a; intro a HC
          refine nc_yes HC rfl rfl ?_
          refine nc_q HC (q_move rfl) rfl (by kernel_rfl) ?_
          clear HC a; intro a HC
          refine nc_yes HC rfl rfl ?_
          refine nc_q HC (q_lenSl Tryd.underlying44 rfl) rfl (by kernel_rfl) ?_
          clear HC a; intro a HC
          refine nc_yes HC rfl rfl ?_
          refine nc_q HC (q_cast (q_neq rfl rfl) (show _ = Value.bool false by rw [hnl, hnm, ← List.length_map (f := RecM.body), hbm1, ← hbl1, List.length_map]; simp)) rfl (by kernel_rfl) ?_
          clear HC a; intro a HC
          refine nc_or (j := 4) HC rfl rfl rfl (by kernel_rfl) (by kernel_rfl) ?_
          clear HC a; intro a HC
          have H := HC.has; clear HC
          refine n_nil ?_
          refine then_normal ?_
          refine c_cond H rfl (fun hc94 => ?_) (fun hc94 => ?_)
          · skip
            cases hc94
          · skip
            refine wp_skip ?_
            refine then_normal ?_
            refine wp_seq ?_
            refine wp_seq ?_
            refine wp_region_lit ?_
            refine n_q H (q_assign rfl) rfl ?_
            clear H a; intro a H
            refine n_nil ?_
            refine then_normal ?_
            refine wp_block ?_
            replace hS := hS.pick 6 rfl
            dsimp only [List.eraseIdx] at hS
            replace hS := hS.pick 6 rfl
            dsimp only [List.eraseIdx] at hS
            replace hS := hS.pick 5 rfl
            dsimp only [List.eraseIdx] at hS
            replace hS := hS.pick 5 rfl
            dsimp only [List.eraseIdx] at hS
            replace hS := hS.pick 5 rfl
            dsimp only [List.eraseIdx] at hS
            replace hS := hS.pick 5 rfl
            dsimp only [List.eraseIdx] at hS
            replace hS := hS.take 6
            simp only [List.take_succ_cons, List.take_zero] at hS
            refine c_loop (σ := Nat) (fun j => [(1, .pointer (some ⟨b1, 0, none⟩)), (4, .pointer (some ⟨b4, 0, none⟩)), (9, .slice A69 nl c69), (10, .slice A10 nm c10), (11, .int .i64 (j : Nat))]) (fun j wl => j ≤ nm ∧ St NB w wl [ownR 23 1 (.slice A10 nm c10) nm (bm.flatMap eBod), anyR (fun w' => RecsIn w' bm), ownR 23 1 (.slice A69 nl c69) nl (bl.flatMap eBod), anyR (fun w' => RecsIn w' bl), blkR b4 [.int .i64 (expM bs tg).2.code, .int .i64 (expM bs tg).2.place] 29, blkR b1 [vr, .slice AB bs.length cB, .slice AT tg.length cT, .string s] 26]) (fun j => nm - j) 0 H ⟨rfl, rfl, rfl, rfl, rfl, trivial⟩ ⟨Nat.zero_le _, hS⟩ ?_
            clear H hS; clear a; intro j a w81 H hR
            simp only [ent, List.map_cons, List.map_nil] at H
            try dsimp only at hR
            obtain ⟨hj, hS⟩ := hR; try clear hR
            refine wp_seq ?_
            refine wp_seq ?_
            refine wp_region_lit ?_
            refine n_q H (q_move rfl) rfl ?_
            clear H a; intro a H
            refine n_q H (q_move rfl) rfl ?_
            clear H a; intro a H
            refine n_q H (q_lenSl Tryd.underlying44 rfl) rfl ?_
            clear H a; intro a H
            refine n_q H (q_lss rfl rfl) rfl ?_
            clear H a; intro a H
            refine n_nil ?_
            refine then_normal ?_
            refine c_cond H rfl (fun hc98 => ?_) (fun hc98 => ?_)
            · skip
              have hmx : nm ≤ 9223372036854775807 := by obtain ⟨_, _, hqz, h1, h2, _⟩ := ((hS.own 0 rfl)).form; simp only [maxLen] at h2; omega
              have hj1 : j < nm := by simp at hc98; omega
              have hlm : bl.map RecM.body = bm.map RecM.body := by rw [hbl1, hbm1]
              have hlen : bl.length = bm.length := by have := congrArg List.length hlm; simpa using this
              obtain ⟨yl, hxl⟩ : ∃ x, bl[j]? = some x := ⟨_, List.getElem?_eq_getElem (by omega)⟩
              obtain ⟨ym, hxm⟩ : ∃ x, bm[j]? = some x := ⟨_, List.getElem?_eq_getElem (by omega)⟩
              have hbb : yl.body = ym.body := by
                have h1 : (bl.map RecM.body)[j]? = some yl.body := by simp [hxl]
                rw [hlm] at h1
                simp [hxm] at h1
                exact h1.symm
              obtain ⟨bm0, cm0, hqm0⟩ := (hS.own 0 rfl).sm (by omega)
              cases hqm0
              obtain ⟨bl0, c61, hq60⟩ := (hS.own 2 rfl).sm (by omega)
              cases hq60
              have hxbm := ((hS.any 1 rfl) : RecsIn _ bm) ym (List.mem_of_getElem? hxm)
              obtain ⟨Am, cm, hqm, _⟩ := hxbm.form
              have hxbl := ((hS.any 3 rfl) : RecsIn _ bl) yl (List.mem_of_getElem? hxl)
              obtain ⟨Al, cl, hql, _⟩ := hxbl.form
              refine wp_skip ?_
              refine then_normal ?_
              refine wp_seq ?_
              refine wp_block ?_
              refine wp_seq ?_
              refine c_quiet (by kernel_rfl) (by kernel_rfl) ?_
              refine qq_q H (q_move rfl) rfl ?_
              clear H a; intro a H
              refine qq_q H (q_move rfl) rfl ?_
              clear H a; intro a H
              refine qq_q H (q_cast (q_indexAddr (ad := ⟨bm0, 0, none⟩) (n := nm) (c := c10) Tryd.underlying44 sz23 rfl rfl (by omega) (by omega)) (show _ = Value.pointer (some ((⟨bm0, 0, none⟩ : Addr).add (j * 1))) by rw [show (j : Int).toNat = j by omega])) rfl ?_
              clear H a; intro a H
              refine qq_q H (q_load rfl (((hS.own 0 rfl).slr hnm (fun _ _ => rfl) : SlR _ 1 (Flat eBod) _ bm).ldOne ag23 hxm (congrArg (fun z => [z]) hqm))) rfl ?_
              clear H a; intro a H
              refine qq_q H (q_str Tryd.underlying23 Tryd.underlying5 Tryd.underlying9 rfl (fun w' e => (hqm ▸ hxbm).ext (Flat.mono _) e)) rfl ?_
              clear H a; intro a H
              refine qq_q H (q_move rfl) rfl ?_
              clear H a; intro a H
              refine qq_q H (q_move rfl) rfl ?_
              clear H a; intro a H
              refine qq_q H (q_cast (q_indexAddr (ad := ⟨bl0, 0, none⟩) (n := nl) (c := c69) Tryd.underlying44 sz23 rfl rfl (by omega) (by omega)) (show _ = Value.pointer (some ((⟨bl0, 0, none⟩ : Addr).add (j * 1))) by rw [show (j : Int).toNat = j by omega])) rfl ?_
              clear H a; intro a H
              refine qq_q H (q_load rfl (((hS.own 2 rfl).slr hnl (fun _ _ => rfl) : SlR _ 1 (Flat eBod) _ bl).ldOne ag23 hxl (congrArg (fun z => [z]) hql))) rfl ?_
              clear H a; intro a H
              refine qq_q H (q_str Tryd.underlying23 Tryd.underlying5 Tryd.underlying9 rfl (fun w' e => (hql ▸ hxbl).ext (Flat.mono _) e)) rfl ?_
              clear H a; intro a H
              refine qq_q H (q_cast (q_neqS rfl rfl) (show _ = Value.bool false by rw [hbb]; simp)) rfl ?_
              clear H a; intro a H
              refine qq_nil ?_
              intro w82 hE83
              replace hS := hS.ext hE83
              refine then_normal ?_
              refine c_cond H rfl (fun hc111 => ?_) (fun hc111 => ?_)
              · skip
                cases hc111
              · skip
                refine wp_skip ?_
                refine block_normal ?_
                refine then_normal ?_
                refine wp_region_lit ?_
                refine n_q H (q_move rfl) rfl ?_
                clear H a; intro a H
                refine n_q H (q_add rfl rfl (by constructor <;> omega)) rfl ?_
                clear H a; intro a H
                refine n_q H (q_assign rfl) rfl ?_
                clear H a; intro a H
                refine n_nil ?_
                refine then_normal ?_
                replace hS := hS.pick 5 rfl
                dsimp only [List.eraseIdx] at hS
                replace hS := hS.pick 5 rfl
                dsimp only [List.eraseIdx] at hS
                replace hS := hS.pick 5 rfl
                dsimp only [List.eraseIdx] at hS
                replace hS := hS.pick 5 rfl
                dsimp only [List.eraseIdx] at hS
                replace hS := hS.pick 5 rfl
                dsimp only [List.eraseIdx] at hS
                replace hS := hS.pick 5 rfl
                dsimp only [List.eraseIdx] at hS
                exact round (j + 1) H ⟨rfl, rfl, rfl, rfl, rfl, trivial⟩ ⟨by omega, hS⟩ (by first | omega | (dsimp only; omega))
            · skip
              refine wp_exit ?_
              refine then_exit ?_
              refine then_exit ?_
              refine block_exit ?_
              refine then_normal ?_
              refine wp_seq ?_
              refine wp_region_lit ?_
              refine n_q H (q_fieldAddr0 rfl fo26_3) rfl ?_
              clear H a; intro a H
              refine n_q H (q_load rfl ((hS.blk 5 rfl).ld ag9 rfl)) rfl ?_
              clear H a; intro a H
              refine n_call H rfl en17 (rUnhex_w (s := s) (by omega)) rfl ?_
              clear H a; intro v86 w84 hv a H
              obtain ⟨v115, n115, hn115, rfl, hE85⟩ := hv
              replace hS := hS.new hE85
              simp only [List.cons_append, List.nil_append] at hS
              refine n_q H (q_move rfl) rfl ?_
              clear H a; intro a H
              refine n_q H (q_extract rfl rfl) rfl ?_
              clear H a; intro a H
              refine n_q H (q_extract rfl rfl) rfl ?_
              clear H a; intro a H
              refine n_q H (q_assign rfl) rfl ?_
              clear H a; intro a H
              replace hS := hS.pick 5 rfl
              dsimp only [List.eraseIdx] at hS
              refine n_storeAll H rfl rfl (vs := [.int .i64 (unhexM s.data.toList).2.code, .int .i64 (unhexM s.data.toList).2.place]) rfl sz29 (hS.blk 0 rfl) rfl (by simp [Value.oneCell']) ?_
              clear H; intro w87 hN hC88 hz; clear a; intro a H
              replace hS := hS.setBlk hN hC88; clear hN hz
              refine n_nil ?_
              refine then_normal ?_
              refine wp_seq ?_
              refine wp_region_lit ?_
              refine n_q H (q_fieldAddr0 rfl fo26_3) rfl ?_
              clear H a; intro a H
              refine n_q H (q_load rfl ((hS.blk 6 rfl).ld ag9 rfl)) rfl ?_
              clear H a; intro a H
              refine n_call H rfl en18 (unhex_w (s := s) (hG.ext hS.x) (by omega)) rfl ?_
              clear H a; intro v91 w89 hv a H
              obtain ⟨v121, u121, n121, hn121, rfl, hE90⟩ := hv
              replace hS := hS.new hE90
              simp only [List.cons_append, List.nil_append] at hS
              refine n_q H (q_move rfl) rfl ?_
              clear H a; intro a H
              refine n_q H (q_extract rfl rfl) rfl ?_
              clear H a; intro a H
              refine n_q H (q_extract rfl rfl) rfl ?_
              clear H a; intro a H
              refine n_q H (q_assign rfl) rfl ?_
              clear H a; intro a H
              refine n_q H (q_assign rfl) rfl ?_
              clear H a; intro a H
              refine n_nil ?_
              refine then_normal ?_
              refine wp_seq ?_
              refine c_ord [] 22 (by kernel_rfl) ?_
              obtain ⟨w92, hw92⟩ : ∃ x, x = w89.drew := ⟨_, rfl⟩
              rw [← hw92]
              have hE93 : Ext w89 w92 := by rw [hw92]; exact Ext.drew' _
              clear hw92
              replace hS := hS.ext hE93
              have hh_b4 := (hS.blk 2 rfl).lt
              have hh_v := (hS.own 0 rfl).lt
              have hh_u := (hS.own 3 rfl).lt
              refine k_take 1 H rfl (q_fieldAddr0 rfl fo26_1) rfl (by kernel_rfl) (by kernel_rfl) (by kernel_rfl) (by kernel_rfl) (fun _ _ _ h => h) ?_
              clear H a; intro a H
              refine k_take 2 H rfl (q_load rfl (LdC.k0 ((hS.blk 8 rfl).ld ag23 rfl))) rfl (by kernel_rfl) (by kernel_rfl) (by kernel_rfl) (by kernel_rfl) (fun _ _ _ h => h) ?_
              clear H a; intro a H
              refine k_take 5 H rfl (q_fieldAddr0 rfl fo26_1) rfl (by kernel_rfl) (by kernel_rfl) (by kernel_rfl) (by kernel_rfl) (fun _ _ _ h => h) ?_
              clear H a; intro a H
              refine k_take 6 H rfl (q_load rfl (LdC.k0 ((hS.blk 8 rfl).ld ag23 rfl))) rfl (by kernel_rfl) (by kernel_rfl) (by kernel_rfl) (by kernel_rfl) (fun _ _ _ h => h) ?_
              clear H a; intro a H
              refine k_buildSlice 0 H rfl Tryd.underlying23 sz5 ze5 rfl rfl rfl (cs := []) (by kernel_rfl) rfl (by kernel_rfl) ?_
              clear H; intro b124 w94 hN hE95 hs_b124; clear a; intro a H
              have hz_b124 := hE95.size
              replace hS := hS.newBlk hN hE95 hs_b124; clear hN hE95
              replace hS := hS.blkOwn 0 1 (by simp) (by simp [maxLen])
              refine k_append 3 H rfl rfl rfl Tryd.underlying23 Tryd.underlying23 (by simp) el5 (hS.own 0 rfl) ((hB.ext (Flat.mono _) hS.x).srcB') (flat_one eB_one _) (by omega) (by simp only [maxLen]; omega) rfl (by kernel_rfl) (.inl (by simp [blks]; omega)) ?_
              clear H; intro v127 w96 hN hC97 hb127 hnil127; clear a; intro a H
              have hz127 := hC97.size
              replace hS := hS.setOwn hN hC97 hb127; clear hN
              simp only [Nat.zero_add, List.nil_append] at hS
              refine k_call 4 H rfl rfl en19 (hex_w (bs := bs) (fun w' e => ((hS.own 0 rfl).ext e).slB rfl) (by omega)) rfl (by kernel_rfl) (fun v w hv => .inl (ChgF.of_ext hv.2)) ?_
              clear H a; intro v100 w98 hv a H
              obtain ⟨rfl, hE99⟩ := hv
              replace hS := hS.ext hE99
              refine k_call 7 H rfl rfl en20 (rHex_w (bs := bs) (fun w' e => hB.ext (Flat.mono _) (Ext.trans' hS.x e)) (by omega)) rfl (by kernel_rfl) (fun v w hv => .inl (ChgF.of_ext hv.2)) ?_
              clear H a; intro v103 w101 hv a H
              obtain ⟨rfl, hE102⟩ := hv
              replace hS := hS.ext hE102
              refine k_take 8 H rfl (q_cast (q_eqlS rfl rfl) (show _ = Value.bool true by simp)) rfl (by kernel_rfl) (by kernel_rfl) (by kernel_rfl) (by kernel_rfl) (fun _ _ _ h => h) ?_
              clear H a; intro a H
              refine k_take 9 H rfl (q_move rfl) rfl (by kernel_rfl) (by kernel_rfl) (by kernel_rfl) (by kernel_rfl) (fun _ _ _ h => h) ?_
              clear H a; intro a H
              refine kg_take 10 H rfl rfl rfl (q_move rfl) rfl (by kernel_rfl) (by kernel_rfl) (by kernel_rfl) (by kernel_rfl) (fun _ _ _ h => h) ?_
              clear H a; intro a H
              refine kg_take 11 H rfl rfl rfl (q_load rfl ((hS.blk 3 rfl).ldAllB hh_b4 (by simp) ag29 sz29)) rfl (by kernel_rfl) (by kernel_rfl) (by kernel_rfl) (by kernel_rfl) (fun _ _ _ h => h) ?_
              clear H a; intro a H
              refine kg_call 12 H rfl rfl rfl rfl en11 (same_self (hG.ext hS.x) (hH.ext hS.x) (hS.any 2 rfl)) rfl (by kernel_rfl) (fun v w hv => .inl (ChgF.of_ext hv.2)) ?_
              clear H a; intro v106 w104 hv a H
              obtain ⟨rfl, hE105⟩ := hv
              replace hS := hS.ext hE105
              refine k_take 13 H rfl (q_pick rfl rfl rfl) rfl (by kernel_rfl) (by kernel_rfl) (by kernel_rfl) (by kernel_rfl) (fun _ _ _ h => h) ?_
              clear H a; intro a H
              refine k_take 14 H rfl (q_move rfl) rfl (by kernel_rfl) (by kernel_rfl) (by kernel_rfl) (by kernel_rfl) (fun _ _ _ h => h) ?_
              clear H a; intro a H
              refine kg_take 15 H rfl rfl rfl (q_move rfl) rfl (by kernel_rfl) (by kernel_rfl) (by kernel_rfl) (by kernel_rfl) (fun _ _ _ h => h) ?_
              clear H a; intro a H
              refine kg_take 16 H rfl rfl rfl (q_str Tryd.underlying23 Tryd.underlying5 Tryd.underlying9 rfl (fun w' e => ((hS.own 1 rfl).strE hn121 hh_v e))) rfl (by kernel_rfl) (by kernel_rfl) (by kernel_rfl) (by kernel_rfl) (fun _ _ _ h => h) ?_
              clear H a; intro a H
              refine kg_take 17 H rfl rfl rfl (q_move rfl) rfl (by kernel_rfl) (by kernel_rfl) (by kernel_rfl) (by kernel_rfl) (fun _ _ _ h => h) ?_
              clear H a; intro a H
              refine kg_take 18 H rfl rfl rfl (q_str Tryd.underlying23 Tryd.underlying5 Tryd.underlying9 rfl (fun w' e => ((hS.own 4 rfl).strE hn115 hh_u e))) rfl (by kernel_rfl) (by kernel_rfl) (by kernel_rfl) (by kernel_rfl) (fun _ _ _ h => h) ?_
              clear H a; intro a H
              refine kg_take 19 H rfl rfl rfl (q_cast (q_eqlS rfl rfl) (show _ = Value.bool true by simp)) rfl (by kernel_rfl) (by kernel_rfl) (by kernel_rfl) (by kernel_rfl) (fun _ _ _ h => h) ?_
              clear H a; intro a H
              refine k_take 20 H rfl (q_pick rfl rfl rfl) rfl (by kernel_rfl) (by kernel_rfl) (by kernel_rfl) (by kernel_rfl) (fun _ _ _ h => h) ?_
              clear H a; intro a H
              refine k_take 21 H rfl (q_assign rfl) rfl (by kernel_rfl) (by kernel_rfl) (by kernel_rfl) (by kernel_rfl) (fun _ _ _ h => h) ?_
              clear H a; intro a H
              refine k_done (by kernel_rfl) ?_
              refine then_normal ?_
              refine wp_ret ?_
              refine ret1 H (.inr rfl) rfl rfl ?_
              exact ⟨rfl, hS.x⟩

end Go.Proofs.YtnhjohcgnmogaaaDoor
