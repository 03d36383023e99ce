/- Pz (written by wip/tools) -/
import Derived.Test.YtpnmaabhjgiggaaGreatDoorPzE
set_option linter.unusedVariables false
set_option linter.unusedSimpArgs false
set_option maxRecDepth 10000
namespace Go.Proofs.YtpnmaabhjgiggaaGreatDoor
open Go Go.RowKit
theorem en10 : entersB Tryz.prog 10 = true := by kernel_rfl
theorem en11 : entersB Tryz.prog 11 = true := by kernel_rfl
theorem en4 : entersB Tryz.prog 4 = true := by kernel_rfl
theorem en6 : entersB Tryz.prog 6 = true := by kernel_rfl
theorem en8 : entersB Tryz.prog 8 = true := by kernel_rfl
theorem en9 : entersB Tryz.prog 9 = true := by kernel_rfl
theorem fo31_0 : fOff Tryz.prog 31 0 = some 0 := by kernel_rfl

theorem g_law10_PlanBoots_w {w : World} {A : Nat → Addr} {cs0 : List Value} {a0 : GL10Case} (hG : EV A w) (hH : HE w) (h0 : RGL10Case w cs0 a0) {r : Bool} (hm : g_law10_PlanBoots a0 = some r) :
    Calls Tryz.prog 3 [.agg cs0.toArray].toArray w (Ret fun u w' => u = .bool r ∧ Ext w w') := by
  obtain ⟨vp0_0, vp0_1, vp0_2, vp0_3, vp0_4, vp0_5, vp0_6, vp0_7, vp0_8, rfl, hrp0_0, hrp0_1, hrp0_2, hrp0_3, hrp0_4, hrp0_5, hrp0_6, hrp0_7, hrp0_8⟩ := h0
  have hS := St.begin NB w
  unfold g_law10_PlanBoots at hm
  refine enter Tryz.func3 rfl rfl rfl ?_; intro a H; dsimp only [enumL, Nat.zero_add, Nat.reduceAdd] at H
  refine wp_seq (wp_region_lit (n_box H rfl (cs := [.int .i64 a0.P.Id, .bool a0.P.Mobile, vp0_0, vp0_1, vp0_2, .int .i64 a0.P.Events, vp0_3, .int .i64 a0.Q.Id, .bool a0.Q.Mobile, vp0_4, vp0_5, vp0_6, .int .i64 a0.Q.Events, vp0_7, vp0_8, .int .i64 a0.At, .int .u32 a0.Mask]) rfl rfl ?_))
  clear H; intro b21 w22 hN hE23 hs; clear a; intro a H
  replace hS := hS.newBlk hN hE23 hs; clear hN hs
  refine n_q H (q_assign rfl) rfl ?_; clear H a; intro a H
  refine n_nil (then_normal (wp_seq (wp_seq (wp_region_lit ?_))))
  replace hm := bindS hm; obtain ⟨r24, hr24, hm⟩ := hm
  refine n_call H rfl en4 (g_law10_fixed_w (A := A) (hG.ext hS.x) (hH.ext hS.x) hr24) rfl ?_
  clear H; intro x27 w25 hv; clear a; intro a H; obtain ⟨rfl, hE26⟩ := hv
  replace hS := hS.ext hE26
  refine n_q H (q_not rfl) rfl ?_; clear H a; intro a H
  refine n_nil (then_normal (c_cond H rfl (fun hc28 => ?_) (fun hc28 => ?_)))
  · replace hm := condT hm hc28
    refine wp_seq (wp_region_lit (n_q H (q_assign rfl) rfl ?_)); clear H a; intro a H
    refine n_nil (then_normal (wp_ret (then_ret ?_)))
    obtain rfl := Option.some.inj hm
    replace hS := hS.tk0
    refine ret1 H (.inr rfl) rfl rfl ?_
    exact ⟨rfl, hS.x⟩
  · replace hm := condF hm hc28
    refine wp_skip (then_normal (wp_seq (wp_region_lit (n_q H (q_fieldAddr0 rfl fo31_0) rfl (W_q (q_load rfl ((hS.blk 0 rfl).ldPart 0 7 ag27 sz27 (by simp))) rfl ?_))))); clear H a; intro a H
    replace hm := bindS hm; obtain ⟨r29, hr29, hm⟩ := hm
    refine n_call H rfl en6 (g_r10_Copy_w (A := A) (⟨_, _, _, _, rfl, (hrp0_0.ext (Flat.mono _) hS.x), (hrp0_1.ext (Flat.mono _) hS.x), (hrp0_2.ext (Flat.mono _) hS.x), (hrp0_3.ext (Flat.mono _) hS.x)⟩ : RGPlan _ [.int .i64 a0.P.Id, .bool a0.P.Mobile, vp0_0, vp0_1, vp0_2, .int .i64 a0.P.Events, vp0_3] a0.P) hr29) rfl ?_
    clear H; intro x40 w38 hv; clear a; intro a H; obtain ⟨u30, u31, u32, u33, rfl, hE39⟩ := hv
    replace hS := hS.new hE39; simp only [List.cons_append, List.nil_append] at hS
    replace hm := bindS hm; obtain ⟨r41, hr41, hm⟩ := hm
    refine n_call H rfl en5 (g_plan_Boot_w (A := A) (hG.ext hS.x) (⟨_, _, _, _, rfl, ((hS.own 0 rfl).slr rfl (fun _ _ => rfl)), ((hS.own 1 rfl).slr rfl (fun _ _ => rfl)), ((hS.own 2 rfl).slr rfl (fun _ _ => rfl)), ((hS.own 3 rfl).slr rfl (fun _ _ => rfl))⟩ : RGPlan _ [.int .i64 r29.Id, .bool r29.Mobile, u30, u31, u32, .int .i64 r29.Events, u33] r29) hr41) rfl ?_
    clear H; intro x60 w58 hv; clear a; intro a H; obtain ⟨u42, u43, u44, u45, u46, u47, u48, u49, rfl, hE59⟩ := hv
    replace hS := hS.new hE59; simp only [List.cons_append, List.nil_append] at hS
    refine n_q H (q_move rfl) rfl (W_q (q_extract rfl rfl) rfl (W_q (q_extract rfl rfl) rfl ?_)); clear H a; intro a H
    refine n_alloc H ze39 rfl ?_
    clear H; intro b61 w62 hN hE63 hs; clear a; intro a H
    replace hS := hS.newBlk hN hE63 hs; clear hN hs
    refine n_storeAll H rfl rfl (vs := [.int .i64 r41.1.Id, .int .i64 r41.1.Frame, .int .i64 r41.1.Epoch, u42, u43, u44, u45, u46, u47, u48]) rfl sz39 (hS.blk 0 rfl) rfl (by simp [(((hS.own 1 rfl).slr rfl (fun x _ => eGProc_len x))).one, (((hS.own 2 rfl).slr rfl (fun _ _ => rfl))).one, (((hS.own 3 rfl).slr rfl (fun _ _ => rfl))).one, (((hS.own 4 rfl).slr rfl (fun _ _ => rfl))).one, (((hS.own 5 rfl).slr rfl (fun _ _ => rfl))).one, ((hS.deepSl 6 rfl)).one, (((hS.own 7 rfl).slr rfl (fun x _ => eGPage_len x))).one]) ?_
    clear H; intro w64 hN hC65 hz; clear a; intro a H; replace hS := hS.setBlk hN hC65; clear hN hz
    refine n_q H (q_assign rfl) rfl ?_; clear H a; intro a H
    refine n_nil (then_normal (wp_seq (wp_seq (wp_region_lit (n_q H (q_fieldAddr0 rfl fo31_0) rfl (W_q (q_load rfl ((hS.blk 13 rfl).ldPart 0 7 ag27 sz27 (by simp))) rfl ?_)))))); clear H a; intro a H
    replace hm := bindS hm; obtain ⟨r66, hr66, hm⟩ := hm
    refine n_call H rfl en7 (g_r10_Good_w (A := A) (⟨_, _, _, _, rfl, (hrp0_0.ext (Flat.mono _) hS.x), (hrp0_1.ext (Flat.mono _) hS.x), (hrp0_2.ext (Flat.mono _) hS.x), (hrp0_3.ext (Flat.mono _) hS.x)⟩ : RGPlan _ [.int .i64 a0.P.Id, .bool a0.P.Mobile, vp0_0, vp0_1, vp0_2, .int .i64 a0.P.Events, vp0_3] a0.P) hr66) rfl ?_
    clear H; intro x69 w67 hv; clear a; intro a H; obtain ⟨rfl, hE68⟩ := hv
    replace hS := hS.ext hE68
    refine n_q H (q_not rfl) rfl ?_; clear H a; intro a H
    refine n_nil (then_normal (c_cond H rfl (fun hc70 => ?_) (fun hc70 => ?_)))
    · replace hm := condT hm hc70
      replace hm := bindS hm; obtain ⟨j71, hm, hm71⟩ := hm
      refine c_join (σ := Bool) H (fun q572 => [(2, .bool q572)]) (fun q572 wl => g_law10_PlanBoots_J1 q572 = some r ∧ St NB w wl []) ?_ ?_
      · skip
        refine wp_region_lit (n_q H (q_move rfl) rfl ?_); clear H a; intro a H
        replace hm := bindS hm; obtain ⟨r573, hr573, hm⟩ := hm
        refine n_call H rfl en8 (g_law10_same_w (A := A) (hG.ext hS.x) (hH.ext hS.x) (hS.any 8 rfl : IsE A w67 u49 r41.2) hr573) rfl ?_
        clear H; intro x576 w574 hv; clear a; intro a H; obtain ⟨rfl, hE575⟩ := hv
        replace hS := hS.ext hE575
        refine n_q H (q_move rfl) rfl ?_; clear H a; intro a H
        rcases Bool.eq_false_or_eq_true r573 with hg577 | hg577
        · replace H := H.know 22 rfl hg577
          replace hm := condT hm hg577
          refine n_yes H rfl rfl (n_q H (q_load rfl ((hS.blk 0 rfl).ldAll ag39 sz39)) rfl (W_yes rfl rfl (W_q (q_build (cs := [.int .i64 0, .int .i64 0, .int .i64 0, .slice none 0 0, .slice none 0 0, .slice none 0 0, .slice none 0 0, .slice none 0 0, .slice none 0 0, .slice none 0 0]) ze39 bd39 pl39 rfl (by kernel_rfl)) rfl (W_yes rfl rfl ?_)))); clear H a; intro a H
          replace hm := bindS hm; obtain ⟨r578, hr578, hm⟩ := hm
          refine n_call H rfl en9 (g_r11_Same_w (A := A) (⟨_, _, _, _, _, _, _, rfl, ((hS.own 1 rfl).slr rfl (fun x _ => eGProc_len x)), ((hS.own 2 rfl).slr rfl (fun _ _ => rfl)), ((hS.own 3 rfl).slr rfl (fun _ _ => rfl)), ((hS.own 4 rfl).slr rfl (fun _ _ => rfl)), ((hS.own 5 rfl).slr rfl (fun _ _ => rfl)), (hS.deepSl 6 rfl), ((hS.own 7 rfl).slr rfl (fun x _ => eGPage_len x))⟩ : RGState _ [.int .i64 r41.1.Id, .int .i64 r41.1.Frame, .int .i64 r41.1.Epoch, u42, u43, u44, u45, u46, u47, u48] r41.1) (⟨_, _, _, _, _, _, _, rfl, (SlR.nil _ 21 (Flat eGProc)), (SlR.nil _ 1 (Flat eI)), (SlR.nil _ 2 (Flat eGTimer)), (SlR.nil _ 1 (Flat eF)), (SlR.nil _ 1 (Flat eI)), (SlR.nil _ 2 RGPort), (SlR.nil _ 66 (Flat eGPage))⟩ : RGState _ [.int .i64 0, .int .i64 0, .int .i64 0, .slice none 0 0, .slice none 0 0, .slice none 0 0, .slice none 0 0, .slice none 0 0, .slice none 0 0, .slice none 0 0] (⟨0, 0, 0, ([] : List GProc), ([] : List Int), ([] : List GTimer), ([] : List Bool), ([] : List Int), ([] : List GPort), ([] : List GPage)⟩ : GState)) hr578) rfl ?_
          clear H; intro x581 w579 hv; clear a; intro a H; obtain ⟨rfl, hE580⟩ := hv
          replace hS := hS.ext hE580
          refine n_q H (q_pickT rfl rfl) rfl (W_q (q_assign rfl) rfl ?_); clear H a; intro a H
          refine n_nil (then_normal ?_)
          obtain rfl := Option.some.inj hm; replace hm := hm71; try dsimp only at hm
          replace hS := hS.tk0
          exact join r578 H ⟨rfl, trivial⟩ ⟨hm, hS⟩
        · replace H := H.know 22 rfl hg577
          replace hm := condF hm hg577
          refine n_no H rfl rfl (by decide) rfl (W_no rfl rfl (by decide) rfl (W_no rfl rfl (by decide) rfl (W_q (q_pickF rfl rfl) rfl (W_q (q_assign rfl) rfl ?_)))); clear H a; intro a H
          refine n_nil (then_normal ?_)
          obtain rfl := Option.some.inj hm; replace hm := hm71; try dsimp only at hm
          replace hS := hS.tk0
          exact join false H ⟨rfl, trivial⟩ ⟨hm, hS⟩
      · clear H hS hm a; intro q572 a w582 H hR
        simp only [ent, List.map_cons, List.map_nil] at H; (try dsimp only at hR); obtain ⟨hm, hS⟩ := hR; try dsimp only [g_law10_PlanBoots_J1] at hm
        refine wp_ret (then_ret ?_)
        obtain rfl := Option.some.inj hm
        refine ret1 H (.inr rfl) rfl rfl ?_
        exact ⟨rfl, hS.x⟩
    · replace hm := condF hm hc70
      refine wp_skip (then_normal (wp_seq (wp_region_lit (n_q H (q_fieldAddr0 rfl fo31_0) rfl (W_q (q_load rfl ((hS.blk 13 rfl).ldPart 0 7 ag27 sz27 (by simp))) rfl (W_q (q_load rfl ((hS.blk 0 rfl).ldAll ag39 sz39)) rfl ?_)))))); clear H a; intro a H
      replace hm := bindS hm; obtain ⟨r583, hr583, hm⟩ := hm
      refine n_call H rfl en10 (g_r11_Rest_w (A := A) (⟨_, _, _, _, rfl, (hrp0_0.ext (Flat.mono _) hS.x), (hrp0_1.ext (Flat.mono _) hS.x), (hrp0_2.ext (Flat.mono _) hS.x), (hrp0_3.ext (Flat.mono _) hS.x)⟩ : RGPlan _ [.int .i64 a0.P.Id, .bool a0.P.Mobile, vp0_0, vp0_1, vp0_2, .int .i64 a0.P.Events, vp0_3] a0.P) (⟨_, _, _, _, _, _, _, rfl, ((hS.own 1 rfl).slr rfl (fun x _ => eGProc_len x)), ((hS.own 2 rfl).slr rfl (fun _ _ => rfl)), ((hS.own 3 rfl).slr rfl (fun _ _ => rfl)), ((hS.own 4 rfl).slr rfl (fun _ _ => rfl)), ((hS.own 5 rfl).slr rfl (fun _ _ => rfl)), (hS.deepSl 6 rfl), ((hS.own 7 rfl).slr rfl (fun x _ => eGPage_len x))⟩ : RGState _ [.int .i64 r41.1.Id, .int .i64 r41.1.Frame, .int .i64 r41.1.Epoch, u42, u43, u44, u45, u46, u47, u48] r41.1) hr583) rfl ?_
      clear H; intro x586 w584 hv; clear a; intro a H; obtain ⟨rfl, hE585⟩ := hv
      replace hS := hS.ext hE585
      refine n_q H (q_move rfl) rfl (W_q (q_extract rfl rfl) rfl (W_q (q_extract rfl rfl) rfl (W_q (q_assign rfl) rfl (W_q (q_assign rfl) rfl ?_)))); clear H a; intro a H
      refine n_nil (then_normal (wp_seq (c_ord [] 14 (by kernel_rfl) ?_)))
      obtain ⟨w587, hw587⟩ : ∃ x, x = w584.drew := ⟨_, rfl⟩; rw [← hw587]; have hE588 : Ext w584 w587 := by rw [hw587]; exact Ext.drew' _
      clear hw587
      replace hS := hS.ext hE588
      have hS589 := hS
      have hW := Nat.le_refl w587.heap.size
      refine k_takeT 0 H rfl (q_move rfl) rfl (by kernel_rfl) (by kernel_rfl) (by kernel_rfl) (by kernel_rfl) (fun _ _ _ h => h) ?_; clear H a; intro a H
      refine k_takeT 1 H rfl (q_cast (q_nilI Tryz.underlying41 rfl rfl (hS.any 8 rfl : IsE A w587 u49 r41.2).form) (show _ = Value.bool (decide (r41.2 = .nil)) by rw [IsErr.isNil (hS.any 8 rfl : IsE A w587 u49 r41.2)])) rfl (by kernel_rfl) (by kernel_rfl) (by kernel_rfl) (by kernel_rfl) (fun _ _ _ h => h) ?_; clear H a; intro a H
      refine k_takeT 2 H rfl (q_move rfl) rfl (by kernel_rfl) (by kernel_rfl) (by kernel_rfl) (by kernel_rfl) (fun _ _ _ h => h) ?_; clear H a; intro a H
      rcases Bool.eq_false_or_eq_true (decide (r41.2 = .nil)) with hg590 | hg590
      · replace H := H.know 36 rfl hg590
        replace hm := condT hm hg590
        refine kg_take 3 H rfl rfl rfl (q_load rfl (LdC.old ((hS589.blk 0 rfl).ldAll ag39 sz39) Ext.rfl' (Nat.le_refl _) (by simp))) rfl (by kernel_rfl) (by kernel_rfl) (by kernel_rfl) (by kernel_rfl) (fun _ _ _ h => h) ?_; clear H a; intro a H
        refine kg_takeT 4 H rfl rfl rfl (q_fieldAddr0 rfl fo31_0) rfl (by kernel_rfl) (by kernel_rfl) (by kernel_rfl) (by kernel_rfl) (fun _ _ _ h => h) ?_; clear H a; intro a H
        refine kg_take 5 H rfl rfl rfl (q_load rfl (LdC.old ((hS589.blk 13 rfl).ldPart 0 7 ag27 sz27 (by simp)) Ext.rfl' (Nat.le_refl _) (by simp))) rfl (by kernel_rfl) (by kernel_rfl) (by kernel_rfl) (by kernel_rfl) (fun _ _ _ h => h) ?_; clear H a; intro a H
        replace hm := bindS hm; obtain ⟨r591, hr591, hm⟩ := hm
        refine kg_call 6 H rfl rfl rfl rfl en11 (g_r10_Boot_w (A := A) (⟨_, _, _, _, rfl, (hrp0_0.ext (Flat.mono _) hS.x), (hrp0_1.ext (Flat.mono _) hS.x), (hrp0_2.ext (Flat.mono _) hS.x), (hrp0_3.ext (Flat.mono _) hS.x)⟩ : RGPlan _ [.int .i64 a0.P.Id, .bool a0.P.Mobile, vp0_0, vp0_1, vp0_2, .int .i64 a0.P.Events, vp0_3] a0.P) hr591) rfl (by kernel_rfl) (fun v w hv => .inl (ChgF.of_ext (by obtain ⟨_, _, _, _, _, _, _, _, hE0⟩ := hv; exact hE0.x))) ?_
        clear H; intro x608 w606 hv; clear a; intro a H; obtain ⟨u592, u593, u594, u595, u596, u597, u598, rfl, hE607⟩ := hv
        replace hS := hS.new hE607; simp only [List.cons_append, List.nil_append] at hS
        replace hW := Nat.le_trans hW hE607.x.size
        replace hm := bindS hm; obtain ⟨r609, hr609, hm⟩ := hm
        refine kg_call 7 H rfl rfl rfl rfl en9 (g_r11_Same_w (A := A) (⟨_, _, _, _, _, _, _, rfl, ((hS.own 8 rfl).slr rfl (fun x _ => eGProc_len x)), ((hS.own 9 rfl).slr rfl (fun _ _ => rfl)), ((hS.own 10 rfl).slr rfl (fun _ _ => rfl)), ((hS.own 11 rfl).slr rfl (fun _ _ => rfl)), ((hS.own 12 rfl).slr rfl (fun _ _ => rfl)), (hS.deepSl 13 rfl), ((hS.own 14 rfl).slr rfl (fun x _ => eGPage_len x))⟩ : RGState _ [.int .i64 r41.1.Id, .int .i64 r41.1.Frame, .int .i64 r41.1.Epoch, u42, u43, u44, u45, u46, u47, u48] r41.1) (⟨_, _, _, _, _, _, _, rfl, ((hS.own 0 rfl).slr rfl (fun x _ => eGProc_len x)), ((hS.own 1 rfl).slr rfl (fun _ _ => rfl)), ((hS.own 2 rfl).slr rfl (fun _ _ => rfl)), ((hS.own 3 rfl).slr rfl (fun _ _ => rfl)), ((hS.own 4 rfl).slr rfl (fun _ _ => rfl)), (hS.deepSl 5 rfl), ((hS.own 6 rfl).slr rfl (fun x _ => eGPage_len x))⟩ : RGState _ [.int .i64 r591.Id, .int .i64 r591.Frame, .int .i64 r591.Epoch, u592, u593, u594, u595, u596, u597, u598] r591) hr609) rfl (by kernel_rfl) (fun v w hv => .inl (ChgF.of_ext (by obtain ⟨_, hE0⟩ := hv; exact hE0))) ?_
        clear H; intro x612 w610 hv; clear a; intro a H; obtain ⟨rfl, hE611⟩ := hv
        replace hS := hS.ext hE611
        replace hW := Nat.le_trans hW hE611.size
        refine k_takeT 8 H rfl (q_pickT rfl rfl) rfl (by kernel_rfl) (by kernel_rfl) (by kernel_rfl) (by kernel_rfl) (fun _ _ _ h => h) ?_; clear H a; intro a H
        refine k_takeT 9 H rfl (q_move rfl) rfl (by kernel_rfl) (by kernel_rfl) (by kernel_rfl) (by kernel_rfl) (fun _ _ _ h => h) ?_; clear H a; intro a H
        rcases Bool.eq_false_or_eq_true r609 with hg613 | hg613
        · replace H := H.know 43 rfl hg613
          replace hm := condT hm hg613
          refine kg_takeT 10 H rfl rfl rfl (q_move rfl) rfl (by kernel_rfl) (by kernel_rfl) (by kernel_rfl) (by kernel_rfl) (fun _ _ _ h => h) ?_; clear H a; intro a H
          refine kg_takeT 11 H rfl rfl rfl (q_eqlD rfl rfl) rfl (by kernel_rfl) (by kernel_rfl) (by kernel_rfl) (by kernel_rfl) (fun _ _ _ h => h) ?_; clear H a; intro a H
          refine k_takeT 12 H rfl (q_pickT rfl rfl) rfl (by kernel_rfl) (by kernel_rfl) (by kernel_rfl) (by kernel_rfl) (fun _ _ _ h => h) ?_; clear H a; intro a H
          refine k_takeT 13 H rfl (q_assign rfl) rfl (by kernel_rfl) (by kernel_rfl) (by kernel_rfl) (by kernel_rfl) (fun _ _ _ h => h) ?_; clear H a; intro a H
          refine k_done (by kernel_rfl) ?_
          refine then_normal (wp_ret ?_)
          obtain rfl := Option.some.inj hm
          replace hS := hS.tk0
          refine ret1 H (.inr rfl) rfl rfl ?_
          exact ⟨rfl, hS.x⟩
        · replace H := H.know 43 rfl hg613
          replace hm := condF hm hg613
          refine k_no 10 H rfl rfl rfl (by decide) rfl (by kernel_rfl) (by kernel_rfl) (by kernel_rfl) (by kernel_rfl) (fun _ _ _ h => h) ?_; clear H a; intro a H
          refine k_no 11 H rfl rfl rfl (by decide) rfl (by kernel_rfl) (by kernel_rfl) (by kernel_rfl) (by kernel_rfl) (fun _ _ _ h => h) ?_; clear H a; intro a H
          refine k_takeT 12 H rfl (q_pickF rfl rfl) rfl (by kernel_rfl) (by kernel_rfl) (by kernel_rfl) (by kernel_rfl) (fun _ _ _ h => h) ?_; clear H a; intro a H
          refine k_takeT 13 H rfl (q_assign rfl) rfl (by kernel_rfl) (by kernel_rfl) (by kernel_rfl) (by kernel_rfl) (fun _ _ _ h => h) ?_; clear H a; intro a H
          refine k_done (by kernel_rfl) ?_
          refine then_normal (wp_ret ?_)
          obtain rfl := Option.some.inj hm
          replace hS := hS.tk0
          refine ret1 H (.inr rfl) rfl rfl ?_
          exact ⟨rfl, hS.x⟩
      · replace H := H.know 36 rfl hg590
        replace hm := condF hm hg590
        refine k_no 3 H rfl rfl rfl (by decide) rfl (by kernel_rfl) (by kernel_rfl) (by kernel_rfl) (by kernel_rfl) (fun _ _ _ h => h) ?_; clear H a; intro a H
        refine k_no 4 H rfl rfl rfl (by decide) rfl (by kernel_rfl) (by kernel_rfl) (by kernel_rfl) (by kernel_rfl) (fun _ _ _ h => h) ?_; clear H a; intro a H
        refine k_no 5 H rfl rfl rfl (by decide) rfl (by kernel_rfl) (by kernel_rfl) (by kernel_rfl) (by kernel_rfl) (fun _ _ _ h => h) ?_; clear H a; intro a H
        refine k_no 6 H rfl rfl rfl (by decide) rfl (by kernel_rfl) (by kernel_rfl) (by kernel_rfl) (by kernel_rfl) (fun _ _ _ h => h) ?_; clear H a; intro a H
        refine k_no 7 H rfl rfl rfl (by decide) rfl (by kernel_rfl) (by kernel_rfl) (by kernel_rfl) (by kernel_rfl) (fun _ _ _ h => h) ?_; clear H a; intro a H
        refine k_takeT 8 H rfl (q_pickF rfl rfl) rfl (by kernel_rfl) (by kernel_rfl) (by kernel_rfl) (by kernel_rfl) (fun _ _ _ h => h) ?_; clear H a; intro a H
        refine k_takeT 9 H rfl (q_move rfl) rfl (by kernel_rfl) (by kernel_rfl) (by kernel_rfl) (by kernel_rfl) (fun _ _ _ h => h) ?_; clear H a; intro a H
        refine k_no 10 H rfl rfl rfl (by decide) rfl (by kernel_rfl) (by kernel_rfl) (by kernel_rfl) (by kernel_rfl) (fun _ _ _ h => h) ?_; clear H a; intro a H
        refine k_no 11 H rfl rfl rfl (by decide) rfl (by kernel_rfl) (by kernel_rfl) (by kernel_rfl) (by kernel_rfl) (fun _ _ _ h => h) ?_; clear H a; intro a H
        refine k_takeT 12 H rfl (q_pickF rfl rfl) rfl (by kernel_rfl) (by kernel_rfl) (by kernel_rfl) (by kernel_rfl) (fun _ _ _ h => h) ?_; clear H a; intro a H
        refine k_takeT 13 H rfl (q_assign rfl) rfl (by kernel_rfl) (by kernel_rfl) (by kernel_rfl) (by kernel_rfl) (fun _ _ _ h => h) ?_; clear H a; intro a H
        refine k_done (by kernel_rfl) ?_
        refine then_normal (wp_ret ?_)
        obtain rfl := Option.some.inj hm
        replace hS := hS.tk0
        refine ret1 H (.inr rfl) rfl rfl ?_
        exact ⟨rfl, hS.x⟩
end Go.Proofs.YtpnmaabhjgiggaaGreatDoor
