/- Pl (written by wip/tools) -/
import Derived.Test.YtpnmaabhjgiggaaDoorPlC
set_option linter.unusedVariables false
set_option linter.unusedSimpArgs false
set_option maxRecDepth 10000
namespace Go.Proofs.YtpnmaabhjgiggaaDoor
open Go Go.RowKit
theorem en10 : entersB Tryd.prog 10 = true := by kernel_rfl
theorem en5 : entersB Tryd.prog 5 = true := by kernel_rfl
theorem en6 : entersB Tryd.prog 6 = true := by kernel_rfl
theorem en7 : entersB Tryd.prog 7 = true := by kernel_rfl
theorem fo31_0 : fOff Tryd.prog 31 0 = some 0 := by kernel_rfl

set_option maxHeartbeats 1000000 in
theorem g_law10_PlanGrows_w {w : World} {A : Nat → Addr} {cs0 : List Value} {a0 : GL10Case} (hG : EV A w) (hH : HE w) (h0 : RGL10Case w cs0 a0) {r : Bool} (hm : g_law10_PlanGrows a0 = some r) :
    Calls Tryd.prog 3 [.agg cs0.toArray].toArray w (Ret fun u w' => u = .bool r ∧ Ext w w') := by
  obtain ⟨vp0_0, vp0_1, vp0_2, vp0_3, vp0_4, vp0_5, vp0_6, vp0_7, vp0_8, rfl, hrp0_0, hrp0_1, hrp0_2, hrp0_3, hrp0_4, hrp0_5, hrp0_6, hrp0_7, hrp0_8⟩ := h0
  have hS := St.begin NB w
  unfold g_law10_PlanGrows at hm
  refine enter Tryd.func3 rfl rfl rfl ?_; intro a H; dsimp only [enumL, Nat.zero_add, Nat.reduceAdd] at H
  refine wp_seq (wp_region_lit (n_box H rfl (cs := [.int .i64 a0.P.Id, .bool a0.P.Mobile, vp0_0, vp0_1, vp0_2, .int .i64 a0.P.Events, vp0_3, .int .i64 a0.Q.Id, .bool a0.Q.Mobile, vp0_4, vp0_5, vp0_6, .int .i64 a0.Q.Events, vp0_7, vp0_8, .int .i64 a0.At, .int .u32 a0.Mask]) rfl rfl ?_))
  clear H; intro b21 w22 hN hE23 hs; clear a; intro a H
  replace hS := hS.newBlk hN hE23 hs; clear hN hs
  refine n_q H (q_assign rfl) rfl ?_; clear H a; intro a H
  refine n_nil (then_normal (wp_seq (wp_seq (wp_region_lit ?_))))
  replace hm := bindS hm; obtain ⟨r24, hr24, hm⟩ := hm
  refine n_call H rfl en5 (g_law10_fixed_w (A := A) (hG.ext hS.x) (hH.ext hS.x) hr24) rfl ?_
  clear H; intro x27 w25 hv; clear a; intro a H; obtain ⟨rfl, hE26⟩ := hv
  replace hS := hS.ext hE26
  refine n_q H (q_not rfl) rfl ?_; clear H a; intro a H
  refine n_nil (then_normal (c_cond H rfl (fun hc28 => ?_) (fun hc28 => ?_)))
  · replace hm := condT hm hc28
    refine wp_seq (wp_region_lit (n_q H (q_assign rfl) rfl ?_)); clear H a; intro a H
    refine n_nil (then_normal (wp_ret (then_ret ?_)))
    obtain rfl := Option.some.inj hm
    replace hS := hS.tk0
    refine ret1 H (.inr rfl) rfl rfl ?_
    exact ⟨rfl, hS.x⟩
  · replace hm := condF hm hc28
    refine wp_skip (then_normal (wp_seq (wp_region_lit (n_q H (q_fieldAddr0 rfl fo31_0) rfl (W_q (q_load rfl ((hS.blk 0 rfl).ldPart 0 7 ag27 sz27 (by simp))) rfl ?_))))); clear H a; intro a H
    replace hm := bindS hm; obtain ⟨r29, hr29, hm⟩ := hm
    refine n_call H rfl en6 (g_r10_Copy_w (A := A) (⟨_, _, _, _, rfl, (hrp0_0.ext (Flat.mono _) hS.x), (hrp0_1.ext (Flat.mono _) hS.x), (hrp0_2.ext (Flat.mono _) hS.x), (hrp0_3.ext (Flat.mono _) hS.x)⟩ : RGPlan _ [.int .i64 a0.P.Id, .bool a0.P.Mobile, vp0_0, vp0_1, vp0_2, .int .i64 a0.P.Events, vp0_3] a0.P) hr29) rfl ?_
    clear H; intro x40 w38 hv; clear a; intro a H; obtain ⟨u30, u31, u32, u33, rfl, hE39⟩ := hv
    replace hS := hS.new hE39; simp only [List.cons_append, List.nil_append] at hS
    refine n_alloc H ze27 rfl ?_
    clear H; intro b41 w42 hN hE43 hs; clear a; intro a H
    replace hS := hS.newBlk hN hE43 hs; clear hN hs
    refine n_storeAll H rfl rfl (vs := [.int .i64 r29.Id, .bool r29.Mobile, u30, u31, u32, .int .i64 r29.Events, u33]) rfl sz27 (hS.blk 0 rfl) rfl (by simp [(((hS.own 1 rfl).slr rfl (fun _ _ => rfl))).one, (((hS.own 2 rfl).slr rfl (fun _ _ => rfl))).one, (((hS.own 3 rfl).slr rfl (fun _ _ => rfl))).one, (((hS.own 4 rfl).slr rfl (fun _ _ => rfl))).one]) ?_
    clear H; intro w44 hN hC45 hz; clear a; intro a H; replace hS := hS.setBlk hN hC45; clear hN hz
    refine n_nil (then_normal ?_)
    replace hm := bindS hm; obtain ⟨j46, hm, hm46⟩ := hm
    refine c_join (σ := Int × Bool × (List GPagePlan) × (List GProcPlan) × (List GPortPlan) × Int × (List Int) × Value × Value × Value × Value) H (fun (z547, q548, l549, l552, l555, z558, l559, v550, v553, v556, v560) => [(3, .pointer (some ⟨b41, 0, none⟩))]) (fun (z547, q548, l549, l552, l555, z558, l559, v550, v553, v556, v560) wl => g_law10_PlanGrows_J18 (z547, q548, l549, l552, l555, z558, l559) = some r ∧ St NB w wl [blkR b41 [.int .i64 z547, .bool q548, v550, v553, v556, .int .i64 z558, v560] 27, ownR 41 2 v550 l549.length (l549.flatMap eGPagePlan), ownR 43 3 v553 l552.length (l552.flatMap eGProcPlan), ownR 70 4 v556 l555.length (l555.flatMap eGPortPlan), ownR 3 1 v560 l559.length (l559.flatMap eI)]) ?_ ?_
    · skip
      refine wp_seq (wp_region_lit (n_q H (q_load rfl ((hS.blk 0 rfl).ldAll ag27 sz27)) rfl ?_)); clear H a; intro a H
      replace hm := bindS hm; obtain ⟨r562, hr562, hm⟩ := hm
      refine n_call H rfl en7 (g_r10_Good_w (A := A) (⟨_, _, _, _, rfl, ((hS.own 1 rfl).slr rfl (fun _ _ => rfl)), ((hS.own 2 rfl).slr rfl (fun _ _ => rfl)), ((hS.own 3 rfl).slr rfl (fun _ _ => rfl)), ((hS.own 4 rfl).slr rfl (fun _ _ => rfl))⟩ : RGPlan _ [.int .i64 r29.Id, .bool r29.Mobile, u30, u31, u32, .int .i64 r29.Events, u33] r29) hr562) rfl ?_
      clear H; intro x565 w563 hv; clear a; intro a H; obtain ⟨rfl, hE564⟩ := hv
      replace hS := hS.ext hE564
      refine n_q H (q_not rfl) rfl ?_; clear H a; intro a H
      refine n_nil (then_normal (c_cond H rfl (fun hc566 => ?_) (fun hc566 => ?_)))
      · replace hm := condT hm hc566
        refine wp_region_lit ?_
        replace hm := bindS hm; obtain ⟨r567, hr567, hm⟩ := hm
        refine n_call H rfl en8 (g_law10_small_w (A := A) hr567) rfl ?_
        clear H; intro x578 w576 hv; clear a; intro a H; obtain ⟨u568, u569, u570, u571, rfl, hE577⟩ := hv
        replace hS := hS.new hE577; simp only [List.cons_append, List.nil_append] at hS
        replace hS := hS.pk4
        refine n_storeAll H rfl rfl (vs := [.int .i64 r567.Id, .bool r567.Mobile, u568, u569, u570, .int .i64 r567.Events, u571]) rfl sz27 (hS.blk 0 rfl) rfl (by simp [(((hS.own 1 rfl).slr rfl (fun _ _ => rfl))).one, (((hS.own 2 rfl).slr rfl (fun _ _ => rfl))).one, (((hS.own 3 rfl).slr rfl (fun _ _ => rfl))).one, (((hS.own 4 rfl).slr rfl (fun _ _ => rfl))).one]) ?_
        clear H; intro w579 hN hC580 hz; clear a; intro a H; replace hS := hS.setBlk hN hC580; clear hN hz
        refine n_nil (then_normal ?_)
        obtain rfl := Option.some.inj hm; replace hm := hm46; try dsimp only at hm
        replace hS := hS.tk5
        exact join (r567.Id, r567.Mobile, r567.Pages, r567.Procs, r567.Ports, r567.Events, r567.Sems, u568, u569, u570, u571) H ⟨rfl, trivial⟩ ⟨hm, hS⟩
      · replace hm := condF hm hc566
        refine wp_skip (then_normal ?_)
        obtain rfl := Option.some.inj hm; replace hm := hm46; try dsimp only at hm
        replace hS := hS.tk5
        exact join (r29.Id, r29.Mobile, r29.Pages, r29.Procs, r29.Ports, r29.Events, r29.Sems, u30, u31, u32, u33) H ⟨rfl, trivial⟩ ⟨hm, hS⟩
    · clear H hS hm a; intro xx a w581 H hR
      obtain ⟨z547, q548, l549, l552, l555, z558, l559, v550, v553, v556, v560⟩ := xx
      simp only [ent, List.map_cons, List.map_nil] at H; (try dsimp only at hR); obtain ⟨hm, hS⟩ := hR; try dsimp only [g_law10_PlanGrows_J18] at hm
      refine wp_seq (wp_region_lit (n_q H (q_load rfl ((hS.blk 0 rfl).ldAll ag27 sz27)) rfl ?_)); clear H a; intro a H
      replace hm := bindS hm; obtain ⟨r582, hr582, hm⟩ := hm
      refine n_call H rfl en6 (g_r10_Copy_w (A := A) (⟨_, _, _, _, rfl, ((hS.own 1 rfl).slr rfl (fun _ _ => rfl)), ((hS.own 2 rfl).slr rfl (fun _ _ => rfl)), ((hS.own 3 rfl).slr rfl (fun _ _ => rfl)), ((hS.own 4 rfl).slr rfl (fun _ _ => rfl))⟩ : RGPlan _ [.int .i64 z547, .bool q548, v550, v553, v556, .int .i64 z558, v560] (⟨z547, q548, l549, l552, l555, z558, l559⟩ : GPlan)) hr582) rfl ?_
      clear H; intro x593 w591 hv; clear a; intro a H; obtain ⟨u583, u584, u585, u586, rfl, hE592⟩ := hv
      replace hS := hS.new hE592; simp only [List.cons_append, List.nil_append] at hS
      replace hm := bindS hm; obtain ⟨r594, hr594, hm⟩ := hm
      refine n_call H rfl en9 (g_plan_Bound_w (A := A) (hG.ext hS.x) (⟨_, _, _, _, rfl, ((hS.own 0 rfl).slr rfl (fun _ _ => rfl)), ((hS.own 1 rfl).slr rfl (fun _ _ => rfl)), ((hS.own 2 rfl).slr rfl (fun _ _ => rfl)), ((hS.own 3 rfl).slr rfl (fun _ _ => rfl))⟩ : RGPlan _ [.int .i64 r582.Id, .bool r582.Mobile, u583, u584, u585, .int .i64 r582.Events, u586] r582) hr594) rfl ?_
      clear H; intro x599 w597 hv; clear a; intro a H; obtain ⟨u595, rfl, hE598⟩ := hv
      replace hS := hS.new hE598; simp only [List.cons_append, List.nil_append] at hS
      refine n_q H (q_move rfl) rfl (W_q (q_extract rfl rfl) rfl (W_q (q_extract rfl rfl) rfl (W_q (q_assign rfl) rfl (W_q (q_assign rfl) rfl ?_)))); clear H a; intro a H
      refine n_nil (then_normal (wp_seq (wp_seq (wp_region_lit (n_c H (fun HC => ?_)))))); clear H
      refine nc_q HC (q_move rfl) rfl (by kernel_rfl) (V_q (q_cast (q_nnilI Tryd.underlying37 rfl rfl (hS.any 0 rfl : IsE A w597 u595 r594.2).form) (show _ = Value.bool (!decide (r594.2 = .nil)) by rw [IsErr.isNil (hS.any 0 rfl : IsE A w597 u595 r594.2)])) rfl (by kernel_rfl) (V_q (q_move rfl) rfl (by kernel_rfl) (V_g (q_move rfl) (by kernel_rfl) (by kernel_rfl) (by kernel_rfl) (V_g (q_gtr rfl rfl) (by kernel_rfl) (by kernel_rfl) (by kernel_rfl) (V_or (j := 2) rfl rfl rfl (by kernel_rfl) (by kernel_rfl) ?_))))); clear HC a; intro a HC
      have H := HC.has; clear HC
      refine n_nil (then_normal (c_cond H rfl (fun hc600 => ?_) (fun hc600 => ?_)))
      · replace hm := condT hm hc600
        refine wp_seq (wp_region_lit (n_q H (q_assign rfl) rfl ?_)); clear H a; intro a H
        refine n_nil (then_normal (wp_ret (then_ret ?_)))
        obtain rfl := Option.some.inj hm
        replace hS := hS.tk0
        refine ret1 H (.inr rfl) rfl rfl ?_
        exact ⟨rfl, hS.x⟩
      · replace hm := condF hm hc600
        refine wp_skip (then_normal (wp_seq (wp_region_lit (n_buildSlice H Tryd.underlying25 sz3 ze3 rfl rfl rfl (cs := [.int .i64 68, .int .i64 76, .int .i64 1, .int .i64 1]) (by kernel_rfl) rfl ?_))))
        clear H; intro b603 w601 hN hE602 hs; clear a; intro a H
        replace hS := hS.newBlk hN hE602 hs; clear hN hs
        replace hS := hS.blkOwnL (e := eI) (k := 1) [68, 76, 1, 1] rfl rfl (by simp [maxLen])
        refine n_q H (q_assign rfl) rfl ?_; clear H a; intro a H
        refine n_nil (then_normal (wp_seq (wp_seq (wp_region_lit (n_q H (q_assign rfl) rfl ?_))))); clear H a; intro a H
        refine n_nil (then_normal (wp_block ?_))
        replace hS := hS.pk10
        replace hS := hS.pk10
        replace hS := hS.pk10
        replace hS := hS.pk10
        replace hS := hS.pk10
        replace hS := hS.pk5
        replace hS := hS.tk6
        replace hm := bindS hm; obtain ⟨q605, hm, hm605⟩ := hm; replace hm := iter_some hm; obtain ⟨n605, hm⟩ := hm
        refine c_loop (σ := Nat × Nat) (fun (m, i606) => [(3, .pointer (some ⟨b41, 0, none⟩)), (4, .int .i64 r594.1), (6, .slice (some ⟨b603, 0, none⟩) 4 4), (7, .int .i64 ((i606 : Nat) : Int))]) (fun (m, i606) wl => iterN (g_law10_PlanGrows_L17 z547 q548 l549 l552 l555 z558 l559 r594) m i606 = some q605 ∧ St NB w wl [ownR 3 1 (.slice (some ⟨b603, 0, none⟩) 4 4) [68, 76, 1, 1].length ([68, 76, 1, 1].flatMap eI), blkR b41 [.int .i64 z547, .bool q548, v550, v553, v556, .int .i64 z558, v560] 27, ownR 41 2 v550 l549.length (l549.flatMap eGPagePlan), ownR 43 3 v553 l552.length (l552.flatMap eGProcPlan), ownR 70 4 v556 l555.length (l555.flatMap eGPortPlan), ownR 3 1 v560 l559.length (l559.flatMap eI)]) (fun (m, i606) => m) (n605, 0) H ⟨rfl, rfl, rfl, rfl, trivial⟩ ⟨hm, hS⟩ ?_
        clear H hS hm a; intro xx a w607 H hR; obtain ⟨m, i606⟩ := xx; simp only [ent, List.map_cons, List.map_nil] at H; (try dsimp only at hR); obtain ⟨hm, hS⟩ := hR
        replace hm := iterN_step hm; obtain ⟨m605, o605, rfl, hm, hn605⟩ := hm; try dsimp only [g_law10_PlanGrows_L17] at hm
        refine wp_seq (wp_seq (wp_region_lit (n_q H (q_move rfl) rfl (W_q (q_lssN (i := i606) (j := 4) rfl rfl) rfl ?_)))); clear H a; intro a H
        refine n_nil (then_normal (c_cond H rfl (fun hc608 => ?_) (fun hc608 => ?_)))
        · replace hm := condT hm hc608
          have hlt609 : i606 < 4 := of_decide_eq_true hc608
          refine wp_skip (then_normal (wp_seq (wp_block (wp_seq (wp_region_lit (n_q H (q_load rfl ((hS.blk 1 rfl).ldAll ag27 sz27)) rfl ?_)))))); clear H a; intro a H
          replace hm := bindS hm; obtain ⟨r610, hr610, hm⟩ := hm
          refine n_call H rfl en6 (g_r10_Copy_w (A := A) (⟨_, _, _, _, rfl, ((hS.own 2 rfl).slr rfl (fun _ _ => rfl)), ((hS.own 3 rfl).slr rfl (fun _ _ => rfl)), ((hS.own 4 rfl).slr rfl (fun _ _ => rfl)), ((hS.own 5 rfl).slr rfl (fun _ _ => rfl))⟩ : RGPlan _ [.int .i64 z547, .bool q548, v550, v553, v556, .int .i64 z558, v560] (⟨z547, q548, l549, l552, l555, z558, l559⟩ : GPlan)) hr610) rfl ?_
          clear H; intro x621 w619 hv; clear a; intro a H; obtain ⟨u611, u612, u613, u614, rfl, hE620⟩ := hv
          replace hS := hS.new hE620; simp only [List.cons_append, List.nil_append] at hS
          refine n_alloc H ze27 rfl ?_
          clear H; intro b622 w623 hN hE624 hs; clear a; intro a H
          replace hS := hS.newBlk hN hE624 hs; clear hN hs
          refine n_storeAll H rfl rfl (vs := [.int .i64 r610.Id, .bool r610.Mobile, u611, u612, u613, .int .i64 r610.Events, u614]) rfl sz27 (hS.blk 0 rfl) rfl (by simp [(((hS.own 1 rfl).slr rfl (fun _ _ => rfl))).one, (((hS.own 2 rfl).slr rfl (fun _ _ => rfl))).one, (((hS.own 3 rfl).slr rfl (fun _ _ => rfl))).one, (((hS.own 4 rfl).slr rfl (fun _ _ => rfl))).one]) ?_
          clear H; intro w625 hN hC626 hz; clear a; intro a H; replace hS := hS.setBlk hN hC626; clear hN hz
          refine n_nil (then_normal (wp_seq (wp_region_lit (n_q H (q_assign rfl) rfl ?_)))); clear H a; intro a H
          refine n_nil (then_normal ?_)
          replace hm := bindS hm; obtain ⟨j627, hm, hm627⟩ := hm
          refine c_join (σ := Bool × (List GPagePlan) × (List GProcPlan) × Int × (List Int) × Value × Value × Value) H (fun (q1128, l1129, l1132, z1135, l1136, v1130, v1133, v1137) => [(3, .pointer (some ⟨b41, 0, none⟩)), (4, .int .i64 r594.1), (6, .slice (some ⟨b603, 0, none⟩) 4 4), (7, .int .i64 ((i606 : Nat) : Int)), (8, .pointer (some ⟨b622, 0, none⟩)), (9, .bool q1128)]) (fun (q1128, l1129, l1132, z1135, l1136, v1130, v1133, v1137) wl => (g_law10_PlanGrows_J16 r594 i606 r610) (q1128, l1129, l1132, z1135, l1136) = some o605 ∧ St NB w wl [ownR 3 1 (.slice (some ⟨b603, 0, none⟩) 4 4) [68, 76, 1, 1].length ([68, 76, 1, 1].flatMap eI), blkR b41 [.int .i64 z547, .bool q548, v550, v553, v556, .int .i64 z558, v560] 27, ownR 41 2 v550 l549.length (l549.flatMap eGPagePlan), ownR 43 3 v553 l552.length (l552.flatMap eGProcPlan), ownR 70 4 v556 l555.length (l555.flatMap eGPortPlan), ownR 3 1 v560 l559.length (l559.flatMap eI), blkR b622 [.int .i64 r610.Id, .bool r610.Mobile, v1130, v1133, u613, .int .i64 z1135, v1137] 27, ownR 41 2 v1130 l1129.length (l1129.flatMap eGPagePlan), ownR 43 3 v1133 l1132.length (l1132.flatMap eGProcPlan), ownR 70 4 u613 r610.Ports.length (r610.Ports.flatMap eGPortPlan), ownR 3 1 v1137 l1136.length (l1136.flatMap eI)]) ?_ ?_
          · skip
            refine wp_seq (wp_region_lit (n_q H (q_move rfl) rfl ?_)); clear H a; intro a H
            refine n_nil (then_normal (wp_block (wp_seq (wp_region_lit (n_q H (q_eqlN (i := i606) (j := 0) rfl rfl) rfl (W_q (q_assign rfl) rfl ?_)))))); clear H a; intro a H
            refine n_nil (then_normal (c_cond H rfl (fun hc1139 => ?_) (fun hc1139 => ?_)))
            · replace hm := condT hm hc1139
              refine wp_seq (wp_region_lit (n_q H (q_fieldAddr0 rfl fo27_2) rfl (W_q (q_load rfl ((hS.blk 0 rfl).ld ag22 rfl)) rfl ?_))); clear H a; intro a H
              obtain ⟨A1140, c1140, hv1140, hl1140, hm1140⟩ := SlR.formV ((hS.own 1 rfl).slr rfl (fun _ _ => rfl))
              refine n_q H (q_lenV Tryd.underlying22 rfl hv1140) rfl (W_q (q_lssN (i := r610.Pages.length) (j := 32) rfl rfl) rfl (W_q (q_assign rfl) rfl ?_)); clear H a; intro a H
              refine n_nil (then_normal (wp_region_lit (n_q H (q_fieldAddr0 rfl fo27_2) rfl (W_q (q_load rfl ((hS.blk 0 rfl).ld ag22 rfl)) rfl (W_q (q_build (cs := [.int .i64 0, .string ⟨#[]⟩]) ze41 bd41 pl41 rfl (by kernel_rfl)) rfl ?_))))); clear H a; intro a H
              refine n_buildSlice H Tryd.underlying22 sz41 ze41 rfl rfl rfl (cs := [.int .i64 0, .string ⟨#[]⟩]) (by kernel_rfl) rfl ?_
              clear H; intro b1143 w1141 hN hE1142 hs; clear a; intro a H
              replace hS := hS.newBlk hN hE1142 hs; clear hN hs
              replace hS := hS.blkOwnL (e := eGPagePlan) (k := 2) [(⟨0, ⟨#[]⟩⟩ : GPagePlan)] rfl rfl (by simp [maxLen])
              replace hS := hS.pk2
              replace hm := chkS hm; obtain ⟨hk1145, hm⟩ := hm
              refine n_app (e := eGPagePlan) H rfl rfl Tryd.underlying22 Tryd.underlying22 (by simp) el41 (hS.own 0 rfl) (((hS.own 1 rfl).slr rfl (fun _ _ => rfl)).src (fun _ _ => rfl)) eGPagePlan_one hk1145 (by simp only [maxLen]; omega) rfl ?_
              clear H; intro v1148 w1146 hN hC1147 hb; clear a; intro a H; replace hS := hS.setOwn hN hC1147 hb; clear hN hb
              refine n_q H (q_fieldAddr0 rfl fo27_2) rfl ?_; clear H a; intro a H
              replace hS := hS.pk2
              refine n_store1 H rfl rfl sz22 (hS.blk 0 rfl) (by simp) (((hS.own 1 rfl).slr rfl (fun _ _ => rfl))).one ?_
              clear H; intro w1150 hN hC1151 hz; clear a; intro a H; replace hS := hS.setBlk hN hC1151; clear hN hz
              try simp only [List.set_cons_succ, List.set_cons_zero] at hS
              refine n_nil (block_normal (then_normal ?_))
              obtain rfl := Option.some.inj hm; replace hm := hm627; try dsimp only at hm
              replace hS := hS.pk5
              replace hS := hS.pk5
              replace hS := hS.pk5
              replace hS := hS.pk4
              replace hS := hS.pk4
              replace hS := hS.pick 11 rfl; dsimp only [List.eraseIdx] at hS
              replace hS := hS.pick 11 rfl; dsimp only [List.eraseIdx] at hS
              replace hS := hS.pick 11 rfl; dsimp only [List.eraseIdx] at hS
              replace hS := hS.pick 11 rfl; dsimp only [List.eraseIdx] at hS
              replace hS := hS.pick 11 rfl; dsimp only [List.eraseIdx] at hS
              replace hS := hS.pick 11 rfl; dsimp only [List.eraseIdx] at hS
              replace hS := hS.take 11; simp only [List.take_succ_cons, List.take_zero] at hS
              exact join (decide (r610.Pages.length < 32), (r610.Pages ++ [(⟨0, ⟨#[]⟩⟩ : GPagePlan)]), r610.Procs, r610.Events, r610.Sems, v1148, u612, u614) H ⟨rfl, rfl, rfl, rfl, rfl, rfl, trivial⟩ ⟨hm, hS⟩
            · replace hm := condF hm hc1139
              refine wp_seq (wp_region_lit (n_q H (q_eqlN (i := i606) (j := 1) rfl rfl) rfl (W_q (q_assign rfl) rfl ?_))); clear H a; intro a H
              refine n_nil (then_normal (c_cond H rfl (fun hc1152 => ?_) (fun hc1152 => ?_)))
              · replace hm := condT hm hc1152
                refine wp_seq (wp_region_lit (n_q H (q_fieldAddr0 rfl fo27_3) rfl (W_q (q_load rfl ((hS.blk 0 rfl).ld ag23 rfl)) rfl ?_))); clear H a; intro a H
                obtain ⟨A1153, c1153, hv1153, hl1153, hm1153⟩ := SlR.formV ((hS.own 2 rfl).slr rfl (fun _ _ => rfl))
                refine n_q H (q_lenV Tryd.underlying23 rfl hv1153) rfl (W_q (q_lssN (i := r610.Procs.length) (j := 8) rfl rfl) rfl (W_q (q_assign rfl) rfl ?_)); clear H a; intro a H
                refine n_nil (then_normal (wp_region_lit (n_q H (q_fieldAddr0 rfl fo27_3) rfl (W_q (q_load rfl ((hS.blk 0 rfl).ld ag23 rfl)) rfl (W_q (q_build (cs := [.int .i64 0, .int .i64 0, .bool false]) ze43 bd43 pl43 rfl (by kernel_rfl)) rfl ?_))))); clear H a; intro a H
                refine n_buildSlice H Tryd.underlying23 sz43 ze43 rfl rfl rfl (cs := [.int .i64 0, .int .i64 0, .bool false]) (by kernel_rfl) rfl ?_
                clear H; intro b1156 w1154 hN hE1155 hs; clear a; intro a H
                replace hS := hS.newBlk hN hE1155 hs; clear hN hs
                replace hS := hS.blkOwnL (e := eGProcPlan) (k := 3) [(⟨0, 0, false⟩ : GProcPlan)] rfl rfl (by simp [maxLen])
                replace hS := hS.pk3
                replace hm := chkS hm; obtain ⟨hk1158, hm⟩ := hm
                refine n_app (e := eGProcPlan) H rfl rfl Tryd.underlying23 Tryd.underlying23 (by simp) el43 (hS.own 0 rfl) (((hS.own 1 rfl).slr rfl (fun _ _ => rfl)).src (fun _ _ => rfl)) eGProcPlan_one hk1158 (by simp only [maxLen]; omega) rfl ?_
                clear H; intro v1161 w1159 hN hC1160 hb; clear a; intro a H; replace hS := hS.setOwn hN hC1160 hb; clear hN hb
                refine n_q H (q_fieldAddr0 rfl fo27_3) rfl ?_; clear H a; intro a H
                replace hS := hS.pk2
                refine n_store1 H rfl rfl sz23 (hS.blk 0 rfl) (by simp) (((hS.own 1 rfl).slr rfl (fun _ _ => rfl))).one ?_
                clear H; intro w1163 hN hC1164 hz; clear a; intro a H; replace hS := hS.setBlk hN hC1164; clear hN hz
                try simp only [List.set_cons_succ, List.set_cons_zero] at hS
                refine n_nil (block_normal (then_normal ?_))
                obtain rfl := Option.some.inj hm; replace hm := hm627; try dsimp only at hm
                replace hS := hS.pk5
                replace hS := hS.pk5
                replace hS := hS.pk3
                replace hS := hS.pk5
                replace hS := hS.pk4
                replace hS := hS.pick 11 rfl; dsimp only [List.eraseIdx] at hS
                replace hS := hS.pick 11 rfl; dsimp only [List.eraseIdx] at hS
                replace hS := hS.pick 11 rfl; dsimp only [List.eraseIdx] at hS
                replace hS := hS.pick 11 rfl; dsimp only [List.eraseIdx] at hS
                replace hS := hS.pick 11 rfl; dsimp only [List.eraseIdx] at hS
                replace hS := hS.pick 11 rfl; dsimp only [List.eraseIdx] at hS
                replace hS := hS.take 11; simp only [List.take_succ_cons, List.take_zero] at hS
                exact join (decide (r610.Procs.length < 8), r610.Pages, (r610.Procs ++ [(⟨0, 0, false⟩ : GProcPlan)]), r610.Events, r610.Sems, u611, v1161, u614) H ⟨rfl, rfl, rfl, rfl, rfl, rfl, trivial⟩ ⟨hm, hS⟩
              · replace hm := condF hm hc1152
                refine wp_seq (wp_region_lit (n_q H (q_eqlN (i := i606) (j := 2) rfl rfl) rfl (W_q (q_assign rfl) rfl ?_))); clear H a; intro a H
                refine n_nil (then_normal (c_cond H rfl (fun hc1165 => ?_) (fun hc1165 => ?_)))
                · replace hm := condT hm hc1165
                  refine wp_seq (wp_region_lit (n_q H (q_fieldAddr0 rfl fo27_5) rfl (W_q (q_load rfl ((hS.blk 0 rfl).ld ag3 rfl)) rfl (W_q (q_lss rfl rfl) rfl (W_q (q_assign rfl) rfl ?_))))); clear H a; intro a H
                  refine n_nil (then_normal (wp_region_lit (n_q H (q_fieldAddr0 rfl fo27_5) rfl (W_q (q_load rfl ((hS.blk 0 rfl).ld ag3 rfl)) rfl (W_q (q_addW rfl rfl) rfl (W_q (q_fieldAddr0 rfl fo27_5) rfl ?_)))))); clear H a; intro a H
                  refine n_store1 H rfl rfl sz3 (hS.blk 0 rfl) (by simp) rfl ?_
                  clear H; intro w1166 hN hC1167 hz; clear a; intro a H; replace hS := hS.setBlk hN hC1167; clear hN hz
                  try simp only [List.set_cons_succ, List.set_cons_zero] at hS
                  refine n_nil (block_normal (then_normal ?_))
                  obtain rfl := Option.some.inj hm; replace hm := hm627; try dsimp only at hm
                  replace hS := hS.pk4
                  replace hS := hS.pk4
                  replace hS := hS.pk4
                  replace hS := hS.pk4
                  replace hS := hS.pk4
                  replace hS := hS.pk10
                  replace hS := hS.pk10
                  replace hS := hS.pk10
                  replace hS := hS.pk10
                  replace hS := hS.pk10
                  replace hS := hS.pk10
                  exact join (decide (r610.Events < 8), r610.Pages, r610.Procs, (IntKind.i64.wrap (r610.Events + 1)), r610.Sems, u611, u612, u614) H ⟨rfl, rfl, rfl, rfl, rfl, rfl, trivial⟩ ⟨hm, hS⟩
                · replace hm := condF hm hc1165
                  refine wp_seq (wp_region_lit (n_q H (q_eqlN (i := i606) (j := 3) rfl rfl) rfl (W_q (q_assign rfl) rfl ?_))); clear H a; intro a H
                  refine n_nil (then_normal (c_cond H rfl (fun hc1168 => ?_) (fun hc1168 => ?_)))
                  · replace hm := condT hm hc1168
                    refine wp_seq (wp_region_lit (n_q H (q_fieldAddr0 rfl fo27_6) rfl (W_q (q_load rfl ((hS.blk 0 rfl).ld ag25 rfl)) rfl ?_))); clear H a; intro a H
                    obtain ⟨A1169, c1169, hv1169, hl1169, hm1169⟩ := SlR.formV ((hS.own 4 rfl).slr rfl (fun _ _ => rfl))
                    refine n_q H (q_lenV Tryd.underlying25 rfl hv1169) rfl (W_q (q_lssN (i := r610.Sems.length) (j := 8) rfl rfl) rfl (W_q (q_assign rfl) rfl ?_)); clear H a; intro a H
                    refine n_nil (then_normal (wp_region_lit (n_q H (q_fieldAddr0 rfl fo27_6) rfl (W_q (q_load rfl ((hS.blk 0 rfl).ld ag25 rfl)) rfl ?_)))); clear H a; intro a H
                    refine n_buildSlice H Tryd.underlying25 sz3 ze3 rfl rfl rfl (cs := [.int .i64 255]) (by kernel_rfl) rfl ?_
                    clear H; intro b1172 w1170 hN hE1171 hs; clear a; intro a H
                    replace hS := hS.newBlk hN hE1171 hs; clear hN hs
                    replace hS := hS.blkOwnL (e := eI) (k := 1) [255] rfl rfl (by simp [maxLen])
                    replace hS := hS.pk5
                    replace hm := chkS hm; obtain ⟨hk1174, hm⟩ := hm
                    refine n_app (e := eI) H rfl rfl Tryd.underlying25 Tryd.underlying25 (by simp) el3 (hS.own 0 rfl) (((hS.own 1 rfl).slr rfl (fun _ _ => rfl)).src (fun _ _ => rfl)) eI_one hk1174 (by simp only [maxLen]; omega) rfl ?_
                    clear H; intro v1177 w1175 hN hC1176 hb; clear a; intro a H; replace hS := hS.setOwn hN hC1176 hb; clear hN hb
                    refine n_q H (q_fieldAddr0 rfl fo27_6) rfl ?_; clear H a; intro a H
                    replace hS := hS.pk2
                    refine n_store1 H rfl rfl sz25 (hS.blk 0 rfl) (by simp) (((hS.own 1 rfl).slr rfl (fun _ _ => rfl))).one ?_
                    clear H; intro w1179 hN hC1180 hz; clear a; intro a H; replace hS := hS.setBlk hN hC1180; clear hN hz
                    try simp only [List.set_cons_succ, List.set_cons_zero] at hS
                    refine n_nil (block_normal (then_normal ?_))
                    obtain rfl := Option.some.inj hm; replace hm := hm627; try dsimp only at hm
                    replace hS := hS.pk1
                    replace hS := hS.pk5
                    replace hS := hS.pk5
                    replace hS := hS.pk5
                    replace hS := hS.pk4
                    replace hS := hS.pick 11 rfl; dsimp only [List.eraseIdx] at hS
                    replace hS := hS.pick 11 rfl; dsimp only [List.eraseIdx] at hS
                    replace hS := hS.pick 11 rfl; dsimp only [List.eraseIdx] at hS
                    replace hS := hS.pick 11 rfl; dsimp only [List.eraseIdx] at hS
                    replace hS := hS.pick 11 rfl; dsimp only [List.eraseIdx] at hS
                    replace hS := hS.pick 11 rfl; dsimp only [List.eraseIdx] at hS
                    replace hS := hS.take 11; simp only [List.take_succ_cons, List.take_zero] at hS
                    exact join (decide (r610.Sems.length < 8), r610.Pages, r610.Procs, r610.Events, (r610.Sems ++ [255]), u611, u612, v1177) H ⟨rfl, rfl, rfl, rfl, rfl, rfl, trivial⟩ ⟨hm, hS⟩
                  · replace hm := condF hm hc1168
                    refine wp_skip (block_normal (then_normal ?_))
                    obtain rfl := Option.some.inj hm; replace hm := hm627; try dsimp only at hm
                    replace hS := hS.pk4
                    replace hS := hS.pk4
                    replace hS := hS.pk4
                    replace hS := hS.pk4
                    replace hS := hS.pk4
                    replace hS := hS.pk10
                    replace hS := hS.pk10
                    replace hS := hS.pk10
                    replace hS := hS.pk10
                    replace hS := hS.pk10
                    replace hS := hS.pk10
                    exact join (true, r610.Pages, r610.Procs, r610.Events, r610.Sems, u611, u612, u614) H ⟨rfl, rfl, rfl, rfl, rfl, rfl, trivial⟩ ⟨hm, hS⟩
          · clear H hS hm a; intro xx a w1181 H hR
            obtain ⟨q1128, l1129, l1132, z1135, l1136, v1130, v1133, v1137⟩ := xx
            simp only [ent, List.map_cons, List.map_nil] at H; (try dsimp only at hR); obtain ⟨hm, hS⟩ := hR; try dsimp only [g_law10_PlanGrows_J16] at hm
            refine wp_seq (wp_region_lit (n_q H (q_load rfl ((hS.blk 6 rfl).ldAll ag27 sz27)) rfl ?_)); clear H a; intro a H
            replace hm := bindS hm; obtain ⟨r1182, hr1182, hm⟩ := hm
            refine n_call H rfl en9 (g_plan_Bound_w (A := A) (hG.ext hS.x) (⟨_, _, _, _, rfl, ((hS.own 7 rfl).slr rfl (fun _ _ => rfl)), ((hS.own 8 rfl).slr rfl (fun _ _ => rfl)), ((hS.own 9 rfl).slr rfl (fun _ _ => rfl)), ((hS.own 10 rfl).slr rfl (fun _ _ => rfl))⟩ : RGPlan _ [.int .i64 r610.Id, .bool r610.Mobile, v1130, v1133, u613, .int .i64 z1135, v1137] (⟨r610.Id, r610.Mobile, l1129, l1132, r610.Ports, z1135, l1136⟩ : GPlan)) hr1182) rfl ?_
            clear H; intro x1187 w1185 hv; clear a; intro a H; obtain ⟨u1183, rfl, hE1186⟩ := hv
            replace hS := hS.new hE1186; simp only [List.cons_append, List.nil_append] at hS
            refine n_q H (q_move rfl) rfl (W_q (q_extract rfl rfl) rfl (W_q (q_extract rfl rfl) rfl (W_q (q_assign rfl) rfl (W_q (q_assign rfl) rfl ?_)))); clear H a; intro a H
            refine n_nil (then_normal ?_)
            replace hm := bindS hm; obtain ⟨j1188, hm, hm1188⟩ := hm
            refine c_join (σ := Bool) H (fun q1689 => [(3, .pointer (some ⟨b41, 0, none⟩)), (4, .int .i64 r594.1), (6, .slice (some ⟨b603, 0, none⟩) 4 4), (7, .int .i64 ((i606 : Nat) : Int)), (10, .int .i64 r1182.1), (11, u1183), (12, .bool q1689)]) (fun q1689 wl => (g_law10_PlanGrows_J15 r594 i606 r1182) q1689 = some o605 ∧ St NB w wl [ownR 3 1 (.slice (some ⟨b603, 0, none⟩) 4 4) [68, 76, 1, 1].length ([68, 76, 1, 1].flatMap eI), erQ A u1183 r1182.2, blkR b41 [.int .i64 z547, .bool q548, v550, v553, v556, .int .i64 z558, v560] 27, ownR 41 2 v550 l549.length (l549.flatMap eGPagePlan), ownR 43 3 v553 l552.length (l552.flatMap eGProcPlan), ownR 70 4 v556 l555.length (l555.flatMap eGPortPlan), ownR 3 1 v560 l559.length (l559.flatMap eI)]) ?_ ?_
            · skip
              refine wp_region_lit (n_q H (q_move rfl) rfl (W_q (q_move rfl) rfl ?_)); clear H a; intro a H
              rcases Bool.eq_false_or_eq_true q1128 with hg1690 | hg1690
              · replace H := H.know 92 rfl hg1690
                replace hm := condT hm hg1690
                refine n_yes H rfl rfl (n_q H (q_move rfl) rfl (W_yes rfl rfl (W_q (q_move rfl) rfl (W_yes rfl rfl (W_q (q_move rfl) rfl (W_yes rfl rfl ?_)))))); clear H a; intro a H
                obtain ⟨A1691, c1691, hv1691, hl1691, hm1691⟩ := SlR.formV ((hS.own 1 rfl).slr rfl (fun _ _ => rfl))
                replace hm := bindS hm; obtain ⟨x1692, hx1692, hm⟩ := hm
                obtain ⟨adx1692, hAx1692⟩ := SlR.adV ((hS.own 1 rfl).slr rfl (fun _ _ => rfl)) hv1691 hx1692
                refine n_q H (q_ixV (i := i606) Tryd.underlying25 sz3 rfl hv1691 hAx1692 rfl (natI hx1692)) rfl (W_yes rfl rfl (W_q (q_load rfl (SlR.ldOneV ((hS.own 1 rfl).slr rfl (fun _ _ => rfl)) hv1691 hAx1692 ag3 hx1692 rfl)) rfl (W_yes rfl rfl (W_q (q_addW rfl rfl) rfl (W_yes rfl rfl (W_q (q_leq rfl rfl) rfl (W_q (q_pickT rfl rfl) rfl (W_q (q_assign rfl) rfl ?_)))))))); clear H a; intro a H
                refine n_nil (then_normal ?_)
                obtain rfl := Option.some.inj hm; replace hm := hm1188; try dsimp only at hm
                replace hS := hS.pk6
                replace hS := hS.pk6
                replace hS := hS.pk6
                replace hS := hS.pk6
                replace hS := hS.pk6
                replace hS := hS.pk5
                replace hS := hS.pk6
                replace hS := hS.tk7
                exact join (decide ((IntKind.i64.wrap (r594.1 + x1692)) ≤ 4096)) H ⟨rfl, rfl, rfl, rfl, rfl, rfl, rfl, trivial⟩ ⟨hm, hS⟩
              · replace H := H.know 92 rfl hg1690
                replace hm := condF hm hg1690
                refine n_no H rfl rfl (by decide) rfl (W_no rfl rfl (by decide) rfl (W_no rfl rfl (by decide) rfl (W_no rfl rfl (by decide) rfl (W_no rfl rfl (by decide) rfl (W_no rfl rfl (by decide) rfl (W_no rfl rfl (by decide) rfl (W_q (q_pickF rfl rfl) rfl (W_q (q_assign rfl) rfl ?_)))))))); clear H a; intro a H
                refine n_nil (then_normal ?_)
                obtain rfl := Option.some.inj hm; replace hm := hm1188; try dsimp only at hm
                replace hS := hS.pk6
                replace hS := hS.pk6
                replace hS := hS.pk6
                replace hS := hS.pk6
                replace hS := hS.pk6
                replace hS := hS.pk5
                replace hS := hS.pk6
                replace hS := hS.tk7
                exact join false H ⟨rfl, rfl, rfl, rfl, rfl, rfl, rfl, trivial⟩ ⟨hm, hS⟩
            · clear H hS hm a; intro q1689 a w1693 H hR
              simp only [ent, List.map_cons, List.map_nil] at H; (try dsimp only at hR); obtain ⟨hm, hS⟩ := hR; try dsimp only [g_law10_PlanGrows_J15] at hm
              replace hm := bindS hm; obtain ⟨j1694, hm, hm1694⟩ := hm
              refine c_join (σ := Bool) H (fun q2195 => [(3, .pointer (some ⟨b41, 0, none⟩)), (4, .int .i64 r594.1), (6, .slice (some ⟨b603, 0, none⟩) 4 4), (7, .int .i64 ((i606 : Nat) : Int)), (126, .bool q2195)]) (fun q2195 wl => (g_law10_PlanGrows_J14 i606) q2195 = some o605 ∧ St NB w wl [ownR 3 1 (.slice (some ⟨b603, 0, none⟩) 4 4) [68, 76, 1, 1].length ([68, 76, 1, 1].flatMap eI), blkR b41 [.int .i64 z547, .bool q548, v550, v553, v556, .int .i64 z558, v560] 27, ownR 41 2 v550 l549.length (l549.flatMap eGPagePlan), ownR 43 3 v553 l552.length (l552.flatMap eGProcPlan), ownR 70 4 v556 l555.length (l555.flatMap eGPortPlan), ownR 3 1 v560 l559.length (l559.flatMap eI)]) ?_ ?_
              · skip
                refine wp_region_lit (n_q H (q_move rfl) rfl (W_q (q_cast (q_nilI Tryd.underlying37 rfl rfl (hS.any 1 rfl : IsE A w1693 u1183 r1182.2).form) (show _ = Value.bool (decide (r1182.2 = .nil)) by rw [IsErr.isNil (hS.any 1 rfl : IsE A w1693 u1183 r1182.2)])) rfl (W_q (q_move rfl) rfl (W_q (q_neqB Tryd.underlying4 rfl rfl) rfl (W_q (q_move rfl) rfl ?_))))); clear H a; intro a H
                rcases Bool.eq_false_or_eq_true (!(decide (r1182.2 = .nil) == q1689)) with hg2196 | hg2196
                · replace H := H.know 105 rfl hg2196
                  replace hm := condT hm hg2196
                  refine n_no H rfl rfl (by decide) rfl (W_no rfl rfl (by decide) rfl (W_noU rfl rfl rfl (W_noU rfl rfl rfl (W_noU rfl rfl rfl (W_noU rfl rfl rfl (W_noU rfl rfl rfl (W_noU rfl rfl rfl (W_noU rfl rfl rfl (W_noU rfl rfl rfl (W_no rfl rfl (by decide) rfl (W_q (q_pickT rfl rfl) rfl ?_))))))))))); clear H a; intro a H
                  refine n_q H (q_move rfl) rfl (W_no rfl rfl (by decide) rfl (W_no rfl rfl (by decide) rfl (W_no rfl rfl (by decide) rfl (W_noU rfl rfl rfl (W_noU rfl rfl rfl (W_noU rfl rfl rfl (W_no rfl rfl (by decide) rfl (W_q (q_pickT rfl rfl) rfl ?_)))))))); clear H a; intro a H
                  refine n_nil (then_normal ?_)
                  obtain rfl := Option.some.inj hm; replace hm := hm1694; try dsimp only at hm
                  replace hS := hS.pk6
                  replace hS := hS.pk6
                  replace hS := hS.pk6
                  replace hS := hS.pk6
                  replace hS := hS.pk6
                  replace hS := hS.pk5
                  replace hS := hS.tk6
                  exact join true H ⟨rfl, rfl, rfl, rfl, rfl, trivial⟩ ⟨hm, hS⟩
                · replace H := H.know 105 rfl hg2196
                  replace hm := condF hm hg2196
                  refine n_yes H rfl rfl (n_q H (q_move rfl) rfl (W_yes rfl rfl (W_q (q_move rfl) rfl ?_))); clear H a; intro a H
                  rcases Bool.eq_false_or_eq_true q1689 with hg2197 | hg2197
                  · replace H := H.know 107 rfl hg2197
                    replace hm := condT hm hg2197
                    refine n_yes H rfl rfl (n_q H (q_move rfl) rfl (W_yes rfl rfl (W_q (q_move rfl) rfl (W_yes rfl rfl (W_q (q_move rfl) rfl (W_yes rfl rfl (W_q (q_move rfl) rfl (W_yes rfl rfl ?_)))))))); clear H a; intro a H
                    obtain ⟨A2198, c2198, hv2198, hl2198, hm2198⟩ := SlR.formV ((hS.own 0 rfl).slr rfl (fun _ _ => rfl))
                    replace hm := bindS hm; obtain ⟨x2199, hx2199, hm⟩ := hm
                    obtain ⟨adx2199, hAx2199⟩ := SlR.adV ((hS.own 0 rfl).slr rfl (fun _ _ => rfl)) hv2198 hx2199
                    refine n_q H (q_ixV (i := i606) Tryd.underlying25 sz3 rfl hv2198 hAx2199 rfl (natI hx2199)) rfl (W_yes rfl rfl (W_q (q_load rfl (SlR.ldOneV ((hS.own 0 rfl).slr rfl (fun _ _ => rfl)) hv2198 hAx2199 ag3 hx2199 rfl)) rfl (W_yes rfl rfl (W_q (q_addW rfl rfl) rfl (W_yes rfl rfl (W_q (q_neqD rfl rfl) rfl (W_yes rfl rfl (W_q (q_pickT rfl rfl) rfl (W_q (q_pickF rfl rfl) rfl (W_q (q_move rfl) rfl ?_)))))))))); clear H a; intro a H
                    rcases Bool.eq_false_or_eq_true (!decide (r1182.1 = (IntKind.i64.wrap (r594.1 + x2199)))) with hg2200 | hg2200
                    · replace H := H.know 118 rfl hg2200
                      replace hm := condT hm hg2200
                      refine n_no H rfl rfl (by decide) rfl (W_no rfl rfl (by decide) rfl (W_no rfl rfl (by decide) rfl (W_noU rfl rfl rfl (W_noU rfl rfl rfl (W_noU rfl rfl rfl (W_no rfl rfl (by decide) rfl (W_q (q_pickT rfl rfl) rfl ?_))))))); clear H a; intro a H
                      refine n_nil (then_normal ?_)
                      obtain rfl := Option.some.inj hm; replace hm := hm1694; try dsimp only at hm
                      replace hS := hS.pk6
                      replace hS := hS.pk6
                      replace hS := hS.pk6
                      replace hS := hS.pk6
                      replace hS := hS.pk6
                      replace hS := hS.pk5
                      replace hS := hS.tk6
                      exact join true H ⟨rfl, rfl, rfl, rfl, rfl, trivial⟩ ⟨hm, hS⟩
                    · replace H := H.know 118 rfl hg2200
                      replace hm := condF hm hg2200
                      refine n_yes H rfl rfl (n_q H (q_move rfl) rfl (W_yes rfl rfl (W_q (q_not rfl) rfl (W_yes rfl rfl (W_q (q_move rfl) rfl ?_))))); clear H a; intro a H
                      rcases Bool.eq_false_or_eq_true (!q1689) with hg2201 | hg2201
                      · replace H := H.know 121 rfl hg2201
                        replace hm := condT hm hg2201
                        refine n_yes H rfl rfl (n_q H (q_move rfl) rfl (W_yes rfl rfl ?_)); clear H a; intro a H
                        replace hm := bindS hm; obtain ⟨r2202, hr2202, hm⟩ := hm
                        refine n_call H rfl en10 (g_law10_same_w (A := A) (hG.ext hS.x) (hH.ext hS.x) (hS.any 1 rfl : IsE A w1693 u1183 r1182.2) hr2202) rfl ?_
                        clear H; intro x2205 w2203 hv; clear a; intro a H; obtain ⟨rfl, hE2204⟩ := hv
                        replace hS := hS.ext hE2204
                        refine n_yes H rfl rfl (n_q H (q_not rfl) rfl (W_yes rfl rfl (W_q (q_pickT rfl rfl) rfl (W_q (q_pickF rfl rfl) rfl ?_)))); clear H a; intro a H
                        refine n_nil (then_normal ?_)
                        obtain rfl := Option.some.inj hm; replace hm := hm1694; try dsimp only at hm
                        replace hS := hS.pk6
                        replace hS := hS.pk6
                        replace hS := hS.pk6
                        replace hS := hS.pk6
                        replace hS := hS.pk6
                        replace hS := hS.pk5
                        replace hS := hS.tk6
                        exact join (!r2202) H ⟨rfl, rfl, rfl, rfl, rfl, trivial⟩ ⟨hm, hS⟩
                      · replace H := H.know 121 rfl hg2201
                        replace hm := condF hm hg2201
                        refine n_no H rfl rfl (by decide) rfl (W_no rfl rfl (by decide) rfl (W_no rfl rfl (by decide) rfl (W_yes rfl rfl (W_q (q_pickF rfl rfl) rfl (W_q (q_pickF rfl rfl) rfl ?_))))); clear H a; intro a H
                        refine n_nil (then_normal ?_)
                        obtain rfl := Option.some.inj hm; replace hm := hm1694; try dsimp only at hm
                        replace hS := hS.pk6
                        replace hS := hS.pk6
                        replace hS := hS.pk6
                        replace hS := hS.pk6
                        replace hS := hS.pk6
                        replace hS := hS.pk5
                        replace hS := hS.tk6
                        exact join false H ⟨rfl, rfl, rfl, rfl, rfl, trivial⟩ ⟨hm, hS⟩
                  · replace H := H.know 107 rfl hg2197
                    replace hm := condF hm hg2197
                    refine n_no H rfl rfl (by decide) rfl (W_no rfl rfl (by decide) rfl (W_no rfl rfl (by decide) rfl (W_no rfl rfl (by decide) rfl (W_no rfl rfl (by decide) rfl (W_no rfl rfl (by decide) rfl (W_no rfl rfl (by decide) rfl (W_no rfl rfl (by decide) rfl (W_yes rfl rfl (W_q (q_pickF rfl rfl) rfl (W_q (q_pickF rfl rfl) rfl (W_q (q_move rfl) rfl ?_))))))))))); clear H a; intro a H
                    refine n_yes H rfl rfl (n_q H (q_move rfl) rfl (W_yes rfl rfl (W_q (q_not rfl) rfl (W_yes rfl rfl (W_q (q_move rfl) rfl ?_))))); clear H a; intro a H
                    rcases Bool.eq_false_or_eq_true (!q1689) with hg2206 | hg2206
                    · replace H := H.know 121 rfl hg2206
                      replace hm := condT hm hg2206
                      refine n_yes H rfl rfl (n_q H (q_move rfl) rfl (W_yes rfl rfl ?_)); clear H a; intro a H
                      replace hm := bindS hm; obtain ⟨r2207, hr2207, hm⟩ := hm
                      refine n_call H rfl en10 (g_law10_same_w (A := A) (hG.ext hS.x) (hH.ext hS.x) (hS.any 1 rfl : IsE A w1693 u1183 r1182.2) hr2207) rfl ?_
                      clear H; intro x2210 w2208 hv; clear a; intro a H; obtain ⟨rfl, hE2209⟩ := hv
                      replace hS := hS.ext hE2209
                      refine n_yes H rfl rfl (n_q H (q_not rfl) rfl (W_yes rfl rfl (W_q (q_pickT rfl rfl) rfl (W_q (q_pickF rfl rfl) rfl ?_)))); clear H a; intro a H
                      refine n_nil (then_normal ?_)
                      obtain rfl := Option.some.inj hm; replace hm := hm1694; try dsimp only at hm
                      replace hS := hS.pk6
                      replace hS := hS.pk6
                      replace hS := hS.pk6
                      replace hS := hS.pk6
                      replace hS := hS.pk6
                      replace hS := hS.pk5
                      replace hS := hS.tk6
                      exact join (!r2207) H ⟨rfl, rfl, rfl, rfl, rfl, trivial⟩ ⟨hm, hS⟩
                    · replace H := H.know 121 rfl hg2206
                      replace hm := condF hm hg2206
                      refine n_no H rfl rfl (by decide) rfl (W_no rfl rfl (by decide) rfl (W_no rfl rfl (by decide) rfl (W_yes rfl rfl (W_q (q_pickF rfl rfl) rfl (W_q (q_pickF rfl rfl) rfl ?_))))); clear H a; intro a H
                      refine n_nil (then_normal ?_)
                      obtain rfl := Option.some.inj hm; replace hm := hm1694; try dsimp only at hm
                      replace hS := hS.pk6
                      replace hS := hS.pk6
                      replace hS := hS.pk6
                      replace hS := hS.pk6
                      replace hS := hS.pk6
                      replace hS := hS.pk5
                      replace hS := hS.tk6
                      exact join false H ⟨rfl, rfl, rfl, rfl, rfl, trivial⟩ ⟨hm, hS⟩
              · clear H hS hm a; intro q2195 a w2211 H hR
                simp only [ent, List.map_cons, List.map_nil] at H; (try dsimp only at hR); obtain ⟨hm, hS⟩ := hR; try dsimp only [g_law10_PlanGrows_J14] at hm
                refine c_cond H rfl (fun hc2212 => ?_) (fun hc2212 => ?_)
                · replace hm := condT hm hc2212
                  refine wp_seq (wp_region_lit (n_q H (q_assign rfl) rfl ?_)); clear H a; intro a H
                  refine n_nil (then_normal (wp_ret (block_ret (then_ret (then_ret (block_ret (then_ret ?_)))))))
                  obtain rfl := Option.some.inj hm; have hz : _ = q605 := hn605; subst hz; replace hm := hm605; try dsimp only at hm
                  obtain rfl := Option.some.inj hm
                  replace hS := hS.tk0
                  refine ret1 H (.inr rfl) rfl rfl ?_
                  exact ⟨rfl, hS.x⟩
                · replace hm := condF hm hc2212
                  refine wp_skip (block_normal (then_normal (wp_region_lit (n_q H (q_move rfl) rfl (W_q (q_incr (i := i606) (j := 1) rfl rfl (by omega)) rfl (W_q (q_assign rfl) rfl ?_)))))); clear H a; intro a H
                  refine n_nil (then_normal ?_)
                  obtain rfl := Option.some.inj hm
                  exact round (m605, i606 + 1) H ⟨rfl, rfl, rfl, rfl, trivial⟩ ⟨hn605, hS⟩ (Nat.lt_succ_self _)
        · replace hm := condF hm hc608
          refine wp_exit (then_exit (then_exit (block_exit ?_)))
          obtain rfl := Option.some.inj hm; have hz : _ = q605 := hn605; subst hz; replace hm := hm605; try dsimp only at hm
          refine then_normal (wp_seq (wp_region_lit (n_q H (q_assign rfl) rfl ?_))); clear H a; intro a H
          refine n_nil (then_normal (wp_ret ?_))
          obtain rfl := Option.some.inj hm
          replace hS := hS.tk0
          refine ret1 H (.inr rfl) rfl rfl ?_
          exact ⟨rfl, hS.x⟩
end Go.Proofs.YtpnmaabhjgiggaaDoor
