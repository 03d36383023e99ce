/- Vo (written by wip/tools) -/
import Derived.Test.YtjoihegnjjjdaaaDoorVoB
set_option linter.unusedVariables false
set_option linter.unusedSimpArgs false
set_option maxRecDepth 10000
namespace Go.Proofs.YtjoihegnjjjdaaaDoor
open Go Go.RowKit
theorem en25 : entersB Tryd.prog 25 = true := by kernel_rfl

set_option maxHeartbeats 1000000 in
theorem g_law11_ValidOrder_w {w : World} {A : Nat → Addr} {cs0 : List Value} {a0 : GPlan} {cs1 : List Value} {a1 : GState} (hG : EV A w) (hH : HE w) (h0 : RGPlan w cs0 a0) (h1 : RGState w cs1 a1) {r : Bool} (hm : g_law11_ValidOrder a0 a1 = some r) :
    Calls Tryd.prog 6 [.agg cs0.toArray, .agg cs1.toArray].toArray w (Ret fun u w' => u = .bool r ∧ Ext w w') := by
  obtain ⟨vp0_0, vp0_1, vp0_2, vp0_3, rfl, hrp0_0, hrp0_1, hrp0_2, hrp0_3⟩ := h0
  obtain ⟨vp1_0, vp1_1, vp1_2, vp1_3, vp1_4, vp1_5, vp1_6, rfl, hrp1_0, hrp1_1, hrp1_2, hrp1_3, hrp1_4, hrp1_5, hrp1_6⟩ := h1
  have hS := St.begin NB w
  unfold g_law11_ValidOrder at hm
  refine enter Tryd.func6 rfl rfl rfl ?_; intro a H; dsimp only [enumL, Nat.zero_add, Nat.reduceAdd] at H
  refine wp_seq (wp_region_lit (n_box H rfl (cs := [.int .i64 a0.Id, .bool a0.Mobile, vp0_0, vp0_1, vp0_2, .int .i64 a0.Events, vp0_3]) rfl rfl ?_))
  clear H; intro b21 w22 hN hE23 hs; clear a; intro a H
  replace hS := hS.newBlk hN hE23 hs; clear hN hs
  refine n_box H rfl (cs := [.int .i64 a1.Id, .int .i64 a1.Frame, .int .i64 a1.Epoch, vp1_0, vp1_1, vp1_2, vp1_3, vp1_4, vp1_5, vp1_6]) rfl rfl ?_
  clear H; intro b24 w25 hN hE26 hs; clear a; intro a H
  replace hS := hS.newBlk hN hE26 hs; clear hN hs
  refine n_q H (q_assign rfl) rfl ?_; clear H a; intro a H
  refine n_nil (then_normal (wp_seq (wp_seq (wp_region_lit ?_))))
  replace hm := bindS hm; obtain ⟨r27, hr27, hm⟩ := hm
  refine n_call H rfl en25 (g_law11_awake_w (A := A) (hG.ext hS.x) (hH.ext hS.x) hr27) rfl ?_
  clear H; intro x30 w28 hv; clear a; intro a H; obtain ⟨rfl, hE29⟩ := hv
  replace hS := hS.ext hE29
  refine n_q H (q_not rfl) rfl ?_; clear H a; intro a H
  refine n_nil (then_normal (c_cond H rfl (fun hc31 => ?_) (fun hc31 => ?_)))
  · replace hm := condT hm hc31
    refine wp_seq (wp_region_lit (n_q H (q_assign rfl) rfl ?_)); clear H a; intro a H
    refine n_nil (then_normal (wp_ret (then_ret ?_)))
    obtain rfl := Option.some.inj hm
    replace hS := hS.take 0; simp only [List.take_succ_cons, List.take_zero] at hS
    refine ret1 H (.inr rfl) rfl rfl ?_
    exact ⟨rfl, hS.x⟩
  · replace hm := condF hm hc31
    refine wp_skip (then_normal (wp_seq (wp_region_lit (n_q H (q_load rfl ((hS.blk 1 rfl).ldAll ag68 sz68)) rfl (W_q (q_load rfl ((hS.blk 0 rfl).ldAll ag74 sz74)) rfl ?_))))); clear H a; intro a H
    replace hm := bindS hm; obtain ⟨r32, hr32, hm⟩ := hm
    refine n_call H rfl en26 (g_valid_Faults_w (A := A) (hG.ext hS.x) (⟨_, _, _, _, rfl, (hrp0_0.ext (Flat.mono _) hS.x), (hrp0_1.ext (Flat.mono _) hS.x), (hrp0_2.ext (Flat.mono _) hS.x), (hrp0_3.ext (Flat.mono _) hS.x)⟩ : RGPlan _ [.int .i64 a0.Id, .bool a0.Mobile, vp0_0, vp0_1, vp0_2, .int .i64 a0.Events, vp0_3] a0) (⟨_, _, _, _, _, _, _, rfl, (hrp1_0.ext (Flat.mono _) hS.x), (hrp1_1.ext (Flat.mono _) hS.x), (hrp1_2.ext (Flat.mono _) hS.x), (hrp1_3.ext (Flat.mono _) hS.x), (hrp1_4.ext (Flat.mono _) hS.x), (hrp1_5.ext RGPort.mono hS.x), (hrp1_6.ext (Flat.mono _) hS.x)⟩ : RGState _ [.int .i64 a1.Id, .int .i64 a1.Frame, .int .i64 a1.Epoch, vp1_0, vp1_1, vp1_2, vp1_3, vp1_4, vp1_5, vp1_6] a1) hr32) rfl ?_
    clear H; intro u33 w35 hv; clear a; intro a H; obtain ⟨_, rfl, hE36⟩ := hv
    replace hS := hS.new hE36; simp only [List.cons_append, List.nil_append] at hS
    refine n_q H (q_assign rfl) rfl ?_; clear H a; intro a H
    refine n_nil (then_normal (wp_seq (wp_seq (wp_region_lit (n_q H (q_move rfl) rfl ?_))))); clear H a; intro a H
    obtain ⟨A38, c38, hv38, hl38, hm38⟩ := SlR.formV ((hS.own 0 rfl).slr rfl (fun _ _ => rfl))
    refine n_q H (q_lenV Tryd.underlying23 rfl hv38) rfl (W_q (q_move rfl) rfl ?_); clear H a; intro a H
    refine n_nil (then_normal (wp_block ?_))
    replace hS := hS.pick 1 rfl; dsimp only [List.eraseIdx] at hS
    replace hS := hS.pick 2 rfl; dsimp only [List.eraseIdx] at hS
    replace hS := hS.pick 2 rfl; dsimp only [List.eraseIdx] at hS
    replace hm := bindS hm; obtain ⟨q39, hm, hm39⟩ := hm; replace hm := iter_some hm; obtain ⟨n39, hm⟩ := hm
    refine c_loop (σ := Nat × Nat) (fun (m, i40) => [(2, .pointer (some ⟨b21, 0, none⟩)), (3, .pointer (some ⟨b24, 0, none⟩)), (5, u33), (15, u33), (16, .int .i64 ((r32.length : Nat) : Int)), (17, .int .i64 ((i40 : Nat) : Int))]) (fun (m, i40) wl => iterN (g_law11_ValidOrder_L10 r32) m i40 = some q39 ∧ St NB w wl [ownR 3 1 u33 r32.length (r32.flatMap eI), blkR b21 [.int .i64 a0.Id, .bool a0.Mobile, vp0_0, vp0_1, vp0_2, .int .i64 a0.Events, vp0_3] 68, blkR b24 [.int .i64 a1.Id, .int .i64 a1.Frame, .int .i64 a1.Epoch, vp1_0, vp1_1, vp1_2, vp1_3, vp1_4, vp1_5, vp1_6] 74]) (fun (m, i40) => m) (n39, 0) H ⟨rfl, rfl, rfl, rfl, rfl, rfl, trivial⟩ ⟨hm, hS⟩ ?_
    clear H hS hm a; intro xx a w41 H hR; obtain ⟨m, i40⟩ := xx; simp only [ent, List.map_cons, List.map_nil] at H; (try dsimp only at hR); obtain ⟨hm, hS⟩ := hR
    replace hm := iterN_step hm; obtain ⟨m39, o39, rfl, hm, hn39⟩ := hm; try dsimp only [g_law11_ValidOrder_L10] at hm
    refine wp_seq (wp_region_lit (n_q H (q_lssN (i := i40) (j := r32.length) rfl rfl) rfl ?_)); clear H a; intro a H
    refine n_nil (then_normal (wp_seq (c_cond H rfl (fun hc42 => ?_) (fun hc42 => ?_))))
    · replace hm := condT hm hc42
      have hlt43 : i40 < r32.length := of_decide_eq_true hc42
      refine wp_skip (then_normal (wp_seq (wp_block (wp_seq (wp_region_lit (n_q H (q_move rfl) rfl ?_)))))); clear H a; intro a H
      replace hm := bindS hm; obtain ⟨x44, hx44, hm⟩ := hm
      obtain ⟨adx44, hAx44⟩ := SlR.adV ((hS.own 0 rfl).slr rfl (fun _ _ => rfl)) hv38 hx44
      refine n_q H (q_ixV (i := i40) Tryd.underlying23 sz3 rfl hv38 hAx44 rfl (natI hx44)) rfl (W_q (q_load rfl (SlR.ldOneV ((hS.own 0 rfl).slr rfl (fun _ _ => rfl)) hv38 hAx44 ag3 hx44 rfl)) rfl (W_q (q_assign rfl) rfl (W_q (q_assign rfl) rfl ?_))); clear H a; intro a H
      refine n_nil (then_normal ?_)
      replace hm := bindS hm; obtain ⟨j45, hm, hm45⟩ := hm
      refine c_join (σ := Bool) H (fun q546 => [(2, .pointer (some ⟨b21, 0, none⟩)), (3, .pointer (some ⟨b24, 0, none⟩)), (5, u33), (15, u33), (16, .int .i64 ((r32.length : Nat) : Int)), (17, .int .i64 ((i40 : Nat) : Int)), (49, .bool q546)]) (fun q546 wl => (g_law11_ValidOrder_J6 i40) q546 = some o39 ∧ St NB w wl [ownR 3 1 u33 r32.length (r32.flatMap eI), blkR b21 [.int .i64 a0.Id, .bool a0.Mobile, vp0_0, vp0_1, vp0_2, .int .i64 a0.Events, vp0_3] 68, blkR b24 [.int .i64 a1.Id, .int .i64 a1.Frame, .int .i64 a1.Epoch, vp1_0, vp1_1, vp1_2, vp1_3, vp1_4, vp1_5, vp1_6] 74]) ?_ ?_
      · skip
        refine wp_region_lit (n_q H (q_move rfl) rfl (W_q (q_lss rfl rfl) rfl (W_q (q_move rfl) rfl ?_))); clear H a; intro a H
        rcases Bool.eq_false_or_eq_true (decide (x44 < 0)) with hg547 | hg547
        · replace H := H.know 24 rfl hg547
          replace hm := condT hm hg547
          refine n_no H rfl rfl (by decide) rfl (W_no rfl rfl (by decide) rfl (W_q (q_pickT rfl rfl) rfl (W_q (q_move rfl) rfl (W_no rfl rfl (by decide) rfl (W_no rfl rfl (by decide) rfl (W_no rfl rfl (by decide) rfl (W_noU rfl rfl rfl (W_noU rfl rfl rfl (W_noU rfl rfl rfl (W_noU rfl rfl rfl (W_noU rfl rfl rfl ?_))))))))))); clear H a; intro a H
          refine n_noU H rfl rfl rfl (W_noU rfl rfl rfl (W_no rfl rfl (by decide) rfl (W_q (q_pickT rfl rfl) rfl (W_q (q_move rfl) rfl (W_no rfl rfl (by decide) rfl (W_no rfl rfl (by decide) rfl (W_no rfl rfl (by decide) rfl (W_noU rfl rfl rfl (W_noU rfl rfl rfl (W_noU rfl rfl rfl (W_no rfl rfl (by decide) rfl ?_))))))))))); clear H a; intro a H
          refine n_q H (q_pickT rfl rfl) rfl ?_; clear H a; intro a H
          refine n_nil (then_normal ?_)
          obtain rfl := Option.some.inj hm; replace hm := hm45; try dsimp only at hm
          exact join true H ⟨rfl, rfl, rfl, rfl, rfl, rfl, rfl, trivial⟩ ⟨hm, hS⟩
        · replace H := H.know 24 rfl hg547
          replace hm := condF hm hg547
          refine n_yes H rfl rfl (n_q H (q_move rfl) rfl (W_yes rfl rfl (W_q (q_gtr rfl rfl) rfl (W_q (q_pickF rfl rfl) rfl (W_q (q_move rfl) rfl ?_))))); clear H a; intro a H
          rcases Bool.eq_false_or_eq_true (decide (17 < x44)) with hg548 | hg548
          · replace H := H.know 28 rfl hg548
            replace hm := condT hm hg548
            refine n_no H rfl rfl (by decide) rfl (W_no rfl rfl (by decide) rfl (W_no rfl rfl (by decide) rfl (W_noU rfl rfl rfl (W_noU rfl rfl rfl (W_noU rfl rfl rfl (W_noU rfl rfl rfl (W_noU rfl rfl rfl (W_noU rfl rfl rfl (W_noU rfl rfl rfl (W_no rfl rfl (by decide) rfl (W_q (q_pickT rfl rfl) rfl ?_))))))))))); clear H a; intro a H
            refine n_q H (q_move rfl) rfl (W_no rfl rfl (by decide) rfl (W_no rfl rfl (by decide) rfl (W_no rfl rfl (by decide) rfl (W_noU rfl rfl rfl (W_noU rfl rfl rfl (W_noU rfl rfl rfl (W_no rfl rfl (by decide) rfl (W_q (q_pickT rfl rfl) rfl ?_)))))))); clear H a; intro a H
            refine n_nil (then_normal ?_)
            obtain rfl := Option.some.inj hm; replace hm := hm45; try dsimp only at hm
            exact join true H ⟨rfl, rfl, rfl, rfl, rfl, rfl, rfl, trivial⟩ ⟨hm, hS⟩
          · replace H := H.know 28 rfl hg548
            replace hm := condF hm hg548
            refine n_yes H rfl rfl (n_q H (q_move rfl) rfl (W_yes rfl rfl (W_q (q_gtrN (i := i40) (j := 0) rfl rfl) rfl (W_yes rfl rfl (W_q (q_move rfl) rfl ?_))))); clear H a; intro a H
            rcases Bool.eq_false_or_eq_true (decide (0 < i40)) with hg549 | hg549
            · replace H := H.know 31 rfl hg549
              replace hm := condT hm hg549
              refine n_yes H rfl rfl (n_q H (q_move rfl) rfl (W_yes rfl rfl (W_q (q_move rfl) rfl (W_yes rfl rfl (W_q (q_subW rfl rfl) rfl (W_yes rfl rfl ?_)))))); clear H a; intro a H
              replace hm := bindS hm; obtain ⟨x550, hx550, hm⟩ := hm
              obtain ⟨h0x550, h1x550, hxx550⟩ := rdI_some hx550
              obtain ⟨adx550, hAx550⟩ := SlR.adV ((hS.own 0 rfl).slr rfl (fun _ _ => rfl)) hv38 hxx550
              refine n_q H (q_ixVI Tryd.underlying23 sz3 rfl hv38 hAx550 rfl h0x550 h1x550) rfl (W_yes rfl rfl (W_q (q_load rfl (SlR.ldOneV ((hS.own 0 rfl).slr rfl (fun _ _ => rfl)) hv38 hAx550 ag3 hxx550 rfl)) rfl (W_yes rfl rfl (W_q (q_move rfl) rfl (W_yes rfl rfl (W_q (q_geq rfl rfl) rfl (W_yes rfl rfl (W_q (q_pickT rfl rfl) rfl (W_q (q_pickF rfl rfl) rfl (W_q (q_move rfl) rfl ?_)))))))))); clear H a; intro a H
              rcases Bool.eq_false_or_eq_true (decide (x44 ≤ x550)) with hg551 | hg551
              · replace H := H.know 41 rfl hg551
                replace hm := condT hm hg551
                refine n_no H rfl rfl (by decide) rfl (W_no rfl rfl (by decide) rfl (W_no rfl rfl (by decide) rfl (W_noU rfl rfl rfl (W_noU rfl rfl rfl (W_noU rfl rfl rfl (W_no rfl rfl (by decide) rfl (W_q (q_pickT rfl rfl) rfl ?_))))))); clear H a; intro a H
                refine n_nil (then_normal ?_)
                obtain rfl := Option.some.inj hm; replace hm := hm45; try dsimp only at hm
                exact join true H ⟨rfl, rfl, rfl, rfl, rfl, rfl, rfl, trivial⟩ ⟨hm, hS⟩
              · replace H := H.know 41 rfl hg551
                replace hm := condF hm hg551
                refine n_yes H rfl rfl (n_q H (q_move rfl) rfl (W_yes rfl rfl (W_q (q_eqlD rfl rfl) rfl (W_yes rfl rfl (W_q (q_move rfl) rfl ?_))))); clear H a; intro a H
                rcases Bool.eq_false_or_eq_true (decide (x44 = 0)) with hg552 | hg552
                · replace H := H.know 44 rfl hg552
                  replace hm := condT hm hg552
                  refine n_yes H rfl rfl (n_q H (q_move rfl) rfl (W_yes rfl rfl (W_q (q_lenV Tryd.underlying23 rfl hv38) rfl (W_yes rfl rfl (W_q (q_neqN (i := r32.length) (j := 1) rfl rfl) rfl (W_yes rfl rfl (W_q (q_pickT rfl rfl) rfl (W_q (q_pickF rfl rfl) rfl ?_)))))))); clear H a; intro a H
                  refine n_nil (then_normal ?_)
                  obtain rfl := Option.some.inj hm; replace hm := hm45; try dsimp only at hm
                  exact join (!decide (r32.length = 1)) H ⟨rfl, rfl, rfl, rfl, rfl, rfl, rfl, trivial⟩ ⟨hm, hS⟩
                · replace H := H.know 44 rfl hg552
                  replace hm := condF hm hg552
                  refine n_no H rfl rfl (by decide) rfl (W_no rfl rfl (by decide) rfl (W_no rfl rfl (by decide) rfl (W_yes rfl rfl (W_q (q_pickF rfl rfl) rfl (W_q (q_pickF rfl rfl) rfl ?_))))); clear H a; intro a H
                  refine n_nil (then_normal ?_)
                  obtain rfl := Option.some.inj hm; replace hm := hm45; try dsimp only at hm
                  exact join false H ⟨rfl, rfl, rfl, rfl, rfl, rfl, rfl, trivial⟩ ⟨hm, hS⟩
            · replace H := H.know 31 rfl hg549
              replace hm := condF hm hg549
              refine n_no H rfl rfl (by decide) rfl (W_no rfl rfl (by decide) rfl (W_no rfl rfl (by decide) rfl (W_no rfl rfl (by decide) rfl (W_no rfl rfl (by decide) rfl (W_no rfl rfl (by decide) rfl (W_no rfl rfl (by decide) rfl (W_yes rfl rfl (W_q (q_pickF rfl rfl) rfl (W_q (q_pickF rfl rfl) rfl (W_q (q_move rfl) rfl (W_yes rfl rfl ?_))))))))))); clear H a; intro a H
              refine n_q H (q_move rfl) rfl (W_yes rfl rfl (W_q (q_eqlD rfl rfl) rfl (W_yes rfl rfl (W_q (q_move rfl) rfl ?_)))); clear H a; intro a H
              rcases Bool.eq_false_or_eq_true (decide (x44 = 0)) with hg553 | hg553
              · replace H := H.know 44 rfl hg553
                replace hm := condT hm hg553
                refine n_yes H rfl rfl (n_q H (q_move rfl) rfl (W_yes rfl rfl (W_q (q_lenV Tryd.underlying23 rfl hv38) rfl (W_yes rfl rfl (W_q (q_neqN (i := r32.length) (j := 1) rfl rfl) rfl (W_yes rfl rfl (W_q (q_pickT rfl rfl) rfl (W_q (q_pickF rfl rfl) rfl ?_)))))))); clear H a; intro a H
                refine n_nil (then_normal ?_)
                obtain rfl := Option.some.inj hm; replace hm := hm45; try dsimp only at hm
                exact join (!decide (r32.length = 1)) H ⟨rfl, rfl, rfl, rfl, rfl, rfl, rfl, trivial⟩ ⟨hm, hS⟩
              · replace H := H.know 44 rfl hg553
                replace hm := condF hm hg553
                refine n_no H rfl rfl (by decide) rfl (W_no rfl rfl (by decide) rfl (W_no rfl rfl (by decide) rfl (W_yes rfl rfl (W_q (q_pickF rfl rfl) rfl (W_q (q_pickF rfl rfl) rfl ?_))))); clear H a; intro a H
                refine n_nil (then_normal ?_)
                obtain rfl := Option.some.inj hm; replace hm := hm45; try dsimp only at hm
                exact join false H ⟨rfl, rfl, rfl, rfl, rfl, rfl, rfl, trivial⟩ ⟨hm, hS⟩
      · clear H hS hm a; intro q546 a w554 H hR
        simp only [ent, List.map_cons, List.map_nil] at H; (try dsimp only at hR); obtain ⟨hm, hS⟩ := hR; try dsimp only [g_law11_ValidOrder_J6] at hm
        refine c_cond H rfl (fun hc555 => ?_) (fun hc555 => ?_)
        · replace hm := condT hm hc555
          refine wp_seq (wp_region_lit (n_q H (q_assign rfl) rfl ?_)); clear H a; intro a H
          refine n_nil (then_normal (wp_ret (block_ret (then_ret (then_ret (block_ret (then_ret ?_)))))))
          obtain rfl := Option.some.inj hm; have hz : _ = q39 := hn39; subst hz; replace hm := hm39; try dsimp only at hm
          obtain rfl := Option.some.inj hm
          replace hS := hS.take 0; simp only [List.take_succ_cons, List.take_zero] at hS
          refine ret1 H (.inr rfl) rfl rfl ?_
          exact ⟨rfl, hS.x⟩
        · replace hm := condF hm hc555
          refine wp_skip (block_normal (then_normal (wp_region_lit (n_q H (q_incr (i := i40) (j := 1) rfl rfl (by omega)) rfl (W_q (q_move rfl) rfl ?_))))); clear H a; intro a H
          refine n_nil (then_normal ?_)
          obtain rfl := Option.some.inj hm
          exact round (m39, i40 + 1) H ⟨rfl, rfl, rfl, rfl, rfl, rfl, trivial⟩ ⟨hn39, hS⟩ (Nat.lt_succ_self _)
    · replace hm := condF hm hc42
      refine wp_exit (then_exit (then_exit (block_exit ?_)))
      obtain rfl := Option.some.inj hm; have hz : _ = q39 := hn39; subst hz; replace hm := hm39; try dsimp only at hm
      refine then_normal (wp_seq (wp_region_lit (n_q H (q_load rfl ((hS.blk 1 rfl).ldAll ag68 sz68)) rfl (W_q (q_load rfl ((hS.blk 2 rfl).ldAll ag74 sz74)) rfl ?_)))); clear H a; intro a H
      replace hm := bindS hm; obtain ⟨r556, hr556, hm⟩ := hm
      refine n_call H rfl en27 (g_valid_Check_w (A := A) (hG.ext hS.x) (⟨_, _, _, _, rfl, (hrp0_0.ext (Flat.mono _) hS.x), (hrp0_1.ext (Flat.mono _) hS.x), (hrp0_2.ext (Flat.mono _) hS.x), (hrp0_3.ext (Flat.mono _) hS.x)⟩ : RGPlan _ [.int .i64 a0.Id, .bool a0.Mobile, vp0_0, vp0_1, vp0_2, .int .i64 a0.Events, vp0_3] a0) (⟨_, _, _, _, _, _, _, rfl, (hrp1_0.ext (Flat.mono _) hS.x), (hrp1_1.ext (Flat.mono _) hS.x), (hrp1_2.ext (Flat.mono _) hS.x), (hrp1_3.ext (Flat.mono _) hS.x), (hrp1_4.ext (Flat.mono _) hS.x), (hrp1_5.ext RGPort.mono hS.x), (hrp1_6.ext (Flat.mono _) hS.x)⟩ : RGState _ [.int .i64 a1.Id, .int .i64 a1.Frame, .int .i64 a1.Epoch, vp1_0, vp1_1, vp1_2, vp1_3, vp1_4, vp1_5, vp1_6] a1) hr556) rfl ?_
      clear H; intro u557 w559 hv; clear a; intro a H; obtain ⟨_, rfl, hE560⟩ := hv
      replace hS := hS.new hE560; simp only [List.cons_append, List.nil_append] at hS
      refine n_q H (q_assign rfl) rfl ?_; clear H a; intro a H
      refine n_nil (then_normal (wp_seq (wp_region_lit (n_q H (q_load rfl ((hS.blk 2 rfl).ldAll ag68 sz68)) rfl (W_q (q_load rfl ((hS.blk 3 rfl).ldAll ag74 sz74)) rfl ?_))))); clear H a; intro a H
      replace hm := bindS hm; obtain ⟨r562, hr562, hm⟩ := hm
      refine n_call H rfl en28 (g_valid_Rest_w (A := A) (hG.ext hS.x) (⟨_, _, _, _, rfl, (hrp0_0.ext (Flat.mono _) hS.x), (hrp0_1.ext (Flat.mono _) hS.x), (hrp0_2.ext (Flat.mono _) hS.x), (hrp0_3.ext (Flat.mono _) hS.x)⟩ : RGPlan _ [.int .i64 a0.Id, .bool a0.Mobile, vp0_0, vp0_1, vp0_2, .int .i64 a0.Events, vp0_3] a0) (⟨_, _, _, _, _, _, _, rfl, (hrp1_0.ext (Flat.mono _) hS.x), (hrp1_1.ext (Flat.mono _) hS.x), (hrp1_2.ext (Flat.mono _) hS.x), (hrp1_3.ext (Flat.mono _) hS.x), (hrp1_4.ext (Flat.mono _) hS.x), (hrp1_5.ext RGPort.mono hS.x), (hrp1_6.ext (Flat.mono _) hS.x)⟩ : RGState _ [.int .i64 a1.Id, .int .i64 a1.Frame, .int .i64 a1.Epoch, vp1_0, vp1_1, vp1_2, vp1_3, vp1_4, vp1_5, vp1_6] a1) hr562) rfl ?_
      clear H; intro u563 w565 hv; clear a; intro a H; obtain ⟨_, rfl, hE566⟩ := hv
      replace hS := hS.new hE566; simp only [List.cons_append, List.nil_append] at hS
      refine n_q H (q_assign rfl) rfl ?_; clear H a; intro a H
      refine n_nil (then_normal (wp_seq (wp_seq (wp_region_lit (n_q H (q_move rfl) rfl (W_q (q_lenV Tryd.underlying23 rfl hv38) rfl (W_q (q_eqlN (i := r32.length) (j := 0) rfl rfl) rfl ?_))))))); clear H a; intro a H
      refine n_nil (then_normal (c_cond H rfl (fun hc568 => ?_) (fun hc568 => ?_)))
      · replace hm := condT hm hc568
        refine wp_seq (wp_region_lit (n_c H (fun HC => ?_))); clear H
        refine nc_q HC (q_move rfl) rfl (by kernel_rfl) (V_q (q_cast (q_nilI Tryd.underlying36 rfl rfl (hS.any 1 rfl : IsE A w565 u557 r556).form) (show _ = Value.bool (decide (r556 = .nil)) by rw [IsErr.isNil (hS.any 1 rfl : IsE A w565 u557 r556)])) rfl (by kernel_rfl) (V_q (q_move rfl) rfl (by kernel_rfl) (V_g (q_move rfl) (by kernel_rfl) (by kernel_rfl) (by kernel_rfl) (V_g (q_cast (q_nilI Tryd.underlying36 rfl rfl (hS.any 0 rfl : IsE A w565 u563 r562).form) (show _ = Value.bool (decide (r562 = .nil)) by rw [IsErr.isNil (hS.any 0 rfl : IsE A w565 u563 r562)])) (by kernel_rfl) (by kernel_rfl) (by kernel_rfl) (V_and (j := 2) rfl rfl rfl (by kernel_rfl) (by kernel_rfl) (V_q (q_assign rfl) rfl (by kernel_rfl) ?_)))))); clear HC a; intro a HC
        have H := HC.has; clear HC
        refine n_nil (then_normal (wp_ret (then_ret ?_)))
        obtain rfl := Option.some.inj hm
        replace hS := hS.take 0; simp only [List.take_succ_cons, List.take_zero] at hS
        refine ret1 H (.inr rfl) rfl rfl ?_
        exact ⟨rfl, hS.x⟩
      · replace hm := condF hm hc568
        refine wp_skip (then_normal (wp_seq (wp_seq (wp_region_lit (n_q H (q_move rfl) rfl ?_))))); clear H a; intro a H
        replace hm := bindS hm; obtain ⟨x569, hx569, hm⟩ := hm
        obtain ⟨adx569, hAx569⟩ := SlR.adV ((hS.own 2 rfl).slr rfl (fun _ _ => rfl)) hv38 hx569
        refine n_q H (q_ixV (i := 0) Tryd.underlying23 sz3 rfl hv38 hAx569 rfl (natI hx569)) rfl (W_q (q_load rfl (SlR.ldOneV ((hS.own 2 rfl).slr rfl (fun _ _ => rfl)) hv38 hAx569 ag3 hx569 rfl)) rfl (W_q (q_eqlD rfl rfl) rfl ?_)); clear H a; intro a H
        refine n_nil (then_normal (c_cond H rfl (fun hc570 => ?_) (fun hc570 => ?_)))
        · replace hm := condT hm hc570
          replace hm := bindS hm; obtain ⟨j571, hm, hm571⟩ := hm
          refine c_join (σ := Bool) H (fun q1072 => [(4, .bool q1072)]) (fun q1072 wl => g_law11_ValidOrder_J7 q1072 = some r ∧ St NB w wl []) ?_ ?_
          · skip
            refine wp_region_lit (n_q H (q_move rfl) rfl ?_); clear H a; intro a H
            refine n_call H rfl en23 (code_w (hG.ext hS.x) (hS.any 1 rfl : IsE A w565 u557 r556)) rfl ?_
            clear H; intro x1075 w1073 hv; clear a; intro a H; obtain ⟨rfl, hE1074⟩ := hv; replace hS := hS.ext hE1074
            refine n_q H (q_eqlD rfl rfl) rfl (W_q (q_move rfl) rfl ?_); clear H a; intro a H
            rcases Bool.eq_false_or_eq_true (decide ((ErrM.code r556) = 8)) with hg1076 | hg1076
            · replace H := H.know 73 rfl hg1076
              replace hm := condT hm hg1076
              refine n_yes H rfl rfl (n_q H (q_move rfl) rfl (W_yes rfl rfl ?_)); clear H a; intro a H
              refine n_call H rfl en29 (place_w (hH.ext hS.x) (hS.any 1 rfl : IsE A w1073 u557 r556)) rfl ?_
              clear H; intro x1079 w1077 hv; clear a; intro a H; obtain ⟨rfl, hE1078⟩ := hv; replace hS := hS.ext hE1078
              refine n_yes H rfl rfl (n_q H (q_eqlD rfl rfl) rfl (W_q (q_pickT rfl rfl) rfl (W_q (q_move rfl) rfl ?_))); clear H a; intro a H
              rcases Bool.eq_false_or_eq_true (decide ((ErrM.place r556) = (-1))) with hg1080 | hg1080
              · replace H := H.know 78 rfl hg1080
                replace hm := condT hm hg1080
                refine n_yes H rfl rfl (n_q H (q_move rfl) rfl (W_yes rfl rfl ?_)); clear H a; intro a H
                refine n_call H rfl en23 (code_w (hG.ext hS.x) (hS.any 0 rfl : IsE A w1077 u563 r562)) rfl ?_
                clear H; intro x1083 w1081 hv; clear a; intro a H; obtain ⟨rfl, hE1082⟩ := hv; replace hS := hS.ext hE1082
                refine n_yes H rfl rfl (n_q H (q_eqlD rfl rfl) rfl (W_q (q_pickT rfl rfl) rfl (W_q (q_move rfl) rfl ?_))); clear H a; intro a H
                rcases Bool.eq_false_or_eq_true (decide ((ErrM.code r562) = 8)) with hg1084 | hg1084
                · replace H := H.know 83 rfl hg1084
                  replace hm := condT hm hg1084
                  refine n_yes H rfl rfl (n_q H (q_move rfl) rfl (W_yes rfl rfl ?_)); clear H a; intro a H
                  refine n_call H rfl en29 (place_w (hH.ext hS.x) (hS.any 0 rfl : IsE A w1081 u563 r562)) rfl ?_
                  clear H; intro x1087 w1085 hv; clear a; intro a H; obtain ⟨rfl, hE1086⟩ := hv; replace hS := hS.ext hE1086
                  refine n_yes H rfl rfl (n_q H (q_eqlD rfl rfl) rfl (W_q (q_pickT rfl rfl) rfl (W_q (q_assign rfl) rfl ?_))); clear H a; intro a H
                  refine n_nil (then_normal ?_)
                  obtain rfl := Option.some.inj hm; replace hm := hm571; try dsimp only at hm
                  replace hS := hS.take 0; simp only [List.take_succ_cons, List.take_zero] at hS
                  exact join (decide ((ErrM.place r562) = (-1))) H ⟨rfl, trivial⟩ ⟨hm, hS⟩
                · replace H := H.know 83 rfl hg1084
                  replace hm := condF hm hg1084
                  refine n_no H rfl rfl (by decide) rfl (W_no rfl rfl (by decide) rfl (W_no rfl rfl (by decide) rfl (W_q (q_pickF rfl rfl) rfl (W_q (q_assign rfl) rfl ?_)))); clear H a; intro a H
                  refine n_nil (then_normal ?_)
                  obtain rfl := Option.some.inj hm; replace hm := hm571; try dsimp only at hm
                  replace hS := hS.take 0; simp only [List.take_succ_cons, List.take_zero] at hS
                  exact join false H ⟨rfl, trivial⟩ ⟨hm, hS⟩
              · replace H := H.know 78 rfl hg1080
                replace hm := condF hm hg1080
                refine n_no H rfl rfl (by decide) rfl (W_no rfl rfl (by decide) rfl (W_no rfl rfl (by decide) rfl (W_q (q_pickF rfl rfl) rfl (W_q (q_move rfl) rfl (W_no rfl rfl (by decide) rfl (W_no rfl rfl (by decide) rfl (W_no rfl rfl (by decide) rfl (W_q (q_pickF rfl rfl) rfl (W_q (q_assign rfl) rfl ?_))))))))); clear H a; intro a H
                refine n_nil (then_normal ?_)
                obtain rfl := Option.some.inj hm; replace hm := hm571; try dsimp only at hm
                replace hS := hS.take 0; simp only [List.take_succ_cons, List.take_zero] at hS
                exact join false H ⟨rfl, trivial⟩ ⟨hm, hS⟩
            · replace H := H.know 73 rfl hg1076
              replace hm := condF hm hg1076
              refine n_no H rfl rfl (by decide) rfl (W_no rfl rfl (by decide) rfl (W_no rfl rfl (by decide) rfl (W_q (q_pickF rfl rfl) rfl (W_q (q_move rfl) rfl (W_no rfl rfl (by decide) rfl (W_no rfl rfl (by decide) rfl (W_no rfl rfl (by decide) rfl (W_q (q_pickF rfl rfl) rfl (W_q (q_move rfl) rfl (W_no rfl rfl (by decide) rfl (W_no rfl rfl (by decide) rfl ?_))))))))))); clear H a; intro a H
              refine n_no H rfl rfl (by decide) rfl (W_q (q_pickF rfl rfl) rfl (W_q (q_assign rfl) rfl ?_)); clear H a; intro a H
              refine n_nil (then_normal ?_)
              obtain rfl := Option.some.inj hm; replace hm := hm571; try dsimp only at hm
              replace hS := hS.take 0; simp only [List.take_succ_cons, List.take_zero] at hS
              exact join false H ⟨rfl, trivial⟩ ⟨hm, hS⟩
          · clear H hS hm a; intro q1072 a w1088 H hR
            simp only [ent, List.map_cons, List.map_nil] at H; (try dsimp only at hR); obtain ⟨hm, hS⟩ := hR; try dsimp only [g_law11_ValidOrder_J7] at hm
            refine wp_ret (then_ret ?_)
            obtain rfl := Option.some.inj hm
            refine ret1 H (.inr rfl) rfl rfl ?_
            exact ⟨rfl, hS.x⟩
        · replace hm := condF hm hc570
          refine wp_skip (then_normal (wp_seq ?_))
          replace hm := bindS hm; obtain ⟨j1089, hm, hm1089⟩ := hm
          refine c_join (σ := Bool) H (fun q1590 => [(5, u33), (8, u557), (98, .bool q1590)]) (fun q1590 wl => (g_law11_ValidOrder_J9 r32 r556) q1590 = some r ∧ St NB w wl [ownR 3 1 u33 r32.length (r32.flatMap eI), erQ A u557 r556]) ?_ ?_
          · skip
            refine c_quiet (by kernel_rfl) (by kernel_rfl) ?_
            refine qq_q H (q_move rfl) rfl ?_; clear H a; intro a H
            refine qq_call H rfl en23 (fun w' hw => code_w ((hG.ext hS.x).ext hw) (IsErr.ext (hS.any 0 rfl : IsE A w565 u563 r562) hw)) rfl ?_; clear H a; intro a H
            refine qq_q H (q_neqD rfl rfl) rfl ?_; clear H a; intro a H
            refine qq_q H (q_move rfl) rfl ?_; clear H a; intro a H
            rcases Bool.eq_false_or_eq_true (!decide ((ErrM.code r562) = 9)) with hg1591 | hg1591
            · replace H := H.know 91 rfl hg1591
              replace hm := condT hm hg1591
              refine qq_no H rfl rfl (by decide) rfl ?_; clear H a; intro a H
              refine qq_no H rfl rfl (by decide) rfl ?_; clear H a; intro a H
              refine qq_no H rfl rfl (by decide) rfl ?_; clear H a; intro a H
              refine qq_no H rfl rfl (by decide) rfl ?_; clear H a; intro a H
              refine qq_no H rfl rfl (by decide) rfl ?_; clear H a; intro a H
              refine qq_no H rfl rfl (by decide) rfl ?_; clear H a; intro a H
              refine qq_q H (q_pickT rfl rfl) rfl ?_; clear H a; intro a H
              refine qq_nil ?_; intro w1592 hE1593
              replace hS := hS.ext hE1593
              refine then_normal ?_
              obtain rfl := Option.some.inj hm; replace hm := hm1089; try dsimp only at hm
              replace hS := hS.pick 1 rfl; dsimp only [List.eraseIdx] at hS
              replace hS := hS.pick 2 rfl; dsimp only [List.eraseIdx] at hS
              replace hS := hS.take 2; simp only [List.take_succ_cons, List.take_zero] at hS
              exact join true H ⟨rfl, rfl, rfl, trivial⟩ ⟨hm, hS⟩
            · replace H := H.know 91 rfl hg1591
              replace hm := condF hm hg1591
              refine qq_yes H rfl rfl ?_
              refine qq_q H (q_move rfl) rfl ?_; clear H a; intro a H
              refine qq_yes H rfl rfl ?_
              refine qq_call H rfl en29 (fun w' hw => place_w ((hH.ext hS.x).ext hw) (IsErr.ext (hS.any 0 rfl : IsE A w565 u563 r562) hw)) rfl ?_; clear H a; intro a H
              refine qq_yes H rfl rfl ?_
              refine qq_q H (q_move rfl) rfl ?_; clear H a; intro a H
              refine qq_yes H rfl rfl ?_
              replace hm := bindS hm; obtain ⟨x1594, hx1594, hm⟩ := hm
              obtain ⟨adx1594, hAx1594⟩ := SlR.adV ((hS.own 2 rfl).slr rfl (fun _ _ => rfl)) hv38 hx1594
              refine qq_q H (q_ixV (i := 0) Tryd.underlying23 sz3 rfl hv38 hAx1594 rfl (natI hx1594)) rfl ?_; clear H a; intro a H
              refine qq_yes H rfl rfl ?_
              refine qq_q H (q_load rfl (SlR.ldOneV ((hS.own 2 rfl).slr rfl (fun _ _ => rfl)) hv38 hAx1594 ag3 hx1594 rfl)) rfl ?_; clear H a; intro a H
              refine qq_yes H rfl rfl ?_
              refine qq_q H (q_neqD rfl rfl) rfl ?_; clear H a; intro a H
              refine qq_q H (q_pickF rfl rfl) rfl ?_; clear H a; intro a H
              refine qq_nil ?_; intro w1595 hE1596
              replace hS := hS.ext hE1596
              refine then_normal ?_
              obtain rfl := Option.some.inj hm; replace hm := hm1089; try dsimp only at hm
              replace hS := hS.pick 1 rfl; dsimp only [List.eraseIdx] at hS
              replace hS := hS.pick 2 rfl; dsimp only [List.eraseIdx] at hS
              replace hS := hS.take 2; simp only [List.take_succ_cons, List.take_zero] at hS
              exact join (!decide ((ErrM.place r562) = x1594)) H ⟨rfl, rfl, rfl, trivial⟩ ⟨hm, hS⟩
          · clear H hS hm a; intro q1590 a w1597 H hR
            simp only [ent, List.map_cons, List.map_nil] at H; (try dsimp only at hR); obtain ⟨hm, hS⟩ := hR; try dsimp only [g_law11_ValidOrder_J9] at hm
            refine c_cond H rfl (fun hc1598 => ?_) (fun hc1598 => ?_)
            · replace hm := condT hm hc1598
              refine wp_seq (wp_region_lit (n_q H (q_assign rfl) rfl ?_)); clear H a; intro a H
              refine n_nil (then_normal (wp_ret (then_ret ?_)))
              obtain rfl := Option.some.inj hm
              replace hS := hS.take 0; simp only [List.take_succ_cons, List.take_zero] at hS
              refine ret1 H (.inr rfl) rfl rfl ?_
              exact ⟨rfl, hS.x⟩
            · replace hm := condF hm hc1598
              refine wp_skip (then_normal (wp_seq (wp_seq (wp_region_lit (n_q H (q_move rfl) rfl ?_))))); clear H a; intro a H
              replace hm := bindS hm; obtain ⟨x1599, hx1599, hm⟩ := hm
              obtain ⟨adx1599, hAx1599⟩ := SlR.adV ((hS.own 0 rfl).slr rfl (fun _ _ => rfl)) hv38 hx1599
              refine n_q H (q_ixV (i := 0) Tryd.underlying23 sz3 rfl hv38 hAx1599 rfl (natI hx1599)) rfl (W_q (q_load rfl (SlR.ldOneV ((hS.own 0 rfl).slr rfl (fun _ _ => rfl)) hv38 hAx1599 ag3 hx1599 rfl)) rfl (W_q (q_eqlD rfl rfl) rfl ?_)); clear H a; intro a H
              refine n_nil (then_normal (c_cond H rfl (fun hc1600 => ?_) (fun hc1600 => ?_)))
              · replace hm := condT hm hc1600
                refine wp_seq (wp_region_lit (n_q H (q_move rfl) rfl (W_q (q_cast (q_nilI Tryd.underlying36 rfl rfl (hS.any 1 rfl : IsE A w1597 u557 r556).form) (show _ = Value.bool (decide (r556 = .nil)) by rw [IsErr.isNil (hS.any 1 rfl : IsE A w1597 u557 r556)])) rfl (W_q (q_assign rfl) rfl ?_)))); clear H a; intro a H
                refine n_nil (then_normal (wp_ret (then_ret ?_)))
                obtain rfl := Option.some.inj hm
                replace hS := hS.take 0; simp only [List.take_succ_cons, List.take_zero] at hS
                refine ret1 H (.inr rfl) rfl rfl ?_
                exact ⟨rfl, hS.x⟩
              · replace hm := condF hm hc1600
                refine wp_skip (then_normal (wp_seq (c_quiet (by kernel_rfl) (by kernel_rfl) ?_)))
                refine qq_q H (q_move rfl) rfl ?_; clear H a; intro a H
                refine qq_call H rfl en23 (fun w' hw => code_w ((hG.ext hS.x).ext hw) (IsErr.ext (hS.any 1 rfl : IsE A w1597 u557 r556) hw)) rfl ?_; clear H a; intro a H
                refine qq_q H (q_eqlD rfl rfl) rfl ?_; clear H a; intro a H
                refine qq_q H (q_move rfl) rfl ?_; clear H a; intro a H
                rcases Bool.eq_false_or_eq_true (decide ((ErrM.code r556) = 9)) with hg1601 | hg1601
                · replace H := H.know 108 rfl hg1601
                  replace hm := condT hm hg1601
                  refine qq_yes H rfl rfl ?_
                  refine qq_q H (q_move rfl) rfl ?_; clear H a; intro a H
                  refine qq_yes H rfl rfl ?_
                  refine qq_call H rfl en29 (fun w' hw => place_w ((hH.ext hS.x).ext hw) (IsErr.ext (hS.any 1 rfl : IsE A w1597 u557 r556) hw)) rfl ?_; clear H a; intro a H
                  refine qq_yes H rfl rfl ?_
                  refine qq_q H (q_move rfl) rfl ?_; clear H a; intro a H
                  refine qq_yes H rfl rfl ?_
                  replace hm := bindS hm; obtain ⟨x1602, hx1602, hm⟩ := hm
                  obtain ⟨adx1602, hAx1602⟩ := SlR.adV ((hS.own 0 rfl).slr rfl (fun _ _ => rfl)) hv38 hx1602
                  refine qq_q H (q_ixV (i := 0) Tryd.underlying23 sz3 rfl hv38 hAx1602 rfl (natI hx1602)) rfl ?_; clear H a; intro a H
                  refine qq_yes H rfl rfl ?_
                  refine qq_q H (q_load rfl (SlR.ldOneV ((hS.own 0 rfl).slr rfl (fun _ _ => rfl)) hv38 hAx1602 ag3 hx1602 rfl)) rfl ?_; clear H a; intro a H
                  refine qq_yes H rfl rfl ?_
                  refine qq_q H (q_eqlD rfl rfl) rfl ?_; clear H a; intro a H
                  refine qq_q H (q_pickT rfl rfl) rfl ?_; clear H a; intro a H
                  refine qq_q H (q_assign rfl) rfl ?_; clear H a; intro a H
                  refine qq_nil ?_; intro w1603 hE1604
                  replace hS := hS.ext hE1604
                  refine then_normal (wp_ret ?_)
                  obtain rfl := Option.some.inj hm
                  replace hS := hS.take 0; simp only [List.take_succ_cons, List.take_zero] at hS
                  refine ret1 H (.inr rfl) rfl rfl ?_
                  exact ⟨rfl, hS.x⟩
                · replace H := H.know 108 rfl hg1601
                  replace hm := condF hm hg1601
                  refine qq_no H rfl rfl (by decide) rfl ?_; clear H a; intro a H
                  refine qq_no H rfl rfl (by decide) rfl ?_; clear H a; intro a H
                  refine qq_no H rfl rfl (by decide) rfl ?_; clear H a; intro a H
                  refine qq_no H rfl rfl (by decide) rfl ?_; clear H a; intro a H
                  refine qq_no H rfl rfl (by decide) rfl ?_; clear H a; intro a H
                  refine qq_no H rfl rfl (by decide) rfl ?_; clear H a; intro a H
                  refine qq_q H (q_pickF rfl rfl) rfl ?_; clear H a; intro a H
                  refine qq_q H (q_assign rfl) rfl ?_; clear H a; intro a H
                  refine qq_nil ?_; intro w1605 hE1606
                  replace hS := hS.ext hE1606
                  refine then_normal (wp_ret ?_)
                  obtain rfl := Option.some.inj hm
                  replace hS := hS.take 0; simp only [List.take_succ_cons, List.take_zero] at hS
                  refine ret1 H (.inr rfl) rfl rfl ?_
                  exact ⟨rfl, hS.x⟩
end Go.Proofs.YtjoihegnjjjdaaaDoor
