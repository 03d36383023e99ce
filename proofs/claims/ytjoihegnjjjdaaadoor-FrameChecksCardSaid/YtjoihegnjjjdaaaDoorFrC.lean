/- Fr (written by wip/tools) -/
import Derived.Test.YtjoihegnjjjdaaaDoorFrB
set_option linter.unusedVariables false
set_option linter.unusedSimpArgs false
set_option maxRecDepth 10000
namespace Go.Proofs.YtjoihegnjjjdaaaDoor
open Go Go.RowKit
theorem en11 : entersB Tryd.prog 11 = true := by kernel_rfl
theorem en139 : entersB Tryd.prog 139 = true := by kernel_rfl
theorem en14 : entersB Tryd.prog 14 = true := by kernel_rfl
theorem en140 : entersB Tryd.prog 140 = true := by kernel_rfl
theorem en141 : entersB Tryd.prog 141 = true := by kernel_rfl
theorem en42 : entersB Tryd.prog 42 = true := by kernel_rfl
theorem en43 : entersB Tryd.prog 43 = true := by kernel_rfl
theorem en44 : entersB Tryd.prog 44 = true := by kernel_rfl
theorem en74 : entersB Tryd.prog 74 = true := by kernel_rfl
theorem en75 : entersB Tryd.prog 75 = true := by kernel_rfl
theorem en76 : entersB Tryd.prog 76 = true := by kernel_rfl
theorem en79 : entersB Tryd.prog 79 = true := by kernel_rfl
theorem en80 : entersB Tryd.prog 80 = true := by kernel_rfl
theorem en81 : entersB Tryd.prog 81 = true := by kernel_rfl
theorem en82 : entersB Tryd.prog 82 = true := by kernel_rfl
theorem en83 : entersB Tryd.prog 83 = true := by kernel_rfl
theorem en84 : entersB Tryd.prog 84 = true := by kernel_rfl
theorem fo110_0 : fOff Tryd.prog 110 0 = some 0 := by kernel_rfl
theorem fo110_1 : fOff Tryd.prog 110 1 = some 1 := by kernel_rfl
theorem fo31_0 : fOff Tryd.prog 31 0 = some 0 := by kernel_rfl
theorem fo31_1 : fOff Tryd.prog 31 1 = some 6 := by kernel_rfl

theorem g_r14_Check_w {w : World} {A : Nat → Addr} {cs0 : List Value} {a0 : GConfig} (h0 : RGConfig w cs0 a0) {r : GR14Err} (hm : g_r14_Check a0 = some r) :
    Calls Tryd.prog 42 [.agg cs0.toArray].toArray w (Ret fun u w' => u = .agg (eGR14Err r).toArray ∧ Ext w w') := by
  obtain ⟨vp0_0, vp0_1, vp0_2, vp0_3, rfl, hrp0_0, hrp0_1, hrp0_2, hrp0_3⟩ := h0
  have hS := St.begin NB w
  unfold g_r14_Check at hm
  refine enter Tryd.func42 rfl rfl rfl ?_; intro a H; dsimp only [enumL, Nat.zero_add, Nat.reduceAdd] at H
  refine wp_seq (wp_region_lit (n_box H rfl (cs := [.int .i64 a0.Ticks, vp0_0, vp0_1, vp0_2, vp0_3, .int .i64 a0.Tries]) rfl rfl ?_))
  clear H; intro b21 w22 hN hE23 hs; clear a; intro a H
  replace hS := hS.newBlk hN hE23 hs; clear hN hs
  refine n_alloc H ze110 rfl ?_
  clear H; intro b24 w25 hN hE26 hs; clear a; intro a H
  replace hS := hS.newBlk hN hE26 hs; clear hN hs
  refine n_nil (then_normal (wp_seq (wp_seq (wp_region_lit (n_c H (fun HC => ?_)))))); clear H
  refine nc_q HC (q_fieldAddr0 rfl fo27_0) rfl (by kernel_rfl) (V_q (q_load rfl ((hS.blk 1 rfl).ld ag3 rfl)) rfl (by kernel_rfl) (V_q (q_lss rfl rfl) rfl (by kernel_rfl) (V_q (q_move rfl) rfl (by kernel_rfl) (V_g (q_fieldAddr0 rfl fo27_0) (by kernel_rfl) (by kernel_rfl) (by kernel_rfl) (V_g (q_load rfl ((hS.blk 1 rfl).ld ag3 rfl)) (by kernel_rfl) (by kernel_rfl) (by kernel_rfl) (V_g (q_gtr rfl rfl) (by kernel_rfl) (by kernel_rfl) (by kernel_rfl) (V_or (j := 3) rfl rfl rfl (by kernel_rfl) (by kernel_rfl) (V_q (q_move rfl) rfl (by kernel_rfl) (V_g (q_fieldAddr0 rfl fo27_5) (by kernel_rfl) (by kernel_rfl) (by kernel_rfl) (V_g (q_load rfl ((hS.blk 1 rfl).ld ag3 rfl)) (by kernel_rfl) (by kernel_rfl) (by kernel_rfl) (V_g (q_lss rfl rfl) (by kernel_rfl) (by kernel_rfl) (by kernel_rfl) ?_))))))))))); clear HC a; intro a HC
  refine nc_or (j := 8) HC rfl rfl rfl (by kernel_rfl) (by kernel_rfl) (V_q (q_move rfl) rfl (by kernel_rfl) (V_g (q_fieldAddr0 rfl fo27_5) (by kernel_rfl) (by kernel_rfl) (by kernel_rfl) (V_g (q_load rfl ((hS.blk 1 rfl).ld ag3 rfl)) (by kernel_rfl) (by kernel_rfl) (by kernel_rfl) (V_g (q_gtr rfl rfl) (by kernel_rfl) (by kernel_rfl) (by kernel_rfl) (V_or (j := 13) rfl rfl rfl (by kernel_rfl) (by kernel_rfl) ?_))))); clear HC a; intro a HC
  have H := HC.has; clear HC
  refine n_nil (then_normal (c_cond H rfl (fun hc27 => ?_) (fun hc27 => ?_)))
  · replace hm := condT hm hc27
    refine wp_seq (wp_region_lit ?_)
    replace hm := bindS hm; obtain ⟨r28, hr28, hm⟩ := hm
    refine n_call H rfl en73 (g_r14_bad_w (A := A) hr28) rfl ?_
    clear H; intro x31 w29 hv; clear a; intro a H; obtain ⟨rfl, hE30⟩ := hv
    replace hS := hS.ext hE30
    refine n_storeAll H rfl rfl (vs := [.int .i64 r28.Code, .int .i64 r28.Place]) rfl sz110 (hS.blk 0 rfl) rfl (by simp) ?_
    clear H; intro w32 hN hC33 hz; clear a; intro a H; replace hS := hS.setBlk hN hC33; clear hN hz
    refine n_nil (then_normal (wp_ret (then_ret ?_)))
    obtain rfl := Option.some.inj hm
    replace hS := hS.take 1; simp only [List.take_succ_cons, List.take_zero] at hS
    refine retL H (.inr rfl) rfl (vs := [.agg #[.int .i64 r28.Code, .int .i64 r28.Place]]) (resCell rfl ((hS.blk 0 rfl).ldAll ag110 sz110) resNil) ?_
    replace hS := hS.take 0; simp only [List.take_succ_cons, List.take_zero] at hS
    exact ⟨rfl, hS.x⟩
  · replace hm := condF hm hc27
    refine wp_skip (then_normal (wp_seq (wp_region_lit (n_q H (q_load rfl ((hS.blk 1 rfl).ldAll ag27 sz27)) rfl ?_)))); clear H a; intro a H
    replace hm := bindS hm; obtain ⟨r34, hr34, hm⟩ := hm
    refine n_call H rfl en74 (g_r14_parts_w (A := A) (⟨_, _, _, _, rfl, (hrp0_0.ext RGPlan.mono hS.x), (hrp0_1.ext (Flat.mono _) hS.x), (hrp0_2.ext (Flat.mono _) hS.x), (hrp0_3.ext (Flat.mono _) hS.x)⟩ : RGConfig _ [.int .i64 a0.Ticks, vp0_0, vp0_1, vp0_2, vp0_3, .int .i64 a0.Tries] a0) hr34) rfl ?_
    clear H; intro x37 w35 hv; clear a; intro a H; obtain ⟨rfl, hE36⟩ := hv
    replace hS := hS.ext hE36
    refine n_alloc H ze110 rfl ?_
    clear H; intro b38 w39 hN hE40 hs; clear a; intro a H
    replace hS := hS.newBlk hN hE40 hs; clear hN hs
    refine n_storeAll H rfl rfl (vs := [.int .i64 r34.Code, .int .i64 r34.Place]) rfl sz110 (hS.blk 0 rfl) rfl (by simp) ?_
    clear H; intro w41 hN hC42 hz; clear a; intro a H; replace hS := hS.setBlk hN hC42; clear hN hz
    refine n_nil (then_normal ?_)
    replace hm := bindS hm; obtain ⟨j43, hm, hm43⟩ := hm
    refine c_join (σ := GR14Err) H (fun t544 => [(1, .pointer (some ⟨b21, 0, none⟩)), (2, .pointer (some ⟨b24, 0, none⟩)), (3, .pointer (some ⟨b38, 0, none⟩))]) (fun t544 wl => (g_r14_Check_J9 a0) t544 = some r ∧ St NB w wl [blkR b21 [.int .i64 a0.Ticks, vp0_0, vp0_1, vp0_2, vp0_3, .int .i64 a0.Tries] 27, blkR b24 [.int .i64 0, .int .i64 0] 110, blkR b38 [.int .i64 t544.Code, .int .i64 t544.Place] 110]) ?_ ?_
    · skip
      refine wp_seq (wp_region_lit (n_q H (q_fieldAddr0 rfl fo110_0) rfl (W_q (q_load rfl ((hS.blk 0 rfl).ld ag3 rfl)) rfl (W_q (q_eqlD rfl rfl) rfl ?_)))); clear H a; intro a H
      refine n_nil (then_normal (c_cond H rfl (fun hc545 => ?_) (fun hc545 => ?_)))
      · replace hm := condT hm hc545
        refine wp_region_lit (n_q H (q_load rfl ((hS.blk 2 rfl).ldAll ag27 sz27)) rfl ?_); clear H a; intro a H
        replace hm := bindS hm; obtain ⟨r546, hr546, hm⟩ := hm
        refine n_call H rfl en75 (g_r14_windows_w (A := A) (⟨_, _, _, _, rfl, (hrp0_0.ext RGPlan.mono hS.x), (hrp0_1.ext (Flat.mono _) hS.x), (hrp0_2.ext (Flat.mono _) hS.x), (hrp0_3.ext (Flat.mono _) hS.x)⟩ : RGConfig _ [.int .i64 a0.Ticks, vp0_0, vp0_1, vp0_2, vp0_3, .int .i64 a0.Tries] a0) hr546) rfl ?_
        clear H; intro x549 w547 hv; clear a; intro a H; obtain ⟨rfl, hE548⟩ := hv
        replace hS := hS.ext hE548
        refine n_storeAll H rfl rfl (vs := [.int .i64 r546.Code, .int .i64 r546.Place]) rfl sz110 (hS.blk 0 rfl) rfl (by simp) ?_
        clear H; intro w550 hN hC551 hz; clear a; intro a H; replace hS := hS.setBlk hN hC551; clear hN hz
        refine n_nil (then_normal ?_)
        obtain rfl := Option.some.inj hm; replace hm := hm43; try dsimp only at hm
        replace hS := hS.pick 1 rfl; dsimp only [List.eraseIdx] at hS
        replace hS := hS.pick 2 rfl; dsimp only [List.eraseIdx] at hS
        exact join r546 H ⟨rfl, rfl, rfl, trivial⟩ ⟨hm, hS⟩
      · replace hm := condF hm hc545
        refine wp_skip (then_normal ?_)
        obtain rfl := Option.some.inj hm; replace hm := hm43; try dsimp only at hm
        replace hS := hS.pick 1 rfl; dsimp only [List.eraseIdx] at hS
        replace hS := hS.pick 2 rfl; dsimp only [List.eraseIdx] at hS
        exact join r34 H ⟨rfl, rfl, rfl, trivial⟩ ⟨hm, hS⟩
    · clear H hS hm a; intro t544 a w552 H hR
      simp only [ent, List.map_cons, List.map_nil] at H; (try dsimp only at hR); obtain ⟨hm, hS⟩ := hR; try dsimp only [g_r14_Check_J9] at hm
      replace hm := bindS hm; obtain ⟨j553, hm, hm553⟩ := hm
      refine c_join (σ := GR14Err) H (fun t1054 => [(1, .pointer (some ⟨b21, 0, none⟩)), (2, .pointer (some ⟨b24, 0, none⟩)), (3, .pointer (some ⟨b38, 0, none⟩))]) (fun t1054 wl => (g_r14_Check_J8 a0) t1054 = some r ∧ St NB w wl [blkR b21 [.int .i64 a0.Ticks, vp0_0, vp0_1, vp0_2, vp0_3, .int .i64 a0.Tries] 27, blkR b24 [.int .i64 0, .int .i64 0] 110, blkR b38 [.int .i64 t1054.Code, .int .i64 t1054.Place] 110]) ?_ ?_
      · skip
        refine wp_seq (wp_region_lit (n_q H (q_fieldAddr0 rfl fo110_0) rfl (W_q (q_load rfl ((hS.blk 2 rfl).ld ag3 rfl)) rfl (W_q (q_eqlD rfl rfl) rfl ?_)))); clear H a; intro a H
        refine n_nil (then_normal (c_cond H rfl (fun hc1055 => ?_) (fun hc1055 => ?_)))
        · replace hm := condT hm hc1055
          refine wp_region_lit (n_q H (q_load rfl ((hS.blk 0 rfl).ldAll ag27 sz27)) rfl ?_); clear H a; intro a H
          replace hm := bindS hm; obtain ⟨r1056, hr1056, hm⟩ := hm
          refine n_call H rfl en76 (g_r14_links_w (A := A) (⟨_, _, _, _, rfl, (hrp0_0.ext RGPlan.mono hS.x), (hrp0_1.ext (Flat.mono _) hS.x), (hrp0_2.ext (Flat.mono _) hS.x), (hrp0_3.ext (Flat.mono _) hS.x)⟩ : RGConfig _ [.int .i64 a0.Ticks, vp0_0, vp0_1, vp0_2, vp0_3, .int .i64 a0.Tries] a0) hr1056) rfl ?_
          clear H; intro x1059 w1057 hv; clear a; intro a H; obtain ⟨rfl, hE1058⟩ := hv
          replace hS := hS.ext hE1058
          replace hS := hS.pick 2 rfl; dsimp only [List.eraseIdx] at hS
          refine n_storeAll H rfl rfl (vs := [.int .i64 r1056.Code, .int .i64 r1056.Place]) rfl sz110 (hS.blk 0 rfl) rfl (by simp) ?_
          clear H; intro w1060 hN hC1061 hz; clear a; intro a H; replace hS := hS.setBlk hN hC1061; clear hN hz
          refine n_nil (then_normal ?_)
          obtain rfl := Option.some.inj hm; replace hm := hm553; try dsimp only at hm
          replace hS := hS.pick 2 rfl; dsimp only [List.eraseIdx] at hS
          replace hS := hS.pick 2 rfl; dsimp only [List.eraseIdx] at hS
          exact join r1056 H ⟨rfl, rfl, rfl, trivial⟩ ⟨hm, hS⟩
        · replace hm := condF hm hc1055
          refine wp_skip (then_normal ?_)
          obtain rfl := Option.some.inj hm; replace hm := hm553; try dsimp only at hm
          exact join t544 H ⟨rfl, rfl, rfl, trivial⟩ ⟨hm, hS⟩
      · clear H hS hm a; intro t1054 a w1062 H hR
        simp only [ent, List.map_cons, List.map_nil] at H; (try dsimp only at hR); obtain ⟨hm, hS⟩ := hR; try dsimp only [g_r14_Check_J8] at hm
        refine wp_seq (wp_seq (wp_region_lit (n_q H (q_fieldAddr0 rfl fo110_0) rfl (W_q (q_load rfl ((hS.blk 2 rfl).ld ag3 rfl)) rfl (W_q (q_neqD rfl rfl) rfl ?_))))); clear H a; intro a H
        refine n_nil (then_normal (c_cond H rfl (fun hc1063 => ?_) (fun hc1063 => ?_)))
        · replace hm := condT hm hc1063
          refine wp_seq (wp_region_lit (n_q H (q_load rfl ((hS.blk 2 rfl).ldAll ag110 sz110)) rfl ?_)); clear H a; intro a H
          replace hS := hS.pick 1 rfl; dsimp only [List.eraseIdx] at hS
          refine n_storeAll H rfl rfl (vs := [.int .i64 t1054.Code, .int .i64 t1054.Place]) rfl sz110 (hS.blk 0 rfl) rfl (by simp) ?_
          clear H; intro w1064 hN hC1065 hz; clear a; intro a H; replace hS := hS.setBlk hN hC1065; clear hN hz
          refine n_nil (then_normal (wp_ret (then_ret ?_)))
          obtain rfl := Option.some.inj hm
          replace hS := hS.take 1; simp only [List.take_succ_cons, List.take_zero] at hS
          refine retL H (.inr rfl) rfl (vs := [.agg #[.int .i64 t1054.Code, .int .i64 t1054.Place]]) (resCell rfl ((hS.blk 0 rfl).ldAll ag110 sz110) resNil) ?_
          replace hS := hS.take 0; simp only [List.take_succ_cons, List.take_zero] at hS
          exact ⟨rfl, hS.x⟩
        · replace hm := condF hm hc1063
          refine wp_skip (then_normal (wp_seq (wp_seq (wp_region_lit (n_q H (q_assign rfl) rfl ?_))))); clear H a; intro a H
          refine n_nil (then_normal (wp_block ?_))
          replace hS := hS.take 2; simp only [List.take_succ_cons, List.take_zero] at hS
          replace hm := bindS hm; obtain ⟨q1066, hm, hm1066⟩ := hm; replace hm := iter_some hm; obtain ⟨n1066, hm⟩ := hm
          refine c_loop (σ := Nat × Nat) (fun (m, i1067) => [(1, .pointer (some ⟨b21, 0, none⟩)), (2, .pointer (some ⟨b24, 0, none⟩)), (4, .int .i64 ((i1067 : Nat) : Int))]) (fun (m, i1067) wl => iterN (g_r14_Check_L7 a0) m i1067 = some q1066 ∧ St NB w wl [blkR b21 [.int .i64 a0.Ticks, vp0_0, vp0_1, vp0_2, vp0_3, .int .i64 a0.Tries] 27, blkR b24 [.int .i64 0, .int .i64 0] 110]) (fun (m, i1067) => m) (n1066, 0) H ⟨rfl, rfl, rfl, trivial⟩ ⟨hm, hS⟩ ?_
          clear H hS hm a; intro xx a w1068 H hR; obtain ⟨m, i1067⟩ := xx; simp only [ent, List.map_cons, List.map_nil] at H; (try dsimp only at hR); obtain ⟨hm, hS⟩ := hR
          replace hm := iterN_step hm; obtain ⟨m1066, o1066, rfl, hm, hn1066⟩ := hm; try dsimp only [g_r14_Check_L7] at hm
          refine wp_seq (wp_seq (wp_region_lit (n_q H (q_move rfl) rfl (W_q (q_fieldAddr0 rfl fo27_1) rfl (W_q (q_load rfl ((hS.blk 0 rfl).ld ag22 rfl)) rfl ?_))))); clear H a; intro a H
          obtain ⟨A1069, c1069, hv1069, hl1069, hm1069⟩ := SlR.formV (hrp0_0.ext RGPlan.mono hS.x)
          refine n_q H (q_lenV Tryd.underlying22 rfl hv1069) rfl (W_q (q_lssN (i := i1067) (j := a0.Parts.length) rfl rfl) rfl ?_); clear H a; intro a H
          refine n_nil (then_normal (c_cond H rfl (fun hc1070 => ?_) (fun hc1070 => ?_)))
          · replace hm := condT hm hc1070
            have hlt1071 : i1067 < a0.Parts.length := of_decide_eq_true hc1070
            refine wp_skip (then_normal (wp_seq (wp_block ?_)))
            replace hm := bindS hm; obtain ⟨j1072, hm, hm1072⟩ := hm
            refine c_join (σ := Bool) H (fun q1573 => [(1, .pointer (some ⟨b21, 0, none⟩)), (2, .pointer (some ⟨b24, 0, none⟩)), (4, .int .i64 ((i1067 : Nat) : Int)), (57, .bool q1573)]) (fun q1573 wl => (g_r14_Check_J6 i1067) q1573 = some o1066 ∧ St NB w wl [blkR b21 [.int .i64 a0.Ticks, vp0_0, vp0_1, vp0_2, vp0_3, .int .i64 a0.Tries] 27, blkR b24 [.int .i64 0, .int .i64 0] 110]) ?_ ?_
            · skip
              refine wp_region_lit (n_q H (q_fieldAddr0 rfl fo27_1) rfl (W_q (q_load rfl ((hS.blk 0 rfl).ld ag22 rfl)) rfl (W_q (q_move rfl) rfl ?_))); clear H a; intro a H
              replace hm := bindS hm; obtain ⟨x1574, hx1574, hm⟩ := hm
              obtain ⟨adx1574, hAx1574⟩ := SlR.adV (hrp0_0.ext RGPlan.mono hS.x) hv1069 hx1574
              obtain ⟨csx1574, hclx1574, ⟨vx1574_0, vx1574_1, vx1574_2, vx1574_3, rfl, hrx1574_0, hrx1574_1, hrx1574_2, hrx1574_3⟩, hcx1574⟩ := SlR.elV hrp0_0 hv1069 hAx1574 hx1574
              refine n_q H (q_ixV (i := i1067) Tryd.underlying22 sz68 rfl hv1069 hAx1574 rfl (natI hx1574)) rfl (W_q (q_fieldAddr rfl fo68_1) rfl (W_q (q_load rfl (LdX.ext (ldElC (j := 1) ag4 hcx1574 rfl) hS.x)) rfl (W_q (q_move rfl) rfl ?_))); clear H a; intro a H
              rcases Bool.eq_false_or_eq_true x1574.Mobile with hg1575 | hg1575
              · replace H := H.know 53 rfl hg1575
                replace hm := condT hm hg1575
                refine n_yes H rfl rfl (n_q H (q_load rfl ((hS.blk 0 rfl).ldAll ag27 sz27)) rfl (W_yes rfl rfl ?_)); clear H a; intro a H
                replace hm := bindS hm; obtain ⟨r1576, hr1576, hm⟩ := hm
                refine n_call H rfl en77 (g_r14_count_w (A := A) (⟨_, _, _, _, rfl, (hrp0_0.ext RGPlan.mono hS.x), (hrp0_1.ext (Flat.mono _) hS.x), (hrp0_2.ext (Flat.mono _) hS.x), (hrp0_3.ext (Flat.mono _) hS.x)⟩ : RGConfig _ [.int .i64 a0.Ticks, vp0_0, vp0_1, vp0_2, vp0_3, .int .i64 a0.Tries] a0) hr1576) rfl ?_
                clear H; intro x1579 w1577 hv; clear a; intro a H; obtain ⟨rfl, hE1578⟩ := hv
                replace hS := hS.ext hE1578
                refine n_yes H rfl rfl (n_q H (q_eqlD rfl rfl) rfl (W_q (q_pickT rfl rfl) rfl ?_)); clear H a; intro a H
                refine n_nil (then_normal ?_)
                obtain rfl := Option.some.inj hm; replace hm := hm1072; try dsimp only at hm
                exact join (decide (r1576 = 0)) H ⟨rfl, rfl, rfl, rfl, trivial⟩ ⟨hm, hS⟩
              · replace H := H.know 53 rfl hg1575
                replace hm := condF hm hg1575
                refine n_no H rfl rfl (by decide) rfl (W_no rfl rfl (by decide) rfl (W_no rfl rfl (by decide) rfl (W_q (q_pickF rfl rfl) rfl ?_))); clear H a; intro a H
                refine n_nil (then_normal ?_)
                obtain rfl := Option.some.inj hm; replace hm := hm1072; try dsimp only at hm
                exact join false H ⟨rfl, rfl, rfl, rfl, trivial⟩ ⟨hm, hS⟩
            · clear H hS hm a; intro q1573 a w1580 H hR
              simp only [ent, List.map_cons, List.map_nil] at H; (try dsimp only at hR); obtain ⟨hm, hS⟩ := hR; try dsimp only [g_r14_Check_J6] at hm
              refine c_cond H rfl (fun hc1581 => ?_) (fun hc1581 => ?_)
              · replace hm := condT hm hc1581
                refine wp_seq (wp_region_lit ?_)
                replace hm := bindS hm; obtain ⟨r1582, hr1582, hm⟩ := hm
                refine n_call H rfl en73 (g_r14_bad_w (A := A) hr1582) rfl ?_
                clear H; intro x1585 w1583 hv; clear a; intro a H; obtain ⟨rfl, hE1584⟩ := hv
                replace hS := hS.ext hE1584
                replace hS := hS.pick 1 rfl; dsimp only [List.eraseIdx] at hS
                refine n_storeAll H rfl rfl (vs := [.int .i64 r1582.Code, .int .i64 r1582.Place]) rfl sz110 (hS.blk 0 rfl) rfl (by simp) ?_
                clear H; intro w1586 hN hC1587 hz; clear a; intro a H; replace hS := hS.setBlk hN hC1587; clear hN hz
                refine n_nil (then_normal (wp_ret (block_ret (then_ret (then_ret (block_ret (then_ret ?_)))))))
                obtain rfl := Option.some.inj hm; have hz : _ = q1066 := hn1066; subst hz; replace hm := hm1066; try dsimp only at hm
                obtain rfl := Option.some.inj hm
                replace hS := hS.take 1; simp only [List.take_succ_cons, List.take_zero] at hS
                refine retL H (.inr rfl) rfl (vs := [.agg #[.int .i64 r1582.Code, .int .i64 r1582.Place]]) (resCell rfl ((hS.blk 0 rfl).ldAll ag110 sz110) resNil) ?_
                replace hS := hS.take 0; simp only [List.take_succ_cons, List.take_zero] at hS
                exact ⟨rfl, hS.x⟩
              · replace hm := condF hm hc1581
                refine wp_skip (block_normal (then_normal (wp_region_lit (n_q H (q_move rfl) rfl (W_q (q_incr (i := i1067) (j := 1) rfl rfl (by omega)) rfl (W_q (q_assign rfl) rfl ?_)))))); clear H a; intro a H
                refine n_nil (then_normal ?_)
                obtain rfl := Option.some.inj hm
                exact round (m1066, i1067 + 1) H ⟨rfl, rfl, rfl, trivial⟩ ⟨hn1066, hS⟩ (Nat.lt_succ_self _)
          · replace hm := condF hm hc1070
            refine wp_exit (then_exit (then_exit (block_exit ?_)))
            obtain rfl := Option.some.inj hm; have hz : _ = q1066 := hn1066; subst hz; replace hm := hm1066; try dsimp only at hm
            refine then_normal (wp_seq (wp_region_lit ?_))
            replace hm := bindS hm; obtain ⟨r1588, hr1588, hm⟩ := hm
            refine n_call H rfl en78 (g_r14_none_w (A := A) hr1588) rfl ?_
            clear H; intro x1591 w1589 hv; clear a; intro a H; obtain ⟨rfl, hE1590⟩ := hv
            replace hS := hS.ext hE1590
            replace hS := hS.pick 1 rfl; dsimp only [List.eraseIdx] at hS
            refine n_storeAll H rfl rfl (vs := [.int .i64 r1588.Code, .int .i64 r1588.Place]) rfl sz110 (hS.blk 0 rfl) rfl (by simp) ?_
            clear H; intro w1592 hN hC1593 hz; clear a; intro a H; replace hS := hS.setBlk hN hC1593; clear hN hz
            refine n_nil (then_normal (wp_ret ?_))
            obtain rfl := Option.some.inj hm
            replace hS := hS.take 1; simp only [List.take_succ_cons, List.take_zero] at hS
            refine retL H (.inr rfl) rfl (vs := [.agg #[.int .i64 r1588.Code, .int .i64 r1588.Place]]) (resCell rfl ((hS.blk 0 rfl).ldAll ag110 sz110) resNil) ?_
            replace hS := hS.take 0; simp only [List.take_succ_cons, List.take_zero] at hS
            exact ⟨rfl, hS.x⟩
theorem g_slices_EqualFunc_Plan_w {w : World} {A : Nat → Addr} {v0 : Value} {a0 : List GPlan} {v1 : Value} {a1 : List GPlan} {g2 : Nat} {fs2 : List Value} {cp2 : List Value} {a2 : GPlan → GPlan → Option Bool} (h0 : SlR w 7 RGPlan v0 a0) (h1 : SlR w 7 RGPlan v1 a1) (he2 : entersB Tryd.prog g2 = true) (hf2 : ∀ w1, Ext w w1 → ∀ (ds0 : List Value) (x0 : GPlan) (ds1 : List Value) (x1 : GPlan) (r : Bool), RGPlan w1 ds0 x0 → RGPlan w1 ds1 x1 → a2 x0 x1 = some r → Calls Tryd.prog g2 (fs2 ++ [Value.agg ds0.toArray, Value.agg ds1.toArray] ++ cp2).toArray w1 (Ret fun u w' => u = .bool r ∧ Ext w1 w')) {r : Bool} (hm : g_slices_EqualFunc_Plan a0 a1 a2 = some r) :
    Calls Tryd.prog 79 [v0, v1, .func (.func g2) fs2.toArray cp2.toArray].toArray w (Ret fun u w' => u = .bool r ∧ Ext w w') := by
  have hS := St.begin NB w
  unfold g_slices_EqualFunc_Plan at hm
  refine enter Tryd.func79 rfl rfl rfl ?_; intro a H; dsimp only [enumL, Nat.zero_add, Nat.reduceAdd] at H
  refine wp_seq (wp_region_lit (n_q H (q_assign rfl) rfl ?_)); clear H a; intro a H
  refine n_nil (then_normal (wp_seq (wp_seq (wp_region_lit (n_q H (q_move rfl) rfl ?_))))); clear H a; intro a H
  obtain ⟨A21, c21, hv21, hl21, hm21⟩ := SlR.formV (h0.ext RGPlan.mono hS.x)
  refine n_q H (q_lenV Tryd.underlying22 rfl hv21) rfl (W_q (q_move rfl) rfl ?_); clear H a; intro a H
  obtain ⟨A22, c22, hv22, hl22, hm22⟩ := SlR.formV (h1.ext RGPlan.mono hS.x)
  refine n_q H (q_lenV Tryd.underlying22 rfl hv22) rfl (W_q (q_neqN (i := a0.length) (j := a1.length) rfl rfl) rfl ?_); clear H a; intro a H
  refine n_nil (then_normal (c_cond H rfl (fun hc23 => ?_) (fun hc23 => ?_)))
  · replace hm := condT hm hc23
    refine wp_seq (wp_region_lit (n_q H (q_assign rfl) rfl ?_)); clear H a; intro a H
    refine n_nil (then_normal (wp_ret (then_ret ?_)))
    obtain rfl := Option.some.inj hm
    refine ret1 H (.inr rfl) rfl rfl ?_
    exact ⟨rfl, hS.x⟩
  · replace hm := condF hm hc23
    refine wp_skip (then_normal (wp_seq (wp_seq (wp_region_lit (n_q H (q_move rfl) rfl (W_q (q_lenV Tryd.underlying22 rfl hv21) rfl (W_q (q_move rfl) rfl ?_))))))); clear H a; intro a H
    refine n_nil (then_normal (wp_block ?_))
    replace hm := bindS hm; obtain ⟨q24, hm, hm24⟩ := hm; replace hm := iter_some hm; obtain ⟨n24, hm⟩ := hm
    refine c_loop (σ := Nat × Nat) (fun (m, i25) => [(1, v1), (2, .func (.func g2) fs2.toArray cp2.toArray), (15, v0), (16, .int .i64 ((a0.length : Nat) : Int)), (17, .int .i64 ((i25 : Nat) : Int))]) (fun (m, i25) wl => iterN (g_slices_EqualFunc_Plan_L1 a0 a1 a2) m i25 = some q24 ∧ St NB w wl []) (fun (m, i25) => m) (n24, 0) H ⟨rfl, rfl, rfl, rfl, rfl, trivial⟩ ⟨hm, hS⟩ ?_
    clear H hS hm a; intro xx a w26 H hR; obtain ⟨m, i25⟩ := xx; simp only [ent, List.map_cons, List.map_nil] at H; (try dsimp only at hR); obtain ⟨hm, hS⟩ := hR
    replace hm := iterN_step hm; obtain ⟨m24, o24, rfl, hm, hn24⟩ := hm; try dsimp only [g_slices_EqualFunc_Plan_L1] at hm
    refine wp_seq (wp_region_lit (n_q H (q_lssN (i := i25) (j := a0.length) rfl rfl) rfl ?_)); clear H a; intro a H
    refine n_nil (then_normal (wp_seq (c_cond H rfl (fun hc27 => ?_) (fun hc27 => ?_))))
    · replace hm := condT hm hc27
      have hlt28 : i25 < a0.length := of_decide_eq_true hc27
      refine wp_skip (then_normal (wp_seq (wp_block (wp_seq (wp_region_lit (n_q H (q_move rfl) rfl ?_)))))); clear H a; intro a H
      replace hm := bindS hm; obtain ⟨x29, hx29, hm⟩ := hm
      obtain ⟨adx29, hAx29⟩ := SlR.adV (h0.ext RGPlan.mono hS.x) hv21 hx29
      obtain ⟨csx29, hclx29, ⟨vx29_0, vx29_1, vx29_2, vx29_3, rfl, hrx29_0, hrx29_1, hrx29_2, hrx29_3⟩, hcx29⟩ := SlR.elV h0 hv21 hAx29 hx29
      refine n_q H (q_ixV (i := i25) Tryd.underlying22 sz68 rfl hv21 hAx29 rfl (natI hx29)) rfl (W_q (q_load rfl (LdX.ext (ldEl ag68 sz68 rfl hcx29) hS.x)) rfl ?_); clear H a; intro a H
      refine n_alloc H ze68 rfl ?_
      clear H; intro b30 w31 hN hE32 hs; clear a; intro a H
      replace hS := hS.newBlk hN hE32 hs; clear hN hs
      refine n_q H (q_assign rfl) rfl ?_; clear H a; intro a H
      refine n_storeAll H rfl rfl (vs := [.int .i64 x29.Id, .bool x29.Mobile, vx29_0, vx29_1, vx29_2, .int .i64 x29.Events, vx29_3]) rfl sz68 (hS.blk 0 rfl) rfl (by simp [((hrx29_0.ext (Flat.mono _) hS.x)).one, ((hrx29_1.ext (Flat.mono _) hS.x)).one, ((hrx29_2.ext (Flat.mono _) hS.x)).one, ((hrx29_3.ext (Flat.mono _) hS.x)).one]) ?_
      clear H; intro w33 hN hC34 hz; clear a; intro a H; replace hS := hS.setBlk hN hC34; clear hN hz
      refine n_nil (then_normal (wp_seq (wp_region_lit (n_q H (q_move rfl) rfl (W_q (q_move rfl) rfl ?_))))); clear H a; intro a H
      replace hm := bindS hm; obtain ⟨x35, hx35, hm⟩ := hm
      obtain ⟨adx35, hAx35⟩ := SlR.adV (h1.ext RGPlan.mono hS.x) hv22 hx35
      obtain ⟨csx35, hclx35, ⟨vx35_0, vx35_1, vx35_2, vx35_3, rfl, hrx35_0, hrx35_1, hrx35_2, hrx35_3⟩, hcx35⟩ := SlR.elV h1 hv22 hAx35 hx35
      refine n_q H (q_ixV (i := i25) Tryd.underlying22 sz68 rfl hv22 hAx35 rfl (natI hx35)) rfl (W_q (q_load rfl (LdX.ext (ldEl ag68 sz68 rfl hcx35) hS.x)) rfl ?_); clear H a; intro a H
      refine n_alloc H ze68 rfl ?_
      clear H; intro b36 w37 hN hE38 hs; clear a; intro a H
      replace hS := hS.newBlk hN hE38 hs; clear hN hs
      refine n_storeAll H rfl rfl (vs := [.int .i64 x35.Id, .bool x35.Mobile, vx35_0, vx35_1, vx35_2, .int .i64 x35.Events, vx35_3]) rfl sz68 (hS.blk 0 rfl) rfl (by simp [((hrx35_0.ext (Flat.mono _) hS.x)).one, ((hrx35_1.ext (Flat.mono _) hS.x)).one, ((hrx35_2.ext (Flat.mono _) hS.x)).one, ((hrx35_3.ext (Flat.mono _) hS.x)).one]) ?_
      clear H; intro w39 hN hC40 hz; clear a; intro a H; replace hS := hS.setBlk hN hC40; clear hN hz
      refine n_nil (then_normal (wp_seq (wp_region_lit (n_q H (q_move rfl) rfl (W_q (q_load rfl ((hS.blk 1 rfl).ldAll ag68 sz68)) rfl (W_q (q_load rfl ((hS.blk 0 rfl).ldAll ag68 sz68)) rfl ?_)))))); clear H a; intro a H
      replace hm := bindS hm; obtain ⟨r41, hr41, hm⟩ := hm
      refine n_callv H rfl rfl he2 (hf2 _ hS.x [.int .i64 x29.Id, .bool x29.Mobile, vx29_0, vx29_1, vx29_2, .int .i64 x29.Events, vx29_3] x29 [.int .i64 x35.Id, .bool x35.Mobile, vx35_0, vx35_1, vx35_2, .int .i64 x35.Events, vx35_3] x35 _ (⟨_, _, _, _, rfl, (hrx29_0.ext (Flat.mono _) hS.x), (hrx29_1.ext (Flat.mono _) hS.x), (hrx29_2.ext (Flat.mono _) hS.x), (hrx29_3.ext (Flat.mono _) hS.x)⟩ : RGPlan _ [.int .i64 x29.Id, .bool x29.Mobile, vx29_0, vx29_1, vx29_2, .int .i64 x29.Events, vx29_3] x29) (⟨_, _, _, _, rfl, (hrx35_0.ext (Flat.mono _) hS.x), (hrx35_1.ext (Flat.mono _) hS.x), (hrx35_2.ext (Flat.mono _) hS.x), (hrx35_3.ext (Flat.mono _) hS.x)⟩ : RGPlan _ [.int .i64 x35.Id, .bool x35.Mobile, vx35_0, vx35_1, vx35_2, .int .i64 x35.Events, vx35_3] x35) hr41) rfl ?_
      clear H; intro x44 w42 hv; clear a; intro a H; obtain ⟨rfl, hE43⟩ := hv
      replace hS := hS.ext hE43
      refine n_q H (q_not rfl) rfl ?_; clear H a; intro a H
      refine n_nil (then_normal (c_cond H rfl (fun hc45 => ?_) (fun hc45 => ?_)))
      · replace hm := condT hm hc45
        refine wp_seq (wp_region_lit (n_q H (q_assign rfl) rfl ?_)); clear H a; intro a H
        refine n_nil (then_normal (wp_ret (block_ret (then_ret (then_ret (block_ret (then_ret ?_)))))))
        obtain rfl := Option.some.inj hm; have hz : _ = q24 := hn24; subst hz; replace hm := hm24; try dsimp only at hm
        obtain rfl := Option.some.inj hm
        replace hS := hS.take 0; simp only [List.take_succ_cons, List.take_zero] at hS
        refine ret1 H (.inr rfl) rfl rfl ?_
        exact ⟨rfl, hS.x⟩
      · replace hm := condF hm hc45
        refine wp_skip (block_normal (then_normal (wp_region_lit (n_q H (q_incr (i := i25) (j := 1) rfl rfl (by omega)) rfl (W_q (q_move rfl) rfl ?_))))); clear H a; intro a H
        refine n_nil (then_normal ?_)
        obtain rfl := Option.some.inj hm
        replace hS := hS.take 0; simp only [List.take_succ_cons, List.take_zero] at hS
        exact round (m24, i25 + 1) H ⟨rfl, rfl, rfl, rfl, rfl, trivial⟩ ⟨hn24, hS⟩ (Nat.lt_succ_self _)
    · replace hm := condF hm hc27
      refine wp_exit (then_exit (then_exit (block_exit ?_)))
      obtain rfl := Option.some.inj hm; have hz : _ = q24 := hn24; subst hz; replace hm := hm24; try dsimp only at hm
      refine then_normal (wp_seq (wp_region_lit (n_q H (q_assign rfl) rfl ?_))); clear H a; intro a H
      refine n_nil (then_normal (wp_ret ?_))
      obtain rfl := Option.some.inj hm
      refine ret1 H (.inr rfl) rfl rfl ?_
      exact ⟨rfl, hS.x⟩
theorem g_slices_Equal_int_w {w : World} {A : Nat → Addr} {v0 : Value} {a0 : List Int} {v1 : Value} {a1 : List Int} (h0 : SlR w 1 (Flat eI) v0 a0) (h1 : SlR w 1 (Flat eI) v1 a1) {r : Bool} (hm : g_slices_Equal_int a0 a1 = some r) :
    Calls Tryd.prog 81 [v0, v1].toArray w (Ret fun u w' => u = .bool r ∧ Ext w w') := by
  have hS := St.begin NB w
  unfold g_slices_Equal_int at hm
  refine enter Tryd.func81 rfl rfl rfl ?_; intro a H; dsimp only [enumL, Nat.zero_add, Nat.reduceAdd] at H
  refine wp_seq (wp_region_lit (n_q H (q_assign rfl) rfl ?_)); clear H a; intro a H
  refine n_nil (then_normal (wp_seq (wp_seq (wp_region_lit (n_q H (q_move rfl) rfl ?_))))); clear H a; intro a H
  obtain ⟨A21, c21, hv21, hl21, hm21⟩ := SlR.formV (h0.ext (Flat.mono _) hS.x)
  refine n_q H (q_lenV Tryd.underlying23 rfl hv21) rfl (W_q (q_move rfl) rfl ?_); clear H a; intro a H
  obtain ⟨A22, c22, hv22, hl22, hm22⟩ := SlR.formV (h1.ext (Flat.mono _) hS.x)
  refine n_q H (q_lenV Tryd.underlying23 rfl hv22) rfl (W_q (q_neqN (i := a0.length) (j := a1.length) rfl rfl) rfl ?_); clear H a; intro a H
  refine n_nil (then_normal (c_cond H rfl (fun hc23 => ?_) (fun hc23 => ?_)))
  · replace hm := condT hm hc23
    refine wp_seq (wp_region_lit (n_q H (q_assign rfl) rfl ?_)); clear H a; intro a H
    refine n_nil (then_normal (wp_ret (then_ret ?_)))
    obtain rfl := Option.some.inj hm
    refine ret1 H (.inr rfl) rfl rfl ?_
    exact ⟨rfl, hS.x⟩
  · replace hm := condF hm hc23
    refine wp_skip (then_normal (wp_seq (wp_seq (wp_region_lit (n_q H (q_move rfl) rfl (W_q (q_lenV Tryd.underlying23 rfl hv21) rfl (W_q (q_move rfl) rfl ?_))))))); clear H a; intro a H
    refine n_nil (then_normal (wp_block ?_))
    replace hm := bindS hm; obtain ⟨q24, hm, hm24⟩ := hm; replace hm := iter_some hm; obtain ⟨n24, hm⟩ := hm
    refine c_loop (σ := Nat × Nat) (fun (m, i25) => [(0, v0), (1, v1), (12, .int .i64 ((a0.length : Nat) : Int)), (13, .int .i64 ((i25 : Nat) : Int))]) (fun (m, i25) wl => iterN (g_slices_Equal_int_L1 a0 a1) m i25 = some q24 ∧ St NB w wl []) (fun (m, i25) => m) (n24, 0) H ⟨rfl, rfl, rfl, rfl, trivial⟩ ⟨hm, hS⟩ ?_
    clear H hS hm a; intro xx a w26 H hR; obtain ⟨m, i25⟩ := xx; simp only [ent, List.map_cons, List.map_nil] at H; (try dsimp only at hR); obtain ⟨hm, hS⟩ := hR
    replace hm := iterN_step hm; obtain ⟨m24, o24, rfl, hm, hn24⟩ := hm; try dsimp only [g_slices_Equal_int_L1] at hm
    refine wp_seq (wp_region_lit (n_q H (q_lssN (i := i25) (j := a0.length) rfl rfl) rfl ?_)); clear H a; intro a H
    refine n_nil (then_normal (wp_seq (c_cond H rfl (fun hc27 => ?_) (fun hc27 => ?_))))
    · replace hm := condT hm hc27
      have hlt28 : i25 < a0.length := of_decide_eq_true hc27
      refine wp_skip (then_normal (wp_seq (wp_block (wp_seq (wp_region_lit (n_q H (q_move rfl) rfl (W_q (q_assign rfl) rfl ?_))))))); clear H a; intro a H
      refine n_nil (then_normal (wp_seq (c_quiet (by kernel_rfl) (by kernel_rfl) ?_)))
      refine qq_q H (q_move rfl) rfl ?_; clear H a; intro a H
      refine qq_q H (q_move rfl) rfl ?_; clear H a; intro a H
      replace hm := bindS hm; obtain ⟨x29, hx29, hm⟩ := hm
      obtain ⟨adx29, hAx29⟩ := SlR.adV (h0.ext (Flat.mono _) hS.x) hv21 hx29
      refine qq_q H (q_ixV (i := i25) Tryd.underlying23 sz3 rfl hv21 hAx29 rfl (natI hx29)) rfl ?_; clear H a; intro a H
      refine qq_q H (q_load rfl (SlR.ldOneV (h0.ext (Flat.mono _) hS.x) hv21 hAx29 ag3 hx29 rfl)) rfl ?_; clear H a; intro a H
      refine qq_q H (q_move rfl) rfl ?_; clear H a; intro a H
      refine qq_q H (q_move rfl) rfl ?_; clear H a; intro a H
      replace hm := bindS hm; obtain ⟨x30, hx30, hm⟩ := hm
      obtain ⟨adx30, hAx30⟩ := SlR.adV (h1.ext (Flat.mono _) hS.x) hv22 hx30
      refine qq_q H (q_ixV (i := i25) Tryd.underlying23 sz3 rfl hv22 hAx30 rfl (natI hx30)) rfl ?_; clear H a; intro a H
      refine qq_q H (q_load rfl (SlR.ldOneV (h1.ext (Flat.mono _) hS.x) hv22 hAx30 ag3 hx30 rfl)) rfl ?_; clear H a; intro a H
      refine qq_q H (q_neqD rfl rfl) rfl ?_; clear H a; intro a H
      refine qq_nil ?_; intro w31 hE32
      replace hS := hS.ext hE32
      refine then_normal (c_cond H rfl (fun hc33 => ?_) (fun hc33 => ?_))
      · replace hm := condT hm hc33
        refine wp_seq (wp_region_lit (n_q H (q_assign rfl) rfl ?_)); clear H a; intro a H
        refine n_nil (then_normal (wp_ret (block_ret (then_ret (then_ret (block_ret (then_ret ?_)))))))
        obtain rfl := Option.some.inj hm; have hz : _ = q24 := hn24; subst hz; replace hm := hm24; try dsimp only at hm
        obtain rfl := Option.some.inj hm
        refine ret1 H (.inr rfl) rfl rfl ?_
        exact ⟨rfl, hS.x⟩
      · replace hm := condF hm hc33
        refine wp_skip (block_normal (then_normal (wp_region_lit (n_q H (q_incr (i := i25) (j := 1) rfl rfl (by omega)) rfl (W_q (q_move rfl) rfl ?_))))); clear H a; intro a H
        refine n_nil (then_normal ?_)
        obtain rfl := Option.some.inj hm
        exact round (m24, i25 + 1) H ⟨rfl, rfl, rfl, rfl, trivial⟩ ⟨hn24, hS⟩ (Nat.lt_succ_self _)
    · replace hm := condF hm hc27
      refine wp_exit (then_exit (then_exit (block_exit ?_)))
      obtain rfl := Option.some.inj hm; have hz : _ = q24 := hn24; subst hz; replace hm := hm24; try dsimp only at hm
      refine then_normal (wp_seq (wp_region_lit (n_q H (q_assign rfl) rfl ?_))); clear H a; intro a H
      refine n_nil (then_normal (wp_ret ?_))
      obtain rfl := Option.some.inj hm
      refine ret1 H (.inr rfl) rfl rfl ?_
      exact ⟨rfl, hS.x⟩
theorem g_slices_Equal_PagePlan_w {w : World} {A : Nat → Addr} {v0 : Value} {a0 : List GPagePlan} {v1 : Value} {a1 : List GPagePlan} (h0 : SlR w 2 (Flat eGPagePlan) v0 a0) (h1 : SlR w 2 (Flat eGPagePlan) v1 a1) {r : Bool} (hm : g_slices_Equal_PagePlan a0 a1 = some r) :
    Calls Tryd.prog 139 [v0, v1].toArray w (Ret fun u w' => u = .bool r ∧ Ext w w') := by
  have hS := St.begin NB w
  unfold g_slices_Equal_PagePlan at hm
  refine enter Tryd.func139 rfl rfl rfl ?_; intro a H; dsimp only [enumL, Nat.zero_add, Nat.reduceAdd] at H
  refine wp_seq (wp_region_lit (n_q H (q_assign rfl) rfl ?_)); clear H a; intro a H
  refine n_nil (then_normal (wp_seq (wp_seq (wp_region_lit (n_q H (q_move rfl) rfl ?_))))); clear H a; intro a H
  obtain ⟨A21, c21, hv21, hl21, hm21⟩ := SlR.formV (h0.ext (Flat.mono _) hS.x)
  refine n_q H (q_lenV Tryd.underlying64 rfl hv21) rfl (W_q (q_move rfl) rfl ?_); clear H a; intro a H
  obtain ⟨A22, c22, hv22, hl22, hm22⟩ := SlR.formV (h1.ext (Flat.mono _) hS.x)
  refine n_q H (q_lenV Tryd.underlying64 rfl hv22) rfl (W_q (q_neqN (i := a0.length) (j := a1.length) rfl rfl) rfl ?_); clear H a; intro a H
  refine n_nil (then_normal (c_cond H rfl (fun hc23 => ?_) (fun hc23 => ?_)))
  · replace hm := condT hm hc23
    refine wp_seq (wp_region_lit (n_q H (q_assign rfl) rfl ?_)); clear H a; intro a H
    refine n_nil (then_normal (wp_ret (then_ret ?_)))
    obtain rfl := Option.some.inj hm
    refine ret1 H (.inr rfl) rfl rfl ?_
    exact ⟨rfl, hS.x⟩
  · replace hm := condF hm hc23
    refine wp_skip (then_normal (wp_seq (wp_seq (wp_region_lit (n_q H (q_move rfl) rfl (W_q (q_lenV Tryd.underlying64 rfl hv21) rfl (W_q (q_move rfl) rfl ?_))))))); clear H a; intro a H
    refine n_nil (then_normal (wp_block ?_))
    replace hm := bindS hm; obtain ⟨q24, hm, hm24⟩ := hm; replace hm := iter_some hm; obtain ⟨n24, hm⟩ := hm
    refine c_loop (σ := Nat × Nat) (fun (m, i25) => [(0, v0), (1, v1), (12, .int .i64 ((a0.length : Nat) : Int)), (13, .int .i64 ((i25 : Nat) : Int))]) (fun (m, i25) wl => iterN (g_slices_Equal_PagePlan_L1 a0 a1) m i25 = some q24 ∧ St NB w wl []) (fun (m, i25) => m) (n24, 0) H ⟨rfl, rfl, rfl, rfl, trivial⟩ ⟨hm, hS⟩ ?_
    clear H hS hm a; intro xx a w26 H hR; obtain ⟨m, i25⟩ := xx; simp only [ent, List.map_cons, List.map_nil] at H; (try dsimp only at hR); obtain ⟨hm, hS⟩ := hR
    replace hm := iterN_step hm; obtain ⟨m24, o24, rfl, hm, hn24⟩ := hm; try dsimp only [g_slices_Equal_PagePlan_L1] at hm
    refine wp_seq (wp_region_lit (n_q H (q_lssN (i := i25) (j := a0.length) rfl rfl) rfl ?_)); clear H a; intro a H
    refine n_nil (then_normal (wp_seq (c_cond H rfl (fun hc27 => ?_) (fun hc27 => ?_))))
    · replace hm := condT hm hc27
      have hlt28 : i25 < a0.length := of_decide_eq_true hc27
      refine wp_skip (then_normal (wp_seq (wp_block (wp_seq (wp_region_lit (n_q H (q_move rfl) rfl (W_q (q_assign rfl) rfl ?_))))))); clear H a; intro a H
      refine n_nil (then_normal (wp_seq (c_quiet (by kernel_rfl) (by kernel_rfl) ?_)))
      refine qq_q H (q_move rfl) rfl ?_; clear H a; intro a H
      refine qq_q H (q_move rfl) rfl ?_; clear H a; intro a H
      replace hm := bindS hm; obtain ⟨x29, hx29, hm⟩ := hm
      obtain ⟨adx29, hAx29⟩ := SlR.adV (h0.ext (Flat.mono _) hS.x) hv21 hx29
      refine qq_q H (q_ixV (i := i25) Tryd.underlying64 sz87 rfl hv21 hAx29 rfl (natI hx29)) rfl ?_; clear H a; intro a H
      refine qq_q H (q_load rfl (SlR.ldAggV (h0.ext (Flat.mono _) hS.x) hv21 hAx29 ag87 sz87 hx29)) rfl ?_; clear H a; intro a H
      refine qq_q H (q_move rfl) rfl ?_; clear H a; intro a H
      refine qq_q H (q_move rfl) rfl ?_; clear H a; intro a H
      replace hm := bindS hm; obtain ⟨x30, hx30, hm⟩ := hm
      obtain ⟨adx30, hAx30⟩ := SlR.adV (h1.ext (Flat.mono _) hS.x) hv22 hx30
      refine qq_q H (q_ixV (i := i25) Tryd.underlying64 sz87 rfl hv22 hAx30 rfl (natI hx30)) rfl ?_; clear H a; intro a H
      refine qq_q H (q_load rfl (SlR.ldAggV (h1.ext (Flat.mono _) hS.x) hv22 hAx30 ag87 sz87 hx30)) rfl ?_; clear H a; intro a H
      refine qq_q H (q_neqG (structB_guard st87) (eqInGPagePlan x29 x30) (by omega) rfl rfl) rfl ?_; clear H a; intro a H
      refine qq_nil ?_; intro w31 hE32
      replace hS := hS.ext hE32
      refine then_normal (c_cond H rfl (fun hc33 => ?_) (fun hc33 => ?_))
      · replace hm := condT hm hc33
        refine wp_seq (wp_region_lit (n_q H (q_assign rfl) rfl ?_)); clear H a; intro a H
        refine n_nil (then_normal (wp_ret (block_ret (then_ret (then_ret (block_ret (then_ret ?_)))))))
        obtain rfl := Option.some.inj hm; have hz : _ = q24 := hn24; subst hz; replace hm := hm24; try dsimp only at hm
        obtain rfl := Option.some.inj hm
        refine ret1 H (.inr rfl) rfl rfl ?_
        exact ⟨rfl, hS.x⟩
      · replace hm := condF hm hc33
        refine wp_skip (block_normal (then_normal (wp_region_lit (n_q H (q_incr (i := i25) (j := 1) rfl rfl (by omega)) rfl (W_q (q_move rfl) rfl ?_))))); clear H a; intro a H
        refine n_nil (then_normal ?_)
        obtain rfl := Option.some.inj hm
        exact round (m24, i25 + 1) H ⟨rfl, rfl, rfl, rfl, trivial⟩ ⟨hn24, hS⟩ (Nat.lt_succ_self _)
    · replace hm := condF hm hc27
      refine wp_exit (then_exit (then_exit (block_exit ?_)))
      obtain rfl := Option.some.inj hm; have hz : _ = q24 := hn24; subst hz; replace hm := hm24; try dsimp only at hm
      refine then_normal (wp_seq (wp_region_lit (n_q H (q_assign rfl) rfl ?_))); clear H a; intro a H
      refine n_nil (then_normal (wp_ret ?_))
      obtain rfl := Option.some.inj hm
      refine ret1 H (.inr rfl) rfl rfl ?_
      exact ⟨rfl, hS.x⟩
theorem g_slices_Equal_ProcPlan_w {w : World} {A : Nat → Addr} {v0 : Value} {a0 : List GProcPlan} {v1 : Value} {a1 : List GProcPlan} (h0 : SlR w 3 (Flat eGProcPlan) v0 a0) (h1 : SlR w 3 (Flat eGProcPlan) v1 a1) {r : Bool} (hm : g_slices_Equal_ProcPlan a0 a1 = some r) :
    Calls Tryd.prog 140 [v0, v1].toArray w (Ret fun u w' => u = .bool r ∧ Ext w w') := by
  have hS := St.begin NB w
  unfold g_slices_Equal_ProcPlan at hm
  refine enter Tryd.func140 rfl rfl rfl ?_; intro a H; dsimp only [enumL, Nat.zero_add, Nat.reduceAdd] at H
  refine wp_seq (wp_region_lit (n_q H (q_assign rfl) rfl ?_)); clear H a; intro a H
  refine n_nil (then_normal (wp_seq (wp_seq (wp_region_lit (n_q H (q_move rfl) rfl ?_))))); clear H a; intro a H
  obtain ⟨A21, c21, hv21, hl21, hm21⟩ := SlR.formV (h0.ext (Flat.mono _) hS.x)
  refine n_q H (q_lenV Tryd.underlying65 rfl hv21) rfl (W_q (q_move rfl) rfl ?_); clear H a; intro a H
  obtain ⟨A22, c22, hv22, hl22, hm22⟩ := SlR.formV (h1.ext (Flat.mono _) hS.x)
  refine n_q H (q_lenV Tryd.underlying65 rfl hv22) rfl (W_q (q_neqN (i := a0.length) (j := a1.length) rfl rfl) rfl ?_); clear H a; intro a H
  refine n_nil (then_normal (c_cond H rfl (fun hc23 => ?_) (fun hc23 => ?_)))
  · replace hm := condT hm hc23
    refine wp_seq (wp_region_lit (n_q H (q_assign rfl) rfl ?_)); clear H a; intro a H
    refine n_nil (then_normal (wp_ret (then_ret ?_)))
    obtain rfl := Option.some.inj hm
    refine ret1 H (.inr rfl) rfl rfl ?_
    exact ⟨rfl, hS.x⟩
  · replace hm := condF hm hc23
    refine wp_skip (then_normal (wp_seq (wp_seq (wp_region_lit (n_q H (q_move rfl) rfl (W_q (q_lenV Tryd.underlying65 rfl hv21) rfl (W_q (q_move rfl) rfl ?_))))))); clear H a; intro a H
    refine n_nil (then_normal (wp_block ?_))
    replace hm := bindS hm; obtain ⟨q24, hm, hm24⟩ := hm; replace hm := iter_some hm; obtain ⟨n24, hm⟩ := hm
    refine c_loop (σ := Nat × Nat) (fun (m, i25) => [(0, v0), (1, v1), (12, .int .i64 ((a0.length : Nat) : Int)), (13, .int .i64 ((i25 : Nat) : Int))]) (fun (m, i25) wl => iterN (g_slices_Equal_ProcPlan_L1 a0 a1) m i25 = some q24 ∧ St NB w wl []) (fun (m, i25) => m) (n24, 0) H ⟨rfl, rfl, rfl, rfl, trivial⟩ ⟨hm, hS⟩ ?_
    clear H hS hm a; intro xx a w26 H hR; obtain ⟨m, i25⟩ := xx; simp only [ent, List.map_cons, List.map_nil] at H; (try dsimp only at hR); obtain ⟨hm, hS⟩ := hR
    replace hm := iterN_step hm; obtain ⟨m24, o24, rfl, hm, hn24⟩ := hm; try dsimp only [g_slices_Equal_ProcPlan_L1] at hm
    refine wp_seq (wp_region_lit (n_q H (q_lssN (i := i25) (j := a0.length) rfl rfl) rfl ?_)); clear H a; intro a H
    refine n_nil (then_normal (wp_seq (c_cond H rfl (fun hc27 => ?_) (fun hc27 => ?_))))
    · replace hm := condT hm hc27
      have hlt28 : i25 < a0.length := of_decide_eq_true hc27
      refine wp_skip (then_normal (wp_seq (wp_block (wp_seq (wp_region_lit (n_q H (q_move rfl) rfl (W_q (q_assign rfl) rfl ?_))))))); clear H a; intro a H
      refine n_nil (then_normal (wp_seq (c_quiet (by kernel_rfl) (by kernel_rfl) ?_)))
      refine qq_q H (q_move rfl) rfl ?_; clear H a; intro a H
      refine qq_q H (q_move rfl) rfl ?_; clear H a; intro a H
      replace hm := bindS hm; obtain ⟨x29, hx29, hm⟩ := hm
      obtain ⟨adx29, hAx29⟩ := SlR.adV (h0.ext (Flat.mono _) hS.x) hv21 hx29
      refine qq_q H (q_ixV (i := i25) Tryd.underlying65 sz167 rfl hv21 hAx29 rfl (natI hx29)) rfl ?_; clear H a; intro a H
      refine qq_q H (q_load rfl (SlR.ldAggV (h0.ext (Flat.mono _) hS.x) hv21 hAx29 ag167 sz167 hx29)) rfl ?_; clear H a; intro a H
      refine qq_q H (q_move rfl) rfl ?_; clear H a; intro a H
      refine qq_q H (q_move rfl) rfl ?_; clear H a; intro a H
      replace hm := bindS hm; obtain ⟨x30, hx30, hm⟩ := hm
      obtain ⟨adx30, hAx30⟩ := SlR.adV (h1.ext (Flat.mono _) hS.x) hv22 hx30
      refine qq_q H (q_ixV (i := i25) Tryd.underlying65 sz167 rfl hv22 hAx30 rfl (natI hx30)) rfl ?_; clear H a; intro a H
      refine qq_q H (q_load rfl (SlR.ldAggV (h1.ext (Flat.mono _) hS.x) hv22 hAx30 ag167 sz167 hx30)) rfl ?_; clear H a; intro a H
      refine qq_q H (q_neqG (structB_guard st167) (eqInGProcPlan x29 x30) (by omega) rfl rfl) rfl ?_; clear H a; intro a H
      refine qq_nil ?_; intro w31 hE32
      replace hS := hS.ext hE32
      refine then_normal (c_cond H rfl (fun hc33 => ?_) (fun hc33 => ?_))
      · replace hm := condT hm hc33
        refine wp_seq (wp_region_lit (n_q H (q_assign rfl) rfl ?_)); clear H a; intro a H
        refine n_nil (then_normal (wp_ret (block_ret (then_ret (then_ret (block_ret (then_ret ?_)))))))
        obtain rfl := Option.some.inj hm; have hz : _ = q24 := hn24; subst hz; replace hm := hm24; try dsimp only at hm
        obtain rfl := Option.some.inj hm
        refine ret1 H (.inr rfl) rfl rfl ?_
        exact ⟨rfl, hS.x⟩
      · replace hm := condF hm hc33
        refine wp_skip (block_normal (then_normal (wp_region_lit (n_q H (q_incr (i := i25) (j := 1) rfl rfl (by omega)) rfl (W_q (q_move rfl) rfl ?_))))); clear H a; intro a H
        refine n_nil (then_normal ?_)
        obtain rfl := Option.some.inj hm
        exact round (m24, i25 + 1) H ⟨rfl, rfl, rfl, rfl, trivial⟩ ⟨hn24, hS⟩ (Nat.lt_succ_self _)
    · replace hm := condF hm hc27
      refine wp_exit (then_exit (then_exit (block_exit ?_)))
      obtain rfl := Option.some.inj hm; have hz : _ = q24 := hn24; subst hz; replace hm := hm24; try dsimp only at hm
      refine then_normal (wp_seq (wp_region_lit (n_q H (q_assign rfl) rfl ?_))); clear H a; intro a H
      refine n_nil (then_normal (wp_ret ?_))
      obtain rfl := Option.some.inj hm
      refine ret1 H (.inr rfl) rfl rfl ?_
      exact ⟨rfl, hS.x⟩
theorem g_slices_Equal_PortPlan_w {w : World} {A : Nat → Addr} {v0 : Value} {a0 : List GPortPlan} {v1 : Value} {a1 : List GPortPlan} (h0 : SlR w 4 (Flat eGPortPlan) v0 a0) (h1 : SlR w 4 (Flat eGPortPlan) v1 a1) {r : Bool} (hm : g_slices_Equal_PortPlan a0 a1 = some r) :
    Calls Tryd.prog 141 [v0, v1].toArray w (Ret fun u w' => u = .bool r ∧ Ext w w') := by
  have hS := St.begin NB w
  unfold g_slices_Equal_PortPlan at hm
  refine enter Tryd.func141 rfl rfl rfl ?_; intro a H; dsimp only [enumL, Nat.zero_add, Nat.reduceAdd] at H
  refine wp_seq (wp_region_lit (n_q H (q_assign rfl) rfl ?_)); clear H a; intro a H
  refine n_nil (then_normal (wp_seq (wp_seq (wp_region_lit (n_q H (q_move rfl) rfl ?_))))); clear H a; intro a H
  obtain ⟨A21, c21, hv21, hl21, hm21⟩ := SlR.formV (h0.ext (Flat.mono _) hS.x)
  refine n_q H (q_lenV Tryd.underlying66 rfl hv21) rfl (W_q (q_move rfl) rfl ?_); clear H a; intro a H
  obtain ⟨A22, c22, hv22, hl22, hm22⟩ := SlR.formV (h1.ext (Flat.mono _) hS.x)
  refine n_q H (q_lenV Tryd.underlying66 rfl hv22) rfl (W_q (q_neqN (i := a0.length) (j := a1.length) rfl rfl) rfl ?_); clear H a; intro a H
  refine n_nil (then_normal (c_cond H rfl (fun hc23 => ?_) (fun hc23 => ?_)))
  · replace hm := condT hm hc23
    refine wp_seq (wp_region_lit (n_q H (q_assign rfl) rfl ?_)); clear H a; intro a H
    refine n_nil (then_normal (wp_ret (then_ret ?_)))
    obtain rfl := Option.some.inj hm
    refine ret1 H (.inr rfl) rfl rfl ?_
    exact ⟨rfl, hS.x⟩
  · replace hm := condF hm hc23
    refine wp_skip (then_normal (wp_seq (wp_seq (wp_region_lit (n_q H (q_move rfl) rfl (W_q (q_lenV Tryd.underlying66 rfl hv21) rfl (W_q (q_move rfl) rfl ?_))))))); clear H a; intro a H
    refine n_nil (then_normal (wp_block ?_))
    replace hm := bindS hm; obtain ⟨q24, hm, hm24⟩ := hm; replace hm := iter_some hm; obtain ⟨n24, hm⟩ := hm
    refine c_loop (σ := Nat × Nat) (fun (m, i25) => [(0, v0), (1, v1), (12, .int .i64 ((a0.length : Nat) : Int)), (13, .int .i64 ((i25 : Nat) : Int))]) (fun (m, i25) wl => iterN (g_slices_Equal_PortPlan_L1 a0 a1) m i25 = some q24 ∧ St NB w wl []) (fun (m, i25) => m) (n24, 0) H ⟨rfl, rfl, rfl, rfl, trivial⟩ ⟨hm, hS⟩ ?_
    clear H hS hm a; intro xx a w26 H hR; obtain ⟨m, i25⟩ := xx; simp only [ent, List.map_cons, List.map_nil] at H; (try dsimp only at hR); obtain ⟨hm, hS⟩ := hR
    replace hm := iterN_step hm; obtain ⟨m24, o24, rfl, hm, hn24⟩ := hm; try dsimp only [g_slices_Equal_PortPlan_L1] at hm
    refine wp_seq (wp_region_lit (n_q H (q_lssN (i := i25) (j := a0.length) rfl rfl) rfl ?_)); clear H a; intro a H
    refine n_nil (then_normal (wp_seq (c_cond H rfl (fun hc27 => ?_) (fun hc27 => ?_))))
    · replace hm := condT hm hc27
      have hlt28 : i25 < a0.length := of_decide_eq_true hc27
      refine wp_skip (then_normal (wp_seq (wp_block (wp_seq (wp_region_lit (n_q H (q_move rfl) rfl (W_q (q_assign rfl) rfl ?_))))))); clear H a; intro a H
      refine n_nil (then_normal (wp_seq (c_quiet (by kernel_rfl) (by kernel_rfl) ?_)))
      refine qq_q H (q_move rfl) rfl ?_; clear H a; intro a H
      refine qq_q H (q_move rfl) rfl ?_; clear H a; intro a H
      replace hm := bindS hm; obtain ⟨x29, hx29, hm⟩ := hm
      obtain ⟨adx29, hAx29⟩ := SlR.adV (h0.ext (Flat.mono _) hS.x) hv21 hx29
      refine qq_q H (q_ixV (i := i25) Tryd.underlying66 sz169 rfl hv21 hAx29 rfl (natI hx29)) rfl ?_; clear H a; intro a H
      refine qq_q H (q_load rfl (SlR.ldAggV (h0.ext (Flat.mono _) hS.x) hv21 hAx29 ag169 sz169 hx29)) rfl ?_; clear H a; intro a H
      refine qq_q H (q_move rfl) rfl ?_; clear H a; intro a H
      refine qq_q H (q_move rfl) rfl ?_; clear H a; intro a H
      replace hm := bindS hm; obtain ⟨x30, hx30, hm⟩ := hm
      obtain ⟨adx30, hAx30⟩ := SlR.adV (h1.ext (Flat.mono _) hS.x) hv22 hx30
      refine qq_q H (q_ixV (i := i25) Tryd.underlying66 sz169 rfl hv22 hAx30 rfl (natI hx30)) rfl ?_; clear H a; intro a H
      refine qq_q H (q_load rfl (SlR.ldAggV (h1.ext (Flat.mono _) hS.x) hv22 hAx30 ag169 sz169 hx30)) rfl ?_; clear H a; intro a H
      refine qq_q H (q_neqG (structB_guard st169) (eqInGPortPlan x29 x30) (by omega) rfl rfl) rfl ?_; clear H a; intro a H
      refine qq_nil ?_; intro w31 hE32
      replace hS := hS.ext hE32
      refine then_normal (c_cond H rfl (fun hc33 => ?_) (fun hc33 => ?_))
      · replace hm := condT hm hc33
        refine wp_seq (wp_region_lit (n_q H (q_assign rfl) rfl ?_)); clear H a; intro a H
        refine n_nil (then_normal (wp_ret (block_ret (then_ret (then_ret (block_ret (then_ret ?_)))))))
        obtain rfl := Option.some.inj hm; have hz : _ = q24 := hn24; subst hz; replace hm := hm24; try dsimp only at hm
        obtain rfl := Option.some.inj hm
        refine ret1 H (.inr rfl) rfl rfl ?_
        exact ⟨rfl, hS.x⟩
      · replace hm := condF hm hc33
        refine wp_skip (block_normal (then_normal (wp_region_lit (n_q H (q_incr (i := i25) (j := 1) rfl rfl (by omega)) rfl (W_q (q_move rfl) rfl ?_))))); clear H a; intro a H
        refine n_nil (then_normal ?_)
        obtain rfl := Option.some.inj hm
        exact round (m24, i25 + 1) H ⟨rfl, rfl, rfl, rfl, trivial⟩ ⟨hn24, hS⟩ (Nat.lt_succ_self _)
    · replace hm := condF hm hc27
      refine wp_exit (then_exit (then_exit (block_exit ?_)))
      obtain rfl := Option.some.inj hm; have hz : _ = q24 := hn24; subst hz; replace hm := hm24; try dsimp only at hm
      refine then_normal (wp_seq (wp_region_lit (n_q H (q_assign rfl) rfl ?_))); clear H a; intro a H
      refine n_nil (then_normal (wp_ret ?_))
      obtain rfl := Option.some.inj hm
      refine ret1 H (.inr rfl) rfl rfl ?_
      exact ⟨rfl, hS.x⟩
theorem g_plan_Same_w {w : World} {A : Nat → Addr} {cs0 : List Value} {a0 : GPlan} {cs1 : List Value} {a1 : GPlan} (h0 : RGPlan w cs0 a0) (h1 : RGPlan w cs1 a1) {r : Bool} (hm : g_plan_Same a0 a1 = some r) :
    Calls Tryd.prog 80 [.agg cs0.toArray, .agg cs1.toArray].toArray w (Ret fun u w' => u = .bool r ∧ Ext w w') := by
  obtain ⟨vp0_0, vp0_1, vp0_2, vp0_3, rfl, hrp0_0, hrp0_1, hrp0_2, hrp0_3⟩ := h0
  obtain ⟨vp1_0, vp1_1, vp1_2, vp1_3, rfl, hrp1_0, hrp1_1, hrp1_2, hrp1_3⟩ := h1
  have hS := St.begin NB w
  unfold g_plan_Same at hm
  refine enter Tryd.func80 rfl rfl rfl ?_; intro a H; dsimp only [enumL, Nat.zero_add, Nat.reduceAdd] at H
  refine wp_seq (wp_region_lit (n_box H rfl (cs := [.int .i64 a0.Id, .bool a0.Mobile, vp0_0, vp0_1, vp0_2, .int .i64 a0.Events, vp0_3]) rfl rfl ?_))
  clear H; intro b21 w22 hN hE23 hs; clear a; intro a H
  replace hS := hS.newBlk hN hE23 hs; clear hN hs
  refine n_box H rfl (cs := [.int .i64 a1.Id, .bool a1.Mobile, vp1_0, vp1_1, vp1_2, .int .i64 a1.Events, vp1_3]) rfl rfl ?_
  clear H; intro b24 w25 hN hE26 hs; clear a; intro a H
  replace hS := hS.newBlk hN hE26 hs; clear hN hs
  refine n_q H (q_assign rfl) rfl ?_; clear H a; intro a H
  refine n_nil (then_normal (wp_seq (wp_region_lit (n_q H (q_fieldAddr0 rfl fo68_0) rfl (W_q (q_load rfl ((hS.blk 1 rfl).ld ag3 rfl)) rfl (W_q (q_fieldAddr0 rfl fo68_0) rfl (W_q (q_load rfl ((hS.blk 0 rfl).ld ag3 rfl)) rfl (W_q (q_eqlD rfl rfl) rfl (W_q (q_move rfl) rfl ?_))))))))); clear H a; intro a H
  rcases Bool.eq_false_or_eq_true (decide (a0.Id = a1.Id)) with hg27 | hg27
  · replace H := H.know 10 rfl hg27
    replace hm := condT hm hg27
    refine n_yes H rfl rfl (n_q H (q_fieldAddr0 rfl fo68_1) rfl (W_yes rfl rfl (W_q (q_load rfl ((hS.blk 1 rfl).ld ag4 rfl)) rfl (W_yes rfl rfl (W_q (q_fieldAddr0 rfl fo68_1) rfl (W_yes rfl rfl (W_q (q_load rfl ((hS.blk 0 rfl).ld ag4 rfl)) rfl (W_yes rfl rfl (W_q (q_eqlB Tryd.underlying4 rfl rfl) rfl (W_q (q_pickT rfl rfl) rfl (W_q (q_move rfl) rfl ?_))))))))))); clear H a; intro a H
    rcases Bool.eq_false_or_eq_true (a0.Mobile == a1.Mobile) with hg28 | hg28
    · replace H := H.know 17 rfl hg28
      replace hm := condT hm hg28
      refine n_yes H rfl rfl (n_q H (q_fieldAddr0 rfl fo68_5) rfl (W_yes rfl rfl (W_q (q_load rfl ((hS.blk 1 rfl).ld ag3 rfl)) rfl (W_yes rfl rfl (W_q (q_fieldAddr0 rfl fo68_5) rfl (W_yes rfl rfl (W_q (q_load rfl ((hS.blk 0 rfl).ld ag3 rfl)) rfl (W_yes rfl rfl (W_q (q_eqlD rfl rfl) rfl (W_q (q_pickT rfl rfl) rfl (W_q (q_move rfl) rfl ?_))))))))))); clear H a; intro a H
      rcases Bool.eq_false_or_eq_true (decide (a0.Events = a1.Events)) with hg29 | hg29
      · replace H := H.know 24 rfl hg29
        replace hm := condT hm hg29
        refine n_yes H rfl rfl (n_q H (q_fieldAddr0 rfl fo68_2) rfl (W_yes rfl rfl (W_q (q_load rfl ((hS.blk 1 rfl).ld ag64 rfl)) rfl (W_yes rfl rfl (W_q (q_fieldAddr0 rfl fo68_2) rfl (W_yes rfl rfl (W_q (q_load rfl ((hS.blk 0 rfl).ld ag64 rfl)) rfl (W_yes rfl rfl ?_)))))))); clear H a; intro a H
        replace hm := bindS hm; obtain ⟨r30, hr30, hm⟩ := hm
        refine n_call H rfl en139 (g_slices_Equal_PagePlan_w (A := A) (hrp0_0.ext (Flat.mono _) hS.x) (hrp1_0.ext (Flat.mono _) hS.x) hr30) rfl ?_
        clear H; intro x33 w31 hv; clear a; intro a H; obtain ⟨rfl, hE32⟩ := hv
        replace hS := hS.ext hE32
        refine n_q H (q_pickT rfl rfl) rfl (W_q (q_move rfl) rfl ?_); clear H a; intro a H
        rcases Bool.eq_false_or_eq_true r30 with hg34 | hg34
        · replace H := H.know 31 rfl hg34
          replace hm := condT hm hg34
          refine n_yes H rfl rfl (n_q H (q_fieldAddr0 rfl fo68_3) rfl (W_yes rfl rfl (W_q (q_load rfl ((hS.blk 1 rfl).ld ag65 rfl)) rfl (W_yes rfl rfl (W_q (q_fieldAddr0 rfl fo68_3) rfl (W_yes rfl rfl (W_q (q_load rfl ((hS.blk 0 rfl).ld ag65 rfl)) rfl (W_yes rfl rfl ?_)))))))); clear H a; intro a H
          replace hm := bindS hm; obtain ⟨r35, hr35, hm⟩ := hm
          refine n_call H rfl en140 (g_slices_Equal_ProcPlan_w (A := A) (hrp0_1.ext (Flat.mono _) hS.x) (hrp1_1.ext (Flat.mono _) hS.x) hr35) rfl ?_
          clear H; intro x38 w36 hv; clear a; intro a H; obtain ⟨rfl, hE37⟩ := hv
          replace hS := hS.ext hE37
          refine n_q H (q_pickT rfl rfl) rfl (W_q (q_move rfl) rfl ?_); clear H a; intro a H
          rcases Bool.eq_false_or_eq_true r35 with hg39 | hg39
          · replace H := H.know 38 rfl hg39
            replace hm := condT hm hg39
            refine n_yes H rfl rfl (n_q H (q_fieldAddr0 rfl fo68_4) rfl (W_yes rfl rfl (W_q (q_load rfl ((hS.blk 1 rfl).ld ag66 rfl)) rfl (W_yes rfl rfl (W_q (q_fieldAddr0 rfl fo68_4) rfl (W_yes rfl rfl (W_q (q_load rfl ((hS.blk 0 rfl).ld ag66 rfl)) rfl (W_yes rfl rfl ?_)))))))); clear H a; intro a H
            replace hm := bindS hm; obtain ⟨r40, hr40, hm⟩ := hm
            refine n_call H rfl en141 (g_slices_Equal_PortPlan_w (A := A) (hrp0_2.ext (Flat.mono _) hS.x) (hrp1_2.ext (Flat.mono _) hS.x) hr40) rfl ?_
            clear H; intro x43 w41 hv; clear a; intro a H; obtain ⟨rfl, hE42⟩ := hv
            replace hS := hS.ext hE42
            refine n_q H (q_pickT rfl rfl) rfl (W_q (q_move rfl) rfl ?_); clear H a; intro a H
            rcases Bool.eq_false_or_eq_true r40 with hg44 | hg44
            · replace H := H.know 45 rfl hg44
              replace hm := condT hm hg44
              refine n_yes H rfl rfl (n_q H (q_fieldAddr0 rfl fo68_6) rfl (W_yes rfl rfl (W_q (q_load rfl ((hS.blk 1 rfl).ld ag23 rfl)) rfl (W_yes rfl rfl (W_q (q_fieldAddr0 rfl fo68_6) rfl (W_yes rfl rfl (W_q (q_load rfl ((hS.blk 0 rfl).ld ag23 rfl)) rfl (W_yes rfl rfl ?_)))))))); clear H a; intro a H
              replace hm := bindS hm; obtain ⟨r45, hr45, hm⟩ := hm
              refine n_call H rfl en81 (g_slices_Equal_int_w (A := A) (hrp0_3.ext (Flat.mono _) hS.x) (hrp1_3.ext (Flat.mono _) hS.x) hr45) rfl ?_
              clear H; intro x48 w46 hv; clear a; intro a H; obtain ⟨rfl, hE47⟩ := hv
              replace hS := hS.ext hE47
              refine n_q H (q_pickT rfl rfl) rfl (W_q (q_assign rfl) rfl ?_); clear H a; intro a H
              refine n_nil (then_normal (wp_ret ?_))
              obtain rfl := Option.some.inj hm
              replace hS := hS.take 0; simp only [List.take_succ_cons, List.take_zero] at hS
              refine ret1 H (.inr rfl) rfl rfl ?_
              exact ⟨rfl, hS.x⟩
            · replace H := H.know 45 rfl hg44
              replace hm := condF hm hg44
              refine n_no H rfl rfl (by decide) rfl (W_no rfl rfl (by decide) rfl (W_no rfl rfl (by decide) rfl (W_no rfl rfl (by decide) rfl (W_no rfl rfl (by decide) rfl (W_q (q_pickF rfl rfl) rfl (W_q (q_assign rfl) rfl ?_)))))); clear H a; intro a H
              refine n_nil (then_normal (wp_ret ?_))
              obtain rfl := Option.some.inj hm
              replace hS := hS.take 0; simp only [List.take_succ_cons, List.take_zero] at hS
              refine ret1 H (.inr rfl) rfl rfl ?_
              exact ⟨rfl, hS.x⟩
          · replace H := H.know 38 rfl hg39
            replace hm := condF hm hg39
            refine n_no H rfl rfl (by decide) rfl (W_no rfl rfl (by decide) rfl (W_no rfl rfl (by decide) rfl (W_no rfl rfl (by decide) rfl (W_no rfl rfl (by decide) rfl (W_q (q_pickF rfl rfl) rfl (W_q (q_move rfl) rfl (W_no rfl rfl (by decide) rfl (W_no rfl rfl (by decide) rfl (W_no rfl rfl (by decide) rfl (W_no rfl rfl (by decide) rfl (W_no rfl rfl (by decide) rfl ?_))))))))))); clear H a; intro a H
            refine n_q H (q_pickF rfl rfl) rfl (W_q (q_assign rfl) rfl ?_); clear H a; intro a H
            refine n_nil (then_normal (wp_ret ?_))
            obtain rfl := Option.some.inj hm
            replace hS := hS.take 0; simp only [List.take_succ_cons, List.take_zero] at hS
            refine ret1 H (.inr rfl) rfl rfl ?_
            exact ⟨rfl, hS.x⟩
        · replace H := H.know 31 rfl hg34
          replace hm := condF hm hg34
          refine n_no H rfl rfl (by decide) rfl (W_no rfl rfl (by decide) rfl (W_no rfl rfl (by decide) rfl (W_no rfl rfl (by decide) rfl (W_no rfl rfl (by decide) rfl (W_q (q_pickF rfl rfl) rfl (W_q (q_move rfl) rfl (W_no rfl rfl (by decide) rfl (W_no rfl rfl (by decide) rfl (W_no rfl rfl (by decide) rfl (W_no rfl rfl (by decide) rfl (W_no rfl rfl (by decide) rfl ?_))))))))))); clear H a; intro a H
          refine n_q H (q_pickF rfl rfl) rfl (W_q (q_move rfl) rfl (W_no rfl rfl (by decide) rfl (W_no rfl rfl (by decide) rfl (W_no rfl rfl (by decide) rfl (W_no rfl rfl (by decide) rfl (W_no rfl rfl (by decide) rfl (W_q (q_pickF rfl rfl) rfl (W_q (q_assign rfl) rfl ?_)))))))); clear H a; intro a H
          refine n_nil (then_normal (wp_ret ?_))
          obtain rfl := Option.some.inj hm
          replace hS := hS.take 0; simp only [List.take_succ_cons, List.take_zero] at hS
          refine ret1 H (.inr rfl) rfl rfl ?_
          exact ⟨rfl, hS.x⟩
      · replace H := H.know 24 rfl hg29
        replace hm := condF hm hg29
        refine n_no H rfl rfl (by decide) rfl (W_no rfl rfl (by decide) rfl (W_no rfl rfl (by decide) rfl (W_no rfl rfl (by decide) rfl (W_no rfl rfl (by decide) rfl (W_q (q_pickF rfl rfl) rfl (W_q (q_move rfl) rfl (W_no rfl rfl (by decide) rfl (W_no rfl rfl (by decide) rfl (W_no rfl rfl (by decide) rfl (W_no rfl rfl (by decide) rfl (W_no rfl rfl (by decide) rfl ?_))))))))))); clear H a; intro a H
        refine n_q H (q_pickF rfl rfl) rfl (W_q (q_move rfl) rfl (W_no rfl rfl (by decide) rfl (W_no rfl rfl (by decide) rfl (W_no rfl rfl (by decide) rfl (W_no rfl rfl (by decide) rfl (W_no rfl rfl (by decide) rfl (W_q (q_pickF rfl rfl) rfl (W_q (q_move rfl) rfl (W_no rfl rfl (by decide) rfl (W_no rfl rfl (by decide) rfl (W_no rfl rfl (by decide) rfl ?_))))))))))); clear H a; intro a H
        refine n_no H rfl rfl (by decide) rfl (W_no rfl rfl (by decide) rfl (W_q (q_pickF rfl rfl) rfl (W_q (q_assign rfl) rfl ?_))); clear H a; intro a H
        refine n_nil (then_normal (wp_ret ?_))
        obtain rfl := Option.some.inj hm
        replace hS := hS.take 0; simp only [List.take_succ_cons, List.take_zero] at hS
        refine ret1 H (.inr rfl) rfl rfl ?_
        exact ⟨rfl, hS.x⟩
    · replace H := H.know 17 rfl hg28
      replace hm := condF hm hg28
      refine n_no H rfl rfl (by decide) rfl (W_no rfl rfl (by decide) rfl (W_no rfl rfl (by decide) rfl (W_no rfl rfl (by decide) rfl (W_no rfl rfl (by decide) rfl (W_q (q_pickF rfl rfl) rfl (W_q (q_move rfl) rfl (W_no rfl rfl (by decide) rfl (W_no rfl rfl (by decide) rfl (W_no rfl rfl (by decide) rfl (W_no rfl rfl (by decide) rfl (W_no rfl rfl (by decide) rfl ?_))))))))))); clear H a; intro a H
      refine n_q H (q_pickF rfl rfl) rfl (W_q (q_move rfl) rfl (W_no rfl rfl (by decide) rfl (W_no rfl rfl (by decide) rfl (W_no rfl rfl (by decide) rfl (W_no rfl rfl (by decide) rfl (W_no rfl rfl (by decide) rfl (W_q (q_pickF rfl rfl) rfl (W_q (q_move rfl) rfl (W_no rfl rfl (by decide) rfl (W_no rfl rfl (by decide) rfl (W_no rfl rfl (by decide) rfl ?_))))))))))); clear H a; intro a H
      refine n_no H rfl rfl (by decide) rfl (W_no rfl rfl (by decide) rfl (W_q (q_pickF rfl rfl) rfl (W_q (q_move rfl) rfl (W_no rfl rfl (by decide) rfl (W_no rfl rfl (by decide) rfl (W_no rfl rfl (by decide) rfl (W_no rfl rfl (by decide) rfl (W_no rfl rfl (by decide) rfl (W_q (q_pickF rfl rfl) rfl (W_q (q_assign rfl) rfl ?_)))))))))); clear H a; intro a H
      refine n_nil (then_normal (wp_ret ?_))
      obtain rfl := Option.some.inj hm
      replace hS := hS.take 0; simp only [List.take_succ_cons, List.take_zero] at hS
      refine ret1 H (.inr rfl) rfl rfl ?_
      exact ⟨rfl, hS.x⟩
  · replace H := H.know 10 rfl hg27
    replace hm := condF hm hg27
    refine n_no H rfl rfl (by decide) rfl (W_no rfl rfl (by decide) rfl (W_no rfl rfl (by decide) rfl (W_no rfl rfl (by decide) rfl (W_no rfl rfl (by decide) rfl (W_q (q_pickF rfl rfl) rfl (W_q (q_move rfl) rfl (W_no rfl rfl (by decide) rfl (W_no rfl rfl (by decide) rfl (W_no rfl rfl (by decide) rfl (W_no rfl rfl (by decide) rfl (W_no rfl rfl (by decide) rfl ?_))))))))))); clear H a; intro a H
    refine n_q H (q_pickF rfl rfl) rfl (W_q (q_move rfl) rfl (W_no rfl rfl (by decide) rfl (W_no rfl rfl (by decide) rfl (W_no rfl rfl (by decide) rfl (W_no rfl rfl (by decide) rfl (W_no rfl rfl (by decide) rfl (W_q (q_pickF rfl rfl) rfl (W_q (q_move rfl) rfl (W_no rfl rfl (by decide) rfl (W_no rfl rfl (by decide) rfl (W_no rfl rfl (by decide) rfl ?_))))))))))); clear H a; intro a H
    refine n_no H rfl rfl (by decide) rfl (W_no rfl rfl (by decide) rfl (W_q (q_pickF rfl rfl) rfl (W_q (q_move rfl) rfl (W_no rfl rfl (by decide) rfl (W_no rfl rfl (by decide) rfl (W_no rfl rfl (by decide) rfl (W_no rfl rfl (by decide) rfl (W_no rfl rfl (by decide) rfl (W_q (q_pickF rfl rfl) rfl (W_q (q_move rfl) rfl (W_no rfl rfl (by decide) rfl ?_))))))))))); clear H a; intro a H
    refine n_no H rfl rfl (by decide) rfl (W_no rfl rfl (by decide) rfl (W_no rfl rfl (by decide) rfl (W_no rfl rfl (by decide) rfl (W_q (q_pickF rfl rfl) rfl (W_q (q_assign rfl) rfl ?_))))); clear H a; intro a H
    refine n_nil (then_normal (wp_ret ?_))
    obtain rfl := Option.some.inj hm
    replace hS := hS.take 0; simp only [List.take_succ_cons, List.take_zero] at hS
    refine ret1 H (.inr rfl) rfl rfl ?_
    exact ⟨rfl, hS.x⟩
theorem g_slices_Equal_Window_w {w : World} {A : Nat → Addr} {v0 : Value} {a0 : List GWindow} {v1 : Value} {a1 : List GWindow} (h0 : SlR w 3 (Flat eGWindow) v0 a0) (h1 : SlR w 3 (Flat eGWindow) v1 a1) {r : Bool} (hm : g_slices_Equal_Window a0 a1 = some r) :
    Calls Tryd.prog 82 [v0, v1].toArray w (Ret fun u w' => u = .bool r ∧ Ext w w') := by
  have hS := St.begin NB w
  unfold g_slices_Equal_Window at hm
  refine enter Tryd.func82 rfl rfl rfl ?_; intro a H; dsimp only [enumL, Nat.zero_add, Nat.reduceAdd] at H
  refine wp_seq (wp_region_lit (n_q H (q_assign rfl) rfl ?_)); clear H a; intro a H
  refine n_nil (then_normal (wp_seq (wp_seq (wp_region_lit (n_q H (q_move rfl) rfl ?_))))); clear H a; intro a H
  obtain ⟨A21, c21, hv21, hl21, hm21⟩ := SlR.formV (h0.ext (Flat.mono _) hS.x)
  refine n_q H (q_lenV Tryd.underlying24 rfl hv21) rfl (W_q (q_move rfl) rfl ?_); clear H a; intro a H
  obtain ⟨A22, c22, hv22, hl22, hm22⟩ := SlR.formV (h1.ext (Flat.mono _) hS.x)
  refine n_q H (q_lenV Tryd.underlying24 rfl hv22) rfl (W_q (q_neqN (i := a0.length) (j := a1.length) rfl rfl) rfl ?_); clear H a; intro a H
  refine n_nil (then_normal (c_cond H rfl (fun hc23 => ?_) (fun hc23 => ?_)))
  · replace hm := condT hm hc23
    refine wp_seq (wp_region_lit (n_q H (q_assign rfl) rfl ?_)); clear H a; intro a H
    refine n_nil (then_normal (wp_ret (then_ret ?_)))
    obtain rfl := Option.some.inj hm
    refine ret1 H (.inr rfl) rfl rfl ?_
    exact ⟨rfl, hS.x⟩
  · replace hm := condF hm hc23
    refine wp_skip (then_normal (wp_seq (wp_seq (wp_region_lit (n_q H (q_move rfl) rfl (W_q (q_lenV Tryd.underlying24 rfl hv21) rfl (W_q (q_move rfl) rfl ?_))))))); clear H a; intro a H
    refine n_nil (then_normal (wp_block ?_))
    replace hm := bindS hm; obtain ⟨q24, hm, hm24⟩ := hm; replace hm := iter_some hm; obtain ⟨n24, hm⟩ := hm
    refine c_loop (σ := Nat × Nat) (fun (m, i25) => [(0, v0), (1, v1), (12, .int .i64 ((a0.length : Nat) : Int)), (13, .int .i64 ((i25 : Nat) : Int))]) (fun (m, i25) wl => iterN (g_slices_Equal_Window_L1 a0 a1) m i25 = some q24 ∧ St NB w wl []) (fun (m, i25) => m) (n24, 0) H ⟨rfl, rfl, rfl, rfl, trivial⟩ ⟨hm, hS⟩ ?_
    clear H hS hm a; intro xx a w26 H hR; obtain ⟨m, i25⟩ := xx; simp only [ent, List.map_cons, List.map_nil] at H; (try dsimp only at hR); obtain ⟨hm, hS⟩ := hR
    replace hm := iterN_step hm; obtain ⟨m24, o24, rfl, hm, hn24⟩ := hm; try dsimp only [g_slices_Equal_Window_L1] at hm
    refine wp_seq (wp_region_lit (n_q H (q_lssN (i := i25) (j := a0.length) rfl rfl) rfl ?_)); clear H a; intro a H
    refine n_nil (then_normal (wp_seq (c_cond H rfl (fun hc27 => ?_) (fun hc27 => ?_))))
    · replace hm := condT hm hc27
      have hlt28 : i25 < a0.length := of_decide_eq_true hc27
      refine wp_skip (then_normal (wp_seq (wp_block (wp_seq (wp_region_lit (n_q H (q_move rfl) rfl (W_q (q_assign rfl) rfl ?_))))))); clear H a; intro a H
      refine n_nil (then_normal (wp_seq (c_quiet (by kernel_rfl) (by kernel_rfl) ?_)))
      refine qq_q H (q_move rfl) rfl ?_; clear H a; intro a H
      refine qq_q H (q_move rfl) rfl ?_; clear H a; intro a H
      replace hm := bindS hm; obtain ⟨x29, hx29, hm⟩ := hm
      obtain ⟨adx29, hAx29⟩ := SlR.adV (h0.ext (Flat.mono _) hS.x) hv21 hx29
      refine qq_q H (q_ixV (i := i25) Tryd.underlying24 sz105 rfl hv21 hAx29 rfl (natI hx29)) rfl ?_; clear H a; intro a H
      refine qq_q H (q_load rfl (SlR.ldAggV (h0.ext (Flat.mono _) hS.x) hv21 hAx29 ag105 sz105 hx29)) rfl ?_; clear H a; intro a H
      refine qq_q H (q_move rfl) rfl ?_; clear H a; intro a H
      refine qq_q H (q_move rfl) rfl ?_; clear H a; intro a H
      replace hm := bindS hm; obtain ⟨x30, hx30, hm⟩ := hm
      obtain ⟨adx30, hAx30⟩ := SlR.adV (h1.ext (Flat.mono _) hS.x) hv22 hx30
      refine qq_q H (q_ixV (i := i25) Tryd.underlying24 sz105 rfl hv22 hAx30 rfl (natI hx30)) rfl ?_; clear H a; intro a H
      refine qq_q H (q_load rfl (SlR.ldAggV (h1.ext (Flat.mono _) hS.x) hv22 hAx30 ag105 sz105 hx30)) rfl ?_; clear H a; intro a H
      refine qq_q H (q_neqG (structB_guard st105) (eqInGWindow x29 x30) (by omega) rfl rfl) rfl ?_; clear H a; intro a H
      refine qq_nil ?_; intro w31 hE32
      replace hS := hS.ext hE32
      refine then_normal (c_cond H rfl (fun hc33 => ?_) (fun hc33 => ?_))
      · replace hm := condT hm hc33
        refine wp_seq (wp_region_lit (n_q H (q_assign rfl) rfl ?_)); clear H a; intro a H
        refine n_nil (then_normal (wp_ret (block_ret (then_ret (then_ret (block_ret (then_ret ?_)))))))
        obtain rfl := Option.some.inj hm; have hz : _ = q24 := hn24; subst hz; replace hm := hm24; try dsimp only at hm
        obtain rfl := Option.some.inj hm
        refine ret1 H (.inr rfl) rfl rfl ?_
        exact ⟨rfl, hS.x⟩
      · replace hm := condF hm hc33
        refine wp_skip (block_normal (then_normal (wp_region_lit (n_q H (q_incr (i := i25) (j := 1) rfl rfl (by omega)) rfl (W_q (q_move rfl) rfl ?_))))); clear H a; intro a H
        refine n_nil (then_normal ?_)
        obtain rfl := Option.some.inj hm
        exact round (m24, i25 + 1) H ⟨rfl, rfl, rfl, rfl, trivial⟩ ⟨hn24, hS⟩ (Nat.lt_succ_self _)
    · replace hm := condF hm hc27
      refine wp_exit (then_exit (then_exit (block_exit ?_)))
      obtain rfl := Option.some.inj hm; have hz : _ = q24 := hn24; subst hz; replace hm := hm24; try dsimp only at hm
      refine then_normal (wp_seq (wp_region_lit (n_q H (q_assign rfl) rfl ?_))); clear H a; intro a H
      refine n_nil (then_normal (wp_ret ?_))
      obtain rfl := Option.some.inj hm
      refine ret1 H (.inr rfl) rfl rfl ?_
      exact ⟨rfl, hS.x⟩
theorem g_slices_Equal_Link_w {w : World} {A : Nat → Addr} {v0 : Value} {a0 : List GLink} {v1 : Value} {a1 : List GLink} (h0 : SlR w 4 (Flat eGLink) v0 a0) (h1 : SlR w 4 (Flat eGLink) v1 a1) {r : Bool} (hm : g_slices_Equal_Link a0 a1 = some r) :
    Calls Tryd.prog 83 [v0, v1].toArray w (Ret fun u w' => u = .bool r ∧ Ext w w') := by
  have hS := St.begin NB w
  unfold g_slices_Equal_Link at hm
  refine enter Tryd.func83 rfl rfl rfl ?_; intro a H; dsimp only [enumL, Nat.zero_add, Nat.reduceAdd] at H
  refine wp_seq (wp_region_lit (n_q H (q_assign rfl) rfl ?_)); clear H a; intro a H
  refine n_nil (then_normal (wp_seq (wp_seq (wp_region_lit (n_q H (q_move rfl) rfl ?_))))); clear H a; intro a H
  obtain ⟨A21, c21, hv21, hl21, hm21⟩ := SlR.formV (h0.ext (Flat.mono _) hS.x)
  refine n_q H (q_lenV Tryd.underlying25 rfl hv21) rfl (W_q (q_move rfl) rfl ?_); clear H a; intro a H
  obtain ⟨A22, c22, hv22, hl22, hm22⟩ := SlR.formV (h1.ext (Flat.mono _) hS.x)
  refine n_q H (q_lenV Tryd.underlying25 rfl hv22) rfl (W_q (q_neqN (i := a0.length) (j := a1.length) rfl rfl) rfl ?_); clear H a; intro a H
  refine n_nil (then_normal (c_cond H rfl (fun hc23 => ?_) (fun hc23 => ?_)))
  · replace hm := condT hm hc23
    refine wp_seq (wp_region_lit (n_q H (q_assign rfl) rfl ?_)); clear H a; intro a H
    refine n_nil (then_normal (wp_ret (then_ret ?_)))
    obtain rfl := Option.some.inj hm
    refine ret1 H (.inr rfl) rfl rfl ?_
    exact ⟨rfl, hS.x⟩
  · replace hm := condF hm hc23
    refine wp_skip (then_normal (wp_seq (wp_seq (wp_region_lit (n_q H (q_move rfl) rfl (W_q (q_lenV Tryd.underlying25 rfl hv21) rfl (W_q (q_move rfl) rfl ?_))))))); clear H a; intro a H
    refine n_nil (then_normal (wp_block ?_))
    replace hm := bindS hm; obtain ⟨q24, hm, hm24⟩ := hm; replace hm := iter_some hm; obtain ⟨n24, hm⟩ := hm
    refine c_loop (σ := Nat × Nat) (fun (m, i25) => [(0, v0), (1, v1), (12, .int .i64 ((a0.length : Nat) : Int)), (13, .int .i64 ((i25 : Nat) : Int))]) (fun (m, i25) wl => iterN (g_slices_Equal_Link_L1 a0 a1) m i25 = some q24 ∧ St NB w wl []) (fun (m, i25) => m) (n24, 0) H ⟨rfl, rfl, rfl, rfl, trivial⟩ ⟨hm, hS⟩ ?_
    clear H hS hm a; intro xx a w26 H hR; obtain ⟨m, i25⟩ := xx; simp only [ent, List.map_cons, List.map_nil] at H; (try dsimp only at hR); obtain ⟨hm, hS⟩ := hR
    replace hm := iterN_step hm; obtain ⟨m24, o24, rfl, hm, hn24⟩ := hm; try dsimp only [g_slices_Equal_Link_L1] at hm
    refine wp_seq (wp_region_lit (n_q H (q_lssN (i := i25) (j := a0.length) rfl rfl) rfl ?_)); clear H a; intro a H
    refine n_nil (then_normal (wp_seq (c_cond H rfl (fun hc27 => ?_) (fun hc27 => ?_))))
    · replace hm := condT hm hc27
      have hlt28 : i25 < a0.length := of_decide_eq_true hc27
      refine wp_skip (then_normal (wp_seq (wp_block (wp_seq (wp_region_lit (n_q H (q_move rfl) rfl (W_q (q_assign rfl) rfl ?_))))))); clear H a; intro a H
      refine n_nil (then_normal (wp_seq (c_quiet (by kernel_rfl) (by kernel_rfl) ?_)))
      refine qq_q H (q_move rfl) rfl ?_; clear H a; intro a H
      refine qq_q H (q_move rfl) rfl ?_; clear H a; intro a H
      replace hm := bindS hm; obtain ⟨x29, hx29, hm⟩ := hm
      obtain ⟨adx29, hAx29⟩ := SlR.adV (h0.ext (Flat.mono _) hS.x) hv21 hx29
      refine qq_q H (q_ixV (i := i25) Tryd.underlying25 sz47 rfl hv21 hAx29 rfl (natI hx29)) rfl ?_; clear H a; intro a H
      refine qq_q H (q_load rfl (SlR.ldAggV (h0.ext (Flat.mono _) hS.x) hv21 hAx29 ag47 sz47 hx29)) rfl ?_; clear H a; intro a H
      refine qq_q H (q_move rfl) rfl ?_; clear H a; intro a H
      refine qq_q H (q_move rfl) rfl ?_; clear H a; intro a H
      replace hm := bindS hm; obtain ⟨x30, hx30, hm⟩ := hm
      obtain ⟨adx30, hAx30⟩ := SlR.adV (h1.ext (Flat.mono _) hS.x) hv22 hx30
      refine qq_q H (q_ixV (i := i25) Tryd.underlying25 sz47 rfl hv22 hAx30 rfl (natI hx30)) rfl ?_; clear H a; intro a H
      refine qq_q H (q_load rfl (SlR.ldAggV (h1.ext (Flat.mono _) hS.x) hv22 hAx30 ag47 sz47 hx30)) rfl ?_; clear H a; intro a H
      refine qq_q H (q_neqG (structB_guard st47) (eqInGLink x29 x30) (by omega) rfl rfl) rfl ?_; clear H a; intro a H
      refine qq_nil ?_; intro w31 hE32
      replace hS := hS.ext hE32
      refine then_normal (c_cond H rfl (fun hc33 => ?_) (fun hc33 => ?_))
      · replace hm := condT hm hc33
        refine wp_seq (wp_region_lit (n_q H (q_assign rfl) rfl ?_)); clear H a; intro a H
        refine n_nil (then_normal (wp_ret (block_ret (then_ret (then_ret (block_ret (then_ret ?_)))))))
        obtain rfl := Option.some.inj hm; have hz : _ = q24 := hn24; subst hz; replace hm := hm24; try dsimp only at hm
        obtain rfl := Option.some.inj hm
        refine ret1 H (.inr rfl) rfl rfl ?_
        exact ⟨rfl, hS.x⟩
      · replace hm := condF hm hc33
        refine wp_skip (block_normal (then_normal (wp_region_lit (n_q H (q_incr (i := i25) (j := 1) rfl rfl (by omega)) rfl (W_q (q_move rfl) rfl ?_))))); clear H a; intro a H
        refine n_nil (then_normal ?_)
        obtain rfl := Option.some.inj hm
        exact round (m24, i25 + 1) H ⟨rfl, rfl, rfl, rfl, trivial⟩ ⟨hn24, hS⟩ (Nat.lt_succ_self _)
    · replace hm := condF hm hc27
      refine wp_exit (then_exit (then_exit (block_exit ?_)))
      obtain rfl := Option.some.inj hm; have hz : _ = q24 := hn24; subst hz; replace hm := hm24; try dsimp only at hm
      refine then_normal (wp_seq (wp_region_lit (n_q H (q_assign rfl) rfl ?_))); clear H a; intro a H
      refine n_nil (then_normal (wp_ret ?_))
      obtain rfl := Option.some.inj hm
      refine ret1 H (.inr rfl) rfl rfl ?_
      exact ⟨rfl, hS.x⟩
theorem g_frame_Same_w {w : World} {A : Nat → Addr} {cs0 : List Value} {a0 : GConfig} {cs1 : List Value} {a1 : GConfig} (h0 : RGConfig w cs0 a0) (h1 : RGConfig w cs1 a1) {r : Bool} (hm : g_frame_Same a0 a1 = some r) :
    Calls Tryd.prog 43 [.agg cs0.toArray, .agg cs1.toArray].toArray w (Ret fun u w' => u = .bool r ∧ Ext w w') := by
  obtain ⟨vp0_0, vp0_1, vp0_2, vp0_3, rfl, hrp0_0, hrp0_1, hrp0_2, hrp0_3⟩ := h0
  obtain ⟨vp1_0, vp1_1, vp1_2, vp1_3, rfl, hrp1_0, hrp1_1, hrp1_2, hrp1_3⟩ := h1
  have hS := St.begin NB w
  unfold g_frame_Same at hm
  refine enter Tryd.func43 rfl rfl rfl ?_; intro a H; dsimp only [enumL, Nat.zero_add, Nat.reduceAdd] at H
  refine wp_seq (wp_region_lit (n_box H rfl (cs := [.int .i64 a0.Ticks, vp0_0, vp0_1, vp0_2, vp0_3, .int .i64 a0.Tries]) rfl rfl ?_))
  clear H; intro b21 w22 hN hE23 hs; clear a; intro a H
  replace hS := hS.newBlk hN hE23 hs; clear hN hs
  refine n_box H rfl (cs := [.int .i64 a1.Ticks, vp1_0, vp1_1, vp1_2, vp1_3, .int .i64 a1.Tries]) rfl rfl ?_
  clear H; intro b24 w25 hN hE26 hs; clear a; intro a H
  replace hS := hS.newBlk hN hE26 hs; clear hN hs
  refine n_q H (q_assign rfl) rfl ?_; clear H a; intro a H
  refine n_nil (then_normal (wp_seq (wp_region_lit (n_q H (q_fieldAddr0 rfl fo27_0) rfl (W_q (q_load rfl ((hS.blk 1 rfl).ld ag3 rfl)) rfl (W_q (q_fieldAddr0 rfl fo27_0) rfl (W_q (q_load rfl ((hS.blk 0 rfl).ld ag3 rfl)) rfl (W_q (q_eqlD rfl rfl) rfl (W_q (q_move rfl) rfl ?_))))))))); clear H a; intro a H
  rcases Bool.eq_false_or_eq_true (decide (a0.Ticks = a1.Ticks)) with hg27 | hg27
  · replace H := H.know 10 rfl hg27
    replace hm := condT hm hg27
    refine n_yes H rfl rfl (n_q H (q_fieldAddr0 rfl fo27_5) rfl (W_yes rfl rfl (W_q (q_load rfl ((hS.blk 1 rfl).ld ag3 rfl)) rfl (W_yes rfl rfl (W_q (q_fieldAddr0 rfl fo27_5) rfl (W_yes rfl rfl (W_q (q_load rfl ((hS.blk 0 rfl).ld ag3 rfl)) rfl (W_yes rfl rfl (W_q (q_eqlD rfl rfl) rfl (W_q (q_pickT rfl rfl) rfl (W_q (q_move rfl) rfl ?_))))))))))); clear H a; intro a H
    rcases Bool.eq_false_or_eq_true (decide (a0.Tries = a1.Tries)) with hg28 | hg28
    · replace H := H.know 17 rfl hg28
      replace hm := condT hm hg28
      refine n_yes H rfl rfl (n_q H (q_fieldAddr0 rfl fo27_1) rfl (W_yes rfl rfl (W_q (q_load rfl ((hS.blk 1 rfl).ld ag22 rfl)) rfl (W_yes rfl rfl (W_q (q_fieldAddr0 rfl fo27_1) rfl (W_yes rfl rfl (W_q (q_load rfl ((hS.blk 0 rfl).ld ag22 rfl)) rfl (W_yes rfl rfl ?_)))))))); clear H a; intro a H
      replace hm := bindS hm; obtain ⟨r29, hr29, hm⟩ := hm
      refine n_call H rfl en79 (g_slices_EqualFunc_Plan_w (A := A) (hrp0_0.ext RGPlan.mono hS.x) (hrp1_0.ext RGPlan.mono hS.x) (g2 := 80) (fs2 := []) (cp2 := []) (a2 := (fun x0 x1 => g_plan_Same x0 x1)) en80 (fun w1 e1 ds0 x0 ds1 x1 r hd0 hd1 hr => g_plan_Same_w (A := A) hd0 hd1 hr) hr29) rfl ?_
      clear H; intro x32 w30 hv; clear a; intro a H; obtain ⟨rfl, hE31⟩ := hv
      replace hS := hS.ext hE31
      refine n_q H (q_pickT rfl rfl) rfl (W_q (q_move rfl) rfl ?_); clear H a; intro a H
      rcases Bool.eq_false_or_eq_true r29 with hg33 | hg33
      · replace H := H.know 24 rfl hg33
        replace hm := condT hm hg33
        refine n_yes H rfl rfl (n_q H (q_fieldAddr0 rfl fo27_2) rfl (W_yes rfl rfl (W_q (q_load rfl ((hS.blk 1 rfl).ld ag23 rfl)) rfl (W_yes rfl rfl (W_q (q_fieldAddr0 rfl fo27_2) rfl (W_yes rfl rfl (W_q (q_load rfl ((hS.blk 0 rfl).ld ag23 rfl)) rfl (W_yes rfl rfl ?_)))))))); clear H a; intro a H
        replace hm := bindS hm; obtain ⟨r34, hr34, hm⟩ := hm
        refine n_call H rfl en81 (g_slices_Equal_int_w (A := A) (hrp0_1.ext (Flat.mono _) hS.x) (hrp1_1.ext (Flat.mono _) hS.x) hr34) rfl ?_
        clear H; intro x37 w35 hv; clear a; intro a H; obtain ⟨rfl, hE36⟩ := hv
        replace hS := hS.ext hE36
        refine n_q H (q_pickT rfl rfl) rfl (W_q (q_move rfl) rfl ?_); clear H a; intro a H
        rcases Bool.eq_false_or_eq_true r34 with hg38 | hg38
        · replace H := H.know 31 rfl hg38
          replace hm := condT hm hg38
          refine n_yes H rfl rfl (n_q H (q_fieldAddr0 rfl fo27_3) rfl (W_yes rfl rfl (W_q (q_load rfl ((hS.blk 1 rfl).ld ag24 rfl)) rfl (W_yes rfl rfl (W_q (q_fieldAddr0 rfl fo27_3) rfl (W_yes rfl rfl (W_q (q_load rfl ((hS.blk 0 rfl).ld ag24 rfl)) rfl (W_yes rfl rfl ?_)))))))); clear H a; intro a H
          replace hm := bindS hm; obtain ⟨r39, hr39, hm⟩ := hm
          refine n_call H rfl en82 (g_slices_Equal_Window_w (A := A) (hrp0_2.ext (Flat.mono _) hS.x) (hrp1_2.ext (Flat.mono _) hS.x) hr39) rfl ?_
          clear H; intro x42 w40 hv; clear a; intro a H; obtain ⟨rfl, hE41⟩ := hv
          replace hS := hS.ext hE41
          refine n_q H (q_pickT rfl rfl) rfl (W_q (q_move rfl) rfl ?_); clear H a; intro a H
          rcases Bool.eq_false_or_eq_true r39 with hg43 | hg43
          · replace H := H.know 38 rfl hg43
            replace hm := condT hm hg43
            refine n_yes H rfl rfl (n_q H (q_fieldAddr0 rfl fo27_4) rfl (W_yes rfl rfl (W_q (q_load rfl ((hS.blk 1 rfl).ld ag25 rfl)) rfl (W_yes rfl rfl (W_q (q_fieldAddr0 rfl fo27_4) rfl (W_yes rfl rfl (W_q (q_load rfl ((hS.blk 0 rfl).ld ag25 rfl)) rfl (W_yes rfl rfl ?_)))))))); clear H a; intro a H
            replace hm := bindS hm; obtain ⟨r44, hr44, hm⟩ := hm
            refine n_call H rfl en83 (g_slices_Equal_Link_w (A := A) (hrp0_3.ext (Flat.mono _) hS.x) (hrp1_3.ext (Flat.mono _) hS.x) hr44) rfl ?_
            clear H; intro x47 w45 hv; clear a; intro a H; obtain ⟨rfl, hE46⟩ := hv
            replace hS := hS.ext hE46
            refine n_q H (q_pickT rfl rfl) rfl (W_q (q_assign rfl) rfl ?_); clear H a; intro a H
            refine n_nil (then_normal (wp_ret ?_))
            obtain rfl := Option.some.inj hm
            replace hS := hS.take 0; simp only [List.take_succ_cons, List.take_zero] at hS
            refine ret1 H (.inr rfl) rfl rfl ?_
            exact ⟨rfl, hS.x⟩
          · replace H := H.know 38 rfl hg43
            replace hm := condF hm hg43
            refine n_no H rfl rfl (by decide) rfl (W_no rfl rfl (by decide) rfl (W_no rfl rfl (by decide) rfl (W_no rfl rfl (by decide) rfl (W_no rfl rfl (by decide) rfl (W_q (q_pickF rfl rfl) rfl (W_q (q_assign rfl) rfl ?_)))))); clear H a; intro a H
            refine n_nil (then_normal (wp_ret ?_))
            obtain rfl := Option.some.inj hm
            replace hS := hS.take 0; simp only [List.take_succ_cons, List.take_zero] at hS
            refine ret1 H (.inr rfl) rfl rfl ?_
            exact ⟨rfl, hS.x⟩
        · replace H := H.know 31 rfl hg38
          replace hm := condF hm hg38
          refine n_no H rfl rfl (by decide) rfl (W_no rfl rfl (by decide) rfl (W_no rfl rfl (by decide) rfl (W_no rfl rfl (by decide) rfl (W_no rfl rfl (by decide) rfl (W_q (q_pickF rfl rfl) rfl (W_q (q_move rfl) rfl (W_no rfl rfl (by decide) rfl (W_no rfl rfl (by decide) rfl (W_no rfl rfl (by decide) rfl (W_no rfl rfl (by decide) rfl (W_no rfl rfl (by decide) rfl ?_))))))))))); clear H a; intro a H
          refine n_q H (q_pickF rfl rfl) rfl (W_q (q_assign rfl) rfl ?_); clear H a; intro a H
          refine n_nil (then_normal (wp_ret ?_))
          obtain rfl := Option.some.inj hm
          replace hS := hS.take 0; simp only [List.take_succ_cons, List.take_zero] at hS
          refine ret1 H (.inr rfl) rfl rfl ?_
          exact ⟨rfl, hS.x⟩
      · replace H := H.know 24 rfl hg33
        replace hm := condF hm hg33
        refine n_no H rfl rfl (by decide) rfl (W_no rfl rfl (by decide) rfl (W_no rfl rfl (by decide) rfl (W_no rfl rfl (by decide) rfl (W_no rfl rfl (by decide) rfl (W_q (q_pickF rfl rfl) rfl (W_q (q_move rfl) rfl (W_no rfl rfl (by decide) rfl (W_no rfl rfl (by decide) rfl (W_no rfl rfl (by decide) rfl (W_no rfl rfl (by decide) rfl (W_no rfl rfl (by decide) rfl ?_))))))))))); clear H a; intro a H
        refine n_q H (q_pickF rfl rfl) rfl (W_q (q_move rfl) rfl (W_no rfl rfl (by decide) rfl (W_no rfl rfl (by decide) rfl (W_no rfl rfl (by decide) rfl (W_no rfl rfl (by decide) rfl (W_no rfl rfl (by decide) rfl (W_q (q_pickF rfl rfl) rfl (W_q (q_assign rfl) rfl ?_)))))))); clear H a; intro a H
        refine n_nil (then_normal (wp_ret ?_))
        obtain rfl := Option.some.inj hm
        replace hS := hS.take 0; simp only [List.take_succ_cons, List.take_zero] at hS
        refine ret1 H (.inr rfl) rfl rfl ?_
        exact ⟨rfl, hS.x⟩
    · replace H := H.know 17 rfl hg28
      replace hm := condF hm hg28
      refine n_no H rfl rfl (by decide) rfl (W_no rfl rfl (by decide) rfl (W_no rfl rfl (by decide) rfl (W_no rfl rfl (by decide) rfl (W_no rfl rfl (by decide) rfl (W_q (q_pickF rfl rfl) rfl (W_q (q_move rfl) rfl (W_no rfl rfl (by decide) rfl (W_no rfl rfl (by decide) rfl (W_no rfl rfl (by decide) rfl (W_no rfl rfl (by decide) rfl (W_no rfl rfl (by decide) rfl ?_))))))))))); clear H a; intro a H
      refine n_q H (q_pickF rfl rfl) rfl (W_q (q_move rfl) rfl (W_no rfl rfl (by decide) rfl (W_no rfl rfl (by decide) rfl (W_no rfl rfl (by decide) rfl (W_no rfl rfl (by decide) rfl (W_no rfl rfl (by decide) rfl (W_q (q_pickF rfl rfl) rfl (W_q (q_move rfl) rfl (W_no rfl rfl (by decide) rfl (W_no rfl rfl (by decide) rfl (W_no rfl rfl (by decide) rfl ?_))))))))))); clear H a; intro a H
      refine n_no H rfl rfl (by decide) rfl (W_no rfl rfl (by decide) rfl (W_q (q_pickF rfl rfl) rfl (W_q (q_assign rfl) rfl ?_))); clear H a; intro a H
      refine n_nil (then_normal (wp_ret ?_))
      obtain rfl := Option.some.inj hm
      replace hS := hS.take 0; simp only [List.take_succ_cons, List.take_zero] at hS
      refine ret1 H (.inr rfl) rfl rfl ?_
      exact ⟨rfl, hS.x⟩
  · replace H := H.know 10 rfl hg27
    replace hm := condF hm hg27
    refine n_no H rfl rfl (by decide) rfl (W_no rfl rfl (by decide) rfl (W_no rfl rfl (by decide) rfl (W_no rfl rfl (by decide) rfl (W_no rfl rfl (by decide) rfl (W_q (q_pickF rfl rfl) rfl (W_q (q_move rfl) rfl (W_no rfl rfl (by decide) rfl (W_no rfl rfl (by decide) rfl (W_no rfl rfl (by decide) rfl (W_no rfl rfl (by decide) rfl (W_no rfl rfl (by decide) rfl ?_))))))))))); clear H a; intro a H
    refine n_q H (q_pickF rfl rfl) rfl (W_q (q_move rfl) rfl (W_no rfl rfl (by decide) rfl (W_no rfl rfl (by decide) rfl (W_no rfl rfl (by decide) rfl (W_no rfl rfl (by decide) rfl (W_no rfl rfl (by decide) rfl (W_q (q_pickF rfl rfl) rfl (W_q (q_move rfl) rfl (W_no rfl rfl (by decide) rfl (W_no rfl rfl (by decide) rfl (W_no rfl rfl (by decide) rfl ?_))))))))))); clear H a; intro a H
    refine n_no H rfl rfl (by decide) rfl (W_no rfl rfl (by decide) rfl (W_q (q_pickF rfl rfl) rfl (W_q (q_move rfl) rfl (W_no rfl rfl (by decide) rfl (W_no rfl rfl (by decide) rfl (W_no rfl rfl (by decide) rfl (W_no rfl rfl (by decide) rfl (W_no rfl rfl (by decide) rfl (W_q (q_pickF rfl rfl) rfl (W_q (q_assign rfl) rfl ?_)))))))))); clear H a; intro a H
    refine n_nil (then_normal (wp_ret ?_))
    obtain rfl := Option.some.inj hm
    replace hS := hS.take 0; simp only [List.take_succ_cons, List.take_zero] at hS
    refine ret1 H (.inr rfl) rfl rfl ?_
    exact ⟨rfl, hS.x⟩
theorem g_r10_Same_w {w : World} {A : Nat → Addr} {cs0 : List Value} {a0 : GPlan} {cs1 : List Value} {a1 : GPlan} (h0 : RGPlan w cs0 a0) (h1 : RGPlan w cs1 a1) {r : Bool} (hm : g_r10_Same a0 a1 = some r) :
    Calls Tryd.prog 84 [.agg cs0.toArray, .agg cs1.toArray].toArray w (Ret fun u w' => u = .bool r ∧ Ext w w') := by
  obtain ⟨vp0_0, vp0_1, vp0_2, vp0_3, rfl, hrp0_0, hrp0_1, hrp0_2, hrp0_3⟩ := h0
  obtain ⟨vp1_0, vp1_1, vp1_2, vp1_3, rfl, hrp1_0, hrp1_1, hrp1_2, hrp1_3⟩ := h1
  have hS := St.begin NB w
  unfold g_r10_Same at hm
  refine enter Tryd.func84 rfl rfl rfl ?_; intro a H; dsimp only [enumL, Nat.zero_add, Nat.reduceAdd] at H
  refine wp_seq (wp_region_lit (n_box H rfl (cs := [.int .i64 a0.Id, .bool a0.Mobile, vp0_0, vp0_1, vp0_2, .int .i64 a0.Events, vp0_3]) rfl rfl ?_))
  clear H; intro b21 w22 hN hE23 hs; clear a; intro a H
  replace hS := hS.newBlk hN hE23 hs; clear hN hs
  refine n_box H rfl (cs := [.int .i64 a1.Id, .bool a1.Mobile, vp1_0, vp1_1, vp1_2, .int .i64 a1.Events, vp1_3]) rfl rfl ?_
  clear H; intro b24 w25 hN hE26 hs; clear a; intro a H
  replace hS := hS.newBlk hN hE26 hs; clear hN hs
  refine n_q H (q_assign rfl) rfl ?_; clear H a; intro a H
  refine n_nil (then_normal (wp_seq (wp_seq (wp_region_lit (n_c H (fun HC => ?_)))))); clear H
  refine nc_q HC (q_fieldAddr0 rfl fo68_0) rfl (by kernel_rfl) (V_q (q_load rfl ((hS.blk 1 rfl).ld ag3 rfl)) rfl (by kernel_rfl) (V_q (q_fieldAddr0 rfl fo68_0) rfl (by kernel_rfl) (V_q (q_load rfl ((hS.blk 0 rfl).ld ag3 rfl)) rfl (by kernel_rfl) (V_q (q_neqD rfl rfl) rfl (by kernel_rfl) (V_q (q_move rfl) rfl (by kernel_rfl) (V_g (q_fieldAddr0 rfl fo68_1) (by kernel_rfl) (by kernel_rfl) (by kernel_rfl) (V_g (q_load rfl ((hS.blk 1 rfl).ld ag4 rfl)) (by kernel_rfl) (by kernel_rfl) (by kernel_rfl) (V_g (q_fieldAddr0 rfl fo68_1) (by kernel_rfl) (by kernel_rfl) (by kernel_rfl) (V_g (q_load rfl ((hS.blk 0 rfl).ld ag4 rfl)) (by kernel_rfl) (by kernel_rfl) (by kernel_rfl) (V_g (q_neqB Tryd.underlying4 rfl rfl) (by kernel_rfl) (by kernel_rfl) (by kernel_rfl) (V_or (j := 5) rfl rfl rfl (by kernel_rfl) (by kernel_rfl) ?_))))))))))); clear HC a; intro a HC
  refine nc_q HC (q_move rfl) rfl (by kernel_rfl) (V_g (q_fieldAddr0 rfl fo68_5) (by kernel_rfl) (by kernel_rfl) (by kernel_rfl) (V_g (q_load rfl ((hS.blk 1 rfl).ld ag3 rfl)) (by kernel_rfl) (by kernel_rfl) (by kernel_rfl) (V_g (q_fieldAddr0 rfl fo68_5) (by kernel_rfl) (by kernel_rfl) (by kernel_rfl) (V_g (q_load rfl ((hS.blk 0 rfl).ld ag3 rfl)) (by kernel_rfl) (by kernel_rfl) (by kernel_rfl) (V_g (q_neqD rfl rfl) (by kernel_rfl) (by kernel_rfl) (by kernel_rfl) (V_or (j := 12) rfl rfl rfl (by kernel_rfl) (by kernel_rfl) (V_q (q_move rfl) rfl (by kernel_rfl) (V_g (q_fieldAddr0 rfl fo68_2) (by kernel_rfl) (by kernel_rfl) (by kernel_rfl) (V_g (q_load rfl ((hS.blk 1 rfl).ld ag64 rfl)) (by kernel_rfl) (by kernel_rfl) (by kernel_rfl) ?_))))))))); clear HC a; intro a HC
  obtain ⟨A27, c27, hv27, hl27, hm27⟩ := SlR.formV (hrp0_0.ext (Flat.mono _) hS.x)
  refine nc_g HC (q_lenV Tryd.underlying64 rfl hv27) (by kernel_rfl) (by kernel_rfl) (by kernel_rfl) (V_g (q_fieldAddr0 rfl fo68_2) (by kernel_rfl) (by kernel_rfl) (by kernel_rfl) (V_g (q_load rfl ((hS.blk 0 rfl).ld ag64 rfl)) (by kernel_rfl) (by kernel_rfl) (by kernel_rfl) ?_)); clear HC a; intro a HC
  obtain ⟨A28, c28, hv28, hl28, hm28⟩ := SlR.formV (hrp1_0.ext (Flat.mono _) hS.x)
  refine nc_g HC (q_lenV Tryd.underlying64 rfl hv28) (by kernel_rfl) (by kernel_rfl) (by kernel_rfl) (V_g (q_neqN (i := a0.Pages.length) (j := a1.Pages.length) rfl rfl) (by kernel_rfl) (by kernel_rfl) (by kernel_rfl) (V_or (j := 19) rfl rfl rfl (by kernel_rfl) (by kernel_rfl) (V_q (q_move rfl) rfl (by kernel_rfl) (V_g (q_fieldAddr0 rfl fo68_3) (by kernel_rfl) (by kernel_rfl) (by kernel_rfl) (V_g (q_load rfl ((hS.blk 1 rfl).ld ag65 rfl)) (by kernel_rfl) (by kernel_rfl) (by kernel_rfl) ?_))))); clear HC a; intro a HC
  obtain ⟨A29, c29, hv29, hl29, hm29⟩ := SlR.formV (hrp0_1.ext (Flat.mono _) hS.x)
  refine nc_g HC (q_lenV Tryd.underlying65 rfl hv29) (by kernel_rfl) (by kernel_rfl) (by kernel_rfl) (V_g (q_fieldAddr0 rfl fo68_3) (by kernel_rfl) (by kernel_rfl) (by kernel_rfl) (V_g (q_load rfl ((hS.blk 0 rfl).ld ag65 rfl)) (by kernel_rfl) (by kernel_rfl) (by kernel_rfl) ?_)); clear HC a; intro a HC
  obtain ⟨A30, c30, hv30, hl30, hm30⟩ := SlR.formV (hrp1_1.ext (Flat.mono _) hS.x)
  refine nc_g HC (q_lenV Tryd.underlying65 rfl hv30) (by kernel_rfl) (by kernel_rfl) (by kernel_rfl) (V_g (q_neqN (i := a0.Procs.length) (j := a1.Procs.length) rfl rfl) (by kernel_rfl) (by kernel_rfl) (by kernel_rfl) (V_or (j := 28) rfl rfl rfl (by kernel_rfl) (by kernel_rfl) (V_q (q_move rfl) rfl (by kernel_rfl) (V_g (q_fieldAddr0 rfl fo68_4) (by kernel_rfl) (by kernel_rfl) (by kernel_rfl) (V_g (q_load rfl ((hS.blk 1 rfl).ld ag66 rfl)) (by kernel_rfl) (by kernel_rfl) (by kernel_rfl) ?_))))); clear HC a; intro a HC
  obtain ⟨A31, c31, hv31, hl31, hm31⟩ := SlR.formV (hrp0_2.ext (Flat.mono _) hS.x)
  refine nc_g HC (q_lenV Tryd.underlying66 rfl hv31) (by kernel_rfl) (by kernel_rfl) (by kernel_rfl) (V_g (q_fieldAddr0 rfl fo68_4) (by kernel_rfl) (by kernel_rfl) (by kernel_rfl) (V_g (q_load rfl ((hS.blk 0 rfl).ld ag66 rfl)) (by kernel_rfl) (by kernel_rfl) (by kernel_rfl) ?_)); clear HC a; intro a HC
  obtain ⟨A32, c32, hv32, hl32, hm32⟩ := SlR.formV (hrp1_2.ext (Flat.mono _) hS.x)
  refine nc_g HC (q_lenV Tryd.underlying66 rfl hv32) (by kernel_rfl) (by kernel_rfl) (by kernel_rfl) (V_g (q_neqN (i := a0.Ports.length) (j := a1.Ports.length) rfl rfl) (by kernel_rfl) (by kernel_rfl) (by kernel_rfl) (V_or (j := 37) rfl rfl rfl (by kernel_rfl) (by kernel_rfl) (V_q (q_move rfl) rfl (by kernel_rfl) (V_g (q_fieldAddr0 rfl fo68_6) (by kernel_rfl) (by kernel_rfl) (by kernel_rfl) (V_g (q_load rfl ((hS.blk 1 rfl).ld ag23 rfl)) (by kernel_rfl) (by kernel_rfl) (by kernel_rfl) ?_))))); clear HC a; intro a HC
  obtain ⟨A33, c33, hv33, hl33, hm33⟩ := SlR.formV (hrp0_3.ext (Flat.mono _) hS.x)
  refine nc_g HC (q_lenV Tryd.underlying23 rfl hv33) (by kernel_rfl) (by kernel_rfl) (by kernel_rfl) (V_g (q_fieldAddr0 rfl fo68_6) (by kernel_rfl) (by kernel_rfl) (by kernel_rfl) (V_g (q_load rfl ((hS.blk 0 rfl).ld ag23 rfl)) (by kernel_rfl) (by kernel_rfl) (by kernel_rfl) ?_)); clear HC a; intro a HC
  obtain ⟨A34, c34, hv34, hl34, hm34⟩ := SlR.formV (hrp1_3.ext (Flat.mono _) hS.x)
  refine nc_g HC (q_lenV Tryd.underlying23 rfl hv34) (by kernel_rfl) (by kernel_rfl) (by kernel_rfl) (V_g (q_neqN (i := a0.Sems.length) (j := a1.Sems.length) rfl rfl) (by kernel_rfl) (by kernel_rfl) (by kernel_rfl) (V_or (j := 46) rfl rfl rfl (by kernel_rfl) (by kernel_rfl) ?_)); clear HC a; intro a HC
  have H := HC.has; clear HC
  refine n_nil (then_normal (c_cond H rfl (fun hc35 => ?_) (fun hc35 => ?_)))
  · replace hm := condT hm hc35
    refine wp_seq (wp_region_lit (n_q H (q_assign rfl) rfl ?_)); clear H a; intro a H
    refine n_nil (then_normal (wp_ret (then_ret ?_)))
    obtain rfl := Option.some.inj hm
    replace hS := hS.take 0; simp only [List.take_succ_cons, List.take_zero] at hS
    refine ret1 H (.inr rfl) rfl rfl ?_
    exact ⟨rfl, hS.x⟩
  · replace hm := condF hm hc35
    refine wp_skip (then_normal (wp_seq (wp_seq (wp_region_lit (n_q H (q_assign rfl) rfl ?_))))); clear H a; intro a H
    refine n_nil (then_normal (wp_block ?_))
    replace hS := hS.pick 1 rfl; dsimp only [List.eraseIdx] at hS
    replace hm := bindS hm; obtain ⟨q36, hm, hm36⟩ := hm; replace hm := iter_some hm; obtain ⟨n36, hm⟩ := hm
    refine c_loop (σ := Nat × Nat) (fun (m, i37) => [(2, .pointer (some ⟨b21, 0, none⟩)), (3, .pointer (some ⟨b24, 0, none⟩)), (5, .int .i64 ((i37 : Nat) : Int))]) (fun (m, i37) wl => iterN (g_r10_Same_L4 a0 a1) m i37 = some q36 ∧ St NB w wl [blkR b21 [.int .i64 a0.Id, .bool a0.Mobile, vp0_0, vp0_1, vp0_2, .int .i64 a0.Events, vp0_3] 68, blkR b24 [.int .i64 a1.Id, .bool a1.Mobile, vp1_0, vp1_1, vp1_2, .int .i64 a1.Events, vp1_3] 68]) (fun (m, i37) => m) (n36, 0) H ⟨rfl, rfl, rfl, trivial⟩ ⟨hm, hS⟩ ?_
    clear H hS hm a; intro xx a w38 H hR; obtain ⟨m, i37⟩ := xx; simp only [ent, List.map_cons, List.map_nil] at H; (try dsimp only at hR); obtain ⟨hm, hS⟩ := hR
    replace hm := iterN_step hm; obtain ⟨m36, o36, rfl, hm, hn36⟩ := hm; try dsimp only [g_r10_Same_L4] at hm
    refine wp_seq (wp_seq (wp_region_lit (n_q H (q_move rfl) rfl (W_q (q_fieldAddr0 rfl fo68_2) rfl (W_q (q_load rfl ((hS.blk 0 rfl).ld ag64 rfl)) rfl (W_q (q_lenV Tryd.underlying64 rfl hv27) rfl (W_q (q_lssN (i := i37) (j := a0.Pages.length) rfl rfl) rfl ?_))))))); clear H a; intro a H
    refine n_nil (then_normal (c_cond H rfl (fun hc39 => ?_) (fun hc39 => ?_)))
    · replace hm := condT hm hc39
      have hlt40 : i37 < a0.Pages.length := of_decide_eq_true hc39
      refine wp_skip (then_normal (wp_seq (wp_block (wp_seq (c_quiet (by kernel_rfl) (by kernel_rfl) ?_)))))
      refine qq_q H (q_fieldAddr0 rfl fo68_2) rfl ?_; clear H a; intro a H
      refine qq_q H (q_load rfl ((hS.blk 0 rfl).ld ag64 rfl)) rfl ?_; clear H a; intro a H
      refine qq_q H (q_move rfl) rfl ?_; clear H a; intro a H
      replace hm := bindS hm; obtain ⟨x41, hx41, hm⟩ := hm
      obtain ⟨adx41, hAx41⟩ := SlR.adV (hrp0_0.ext (Flat.mono _) hS.x) hv27 hx41
      refine qq_q H (q_ixV (i := i37) Tryd.underlying64 sz87 rfl hv27 hAx41 rfl (natI hx41)) rfl ?_; clear H a; intro a H
      refine qq_q H (q_load rfl (SlR.ldAggV (hrp0_0.ext (Flat.mono _) hS.x) hv27 hAx41 ag87 sz87 hx41)) rfl ?_; clear H a; intro a H
      refine qq_q H (q_fieldAddr0 rfl fo68_2) rfl ?_; clear H a; intro a H
      refine qq_q H (q_load rfl ((hS.blk 1 rfl).ld ag64 rfl)) rfl ?_; clear H a; intro a H
      refine qq_q H (q_move rfl) rfl ?_; clear H a; intro a H
      replace hm := bindS hm; obtain ⟨x42, hx42, hm⟩ := hm
      obtain ⟨adx42, hAx42⟩ := SlR.adV (hrp1_0.ext (Flat.mono _) hS.x) hv28 hx42
      refine qq_q H (q_ixV (i := i37) Tryd.underlying64 sz87 rfl hv28 hAx42 rfl (natI hx42)) rfl ?_; clear H a; intro a H
      refine qq_q H (q_load rfl (SlR.ldAggV (hrp1_0.ext (Flat.mono _) hS.x) hv28 hAx42 ag87 sz87 hx42)) rfl ?_; clear H a; intro a H
      refine qq_q H (q_neqG (structB_guard st87) (eqInGPagePlan x41 x42) (by omega) rfl rfl) rfl ?_; clear H a; intro a H
      refine qq_nil ?_; intro w43 hE44
      replace hS := hS.ext hE44
      refine then_normal (c_cond H rfl (fun hc45 => ?_) (fun hc45 => ?_))
      · replace hm := condT hm hc45
        refine wp_seq (wp_region_lit (n_q H (q_assign rfl) rfl ?_)); clear H a; intro a H
        refine n_nil (then_normal (wp_ret (block_ret (then_ret (then_ret (block_ret (then_ret ?_)))))))
        obtain rfl := Option.some.inj hm; have hz : _ = q36 := hn36; subst hz; replace hm := hm36; try dsimp only at hm
        obtain rfl := Option.some.inj hm
        replace hS := hS.take 0; simp only [List.take_succ_cons, List.take_zero] at hS
        refine ret1 H (.inr rfl) rfl rfl ?_
        exact ⟨rfl, hS.x⟩
      · replace hm := condF hm hc45
        refine wp_skip (block_normal (then_normal (wp_region_lit (n_q H (q_move rfl) rfl (W_q (q_incr (i := i37) (j := 1) rfl rfl (by omega)) rfl (W_q (q_assign rfl) rfl ?_)))))); clear H a; intro a H
        refine n_nil (then_normal ?_)
        obtain rfl := Option.some.inj hm
        exact round (m36, i37 + 1) H ⟨rfl, rfl, rfl, trivial⟩ ⟨hn36, hS⟩ (Nat.lt_succ_self _)
    · replace hm := condF hm hc39
      refine wp_exit (then_exit (then_exit (block_exit ?_)))
      obtain rfl := Option.some.inj hm; have hz : _ = q36 := hn36; subst hz; replace hm := hm36; try dsimp only at hm
      refine then_normal (wp_seq (wp_seq (wp_region_lit (n_q H (q_assign rfl) rfl ?_)))); clear H a; intro a H
      refine n_nil (then_normal (wp_block ?_))
      replace hm := bindS hm; obtain ⟨q46, hm, hm46⟩ := hm; replace hm := iter_some hm; obtain ⟨n46, hm⟩ := hm
      refine c_loop (σ := Nat × Nat) (fun (m, i47) => [(2, .pointer (some ⟨b21, 0, none⟩)), (3, .pointer (some ⟨b24, 0, none⟩)), (6, .int .i64 ((i47 : Nat) : Int))]) (fun (m, i47) wl => iterN (g_r10_Same_L3 a0 a1) m i47 = some q46 ∧ St NB w wl [blkR b21 [.int .i64 a0.Id, .bool a0.Mobile, vp0_0, vp0_1, vp0_2, .int .i64 a0.Events, vp0_3] 68, blkR b24 [.int .i64 a1.Id, .bool a1.Mobile, vp1_0, vp1_1, vp1_2, .int .i64 a1.Events, vp1_3] 68]) (fun (m, i47) => m) (n46, 0) H ⟨rfl, rfl, rfl, trivial⟩ ⟨hm, hS⟩ ?_
      clear H hS hm a; intro xx a w48 H hR; obtain ⟨m, i47⟩ := xx; simp only [ent, List.map_cons, List.map_nil] at H; (try dsimp only at hR); obtain ⟨hm, hS⟩ := hR
      replace hm := iterN_step hm; obtain ⟨m46, o46, rfl, hm, hn46⟩ := hm; try dsimp only [g_r10_Same_L3] at hm
      refine wp_seq (wp_seq (wp_region_lit (n_q H (q_move rfl) rfl (W_q (q_fieldAddr0 rfl fo68_3) rfl (W_q (q_load rfl ((hS.blk 0 rfl).ld ag65 rfl)) rfl (W_q (q_lenV Tryd.underlying65 rfl hv29) rfl (W_q (q_lssN (i := i47) (j := a0.Procs.length) rfl rfl) rfl ?_))))))); clear H a; intro a H
      refine n_nil (then_normal (c_cond H rfl (fun hc49 => ?_) (fun hc49 => ?_)))
      · replace hm := condT hm hc49
        have hlt50 : i47 < a0.Procs.length := of_decide_eq_true hc49
        refine wp_skip (then_normal (wp_seq (wp_block (wp_seq (c_quiet (by kernel_rfl) (by kernel_rfl) ?_)))))
        refine qq_q H (q_fieldAddr0 rfl fo68_3) rfl ?_; clear H a; intro a H
        refine qq_q H (q_load rfl ((hS.blk 0 rfl).ld ag65 rfl)) rfl ?_; clear H a; intro a H
        refine qq_q H (q_move rfl) rfl ?_; clear H a; intro a H
        replace hm := bindS hm; obtain ⟨x51, hx51, hm⟩ := hm
        obtain ⟨adx51, hAx51⟩ := SlR.adV (hrp0_1.ext (Flat.mono _) hS.x) hv29 hx51
        refine qq_q H (q_ixV (i := i47) Tryd.underlying65 sz167 rfl hv29 hAx51 rfl (natI hx51)) rfl ?_; clear H a; intro a H
        refine qq_q H (q_load rfl (SlR.ldAggV (hrp0_1.ext (Flat.mono _) hS.x) hv29 hAx51 ag167 sz167 hx51)) rfl ?_; clear H a; intro a H
        refine qq_q H (q_fieldAddr0 rfl fo68_3) rfl ?_; clear H a; intro a H
        refine qq_q H (q_load rfl ((hS.blk 1 rfl).ld ag65 rfl)) rfl ?_; clear H a; intro a H
        refine qq_q H (q_move rfl) rfl ?_; clear H a; intro a H
        replace hm := bindS hm; obtain ⟨x52, hx52, hm⟩ := hm
        obtain ⟨adx52, hAx52⟩ := SlR.adV (hrp1_1.ext (Flat.mono _) hS.x) hv30 hx52
        refine qq_q H (q_ixV (i := i47) Tryd.underlying65 sz167 rfl hv30 hAx52 rfl (natI hx52)) rfl ?_; clear H a; intro a H
        refine qq_q H (q_load rfl (SlR.ldAggV (hrp1_1.ext (Flat.mono _) hS.x) hv30 hAx52 ag167 sz167 hx52)) rfl ?_; clear H a; intro a H
        refine qq_q H (q_neqG (structB_guard st167) (eqInGProcPlan x51 x52) (by omega) rfl rfl) rfl ?_; clear H a; intro a H
        refine qq_nil ?_; intro w53 hE54
        replace hS := hS.ext hE54
        refine then_normal (c_cond H rfl (fun hc55 => ?_) (fun hc55 => ?_))
        · replace hm := condT hm hc55
          refine wp_seq (wp_region_lit (n_q H (q_assign rfl) rfl ?_)); clear H a; intro a H
          refine n_nil (then_normal (wp_ret (block_ret (then_ret (then_ret (block_ret (then_ret ?_)))))))
          obtain rfl := Option.some.inj hm; have hz : _ = q46 := hn46; subst hz; replace hm := hm46; try dsimp only at hm
          obtain rfl := Option.some.inj hm
          replace hS := hS.take 0; simp only [List.take_succ_cons, List.take_zero] at hS
          refine ret1 H (.inr rfl) rfl rfl ?_
          exact ⟨rfl, hS.x⟩
        · replace hm := condF hm hc55
          refine wp_skip (block_normal (then_normal (wp_region_lit (n_q H (q_move rfl) rfl (W_q (q_incr (i := i47) (j := 1) rfl rfl (by omega)) rfl (W_q (q_assign rfl) rfl ?_)))))); clear H a; intro a H
          refine n_nil (then_normal ?_)
          obtain rfl := Option.some.inj hm
          exact round (m46, i47 + 1) H ⟨rfl, rfl, rfl, trivial⟩ ⟨hn46, hS⟩ (Nat.lt_succ_self _)
      · replace hm := condF hm hc49
        refine wp_exit (then_exit (then_exit (block_exit ?_)))
        obtain rfl := Option.some.inj hm; have hz : _ = q46 := hn46; subst hz; replace hm := hm46; try dsimp only at hm
        refine then_normal (wp_seq (wp_seq (wp_region_lit (n_q H (q_assign rfl) rfl ?_)))); clear H a; intro a H
        refine n_nil (then_normal (wp_block ?_))
        replace hm := bindS hm; obtain ⟨q56, hm, hm56⟩ := hm; replace hm := iter_some hm; obtain ⟨n56, hm⟩ := hm
        refine c_loop (σ := Nat × Nat) (fun (m, i57) => [(2, .pointer (some ⟨b21, 0, none⟩)), (3, .pointer (some ⟨b24, 0, none⟩)), (7, .int .i64 ((i57 : Nat) : Int))]) (fun (m, i57) wl => iterN (g_r10_Same_L2 a0 a1) m i57 = some q56 ∧ St NB w wl [blkR b21 [.int .i64 a0.Id, .bool a0.Mobile, vp0_0, vp0_1, vp0_2, .int .i64 a0.Events, vp0_3] 68, blkR b24 [.int .i64 a1.Id, .bool a1.Mobile, vp1_0, vp1_1, vp1_2, .int .i64 a1.Events, vp1_3] 68]) (fun (m, i57) => m) (n56, 0) H ⟨rfl, rfl, rfl, trivial⟩ ⟨hm, hS⟩ ?_
        clear H hS hm a; intro xx a w58 H hR; obtain ⟨m, i57⟩ := xx; simp only [ent, List.map_cons, List.map_nil] at H; (try dsimp only at hR); obtain ⟨hm, hS⟩ := hR
        replace hm := iterN_step hm; obtain ⟨m56, o56, rfl, hm, hn56⟩ := hm; try dsimp only [g_r10_Same_L2] at hm
        refine wp_seq (wp_seq (wp_region_lit (n_q H (q_move rfl) rfl (W_q (q_fieldAddr0 rfl fo68_4) rfl (W_q (q_load rfl ((hS.blk 0 rfl).ld ag66 rfl)) rfl (W_q (q_lenV Tryd.underlying66 rfl hv31) rfl (W_q (q_lssN (i := i57) (j := a0.Ports.length) rfl rfl) rfl ?_))))))); clear H a; intro a H
        refine n_nil (then_normal (c_cond H rfl (fun hc59 => ?_) (fun hc59 => ?_)))
        · replace hm := condT hm hc59
          have hlt60 : i57 < a0.Ports.length := of_decide_eq_true hc59
          refine wp_skip (then_normal (wp_seq (wp_block (wp_seq (c_quiet (by kernel_rfl) (by kernel_rfl) ?_)))))
          refine qq_q H (q_fieldAddr0 rfl fo68_4) rfl ?_; clear H a; intro a H
          refine qq_q H (q_load rfl ((hS.blk 0 rfl).ld ag66 rfl)) rfl ?_; clear H a; intro a H
          refine qq_q H (q_move rfl) rfl ?_; clear H a; intro a H
          replace hm := bindS hm; obtain ⟨x61, hx61, hm⟩ := hm
          obtain ⟨adx61, hAx61⟩ := SlR.adV (hrp0_2.ext (Flat.mono _) hS.x) hv31 hx61
          refine qq_q H (q_ixV (i := i57) Tryd.underlying66 sz169 rfl hv31 hAx61 rfl (natI hx61)) rfl ?_; clear H a; intro a H
          refine qq_q H (q_load rfl (SlR.ldAggV (hrp0_2.ext (Flat.mono _) hS.x) hv31 hAx61 ag169 sz169 hx61)) rfl ?_; clear H a; intro a H
          refine qq_q H (q_fieldAddr0 rfl fo68_4) rfl ?_; clear H a; intro a H
          refine qq_q H (q_load rfl ((hS.blk 1 rfl).ld ag66 rfl)) rfl ?_; clear H a; intro a H
          refine qq_q H (q_move rfl) rfl ?_; clear H a; intro a H
          replace hm := bindS hm; obtain ⟨x62, hx62, hm⟩ := hm
          obtain ⟨adx62, hAx62⟩ := SlR.adV (hrp1_2.ext (Flat.mono _) hS.x) hv32 hx62
          refine qq_q H (q_ixV (i := i57) Tryd.underlying66 sz169 rfl hv32 hAx62 rfl (natI hx62)) rfl ?_; clear H a; intro a H
          refine qq_q H (q_load rfl (SlR.ldAggV (hrp1_2.ext (Flat.mono _) hS.x) hv32 hAx62 ag169 sz169 hx62)) rfl ?_; clear H a; intro a H
          refine qq_q H (q_neqG (structB_guard st169) (eqInGPortPlan x61 x62) (by omega) rfl rfl) rfl ?_; clear H a; intro a H
          refine qq_nil ?_; intro w63 hE64
          replace hS := hS.ext hE64
          refine then_normal (c_cond H rfl (fun hc65 => ?_) (fun hc65 => ?_))
          · replace hm := condT hm hc65
            refine wp_seq (wp_region_lit (n_q H (q_assign rfl) rfl ?_)); clear H a; intro a H
            refine n_nil (then_normal (wp_ret (block_ret (then_ret (then_ret (block_ret (then_ret ?_)))))))
            obtain rfl := Option.some.inj hm; have hz : _ = q56 := hn56; subst hz; replace hm := hm56; try dsimp only at hm
            obtain rfl := Option.some.inj hm
            replace hS := hS.take 0; simp only [List.take_succ_cons, List.take_zero] at hS
            refine ret1 H (.inr rfl) rfl rfl ?_
            exact ⟨rfl, hS.x⟩
          · replace hm := condF hm hc65
            refine wp_skip (block_normal (then_normal (wp_region_lit (n_q H (q_move rfl) rfl (W_q (q_incr (i := i57) (j := 1) rfl rfl (by omega)) rfl (W_q (q_assign rfl) rfl ?_)))))); clear H a; intro a H
            refine n_nil (then_normal ?_)
            obtain rfl := Option.some.inj hm
            exact round (m56, i57 + 1) H ⟨rfl, rfl, rfl, trivial⟩ ⟨hn56, hS⟩ (Nat.lt_succ_self _)
        · replace hm := condF hm hc59
          refine wp_exit (then_exit (then_exit (block_exit ?_)))
          obtain rfl := Option.some.inj hm; have hz : _ = q56 := hn56; subst hz; replace hm := hm56; try dsimp only at hm
          refine then_normal (wp_seq (wp_seq (wp_region_lit (n_q H (q_assign rfl) rfl ?_)))); clear H a; intro a H
          refine n_nil (then_normal (wp_block ?_))
          replace hm := bindS hm; obtain ⟨q66, hm, hm66⟩ := hm; replace hm := iter_some hm; obtain ⟨n66, hm⟩ := hm
          refine c_loop (σ := Nat × Nat) (fun (m, i67) => [(2, .pointer (some ⟨b21, 0, none⟩)), (3, .pointer (some ⟨b24, 0, none⟩)), (8, .int .i64 ((i67 : Nat) : Int))]) (fun (m, i67) wl => iterN (g_r10_Same_L1 a0 a1) m i67 = some q66 ∧ St NB w wl [blkR b21 [.int .i64 a0.Id, .bool a0.Mobile, vp0_0, vp0_1, vp0_2, .int .i64 a0.Events, vp0_3] 68, blkR b24 [.int .i64 a1.Id, .bool a1.Mobile, vp1_0, vp1_1, vp1_2, .int .i64 a1.Events, vp1_3] 68]) (fun (m, i67) => m) (n66, 0) H ⟨rfl, rfl, rfl, trivial⟩ ⟨hm, hS⟩ ?_
          clear H hS hm a; intro xx a w68 H hR; obtain ⟨m, i67⟩ := xx; simp only [ent, List.map_cons, List.map_nil] at H; (try dsimp only at hR); obtain ⟨hm, hS⟩ := hR
          replace hm := iterN_step hm; obtain ⟨m66, o66, rfl, hm, hn66⟩ := hm; try dsimp only [g_r10_Same_L1] at hm
          refine wp_seq (wp_seq (wp_region_lit (n_q H (q_move rfl) rfl (W_q (q_fieldAddr0 rfl fo68_6) rfl (W_q (q_load rfl ((hS.blk 0 rfl).ld ag23 rfl)) rfl (W_q (q_lenV Tryd.underlying23 rfl hv33) rfl (W_q (q_lssN (i := i67) (j := a0.Sems.length) rfl rfl) rfl ?_))))))); clear H a; intro a H
          refine n_nil (then_normal (c_cond H rfl (fun hc69 => ?_) (fun hc69 => ?_)))
          · replace hm := condT hm hc69
            have hlt70 : i67 < a0.Sems.length := of_decide_eq_true hc69
            refine wp_skip (then_normal (wp_seq (wp_block (wp_seq (c_quiet (by kernel_rfl) (by kernel_rfl) ?_)))))
            refine qq_q H (q_fieldAddr0 rfl fo68_6) rfl ?_; clear H a; intro a H
            refine qq_q H (q_load rfl ((hS.blk 0 rfl).ld ag23 rfl)) rfl ?_; clear H a; intro a H
            refine qq_q H (q_move rfl) rfl ?_; clear H a; intro a H
            replace hm := bindS hm; obtain ⟨x71, hx71, hm⟩ := hm
            obtain ⟨adx71, hAx71⟩ := SlR.adV (hrp0_3.ext (Flat.mono _) hS.x) hv33 hx71
            refine qq_q H (q_ixV (i := i67) Tryd.underlying23 sz3 rfl hv33 hAx71 rfl (natI hx71)) rfl ?_; clear H a; intro a H
            refine qq_q H (q_load rfl (SlR.ldOneV (hrp0_3.ext (Flat.mono _) hS.x) hv33 hAx71 ag3 hx71 rfl)) rfl ?_; clear H a; intro a H
            refine qq_q H (q_fieldAddr0 rfl fo68_6) rfl ?_; clear H a; intro a H
            refine qq_q H (q_load rfl ((hS.blk 1 rfl).ld ag23 rfl)) rfl ?_; clear H a; intro a H
            refine qq_q H (q_move rfl) rfl ?_; clear H a; intro a H
            replace hm := bindS hm; obtain ⟨x72, hx72, hm⟩ := hm
            obtain ⟨adx72, hAx72⟩ := SlR.adV (hrp1_3.ext (Flat.mono _) hS.x) hv34 hx72
            refine qq_q H (q_ixV (i := i67) Tryd.underlying23 sz3 rfl hv34 hAx72 rfl (natI hx72)) rfl ?_; clear H a; intro a H
            refine qq_q H (q_load rfl (SlR.ldOneV (hrp1_3.ext (Flat.mono _) hS.x) hv34 hAx72 ag3 hx72 rfl)) rfl ?_; clear H a; intro a H
            refine qq_q H (q_neqD rfl rfl) rfl ?_; clear H a; intro a H
            refine qq_nil ?_; intro w73 hE74
            replace hS := hS.ext hE74
            refine then_normal (c_cond H rfl (fun hc75 => ?_) (fun hc75 => ?_))
            · replace hm := condT hm hc75
              refine wp_seq (wp_region_lit (n_q H (q_assign rfl) rfl ?_)); clear H a; intro a H
              refine n_nil (then_normal (wp_ret (block_ret (then_ret (then_ret (block_ret (then_ret ?_)))))))
              obtain rfl := Option.some.inj hm; have hz : _ = q66 := hn66; subst hz; replace hm := hm66; try dsimp only at hm
              obtain rfl := Option.some.inj hm
              replace hS := hS.take 0; simp only [List.take_succ_cons, List.take_zero] at hS
              refine ret1 H (.inr rfl) rfl rfl ?_
              exact ⟨rfl, hS.x⟩
            · replace hm := condF hm hc75
              refine wp_skip (block_normal (then_normal (wp_region_lit (n_q H (q_move rfl) rfl (W_q (q_incr (i := i67) (j := 1) rfl rfl (by omega)) rfl (W_q (q_assign rfl) rfl ?_)))))); clear H a; intro a H
              refine n_nil (then_normal ?_)
              obtain rfl := Option.some.inj hm
              exact round (m66, i67 + 1) H ⟨rfl, rfl, rfl, trivial⟩ ⟨hn66, hS⟩ (Nat.lt_succ_self _)
          · replace hm := condF hm hc69
            refine wp_exit (then_exit (then_exit (block_exit ?_)))
            obtain rfl := Option.some.inj hm; have hz : _ = q66 := hn66; subst hz; replace hm := hm66; try dsimp only at hm
            refine then_normal (wp_seq (wp_region_lit (n_q H (q_assign rfl) rfl ?_))); clear H a; intro a H
            refine n_nil (then_normal (wp_ret ?_))
            obtain rfl := Option.some.inj hm
            replace hS := hS.take 0; simp only [List.take_succ_cons, List.take_zero] at hS
            refine ret1 H (.inr rfl) rfl rfl ?_
            exact ⟨rfl, hS.x⟩
theorem g_r14_Same_w {w : World} {A : Nat → Addr} {cs0 : List Value} {a0 : GConfig} {cs1 : List Value} {a1 : GConfig} (h0 : RGConfig w cs0 a0) (h1 : RGConfig w cs1 a1) {r : Bool} (hm : g_r14_Same a0 a1 = some r) :
    Calls Tryd.prog 44 [.agg cs0.toArray, .agg cs1.toArray].toArray w (Ret fun u w' => u = .bool r ∧ Ext w w') := by
  obtain ⟨vp0_0, vp0_1, vp0_2, vp0_3, rfl, hrp0_0, hrp0_1, hrp0_2, hrp0_3⟩ := h0
  obtain ⟨vp1_0, vp1_1, vp1_2, vp1_3, rfl, hrp1_0, hrp1_1, hrp1_2, hrp1_3⟩ := h1
  have hS := St.begin NB w
  unfold g_r14_Same at hm
  refine enter Tryd.func44 rfl rfl rfl ?_; intro a H; dsimp only [enumL, Nat.zero_add, Nat.reduceAdd] at H
  refine wp_seq (wp_region_lit (n_box H rfl (cs := [.int .i64 a0.Ticks, vp0_0, vp0_1, vp0_2, vp0_3, .int .i64 a0.Tries]) rfl rfl ?_))
  clear H; intro b21 w22 hN hE23 hs; clear a; intro a H
  replace hS := hS.newBlk hN hE23 hs; clear hN hs
  refine n_box H rfl (cs := [.int .i64 a1.Ticks, vp1_0, vp1_1, vp1_2, vp1_3, .int .i64 a1.Tries]) rfl rfl ?_
  clear H; intro b24 w25 hN hE26 hs; clear a; intro a H
  replace hS := hS.newBlk hN hE26 hs; clear hN hs
  refine n_q H (q_assign rfl) rfl ?_; clear H a; intro a H
  refine n_nil (then_normal (wp_seq (wp_seq (wp_region_lit (n_c H (fun HC => ?_)))))); clear H
  refine nc_q HC (q_fieldAddr0 rfl fo27_0) rfl (by kernel_rfl) (V_q (q_load rfl ((hS.blk 1 rfl).ld ag3 rfl)) rfl (by kernel_rfl) (V_q (q_fieldAddr0 rfl fo27_0) rfl (by kernel_rfl) (V_q (q_load rfl ((hS.blk 0 rfl).ld ag3 rfl)) rfl (by kernel_rfl) (V_q (q_neqD rfl rfl) rfl (by kernel_rfl) (V_q (q_move rfl) rfl (by kernel_rfl) (V_g (q_fieldAddr0 rfl fo27_5) (by kernel_rfl) (by kernel_rfl) (by kernel_rfl) (V_g (q_load rfl ((hS.blk 1 rfl).ld ag3 rfl)) (by kernel_rfl) (by kernel_rfl) (by kernel_rfl) (V_g (q_fieldAddr0 rfl fo27_5) (by kernel_rfl) (by kernel_rfl) (by kernel_rfl) (V_g (q_load rfl ((hS.blk 0 rfl).ld ag3 rfl)) (by kernel_rfl) (by kernel_rfl) (by kernel_rfl) (V_g (q_neqD rfl rfl) (by kernel_rfl) (by kernel_rfl) (by kernel_rfl) (V_or (j := 5) rfl rfl rfl (by kernel_rfl) (by kernel_rfl) ?_))))))))))); clear HC a; intro a HC
  refine nc_q HC (q_move rfl) rfl (by kernel_rfl) (V_g (q_fieldAddr0 rfl fo27_1) (by kernel_rfl) (by kernel_rfl) (by kernel_rfl) (V_g (q_load rfl ((hS.blk 1 rfl).ld ag22 rfl)) (by kernel_rfl) (by kernel_rfl) (by kernel_rfl) ?_)); clear HC a; intro a HC
  obtain ⟨A27, c27, hv27, hl27, hm27⟩ := SlR.formV (hrp0_0.ext RGPlan.mono hS.x)
  refine nc_g HC (q_lenV Tryd.underlying22 rfl hv27) (by kernel_rfl) (by kernel_rfl) (by kernel_rfl) (V_g (q_fieldAddr0 rfl fo27_1) (by kernel_rfl) (by kernel_rfl) (by kernel_rfl) (V_g (q_load rfl ((hS.blk 0 rfl).ld ag22 rfl)) (by kernel_rfl) (by kernel_rfl) (by kernel_rfl) ?_)); clear HC a; intro a HC
  obtain ⟨A28, c28, hv28, hl28, hm28⟩ := SlR.formV (hrp1_0.ext RGPlan.mono hS.x)
  refine nc_g HC (q_lenV Tryd.underlying22 rfl hv28) (by kernel_rfl) (by kernel_rfl) (by kernel_rfl) (V_g (q_neqN (i := a0.Parts.length) (j := a1.Parts.length) rfl rfl) (by kernel_rfl) (by kernel_rfl) (by kernel_rfl) (V_or (j := 12) rfl rfl rfl (by kernel_rfl) (by kernel_rfl) (V_q (q_move rfl) rfl (by kernel_rfl) (V_g (q_fieldAddr0 rfl fo27_2) (by kernel_rfl) (by kernel_rfl) (by kernel_rfl) (V_g (q_load rfl ((hS.blk 1 rfl).ld ag23 rfl)) (by kernel_rfl) (by kernel_rfl) (by kernel_rfl) ?_))))); clear HC a; intro a HC
  obtain ⟨A29, c29, hv29, hl29, hm29⟩ := SlR.formV (hrp0_1.ext (Flat.mono _) hS.x)
  refine nc_g HC (q_lenV Tryd.underlying23 rfl hv29) (by kernel_rfl) (by kernel_rfl) (by kernel_rfl) (V_g (q_fieldAddr0 rfl fo27_2) (by kernel_rfl) (by kernel_rfl) (by kernel_rfl) (V_g (q_load rfl ((hS.blk 0 rfl).ld ag23 rfl)) (by kernel_rfl) (by kernel_rfl) (by kernel_rfl) ?_)); clear HC a; intro a HC
  obtain ⟨A30, c30, hv30, hl30, hm30⟩ := SlR.formV (hrp1_1.ext (Flat.mono _) hS.x)
  refine nc_g HC (q_lenV Tryd.underlying23 rfl hv30) (by kernel_rfl) (by kernel_rfl) (by kernel_rfl) (V_g (q_neqN (i := a0.Homes.length) (j := a1.Homes.length) rfl rfl) (by kernel_rfl) (by kernel_rfl) (by kernel_rfl) (V_or (j := 21) rfl rfl rfl (by kernel_rfl) (by kernel_rfl) (V_q (q_move rfl) rfl (by kernel_rfl) (V_g (q_fieldAddr0 rfl fo27_3) (by kernel_rfl) (by kernel_rfl) (by kernel_rfl) (V_g (q_load rfl ((hS.blk 1 rfl).ld ag24 rfl)) (by kernel_rfl) (by kernel_rfl) (by kernel_rfl) ?_))))); clear HC a; intro a HC
  obtain ⟨A31, c31, hv31, hl31, hm31⟩ := SlR.formV (hrp0_2.ext (Flat.mono _) hS.x)
  refine nc_g HC (q_lenV Tryd.underlying24 rfl hv31) (by kernel_rfl) (by kernel_rfl) (by kernel_rfl) (V_g (q_fieldAddr0 rfl fo27_3) (by kernel_rfl) (by kernel_rfl) (by kernel_rfl) (V_g (q_load rfl ((hS.blk 0 rfl).ld ag24 rfl)) (by kernel_rfl) (by kernel_rfl) (by kernel_rfl) ?_)); clear HC a; intro a HC
  obtain ⟨A32, c32, hv32, hl32, hm32⟩ := SlR.formV (hrp1_2.ext (Flat.mono _) hS.x)
  refine nc_g HC (q_lenV Tryd.underlying24 rfl hv32) (by kernel_rfl) (by kernel_rfl) (by kernel_rfl) (V_g (q_neqN (i := a0.Windows.length) (j := a1.Windows.length) rfl rfl) (by kernel_rfl) (by kernel_rfl) (by kernel_rfl) (V_or (j := 30) rfl rfl rfl (by kernel_rfl) (by kernel_rfl) (V_q (q_move rfl) rfl (by kernel_rfl) (V_g (q_fieldAddr0 rfl fo27_4) (by kernel_rfl) (by kernel_rfl) (by kernel_rfl) (V_g (q_load rfl ((hS.blk 1 rfl).ld ag25 rfl)) (by kernel_rfl) (by kernel_rfl) (by kernel_rfl) ?_))))); clear HC a; intro a HC
  obtain ⟨A33, c33, hv33, hl33, hm33⟩ := SlR.formV (hrp0_3.ext (Flat.mono _) hS.x)
  refine nc_g HC (q_lenV Tryd.underlying25 rfl hv33) (by kernel_rfl) (by kernel_rfl) (by kernel_rfl) (V_g (q_fieldAddr0 rfl fo27_4) (by kernel_rfl) (by kernel_rfl) (by kernel_rfl) (V_g (q_load rfl ((hS.blk 0 rfl).ld ag25 rfl)) (by kernel_rfl) (by kernel_rfl) (by kernel_rfl) ?_)); clear HC a; intro a HC
  obtain ⟨A34, c34, hv34, hl34, hm34⟩ := SlR.formV (hrp1_3.ext (Flat.mono _) hS.x)
  refine nc_g HC (q_lenV Tryd.underlying25 rfl hv34) (by kernel_rfl) (by kernel_rfl) (by kernel_rfl) (V_g (q_neqN (i := a0.Links.length) (j := a1.Links.length) rfl rfl) (by kernel_rfl) (by kernel_rfl) (by kernel_rfl) (V_or (j := 39) rfl rfl rfl (by kernel_rfl) (by kernel_rfl) ?_)); clear HC a; intro a HC
  have H := HC.has; clear HC
  refine n_nil (then_normal (c_cond H rfl (fun hc35 => ?_) (fun hc35 => ?_)))
  · replace hm := condT hm hc35
    refine wp_seq (wp_region_lit (n_q H (q_assign rfl) rfl ?_)); clear H a; intro a H
    refine n_nil (then_normal (wp_ret (then_ret ?_)))
    obtain rfl := Option.some.inj hm
    replace hS := hS.take 0; simp only [List.take_succ_cons, List.take_zero] at hS
    refine ret1 H (.inr rfl) rfl rfl ?_
    exact ⟨rfl, hS.x⟩
  · replace hm := condF hm hc35
    refine wp_skip (then_normal (wp_seq (wp_seq (wp_region_lit (n_q H (q_assign rfl) rfl ?_))))); clear H a; intro a H
    refine n_nil (then_normal (wp_block ?_))
    replace hS := hS.pick 1 rfl; dsimp only [List.eraseIdx] at hS
    replace hm := bindS hm; obtain ⟨q36, hm, hm36⟩ := hm; replace hm := iter_some hm; obtain ⟨n36, hm⟩ := hm
    refine c_loop (σ := Nat × Nat) (fun (m, i37) => [(2, .pointer (some ⟨b21, 0, none⟩)), (3, .pointer (some ⟨b24, 0, none⟩)), (5, .int .i64 ((i37 : Nat) : Int))]) (fun (m, i37) wl => iterN (g_r14_Same_L4 a0 a1) m i37 = some q36 ∧ St NB w wl [blkR b21 [.int .i64 a0.Ticks, vp0_0, vp0_1, vp0_2, vp0_3, .int .i64 a0.Tries] 27, blkR b24 [.int .i64 a1.Ticks, vp1_0, vp1_1, vp1_2, vp1_3, .int .i64 a1.Tries] 27]) (fun (m, i37) => m) (n36, 0) H ⟨rfl, rfl, rfl, trivial⟩ ⟨hm, hS⟩ ?_
    clear H hS hm a; intro xx a w38 H hR; obtain ⟨m, i37⟩ := xx; simp only [ent, List.map_cons, List.map_nil] at H; (try dsimp only at hR); obtain ⟨hm, hS⟩ := hR
    replace hm := iterN_step hm; obtain ⟨m36, o36, rfl, hm, hn36⟩ := hm; try dsimp only [g_r14_Same_L4] at hm
    refine wp_seq (wp_seq (wp_region_lit (n_q H (q_move rfl) rfl (W_q (q_fieldAddr0 rfl fo27_1) rfl (W_q (q_load rfl ((hS.blk 0 rfl).ld ag22 rfl)) rfl (W_q (q_lenV Tryd.underlying22 rfl hv27) rfl (W_q (q_lssN (i := i37) (j := a0.Parts.length) rfl rfl) rfl ?_))))))); clear H a; intro a H
    refine n_nil (then_normal (c_cond H rfl (fun hc39 => ?_) (fun hc39 => ?_)))
    · replace hm := condT hm hc39
      have hlt40 : i37 < a0.Parts.length := of_decide_eq_true hc39
      refine wp_skip (then_normal (wp_seq (wp_block (wp_seq (c_quiet (by kernel_rfl) (by kernel_rfl) ?_)))))
      refine qq_q H (q_fieldAddr0 rfl fo27_1) rfl ?_; clear H a; intro a H
      refine qq_q H (q_load rfl ((hS.blk 0 rfl).ld ag22 rfl)) rfl ?_; clear H a; intro a H
      refine qq_q H (q_move rfl) rfl ?_; clear H a; intro a H
      replace hm := bindS hm; obtain ⟨x41, hx41, hm⟩ := hm
      obtain ⟨adx41, hAx41⟩ := SlR.adV (hrp0_0.ext RGPlan.mono hS.x) hv27 hx41
      obtain ⟨csx41, hclx41, ⟨vx41_0, vx41_1, vx41_2, vx41_3, rfl, hrx41_0, hrx41_1, hrx41_2, hrx41_3⟩, hcx41⟩ := SlR.elV hrp0_0 hv27 hAx41 hx41
      refine qq_q H (q_ixV (i := i37) Tryd.underlying22 sz68 rfl hv27 hAx41 rfl (natI hx41)) rfl ?_; clear H a; intro a H
      refine qq_q H (q_load rfl (LdX.ext (ldEl ag68 sz68 rfl hcx41) hS.x)) rfl ?_; clear H a; intro a H
      refine qq_q H (q_fieldAddr0 rfl fo27_1) rfl ?_; clear H a; intro a H
      refine qq_q H (q_load rfl ((hS.blk 1 rfl).ld ag22 rfl)) rfl ?_; clear H a; intro a H
      refine qq_q H (q_move rfl) rfl ?_; clear H a; intro a H
      replace hm := bindS hm; obtain ⟨x42, hx42, hm⟩ := hm
      obtain ⟨adx42, hAx42⟩ := SlR.adV (hrp1_0.ext RGPlan.mono hS.x) hv28 hx42
      obtain ⟨csx42, hclx42, ⟨vx42_0, vx42_1, vx42_2, vx42_3, rfl, hrx42_0, hrx42_1, hrx42_2, hrx42_3⟩, hcx42⟩ := SlR.elV hrp1_0 hv28 hAx42 hx42
      refine qq_q H (q_ixV (i := i37) Tryd.underlying22 sz68 rfl hv28 hAx42 rfl (natI hx42)) rfl ?_; clear H a; intro a H
      refine qq_q H (q_load rfl (LdX.ext (ldEl ag68 sz68 rfl hcx42) hS.x)) rfl ?_; clear H a; intro a H
      replace hm := bindS hm; obtain ⟨r43, hr43, hm⟩ := hm
      refine qq_call H rfl en84 (fun w' hw => g_r10_Same_w (A := A) (⟨_, _, _, _, rfl, ((hrx41_0.ext (Flat.mono _) hS.x).ext (Flat.mono _) hw), ((hrx41_1.ext (Flat.mono _) hS.x).ext (Flat.mono _) hw), ((hrx41_2.ext (Flat.mono _) hS.x).ext (Flat.mono _) hw), ((hrx41_3.ext (Flat.mono _) hS.x).ext (Flat.mono _) hw)⟩ : RGPlan _ [.int .i64 x41.Id, .bool x41.Mobile, vx41_0, vx41_1, vx41_2, .int .i64 x41.Events, vx41_3] x41) (⟨_, _, _, _, rfl, ((hrx42_0.ext (Flat.mono _) hS.x).ext (Flat.mono _) hw), ((hrx42_1.ext (Flat.mono _) hS.x).ext (Flat.mono _) hw), ((hrx42_2.ext (Flat.mono _) hS.x).ext (Flat.mono _) hw), ((hrx42_3.ext (Flat.mono _) hS.x).ext (Flat.mono _) hw)⟩ : RGPlan _ [.int .i64 x42.Id, .bool x42.Mobile, vx42_0, vx42_1, vx42_2, .int .i64 x42.Events, vx42_3] x42) hr43) rfl ?_; clear H a; intro a H
      refine qq_q H (q_not rfl) rfl ?_; clear H a; intro a H
      refine qq_nil ?_; intro w44 hE45
      replace hS := hS.ext hE45
      refine then_normal (c_cond H rfl (fun hc46 => ?_) (fun hc46 => ?_))
      · replace hm := condT hm hc46
        refine wp_seq (wp_region_lit (n_q H (q_assign rfl) rfl ?_)); clear H a; intro a H
        refine n_nil (then_normal (wp_ret (block_ret (then_ret (then_ret (block_ret (then_ret ?_)))))))
        obtain rfl := Option.some.inj hm; have hz : _ = q36 := hn36; subst hz; replace hm := hm36; try dsimp only at hm
        obtain rfl := Option.some.inj hm
        replace hS := hS.take 0; simp only [List.take_succ_cons, List.take_zero] at hS
        refine ret1 H (.inr rfl) rfl rfl ?_
        exact ⟨rfl, hS.x⟩
      · replace hm := condF hm hc46
        refine wp_skip (block_normal (then_normal (wp_region_lit (n_q H (q_move rfl) rfl (W_q (q_incr (i := i37) (j := 1) rfl rfl (by omega)) rfl (W_q (q_assign rfl) rfl ?_)))))); clear H a; intro a H
        refine n_nil (then_normal ?_)
        obtain rfl := Option.some.inj hm
        exact round (m36, i37 + 1) H ⟨rfl, rfl, rfl, trivial⟩ ⟨hn36, hS⟩ (Nat.lt_succ_self _)
    · replace hm := condF hm hc39
      refine wp_exit (then_exit (then_exit (block_exit ?_)))
      obtain rfl := Option.some.inj hm; have hz : _ = q36 := hn36; subst hz; replace hm := hm36; try dsimp only at hm
      refine then_normal (wp_seq (wp_seq (wp_region_lit (n_q H (q_assign rfl) rfl ?_)))); clear H a; intro a H
      refine n_nil (then_normal (wp_block ?_))
      replace hm := bindS hm; obtain ⟨q47, hm, hm47⟩ := hm; replace hm := iter_some hm; obtain ⟨n47, hm⟩ := hm
      refine c_loop (σ := Nat × Nat) (fun (m, i48) => [(2, .pointer (some ⟨b21, 0, none⟩)), (3, .pointer (some ⟨b24, 0, none⟩)), (6, .int .i64 ((i48 : Nat) : Int))]) (fun (m, i48) wl => iterN (g_r14_Same_L3 a0 a1) m i48 = some q47 ∧ St NB w wl [blkR b21 [.int .i64 a0.Ticks, vp0_0, vp0_1, vp0_2, vp0_3, .int .i64 a0.Tries] 27, blkR b24 [.int .i64 a1.Ticks, vp1_0, vp1_1, vp1_2, vp1_3, .int .i64 a1.Tries] 27]) (fun (m, i48) => m) (n47, 0) H ⟨rfl, rfl, rfl, trivial⟩ ⟨hm, hS⟩ ?_
      clear H hS hm a; intro xx a w49 H hR; obtain ⟨m, i48⟩ := xx; simp only [ent, List.map_cons, List.map_nil] at H; (try dsimp only at hR); obtain ⟨hm, hS⟩ := hR
      replace hm := iterN_step hm; obtain ⟨m47, o47, rfl, hm, hn47⟩ := hm; try dsimp only [g_r14_Same_L3] at hm
      refine wp_seq (wp_seq (wp_region_lit (n_q H (q_move rfl) rfl (W_q (q_fieldAddr0 rfl fo27_2) rfl (W_q (q_load rfl ((hS.blk 0 rfl).ld ag23 rfl)) rfl (W_q (q_lenV Tryd.underlying23 rfl hv29) rfl (W_q (q_lssN (i := i48) (j := a0.Homes.length) rfl rfl) rfl ?_))))))); clear H a; intro a H
      refine n_nil (then_normal (c_cond H rfl (fun hc50 => ?_) (fun hc50 => ?_)))
      · replace hm := condT hm hc50
        have hlt51 : i48 < a0.Homes.length := of_decide_eq_true hc50
        refine wp_skip (then_normal (wp_seq (wp_block (wp_seq (c_quiet (by kernel_rfl) (by kernel_rfl) ?_)))))
        refine qq_q H (q_fieldAddr0 rfl fo27_2) rfl ?_; clear H a; intro a H
        refine qq_q H (q_load rfl ((hS.blk 0 rfl).ld ag23 rfl)) rfl ?_; clear H a; intro a H
        refine qq_q H (q_move rfl) rfl ?_; clear H a; intro a H
        replace hm := bindS hm; obtain ⟨x52, hx52, hm⟩ := hm
        obtain ⟨adx52, hAx52⟩ := SlR.adV (hrp0_1.ext (Flat.mono _) hS.x) hv29 hx52
        refine qq_q H (q_ixV (i := i48) Tryd.underlying23 sz3 rfl hv29 hAx52 rfl (natI hx52)) rfl ?_; clear H a; intro a H
        refine qq_q H (q_load rfl (SlR.ldOneV (hrp0_1.ext (Flat.mono _) hS.x) hv29 hAx52 ag3 hx52 rfl)) rfl ?_; clear H a; intro a H
        refine qq_q H (q_fieldAddr0 rfl fo27_2) rfl ?_; clear H a; intro a H
        refine qq_q H (q_load rfl ((hS.blk 1 rfl).ld ag23 rfl)) rfl ?_; clear H a; intro a H
        refine qq_q H (q_move rfl) rfl ?_; clear H a; intro a H
        replace hm := bindS hm; obtain ⟨x53, hx53, hm⟩ := hm
        obtain ⟨adx53, hAx53⟩ := SlR.adV (hrp1_1.ext (Flat.mono _) hS.x) hv30 hx53
        refine qq_q H (q_ixV (i := i48) Tryd.underlying23 sz3 rfl hv30 hAx53 rfl (natI hx53)) rfl ?_; clear H a; intro a H
        refine qq_q H (q_load rfl (SlR.ldOneV (hrp1_1.ext (Flat.mono _) hS.x) hv30 hAx53 ag3 hx53 rfl)) rfl ?_; clear H a; intro a H
        refine qq_q H (q_neqD rfl rfl) rfl ?_; clear H a; intro a H
        refine qq_nil ?_; intro w54 hE55
        replace hS := hS.ext hE55
        refine then_normal (c_cond H rfl (fun hc56 => ?_) (fun hc56 => ?_))
        · replace hm := condT hm hc56
          refine wp_seq (wp_region_lit (n_q H (q_assign rfl) rfl ?_)); clear H a; intro a H
          refine n_nil (then_normal (wp_ret (block_ret (then_ret (then_ret (block_ret (then_ret ?_)))))))
          obtain rfl := Option.some.inj hm; have hz : _ = q47 := hn47; subst hz; replace hm := hm47; try dsimp only at hm
          obtain rfl := Option.some.inj hm
          replace hS := hS.take 0; simp only [List.take_succ_cons, List.take_zero] at hS
          refine ret1 H (.inr rfl) rfl rfl ?_
          exact ⟨rfl, hS.x⟩
        · replace hm := condF hm hc56
          refine wp_skip (block_normal (then_normal (wp_region_lit (n_q H (q_move rfl) rfl (W_q (q_incr (i := i48) (j := 1) rfl rfl (by omega)) rfl (W_q (q_assign rfl) rfl ?_)))))); clear H a; intro a H
          refine n_nil (then_normal ?_)
          obtain rfl := Option.some.inj hm
          exact round (m47, i48 + 1) H ⟨rfl, rfl, rfl, trivial⟩ ⟨hn47, hS⟩ (Nat.lt_succ_self _)
      · replace hm := condF hm hc50
        refine wp_exit (then_exit (then_exit (block_exit ?_)))
        obtain rfl := Option.some.inj hm; have hz : _ = q47 := hn47; subst hz; replace hm := hm47; try dsimp only at hm
        refine then_normal (wp_seq (wp_seq (wp_region_lit (n_q H (q_assign rfl) rfl ?_)))); clear H a; intro a H
        refine n_nil (then_normal (wp_block ?_))
        replace hm := bindS hm; obtain ⟨q57, hm, hm57⟩ := hm; replace hm := iter_some hm; obtain ⟨n57, hm⟩ := hm
        refine c_loop (σ := Nat × Nat) (fun (m, i58) => [(2, .pointer (some ⟨b21, 0, none⟩)), (3, .pointer (some ⟨b24, 0, none⟩)), (7, .int .i64 ((i58 : Nat) : Int))]) (fun (m, i58) wl => iterN (g_r14_Same_L2 a0 a1) m i58 = some q57 ∧ St NB w wl [blkR b21 [.int .i64 a0.Ticks, vp0_0, vp0_1, vp0_2, vp0_3, .int .i64 a0.Tries] 27, blkR b24 [.int .i64 a1.Ticks, vp1_0, vp1_1, vp1_2, vp1_3, .int .i64 a1.Tries] 27]) (fun (m, i58) => m) (n57, 0) H ⟨rfl, rfl, rfl, trivial⟩ ⟨hm, hS⟩ ?_
        clear H hS hm a; intro xx a w59 H hR; obtain ⟨m, i58⟩ := xx; simp only [ent, List.map_cons, List.map_nil] at H; (try dsimp only at hR); obtain ⟨hm, hS⟩ := hR
        replace hm := iterN_step hm; obtain ⟨m57, o57, rfl, hm, hn57⟩ := hm; try dsimp only [g_r14_Same_L2] at hm
        refine wp_seq (wp_seq (wp_region_lit (n_q H (q_move rfl) rfl (W_q (q_fieldAddr0 rfl fo27_3) rfl (W_q (q_load rfl ((hS.blk 0 rfl).ld ag24 rfl)) rfl (W_q (q_lenV Tryd.underlying24 rfl hv31) rfl (W_q (q_lssN (i := i58) (j := a0.Windows.length) rfl rfl) rfl ?_))))))); clear H a; intro a H
        refine n_nil (then_normal (c_cond H rfl (fun hc60 => ?_) (fun hc60 => ?_)))
        · replace hm := condT hm hc60
          have hlt61 : i58 < a0.Windows.length := of_decide_eq_true hc60
          refine wp_skip (then_normal (wp_seq (wp_block (wp_seq (c_quiet (by kernel_rfl) (by kernel_rfl) ?_)))))
          refine qq_q H (q_fieldAddr0 rfl fo27_3) rfl ?_; clear H a; intro a H
          refine qq_q H (q_load rfl ((hS.blk 0 rfl).ld ag24 rfl)) rfl ?_; clear H a; intro a H
          refine qq_q H (q_move rfl) rfl ?_; clear H a; intro a H
          replace hm := bindS hm; obtain ⟨x62, hx62, hm⟩ := hm
          obtain ⟨adx62, hAx62⟩ := SlR.adV (hrp0_2.ext (Flat.mono _) hS.x) hv31 hx62
          refine qq_q H (q_ixV (i := i58) Tryd.underlying24 sz105 rfl hv31 hAx62 rfl (natI hx62)) rfl ?_; clear H a; intro a H
          refine qq_q H (q_load rfl (SlR.ldAggV (hrp0_2.ext (Flat.mono _) hS.x) hv31 hAx62 ag105 sz105 hx62)) rfl ?_; clear H a; intro a H
          refine qq_q H (q_fieldAddr0 rfl fo27_3) rfl ?_; clear H a; intro a H
          refine qq_q H (q_load rfl ((hS.blk 1 rfl).ld ag24 rfl)) rfl ?_; clear H a; intro a H
          refine qq_q H (q_move rfl) rfl ?_; clear H a; intro a H
          replace hm := bindS hm; obtain ⟨x63, hx63, hm⟩ := hm
          obtain ⟨adx63, hAx63⟩ := SlR.adV (hrp1_2.ext (Flat.mono _) hS.x) hv32 hx63
          refine qq_q H (q_ixV (i := i58) Tryd.underlying24 sz105 rfl hv32 hAx63 rfl (natI hx63)) rfl ?_; clear H a; intro a H
          refine qq_q H (q_load rfl (SlR.ldAggV (hrp1_2.ext (Flat.mono _) hS.x) hv32 hAx63 ag105 sz105 hx63)) rfl ?_; clear H a; intro a H
          refine qq_q H (q_neqG (structB_guard st105) (eqInGWindow x62 x63) (by omega) rfl rfl) rfl ?_; clear H a; intro a H
          refine qq_nil ?_; intro w64 hE65
          replace hS := hS.ext hE65
          refine then_normal (c_cond H rfl (fun hc66 => ?_) (fun hc66 => ?_))
          · replace hm := condT hm hc66
            refine wp_seq (wp_region_lit (n_q H (q_assign rfl) rfl ?_)); clear H a; intro a H
            refine n_nil (then_normal (wp_ret (block_ret (then_ret (then_ret (block_ret (then_ret ?_)))))))
            obtain rfl := Option.some.inj hm; have hz : _ = q57 := hn57; subst hz; replace hm := hm57; try dsimp only at hm
            obtain rfl := Option.some.inj hm
            replace hS := hS.take 0; simp only [List.take_succ_cons, List.take_zero] at hS
            refine ret1 H (.inr rfl) rfl rfl ?_
            exact ⟨rfl, hS.x⟩
          · replace hm := condF hm hc66
            refine wp_skip (block_normal (then_normal (wp_region_lit (n_q H (q_move rfl) rfl (W_q (q_incr (i := i58) (j := 1) rfl rfl (by omega)) rfl (W_q (q_assign rfl) rfl ?_)))))); clear H a; intro a H
            refine n_nil (then_normal ?_)
            obtain rfl := Option.some.inj hm
            exact round (m57, i58 + 1) H ⟨rfl, rfl, rfl, trivial⟩ ⟨hn57, hS⟩ (Nat.lt_succ_self _)
        · replace hm := condF hm hc60
          refine wp_exit (then_exit (then_exit (block_exit ?_)))
          obtain rfl := Option.some.inj hm; have hz : _ = q57 := hn57; subst hz; replace hm := hm57; try dsimp only at hm
          refine then_normal (wp_seq (wp_seq (wp_region_lit (n_q H (q_assign rfl) rfl ?_)))); clear H a; intro a H
          refine n_nil (then_normal (wp_block ?_))
          replace hm := bindS hm; obtain ⟨q67, hm, hm67⟩ := hm; replace hm := iter_some hm; obtain ⟨n67, hm⟩ := hm
          refine c_loop (σ := Nat × Nat) (fun (m, i68) => [(2, .pointer (some ⟨b21, 0, none⟩)), (3, .pointer (some ⟨b24, 0, none⟩)), (8, .int .i64 ((i68 : Nat) : Int))]) (fun (m, i68) wl => iterN (g_r14_Same_L1 a0 a1) m i68 = some q67 ∧ St NB w wl [blkR b21 [.int .i64 a0.Ticks, vp0_0, vp0_1, vp0_2, vp0_3, .int .i64 a0.Tries] 27, blkR b24 [.int .i64 a1.Ticks, vp1_0, vp1_1, vp1_2, vp1_3, .int .i64 a1.Tries] 27]) (fun (m, i68) => m) (n67, 0) H ⟨rfl, rfl, rfl, trivial⟩ ⟨hm, hS⟩ ?_
          clear H hS hm a; intro xx a w69 H hR; obtain ⟨m, i68⟩ := xx; simp only [ent, List.map_cons, List.map_nil] at H; (try dsimp only at hR); obtain ⟨hm, hS⟩ := hR
          replace hm := iterN_step hm; obtain ⟨m67, o67, rfl, hm, hn67⟩ := hm; try dsimp only [g_r14_Same_L1] at hm
          refine wp_seq (wp_seq (wp_region_lit (n_q H (q_move rfl) rfl (W_q (q_fieldAddr0 rfl fo27_4) rfl (W_q (q_load rfl ((hS.blk 0 rfl).ld ag25 rfl)) rfl (W_q (q_lenV Tryd.underlying25 rfl hv33) rfl (W_q (q_lssN (i := i68) (j := a0.Links.length) rfl rfl) rfl ?_))))))); clear H a; intro a H
          refine n_nil (then_normal (c_cond H rfl (fun hc70 => ?_) (fun hc70 => ?_)))
          · replace hm := condT hm hc70
            have hlt71 : i68 < a0.Links.length := of_decide_eq_true hc70
            refine wp_skip (then_normal (wp_seq (wp_block (wp_seq (c_quiet (by kernel_rfl) (by kernel_rfl) ?_)))))
            refine qq_q H (q_fieldAddr0 rfl fo27_4) rfl ?_; clear H a; intro a H
            refine qq_q H (q_load rfl ((hS.blk 0 rfl).ld ag25 rfl)) rfl ?_; clear H a; intro a H
            refine qq_q H (q_move rfl) rfl ?_; clear H a; intro a H
            replace hm := bindS hm; obtain ⟨x72, hx72, hm⟩ := hm
            obtain ⟨adx72, hAx72⟩ := SlR.adV (hrp0_3.ext (Flat.mono _) hS.x) hv33 hx72
            refine qq_q H (q_ixV (i := i68) Tryd.underlying25 sz47 rfl hv33 hAx72 rfl (natI hx72)) rfl ?_; clear H a; intro a H
            refine qq_q H (q_load rfl (SlR.ldAggV (hrp0_3.ext (Flat.mono _) hS.x) hv33 hAx72 ag47 sz47 hx72)) rfl ?_; clear H a; intro a H
            refine qq_q H (q_fieldAddr0 rfl fo27_4) rfl ?_; clear H a; intro a H
            refine qq_q H (q_load rfl ((hS.blk 1 rfl).ld ag25 rfl)) rfl ?_; clear H a; intro a H
            refine qq_q H (q_move rfl) rfl ?_; clear H a; intro a H
            replace hm := bindS hm; obtain ⟨x73, hx73, hm⟩ := hm
            obtain ⟨adx73, hAx73⟩ := SlR.adV (hrp1_3.ext (Flat.mono _) hS.x) hv34 hx73
            refine qq_q H (q_ixV (i := i68) Tryd.underlying25 sz47 rfl hv34 hAx73 rfl (natI hx73)) rfl ?_; clear H a; intro a H
            refine qq_q H (q_load rfl (SlR.ldAggV (hrp1_3.ext (Flat.mono _) hS.x) hv34 hAx73 ag47 sz47 hx73)) rfl ?_; clear H a; intro a H
            refine qq_q H (q_neqG (structB_guard st47) (eqInGLink x72 x73) (by omega) rfl rfl) rfl ?_; clear H a; intro a H
            refine qq_nil ?_; intro w74 hE75
            replace hS := hS.ext hE75
            refine then_normal (c_cond H rfl (fun hc76 => ?_) (fun hc76 => ?_))
            · replace hm := condT hm hc76
              refine wp_seq (wp_region_lit (n_q H (q_assign rfl) rfl ?_)); clear H a; intro a H
              refine n_nil (then_normal (wp_ret (block_ret (then_ret (then_ret (block_ret (then_ret ?_)))))))
              obtain rfl := Option.some.inj hm; have hz : _ = q67 := hn67; subst hz; replace hm := hm67; try dsimp only at hm
              obtain rfl := Option.some.inj hm
              replace hS := hS.take 0; simp only [List.take_succ_cons, List.take_zero] at hS
              refine ret1 H (.inr rfl) rfl rfl ?_
              exact ⟨rfl, hS.x⟩
            · replace hm := condF hm hc76
              refine wp_skip (block_normal (then_normal (wp_region_lit (n_q H (q_move rfl) rfl (W_q (q_incr (i := i68) (j := 1) rfl rfl (by omega)) rfl (W_q (q_assign rfl) rfl ?_)))))); clear H a; intro a H
              refine n_nil (then_normal ?_)
              obtain rfl := Option.some.inj hm
              exact round (m67, i68 + 1) H ⟨rfl, rfl, rfl, trivial⟩ ⟨hn67, hS⟩ (Nat.lt_succ_self _)
          · replace hm := condF hm hc70
            refine wp_exit (then_exit (then_exit (block_exit ?_)))
            obtain rfl := Option.some.inj hm; have hz : _ = q67 := hn67; subst hz; replace hm := hm67; try dsimp only at hm
            refine then_normal (wp_seq (wp_region_lit (n_q H (q_assign rfl) rfl ?_))); clear H a; intro a H
            refine n_nil (then_normal (wp_ret ?_))
            obtain rfl := Option.some.inj hm
            replace hS := hS.take 0; simp only [List.take_succ_cons, List.take_zero] at hS
            refine ret1 H (.inr rfl) rfl rfl ?_
            exact ⟨rfl, hS.x⟩
theorem g_law14_FrameChecks_w {w : World} {A : Nat → Addr} {cs0 : List Value} {a0 : GL14Case} (hG : EV A w) (hH : HE w) (h0 : RGL14Case w cs0 a0) {r : Bool} (hm : g_law14_FrameChecks a0 = some r) :
    Calls Tryd.prog 9 [.agg cs0.toArray].toArray w (Ret fun u w' => u = .bool r ∧ Ext w w') := by
  obtain ⟨vp0_0, vp0_1, vp0_2, vp0_3, vp0_4, vp0_5, vp0_6, vp0_7, vp0_8, vp0_9, vp0_10, rfl, hrp0_0, hrp0_1, hrp0_2, hrp0_3, hrp0_4, hrp0_5, hrp0_6, hrp0_7, hrp0_8, hrp0_9, hrp0_10⟩ := h0
  have hS := St.begin NB w
  unfold g_law14_FrameChecks at hm
  refine enter Tryd.func9 rfl rfl rfl ?_; intro a H; dsimp only [enumL, Nat.zero_add, Nat.reduceAdd] at H
  refine wp_seq (wp_region_lit (n_box H rfl (cs := [.int .i64 a0.C.Ticks, vp0_0, vp0_1, vp0_2, vp0_3, .int .i64 a0.C.Tries, .int .i64 a0.D.Ticks, vp0_4, vp0_5, vp0_6, vp0_7, .int .i64 a0.D.Tries, vp0_8, vp0_9, vp0_10]) rfl rfl ?_))
  clear H; intro b21 w22 hN hE23 hs; clear a; intro a H
  replace hS := hS.newBlk hN hE23 hs; clear hN hs
  refine n_q H (q_assign rfl) rfl ?_; clear H a; intro a H
  refine n_nil (then_normal (wp_seq (wp_seq (wp_region_lit ?_))))
  replace hm := bindS hm; obtain ⟨r24, hr24, hm⟩ := hm
  refine n_call H rfl en11 (g_law14_fixed_w (A := A) (hG.ext hS.x) (hH.ext hS.x) hr24) rfl ?_
  clear H; intro x27 w25 hv; clear a; intro a H; obtain ⟨rfl, hE26⟩ := hv
  replace hS := hS.ext hE26
  refine n_q H (q_not rfl) rfl ?_; clear H a; intro a H
  refine n_nil (then_normal (c_cond H rfl (fun hc28 => ?_) (fun hc28 => ?_)))
  · replace hm := condT hm hc28
    refine wp_seq (wp_region_lit (n_q H (q_assign rfl) rfl ?_)); clear H a; intro a H
    refine n_nil (then_normal (wp_ret (then_ret ?_)))
    obtain rfl := Option.some.inj hm
    replace hS := hS.take 0; simp only [List.take_succ_cons, List.take_zero] at hS
    refine ret1 H (.inr rfl) rfl rfl ?_
    exact ⟨rfl, hS.x⟩
  · replace hm := condF hm hc28
    refine wp_skip (then_normal (wp_seq (wp_region_lit (n_q H (q_fieldAddr0 rfl fo31_0) rfl (W_q (q_load rfl ((hS.blk 0 rfl).ldPart 0 6 ag27 sz27 (by simp))) rfl (W_q (q_fieldAddr0 rfl fo31_1) rfl (W_q (q_load rfl ((hS.blk 0 rfl).ldPart 6 6 ag27 sz27 (by simp))) rfl ?_))))))); clear H a; intro a H
    refine n_buildSlice H Tryd.underlying108 sz27 ze27 rfl rfl rfl (cs := [.int .i64 a0.C.Ticks, vp0_0, vp0_1, vp0_2, vp0_3, .int .i64 a0.C.Tries, .int .i64 a0.D.Ticks, vp0_4, vp0_5, vp0_6, vp0_7, .int .i64 a0.D.Tries]) ((fillA (ds := [.int .i64 a0.C.Ticks, vp0_0, vp0_1, vp0_2, vp0_3, .int .i64 a0.C.Tries]) rfl rfl rfl (by simp)).trans ((fillA (ds := [.int .i64 a0.D.Ticks, vp0_4, vp0_5, vp0_6, vp0_7, .int .i64 a0.D.Tries]) rfl rfl rfl (by simp)).trans rfl)) rfl ?_
    clear H; intro b31 w29 hN hE30 hs; clear a; intro a H
    replace hS := hS.newBlk hN hE30 hs; clear hN hs
    refine n_q H (q_assign rfl) rfl ?_; clear H a; intro a H
    refine n_nil (then_normal (wp_seq (wp_seq (wp_region_lit (n_q H (q_assign rfl) rfl ?_))))); clear H a; intro a H
    refine n_nil (then_normal (wp_block ?_))
    replace hm := bindS hm; obtain ⟨q32, hm, hm32⟩ := hm; replace hm := iter_some hm; obtain ⟨n32, hm⟩ := hm
    refine c_loop (σ := Nat × Nat) (fun (m, i33) => [(1, .pointer (some ⟨b21, 0, none⟩)), (3, .slice (some ⟨b31, 0, none⟩) 2 2), (4, .int .i64 ((i33 : Nat) : Int))]) (fun (m, i33) wl => iterN (g_law14_FrameChecks_L7 a0) m i33 = some q32 ∧ St NB w wl [blkR b31 [.int .i64 a0.C.Ticks, vp0_0, vp0_1, vp0_2, vp0_3, .int .i64 a0.C.Tries, .int .i64 a0.D.Ticks, vp0_4, vp0_5, vp0_6, vp0_7, .int .i64 a0.D.Tries] 27, blkR b21 [.int .i64 a0.C.Ticks, vp0_0, vp0_1, vp0_2, vp0_3, .int .i64 a0.C.Tries, .int .i64 a0.D.Ticks, vp0_4, vp0_5, vp0_6, vp0_7, .int .i64 a0.D.Tries, vp0_8, vp0_9, vp0_10] 31]) (fun (m, i33) => m) (n32, 0) H ⟨rfl, rfl, rfl, trivial⟩ ⟨hm, hS⟩ ?_
    clear H hS hm a; intro xx a w34 H hR; obtain ⟨m, i33⟩ := xx; simp only [ent, List.map_cons, List.map_nil] at H; (try dsimp only at hR); obtain ⟨hm, hS⟩ := hR
    replace hm := iterN_step hm; obtain ⟨m32, o32, rfl, hm, hn32⟩ := hm; try dsimp only [g_law14_FrameChecks_L7] at hm
    refine wp_seq (wp_seq (wp_region_lit (n_q H (q_move rfl) rfl (W_q (q_move rfl) rfl (W_q (q_lenSl Tryd.underlying108 rfl) rfl (W_q (q_lssN (i := i33) (j := 2) rfl rfl) rfl ?_)))))); clear H a; intro a H
    refine n_nil (then_normal (c_cond H rfl (fun hc35 => ?_) (fun hc35 => ?_)))
    · replace hm := condT hm hc35
      have hlt36 : i33 < 2 := of_decide_eq_true hc35
      refine wp_skip (then_normal (wp_seq (wp_block (wp_seq (wp_region_lit (n_q H (q_move rfl) rfl (W_q (q_move rfl) rfl ?_))))))); clear H a; intro a H
      replace hm := bindS hm; obtain ⟨x37, hx37, hm⟩ := hm
      obtain ⟨adx37, hAx37⟩ := SlR.adV (SlR.ofBlk (k := 6) (R := RGConfig) [[.int .i64 a0.C.Ticks, vp0_0, vp0_1, vp0_2, vp0_3, .int .i64 a0.C.Tries], [.int .i64 a0.D.Ticks, vp0_4, vp0_5, vp0_6, vp0_7, .int .i64 a0.D.Tries]] [a0.C, a0.D] (hS.blk 0 rfl) (DIn.cons rfl (by simp [((hrp0_0.ext RGPlan.mono hS.x)).one, ((hrp0_1.ext (Flat.mono _) hS.x)).one, ((hrp0_2.ext (Flat.mono _) hS.x)).one, ((hrp0_3.ext (Flat.mono _) hS.x)).one]) (⟨_, _, _, _, rfl, (hrp0_0.ext RGPlan.mono hS.x), (hrp0_1.ext (Flat.mono _) hS.x), (hrp0_2.ext (Flat.mono _) hS.x), (hrp0_3.ext (Flat.mono _) hS.x)⟩ : RGConfig _ [.int .i64 a0.C.Ticks, vp0_0, vp0_1, vp0_2, vp0_3, .int .i64 a0.C.Tries] a0.C) (DIn.cons rfl (by simp [((hrp0_4.ext RGPlan.mono hS.x)).one, ((hrp0_5.ext (Flat.mono _) hS.x)).one, ((hrp0_6.ext (Flat.mono _) hS.x)).one, ((hrp0_7.ext (Flat.mono _) hS.x)).one]) (⟨_, _, _, _, rfl, (hrp0_4.ext RGPlan.mono hS.x), (hrp0_5.ext (Flat.mono _) hS.x), (hrp0_6.ext (Flat.mono _) hS.x), (hrp0_7.ext (Flat.mono _) hS.x)⟩ : RGConfig _ [.int .i64 a0.D.Ticks, vp0_4, vp0_5, vp0_6, vp0_7, .int .i64 a0.D.Tries] a0.D) trivial)) rfl (by simp [maxLen])) rfl hx37
      obtain ⟨csx37, hclx37, ⟨vx37_0, vx37_1, vx37_2, vx37_3, rfl, hrx37_0, hrx37_1, hrx37_2, hrx37_3⟩, hcx37⟩ := SlR.elV (SlR.ofBlk (k := 6) (R := RGConfig) [[.int .i64 a0.C.Ticks, vp0_0, vp0_1, vp0_2, vp0_3, .int .i64 a0.C.Tries], [.int .i64 a0.D.Ticks, vp0_4, vp0_5, vp0_6, vp0_7, .int .i64 a0.D.Tries]] [a0.C, a0.D] (hS.blk 0 rfl) (DIn.cons rfl (by simp [((hrp0_0.ext RGPlan.mono hS.x)).one, ((hrp0_1.ext (Flat.mono _) hS.x)).one, ((hrp0_2.ext (Flat.mono _) hS.x)).one, ((hrp0_3.ext (Flat.mono _) hS.x)).one]) (⟨_, _, _, _, rfl, (hrp0_0.ext RGPlan.mono hS.x), (hrp0_1.ext (Flat.mono _) hS.x), (hrp0_2.ext (Flat.mono _) hS.x), (hrp0_3.ext (Flat.mono _) hS.x)⟩ : RGConfig _ [.int .i64 a0.C.Ticks, vp0_0, vp0_1, vp0_2, vp0_3, .int .i64 a0.C.Tries] a0.C) (DIn.cons rfl (by simp [((hrp0_4.ext RGPlan.mono hS.x)).one, ((hrp0_5.ext (Flat.mono _) hS.x)).one, ((hrp0_6.ext (Flat.mono _) hS.x)).one, ((hrp0_7.ext (Flat.mono _) hS.x)).one]) (⟨_, _, _, _, rfl, (hrp0_4.ext RGPlan.mono hS.x), (hrp0_5.ext (Flat.mono _) hS.x), (hrp0_6.ext (Flat.mono _) hS.x), (hrp0_7.ext (Flat.mono _) hS.x)⟩ : RGConfig _ [.int .i64 a0.D.Ticks, vp0_4, vp0_5, vp0_6, vp0_7, .int .i64 a0.D.Tries] a0.D) trivial)) rfl (by simp [maxLen])) rfl hAx37 hx37
      refine n_q H (q_ixV (i := i33) Tryd.underlying108 sz27 rfl rfl hAx37 rfl (natI hx37)) rfl (W_q (q_load rfl (LdX.ext (ldEl ag27 sz27 rfl hcx37) Ext.rfl')) rfl ?_); clear H a; intro a H
      replace hm := bindS hm; obtain ⟨r38, hr38, hm⟩ := hm
      refine n_call H rfl en42 (g_r14_Check_w (A := A) (⟨_, _, _, _, rfl, (hrx37_0.ext RGPlan.mono Ext.rfl'), (hrx37_1.ext (Flat.mono _) Ext.rfl'), (hrx37_2.ext (Flat.mono _) Ext.rfl'), (hrx37_3.ext (Flat.mono _) Ext.rfl')⟩ : RGConfig _ [.int .i64 x37.Ticks, vx37_0, vx37_1, vx37_2, vx37_3, .int .i64 x37.Tries] x37) hr38) rfl ?_
      clear H; intro x41 w39 hv; clear a; intro a H; obtain ⟨rfl, hE40⟩ := hv
      replace hS := hS.ext hE40
      refine n_alloc H ze110 rfl ?_
      clear H; intro b42 w43 hN hE44 hs; clear a; intro a H
      replace hS := hS.newBlk hN hE44 hs; clear hN hs
      refine n_storeAll H rfl rfl (vs := [.int .i64 r38.Code, .int .i64 r38.Place]) rfl sz110 (hS.blk 0 rfl) rfl (by simp) ?_
      clear H; intro w45 hN hC46 hz; clear a; intro a H; replace hS := hS.setBlk hN hC46; clear hN hz
      refine n_nil (then_normal (wp_seq (wp_region_lit (n_q H (q_move rfl) rfl (W_q (q_move rfl) rfl ?_))))); clear H a; intro a H
      replace hm := bindS hm; obtain ⟨x47, hx47, hm⟩ := hm
      obtain ⟨adx47, hAx47⟩ := SlR.adV (SlR.ofBlk (k := 6) (R := RGConfig) [[.int .i64 a0.C.Ticks, vp0_0, vp0_1, vp0_2, vp0_3, .int .i64 a0.C.Tries], [.int .i64 a0.D.Ticks, vp0_4, vp0_5, vp0_6, vp0_7, .int .i64 a0.D.Tries]] [a0.C, a0.D] (hS.blk 1 rfl) (DIn.cons rfl (by simp [((hrp0_0.ext RGPlan.mono hS.x)).one, ((hrp0_1.ext (Flat.mono _) hS.x)).one, ((hrp0_2.ext (Flat.mono _) hS.x)).one, ((hrp0_3.ext (Flat.mono _) hS.x)).one]) (⟨_, _, _, _, rfl, (hrp0_0.ext RGPlan.mono hS.x), (hrp0_1.ext (Flat.mono _) hS.x), (hrp0_2.ext (Flat.mono _) hS.x), (hrp0_3.ext (Flat.mono _) hS.x)⟩ : RGConfig _ [.int .i64 a0.C.Ticks, vp0_0, vp0_1, vp0_2, vp0_3, .int .i64 a0.C.Tries] a0.C) (DIn.cons rfl (by simp [((hrp0_4.ext RGPlan.mono hS.x)).one, ((hrp0_5.ext (Flat.mono _) hS.x)).one, ((hrp0_6.ext (Flat.mono _) hS.x)).one, ((hrp0_7.ext (Flat.mono _) hS.x)).one]) (⟨_, _, _, _, rfl, (hrp0_4.ext RGPlan.mono hS.x), (hrp0_5.ext (Flat.mono _) hS.x), (hrp0_6.ext (Flat.mono _) hS.x), (hrp0_7.ext (Flat.mono _) hS.x)⟩ : RGConfig _ [.int .i64 a0.D.Ticks, vp0_4, vp0_5, vp0_6, vp0_7, .int .i64 a0.D.Tries] a0.D) trivial)) rfl (by simp [maxLen])) rfl hx47
      obtain ⟨csx47, hclx47, ⟨vx47_0, vx47_1, vx47_2, vx47_3, rfl, hrx47_0, hrx47_1, hrx47_2, hrx47_3⟩, hcx47⟩ := SlR.elV (SlR.ofBlk (k := 6) (R := RGConfig) [[.int .i64 a0.C.Ticks, vp0_0, vp0_1, vp0_2, vp0_3, .int .i64 a0.C.Tries], [.int .i64 a0.D.Ticks, vp0_4, vp0_5, vp0_6, vp0_7, .int .i64 a0.D.Tries]] [a0.C, a0.D] (hS.blk 1 rfl) (DIn.cons rfl (by simp [((hrp0_0.ext RGPlan.mono hS.x)).one, ((hrp0_1.ext (Flat.mono _) hS.x)).one, ((hrp0_2.ext (Flat.mono _) hS.x)).one, ((hrp0_3.ext (Flat.mono _) hS.x)).one]) (⟨_, _, _, _, rfl, (hrp0_0.ext RGPlan.mono hS.x), (hrp0_1.ext (Flat.mono _) hS.x), (hrp0_2.ext (Flat.mono _) hS.x), (hrp0_3.ext (Flat.mono _) hS.x)⟩ : RGConfig _ [.int .i64 a0.C.Ticks, vp0_0, vp0_1, vp0_2, vp0_3, .int .i64 a0.C.Tries] a0.C) (DIn.cons rfl (by simp [((hrp0_4.ext RGPlan.mono hS.x)).one, ((hrp0_5.ext (Flat.mono _) hS.x)).one, ((hrp0_6.ext (Flat.mono _) hS.x)).one, ((hrp0_7.ext (Flat.mono _) hS.x)).one]) (⟨_, _, _, _, rfl, (hrp0_4.ext RGPlan.mono hS.x), (hrp0_5.ext (Flat.mono _) hS.x), (hrp0_6.ext (Flat.mono _) hS.x), (hrp0_7.ext (Flat.mono _) hS.x)⟩ : RGConfig _ [.int .i64 a0.D.Ticks, vp0_4, vp0_5, vp0_6, vp0_7, .int .i64 a0.D.Tries] a0.D) trivial)) rfl (by simp [maxLen])) rfl hAx47 hx47
      refine n_q H (q_ixV (i := i33) Tryd.underlying108 sz27 rfl rfl hAx47 rfl (natI hx47)) rfl (W_q (q_load rfl (LdX.ext (ldEl ag27 sz27 rfl hcx47) Ext.rfl')) rfl ?_); clear H a; intro a H
      replace hm := bindS hm; obtain ⟨r48, hr48, hm⟩ := hm
      refine n_call H rfl en14 (g_r14_Copy_w (A := A) (⟨_, _, _, _, rfl, (hrx47_0.ext RGPlan.mono Ext.rfl'), (hrx47_1.ext (Flat.mono _) Ext.rfl'), (hrx47_2.ext (Flat.mono _) Ext.rfl'), (hrx47_3.ext (Flat.mono _) Ext.rfl')⟩ : RGConfig _ [.int .i64 x47.Ticks, vx47_0, vx47_1, vx47_2, vx47_3, .int .i64 x47.Tries] x47) hr48) rfl ?_
      clear H; intro x59 w57 hv; clear a; intro a H; obtain ⟨u49, u50, u51, u52, rfl, hE58⟩ := hv
      replace hS := hS.new hE58; simp only [List.cons_append, List.nil_append] at hS
      replace hm := bindS hm; obtain ⟨r60, hr60, hm⟩ := hm
      refine n_call H rfl en35 (g_frame_Check_w (A := A) (hG.ext hS.x) (⟨_, _, _, _, rfl, (hS.deepSl 0 rfl), ((hS.own 1 rfl).slr rfl (fun _ _ => rfl)), ((hS.own 2 rfl).slr rfl (fun _ _ => rfl)), ((hS.own 3 rfl).slr rfl (fun _ _ => rfl))⟩ : RGConfig _ [.int .i64 r48.Ticks, u49, u50, u51, u52, .int .i64 r48.Tries] r48) hr60) rfl ?_
      clear H; intro u61 w63 hv; clear a; intro a H; obtain ⟨_, rfl, hE64⟩ := hv
      replace hS := hS.new hE64; simp only [List.cons_append, List.nil_append] at hS
      refine n_q H (q_assign rfl) rfl ?_; clear H a; intro a H
      refine n_nil (then_normal ?_)
      replace hm := bindS hm; obtain ⟨j66, hm, hm66⟩ := hm
      refine c_join (σ := Bool) H (fun q567 => [(1, .pointer (some ⟨b21, 0, none⟩)), (3, .slice (some ⟨b31, 0, none⟩) 2 2), (4, .int .i64 ((i33 : Nat) : Int)), (42, .bool q567)]) (fun q567 wl => (g_law14_FrameChecks_J6 i33) q567 = some o32 ∧ St NB w wl [blkR b31 [.int .i64 a0.C.Ticks, vp0_0, vp0_1, vp0_2, vp0_3, .int .i64 a0.C.Tries, .int .i64 a0.D.Ticks, vp0_4, vp0_5, vp0_6, vp0_7, .int .i64 a0.D.Tries] 27, blkR b21 [.int .i64 a0.C.Ticks, vp0_0, vp0_1, vp0_2, vp0_3, .int .i64 a0.C.Tries, .int .i64 a0.D.Ticks, vp0_4, vp0_5, vp0_6, vp0_7, .int .i64 a0.D.Tries, vp0_8, vp0_9, vp0_10] 31]) ?_ ?_
      · skip
        refine c_quiet (by kernel_rfl) (by kernel_rfl) ?_
        refine qq_q H (q_move rfl) rfl ?_; clear H a; intro a H
        refine qq_call H rfl en23 (fun w' hw => code_w ((hG.ext hS.x).ext hw) (IsErr.ext (hS.any 0 rfl : IsE A w63 u61 r60) hw)) rfl ?_; clear H a; intro a H
        refine qq_q H (q_fieldAddr0 rfl fo110_0) rfl ?_; clear H a; intro a H
        refine qq_q H (q_load rfl ((hS.blk 5 rfl).ld ag3 rfl)) rfl ?_; clear H a; intro a H
        refine qq_q H (q_neqD rfl rfl) rfl ?_; clear H a; intro a H
        refine qq_q H (q_move rfl) rfl ?_; clear H a; intro a H
        rcases Bool.eq_false_or_eq_true (!decide ((ErrM.code r60) = r38.Code)) with hg568 | hg568
        · replace H := H.know 36 rfl hg568
          replace hm := condT hm hg568
          refine qq_no H rfl rfl (by decide) rfl ?_; clear H a; intro a H
          refine qq_no H rfl rfl (by decide) rfl ?_; clear H a; intro a H
          refine qq_no H rfl rfl (by decide) rfl ?_; clear H a; intro a H
          refine qq_no H rfl rfl (by decide) rfl ?_; clear H a; intro a H
          refine qq_no H rfl rfl (by decide) rfl ?_; clear H a; intro a H
          refine qq_q H (q_pickT rfl rfl) rfl ?_; clear H a; intro a H
          refine qq_nil ?_; intro w569 hE570
          replace hS := hS.ext hE570
          refine then_normal ?_
          obtain rfl := Option.some.inj hm; replace hm := hm66; try dsimp only at hm
          replace hS := hS.pick 7 rfl; dsimp only [List.eraseIdx] at hS
          replace hS := hS.pick 7 rfl; dsimp only [List.eraseIdx] at hS
          replace hS := hS.take 2; simp only [List.take_succ_cons, List.take_zero] at hS
          exact join true H ⟨rfl, rfl, rfl, rfl, trivial⟩ ⟨hm, hS⟩
        · replace H := H.know 36 rfl hg568
          replace hm := condF hm hg568
          refine qq_yes H rfl rfl ?_
          refine qq_q H (q_move rfl) rfl ?_; clear H a; intro a H
          refine qq_yes H rfl rfl ?_
          refine qq_call H rfl en29 (fun w' hw => place_w ((hH.ext hS.x).ext hw) (IsErr.ext (hS.any 0 rfl : IsE A w63 u61 r60) hw)) rfl ?_; clear H a; intro a H
          refine qq_yes H rfl rfl ?_
          refine qq_q H (q_fieldAddr0 rfl fo110_1) rfl ?_; clear H a; intro a H
          refine qq_yes H rfl rfl ?_
          refine qq_q H (q_load rfl ((hS.blk 5 rfl).ld ag3 rfl)) rfl ?_; clear H a; intro a H
          refine qq_yes H rfl rfl ?_
          refine qq_q H (q_neqD rfl rfl) rfl ?_; clear H a; intro a H
          refine qq_q H (q_pickF rfl rfl) rfl ?_; clear H a; intro a H
          refine qq_nil ?_; intro w571 hE572
          replace hS := hS.ext hE572
          refine then_normal ?_
          obtain rfl := Option.some.inj hm; replace hm := hm66; try dsimp only at hm
          replace hS := hS.pick 7 rfl; dsimp only [List.eraseIdx] at hS
          replace hS := hS.pick 7 rfl; dsimp only [List.eraseIdx] at hS
          replace hS := hS.take 2; simp only [List.take_succ_cons, List.take_zero] at hS
          exact join (!decide ((ErrM.place r60) = r38.Place)) H ⟨rfl, rfl, rfl, rfl, trivial⟩ ⟨hm, hS⟩
      · clear H hS hm a; intro q567 a w573 H hR
        simp only [ent, List.map_cons, List.map_nil] at H; (try dsimp only at hR); obtain ⟨hm, hS⟩ := hR; try dsimp only [g_law14_FrameChecks_J6] at hm
        refine c_cond H rfl (fun hc574 => ?_) (fun hc574 => ?_)
        · replace hm := condT hm hc574
          refine wp_seq (wp_region_lit (n_q H (q_assign rfl) rfl ?_)); clear H a; intro a H
          refine n_nil (then_normal (wp_ret (block_ret (then_ret (then_ret (block_ret (then_ret ?_)))))))
          obtain rfl := Option.some.inj hm; have hz : _ = q32 := hn32; subst hz; replace hm := hm32; try dsimp only at hm
          obtain rfl := Option.some.inj hm
          replace hS := hS.take 0; simp only [List.take_succ_cons, List.take_zero] at hS
          refine ret1 H (.inr rfl) rfl rfl ?_
          exact ⟨rfl, hS.x⟩
        · replace hm := condF hm hc574
          refine wp_skip (block_normal (then_normal (wp_region_lit (n_q H (q_move rfl) rfl (W_q (q_incr (i := i33) (j := 1) rfl rfl (by omega)) rfl (W_q (q_assign rfl) rfl ?_)))))); clear H a; intro a H
          refine n_nil (then_normal ?_)
          obtain rfl := Option.some.inj hm
          exact round (m32, i33 + 1) H ⟨rfl, rfl, rfl, trivial⟩ ⟨hn32, hS⟩ (Nat.lt_succ_self _)
    · replace hm := condF hm hc35
      refine wp_exit (then_exit (then_exit (block_exit ?_)))
      obtain rfl := Option.some.inj hm; have hz : _ = q32 := hn32; subst hz; replace hm := hm32; try dsimp only at hm
      refine then_normal (wp_seq (c_ord [] 23 (by kernel_rfl) ?_))
      obtain ⟨w575, hw575⟩ : ∃ x, x = w34.drew := ⟨_, rfl⟩; rw [← hw575]; have hE576 : Ext w34 w575 := by rw [hw575]; exact Ext.drew' _
      clear hw575
      replace hS := hS.ext hE576
      have hS577 := hS
      have hW := Nat.le_refl w575.heap.size
      refine k_takeT 0 H rfl (q_fieldAddr0 rfl fo31_0) rfl (by kernel_rfl) (by kernel_rfl) (by kernel_rfl) (by kernel_rfl) (fun _ _ _ h => h) ?_; clear H a; intro a H
      refine k_take 1 H rfl (q_load rfl (LdC.old ((hS577.blk 1 rfl).ldPart 0 6 ag27 sz27 (by simp)) Ext.rfl' (Nat.le_refl _) (by simp))) rfl (by kernel_rfl) (by kernel_rfl) (by kernel_rfl) (by kernel_rfl) (fun _ _ _ h => h) ?_; clear H a; intro a H
      refine k_takeT 3 H rfl (q_fieldAddr0 rfl fo31_1) rfl (by kernel_rfl) (by kernel_rfl) (by kernel_rfl) (by kernel_rfl) (fun _ _ _ h => h) ?_; clear H a; intro a H
      refine k_take 4 H rfl (q_load rfl (LdC.old ((hS577.blk 1 rfl).ldPart 6 6 ag27 sz27 (by simp)) Ext.rfl' (Nat.le_refl _) (by simp))) rfl (by kernel_rfl) (by kernel_rfl) (by kernel_rfl) (by kernel_rfl) (fun _ _ _ h => h) ?_; clear H a; intro a H
      refine k_takeT 7 H rfl (q_fieldAddr0 rfl fo31_0) rfl (by kernel_rfl) (by kernel_rfl) (by kernel_rfl) (by kernel_rfl) (fun _ _ _ h => h) ?_; clear H a; intro a H
      refine k_take 8 H rfl (q_load rfl (LdC.old ((hS577.blk 1 rfl).ldPart 0 6 ag27 sz27 (by simp)) Ext.rfl' (Nat.le_refl _) (by simp))) rfl (by kernel_rfl) (by kernel_rfl) (by kernel_rfl) (by kernel_rfl) (fun _ _ _ h => h) ?_; clear H a; intro a H
      refine k_takeT 9 H rfl (q_fieldAddr0 rfl fo31_1) rfl (by kernel_rfl) (by kernel_rfl) (by kernel_rfl) (by kernel_rfl) (fun _ _ _ h => h) ?_; clear H a; intro a H
      refine k_take 10 H rfl (q_load rfl (LdC.old ((hS577.blk 1 rfl).ldPart 6 6 ag27 sz27 (by simp)) Ext.rfl' (Nat.le_refl _) (by simp))) rfl (by kernel_rfl) (by kernel_rfl) (by kernel_rfl) (by kernel_rfl) (fun _ _ _ h => h) ?_; clear H a; intro a H
      replace hm := bindS hm; obtain ⟨r578, hr578, hm⟩ := hm
      refine k_of_kk 2 (by kernel_rfl) ?_
      refine kk_call 2 H rfl rfl en14 (g_r14_Copy_w (A := A) (⟨_, _, _, _, rfl, (hrp0_0.ext RGPlan.mono hS.x), (hrp0_1.ext (Flat.mono _) hS.x), (hrp0_2.ext (Flat.mono _) hS.x), (hrp0_3.ext (Flat.mono _) hS.x)⟩ : RGConfig _ [.int .i64 a0.C.Ticks, vp0_0, vp0_1, vp0_2, vp0_3, .int .i64 a0.C.Tries] a0.C) hr578) rfl (fun v w hv => .inl (ChgF.of_ext (by obtain ⟨_, _, _, _, _, hE0⟩ := hv; exact hE0.x))) ?_
      clear H; intro x589 w587 hv; clear a; intro a H; obtain ⟨u579, u580, u581, u582, rfl, hE588⟩ := hv
      replace hS := hS.new hE588; simp only [List.cons_append, List.nil_append] at hS
      replace hW := Nat.le_trans hW hE588.x.size
      replace hm := bindS hm; obtain ⟨r590, hr590, hm⟩ := hm
      refine k_of_kk 5 (by kernel_rfl) ?_
      refine kk_call 5 H rfl rfl en14 (g_r14_Copy_w (A := A) (⟨_, _, _, _, rfl, (hrp0_4.ext RGPlan.mono hS.x), (hrp0_5.ext (Flat.mono _) hS.x), (hrp0_6.ext (Flat.mono _) hS.x), (hrp0_7.ext (Flat.mono _) hS.x)⟩ : RGConfig _ [.int .i64 a0.D.Ticks, vp0_4, vp0_5, vp0_6, vp0_7, .int .i64 a0.D.Tries] a0.D) hr590) rfl (fun v w hv => .inl (ChgF.of_ext (by obtain ⟨_, _, _, _, _, hE0⟩ := hv; exact hE0.x))) ?_
      clear H; intro x601 w599 hv; clear a; intro a H; obtain ⟨u591, u592, u593, u594, rfl, hE600⟩ := hv
      replace hS := hS.new hE600; simp only [List.cons_append, List.nil_append] at hS
      replace hW := Nat.le_trans hW hE600.x.size
      replace hm := bindS hm; obtain ⟨r602, hr602, hm⟩ := hm
      refine k_of_kk 6 (by kernel_rfl) ?_
      refine kk_call 6 H rfl rfl en43 (g_frame_Same_w (A := A) (⟨_, _, _, _, rfl, (hS.deepSl 4 rfl), ((hS.own 5 rfl).slr rfl (fun _ _ => rfl)), ((hS.own 6 rfl).slr rfl (fun _ _ => rfl)), ((hS.own 7 rfl).slr rfl (fun _ _ => rfl))⟩ : RGConfig _ [.int .i64 r578.Ticks, u579, u580, u581, u582, .int .i64 r578.Tries] r578) (⟨_, _, _, _, rfl, (hS.deepSl 0 rfl), ((hS.own 1 rfl).slr rfl (fun _ _ => rfl)), ((hS.own 2 rfl).slr rfl (fun _ _ => rfl)), ((hS.own 3 rfl).slr rfl (fun _ _ => rfl))⟩ : RGConfig _ [.int .i64 r590.Ticks, u591, u592, u593, u594, .int .i64 r590.Tries] r590) hr602) rfl (fun v w hv => .inl (ChgF.of_ext (by obtain ⟨_, hE0⟩ := hv; exact hE0))) ?_
      clear H; intro x605 w603 hv; clear a; intro a H; obtain ⟨rfl, hE604⟩ := hv
      replace hS := hS.ext hE604
      replace hW := Nat.le_trans hW hE604.size
      replace hm := bindS hm; obtain ⟨r606, hr606, hm⟩ := hm
      refine k_of_kk 11 (by kernel_rfl) ?_
      refine kk_call 11 H rfl rfl en44 (g_r14_Same_w (A := A) (⟨_, _, _, _, rfl, (hrp0_0.ext RGPlan.mono hS.x), (hrp0_1.ext (Flat.mono _) hS.x), (hrp0_2.ext (Flat.mono _) hS.x), (hrp0_3.ext (Flat.mono _) hS.x)⟩ : RGConfig _ [.int .i64 a0.C.Ticks, vp0_0, vp0_1, vp0_2, vp0_3, .int .i64 a0.C.Tries] a0.C) (⟨_, _, _, _, rfl, (hrp0_4.ext RGPlan.mono hS.x), (hrp0_5.ext (Flat.mono _) hS.x), (hrp0_6.ext (Flat.mono _) hS.x), (hrp0_7.ext (Flat.mono _) hS.x)⟩ : RGConfig _ [.int .i64 a0.D.Ticks, vp0_4, vp0_5, vp0_6, vp0_7, .int .i64 a0.D.Tries] a0.D) hr606) rfl (fun v w hv => .inl (ChgF.of_ext (by obtain ⟨_, hE0⟩ := hv; exact hE0))) ?_
      clear H; intro x609 w607 hv; clear a; intro a H; obtain ⟨rfl, hE608⟩ := hv
      replace hS := hS.ext hE608
      replace hW := Nat.le_trans hW hE608.size
      refine k_takeT 12 H rfl (q_eqlB Tryd.underlying4 rfl rfl) rfl (by kernel_rfl) (by kernel_rfl) (by kernel_rfl) (by kernel_rfl) (fun _ _ _ h => h) ?_; clear H a; intro a H
      refine k_takeT 13 H rfl (q_move rfl) rfl (by kernel_rfl) (by kernel_rfl) (by kernel_rfl) (by kernel_rfl) (fun _ _ _ h => h) ?_; clear H a; intro a H
      rcases Bool.eq_false_or_eq_true (r602 == r606) with hg610 | hg610
      · replace H := H.know 56 rfl hg610
        replace hm := condT hm hg610
        refine kg_takeT 14 H rfl rfl rfl (q_fieldAddr0 rfl fo31_0) rfl (by kernel_rfl) (by kernel_rfl) (by kernel_rfl) (by kernel_rfl) (fun _ _ _ h => h) ?_; clear H a; intro a H
        refine kg_take 15 H rfl rfl rfl (q_load rfl (LdC.old ((hS577.blk 1 rfl).ldPart 0 6 ag27 sz27 (by simp)) (Ext.trans' (Ext.trans' (Ext.trans' hE588.x hE600.x) hE604) hE608) (Nat.le_refl _) (by simp))) rfl (by kernel_rfl) (by kernel_rfl) (by kernel_rfl) (by kernel_rfl) (fun _ _ _ h => h) ?_; clear H a; intro a H
        refine kg_takeT 17 H rfl rfl rfl (q_fieldAddr0 rfl fo31_0) rfl (by kernel_rfl) (by kernel_rfl) (by kernel_rfl) (by kernel_rfl) (fun _ _ _ h => h) ?_; clear H a; intro a H
        refine kg_take 18 H rfl rfl rfl (q_load rfl (LdC.old ((hS577.blk 1 rfl).ldPart 0 6 ag27 sz27 (by simp)) (Ext.trans' (Ext.trans' (Ext.trans' hE588.x hE600.x) hE604) hE608) (Nat.le_refl _) (by simp))) rfl (by kernel_rfl) (by kernel_rfl) (by kernel_rfl) (by kernel_rfl) (fun _ _ _ h => h) ?_; clear H a; intro a H
        replace hm := bindS hm; obtain ⟨r611, hr611, hm⟩ := hm
        refine kg_call 16 H rfl rfl rfl rfl en14 (g_r14_Copy_w (A := A) (⟨_, _, _, _, rfl, (hrp0_0.ext RGPlan.mono hS.x), (hrp0_1.ext (Flat.mono _) hS.x), (hrp0_2.ext (Flat.mono _) hS.x), (hrp0_3.ext (Flat.mono _) hS.x)⟩ : RGConfig _ [.int .i64 a0.C.Ticks, vp0_0, vp0_1, vp0_2, vp0_3, .int .i64 a0.C.Tries] a0.C) hr611) rfl (by kernel_rfl) (fun v w hv => .inl (ChgF.of_ext (by obtain ⟨_, _, _, _, _, hE0⟩ := hv; exact hE0.x))) ?_
        clear H; intro x622 w620 hv; clear a; intro a H; obtain ⟨u612, u613, u614, u615, rfl, hE621⟩ := hv
        replace hS := hS.new hE621; simp only [List.cons_append, List.nil_append] at hS
        replace hW := Nat.le_trans hW hE621.x.size
        replace hm := bindS hm; obtain ⟨r623, hr623, hm⟩ := hm
        refine kg_call 19 H rfl rfl rfl rfl en14 (g_r14_Copy_w (A := A) (⟨_, _, _, _, rfl, (hrp0_0.ext RGPlan.mono hS.x), (hrp0_1.ext (Flat.mono _) hS.x), (hrp0_2.ext (Flat.mono _) hS.x), (hrp0_3.ext (Flat.mono _) hS.x)⟩ : RGConfig _ [.int .i64 a0.C.Ticks, vp0_0, vp0_1, vp0_2, vp0_3, .int .i64 a0.C.Tries] a0.C) hr623) rfl (by kernel_rfl) (fun v w hv => .inl (ChgF.of_ext (by obtain ⟨_, _, _, _, _, hE0⟩ := hv; exact hE0.x))) ?_
        clear H; intro x634 w632 hv; clear a; intro a H; obtain ⟨u624, u625, u626, u627, rfl, hE633⟩ := hv
        replace hS := hS.new hE633; simp only [List.cons_append, List.nil_append] at hS
        replace hW := Nat.le_trans hW hE633.x.size
        replace hm := bindS hm; obtain ⟨r635, hr635, hm⟩ := hm
        refine kg_call 20 H rfl rfl rfl rfl en43 (g_frame_Same_w (A := A) (⟨_, _, _, _, rfl, (hS.deepSl 4 rfl), ((hS.own 5 rfl).slr rfl (fun _ _ => rfl)), ((hS.own 6 rfl).slr rfl (fun _ _ => rfl)), ((hS.own 7 rfl).slr rfl (fun _ _ => rfl))⟩ : RGConfig _ [.int .i64 r611.Ticks, u612, u613, u614, u615, .int .i64 r611.Tries] r611) (⟨_, _, _, _, rfl, (hS.deepSl 0 rfl), ((hS.own 1 rfl).slr rfl (fun _ _ => rfl)), ((hS.own 2 rfl).slr rfl (fun _ _ => rfl)), ((hS.own 3 rfl).slr rfl (fun _ _ => rfl))⟩ : RGConfig _ [.int .i64 r623.Ticks, u624, u625, u626, u627, .int .i64 r623.Tries] r623) hr635) rfl (by kernel_rfl) (fun v w hv => .inl (ChgF.of_ext (by obtain ⟨_, hE0⟩ := hv; exact hE0))) ?_
        clear H; intro x638 w636 hv; clear a; intro a H; obtain ⟨rfl, hE637⟩ := hv
        replace hS := hS.ext hE637
        replace hW := Nat.le_trans hW hE637.size
        refine k_takeT 21 H rfl (q_pickT rfl rfl) rfl (by kernel_rfl) (by kernel_rfl) (by kernel_rfl) (by kernel_rfl) (fun _ _ _ h => h) ?_; clear H a; intro a H
        refine k_takeT 22 H rfl (q_assign rfl) rfl (by kernel_rfl) (by kernel_rfl) (by kernel_rfl) (by kernel_rfl) (fun _ _ _ h => h) ?_; clear H a; intro a H
        refine k_done (by kernel_rfl) ?_
        refine then_normal (wp_ret ?_)
        obtain rfl := Option.some.inj hm
        replace hS := hS.take 0; simp only [List.take_succ_cons, List.take_zero] at hS
        refine ret1 H (.inr rfl) rfl rfl ?_
        exact ⟨rfl, hS.x⟩
      · replace H := H.know 56 rfl hg610
        replace hm := condF hm hg610
        refine k_no 14 H rfl rfl rfl (by decide) rfl (by kernel_rfl) (by kernel_rfl) (by kernel_rfl) (by kernel_rfl) (fun _ _ _ h => h) ?_; clear H a; intro a H
        refine k_no 15 H rfl rfl rfl (by decide) rfl (by kernel_rfl) (by kernel_rfl) (by kernel_rfl) (by kernel_rfl) (fun _ _ _ h => h) ?_; clear H a; intro a H
        refine k_no 17 H rfl rfl rfl (by decide) rfl (by kernel_rfl) (by kernel_rfl) (by kernel_rfl) (by kernel_rfl) (fun _ _ _ h => h) ?_; clear H a; intro a H
        refine k_no 18 H rfl rfl rfl (by decide) rfl (by kernel_rfl) (by kernel_rfl) (by kernel_rfl) (by kernel_rfl) (fun _ _ _ h => h) ?_; clear H a; intro a H
        refine k_no 16 H rfl rfl rfl (by decide) rfl (by kernel_rfl) (by kernel_rfl) (by kernel_rfl) (by kernel_rfl) (fun _ _ _ h => h) ?_; clear H a; intro a H
        refine k_no 19 H rfl rfl rfl (by decide) rfl (by kernel_rfl) (by kernel_rfl) (by kernel_rfl) (by kernel_rfl) (fun _ _ _ h => h) ?_; clear H a; intro a H
        refine k_no 20 H rfl rfl rfl (by decide) rfl (by kernel_rfl) (by kernel_rfl) (by kernel_rfl) (by kernel_rfl) (fun _ _ _ h => h) ?_; clear H a; intro a H
        refine k_takeT 21 H rfl (q_pickF rfl rfl) rfl (by kernel_rfl) (by kernel_rfl) (by kernel_rfl) (by kernel_rfl) (fun _ _ _ h => h) ?_; clear H a; intro a H
        refine k_takeT 22 H rfl (q_assign rfl) rfl (by kernel_rfl) (by kernel_rfl) (by kernel_rfl) (by kernel_rfl) (fun _ _ _ h => h) ?_; clear H a; intro a H
        refine k_done (by kernel_rfl) ?_
        refine then_normal (wp_ret ?_)
        obtain rfl := Option.some.inj hm
        replace hS := hS.take 0; simp only [List.take_succ_cons, List.take_zero] at hS
        refine ret1 H (.inr rfl) rfl rfl ?_
        exact ⟨rfl, hS.x⟩
end Go.Proofs.YtjoihegnjjjdaaaDoor
