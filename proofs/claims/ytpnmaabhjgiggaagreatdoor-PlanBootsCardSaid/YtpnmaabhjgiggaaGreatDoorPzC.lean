/- Pz (written by wip/tools) -/
import Derived.Test.YtpnmaabhjgiggaaGreatDoorPzB
set_option linter.unusedVariables false
set_option linter.unusedSimpArgs false
set_option maxRecDepth 10000
namespace Go.Proofs.YtpnmaabhjgiggaaGreatDoor
open Go Go.RowKit
theorem ag34 : aggB Tryz.prog 34 = some false := by kernel_rfl
theorem ag35 : aggB Tryz.prog 35 = some false := by kernel_rfl
theorem ag36 : aggB Tryz.prog 36 = some false := by kernel_rfl
theorem ag74 : aggB Tryz.prog 74 = some false := by kernel_rfl
theorem ag99 : aggB Tryz.prog 99 = some true := by kernel_rfl
theorem en19 : entersB Tryz.prog 19 = true := by kernel_rfl
theorem en20 : entersB Tryz.prog 20 = true := by kernel_rfl
theorem en38 : entersB Tryz.prog 38 = true := by kernel_rfl
theorem en39 : entersB Tryz.prog 39 = true := by kernel_rfl
theorem en40 : entersB Tryz.prog 40 = true := by kernel_rfl
theorem en41 : entersB Tryz.prog 41 = true := by kernel_rfl
theorem en42 : entersB Tryz.prog 42 = true := by kernel_rfl
theorem en44 : entersB Tryz.prog 44 = true := by kernel_rfl
theorem en68 : entersB Tryz.prog 68 = true := by kernel_rfl
theorem en69 : entersB Tryz.prog 69 = true := by kernel_rfl
theorem en89 : entersB Tryz.prog 89 = true := by kernel_rfl
theorem en98 : entersB Tryz.prog 98 = true := by kernel_rfl
theorem fd71_0 : fdB Tryz.prog 71 0 = some (false, 0, 1) := by kernel_rfl
theorem fo39_0 : fOff Tryz.prog 39 0 = some 0 := by kernel_rfl
theorem fo39_1 : fOff Tryz.prog 39 1 = some 1 := by kernel_rfl
theorem fo39_2 : fOff Tryz.prog 39 2 = some 2 := by kernel_rfl
theorem fo39_5 : fOff Tryz.prog 39 5 = some 5 := by kernel_rfl
theorem fo39_6 : fOff Tryz.prog 39 6 = some 6 := by kernel_rfl
theorem fo39_7 : fOff Tryz.prog 39 7 = some 7 := by kernel_rfl
theorem fo39_8 : fOff Tryz.prog 39 8 = some 8 := by kernel_rfl
theorem fo67_0 : fOff Tryz.prog 67 0 = some 0 := by kernel_rfl
theorem fo67_3 : fOff Tryz.prog 67 3 = some 18 := by kernel_rfl
theorem fo67_4 : fOff Tryz.prog 67 4 = some 19 := by kernel_rfl
theorem fo67_5 : fOff Tryz.prog 67 5 = some 20 := by kernel_rfl
theorem fo71_0 : fOff Tryz.prog 71 0 = some 0 := by kernel_rfl
theorem fo76_0 : fOff Tryz.prog 76 0 = some 0 := by kernel_rfl
theorem fo76_1 : fOff Tryz.prog 76 1 = some 1 := by kernel_rfl
theorem fo99_0 : fOff Tryz.prog 99 0 = some 0 := by kernel_rfl
theorem fo99_1 : fOff Tryz.prog 99 1 = some 1 := by kernel_rfl
theorem sz4 : sizeB Tryz.prog 4 = some 1 := by kernel_rfl
theorem sz76 : sizeB Tryz.prog 76 = some 2 := by kernel_rfl
theorem sz9 : sizeB Tryz.prog 9 = some 1 := by kernel_rfl
theorem sz99 : sizeB Tryz.prog 99 = some 2 := by kernel_rfl
theorem ze99 : zeroB Tryz.prog 99 = some [.int .i64 0, .int .i64 0] := by kernel_rfl

theorem g_r10_procs_w {w : World} {A : Nat → Addr} {cs0 : List Value} {a0 : GPlan} (h0 : RGPlan w cs0 a0) {r : GR10Err} (hm : g_r10_procs a0 = some r) :
    Calls Tryz.prog 39 [.agg cs0.toArray].toArray w (Ret fun u w' => u = .agg (eGR10Err r).toArray ∧ Ext w w') := by
  obtain ⟨vp0_0, vp0_1, vp0_2, vp0_3, rfl, hrp0_0, hrp0_1, hrp0_2, hrp0_3⟩ := h0
  have hS := St.begin NB w
  unfold g_r10_procs at hm
  refine enter Tryz.func39 rfl rfl rfl ?_; intro a H; dsimp only [enumL, Nat.zero_add, Nat.reduceAdd] at H
  refine wp_seq (wp_region_lit (n_box H rfl (cs := [.int .i64 a0.Id, .bool a0.Mobile, vp0_0, vp0_1, vp0_2, .int .i64 a0.Events, vp0_3]) rfl rfl ?_))
  clear H; intro b21 w22 hN hE23 hs; clear a; intro a H
  replace hS := hS.newBlk hN hE23 hs; clear hN hs
  refine n_alloc H ze71 rfl ?_
  clear H; intro b24 w25 hN hE26 hs; clear a; intro a H
  replace hS := hS.newBlk hN hE26 hs; clear hN hs
  refine n_nil (then_normal (wp_seq (wp_seq (wp_region_lit (n_c H (fun HC => ?_)))))); clear H
  refine nc_q HC (q_fieldAddr0 rfl fo27_3) rfl (by kernel_rfl) (V_q (q_load rfl ((hS.blk 1 rfl).ld ag23 rfl)) rfl (by kernel_rfl) ?_); clear HC a; intro a HC
  obtain ⟨A27, c27, hv27, hl27, hm27⟩ := SlR.formV (hrp0_1.ext (Flat.mono _) hS.x)
  refine nc_q HC (q_lenV Tryz.underlying23 rfl hv27) rfl (by kernel_rfl) (V_q (q_lssN (i := a0.Procs.length) (j := 1) rfl rfl) rfl (by kernel_rfl) (V_q (q_move rfl) rfl (by kernel_rfl) (V_g (q_fieldAddr0 rfl fo27_3) (by kernel_rfl) (by kernel_rfl) (by kernel_rfl) (V_g (q_load rfl ((hS.blk 1 rfl).ld ag23 rfl)) (by kernel_rfl) (by kernel_rfl) (by kernel_rfl) (V_g (q_lenV Tryz.underlying23 rfl hv27) (by kernel_rfl) (by kernel_rfl) (by kernel_rfl) (V_g (q_gtrN (i := a0.Procs.length) (j := 8) rfl rfl) (by kernel_rfl) (by kernel_rfl) (by kernel_rfl) (V_or (j := 4) rfl rfl rfl (by kernel_rfl) (by kernel_rfl) ?_))))))); clear HC a; intro a HC
  have H := HC.has; clear HC
  refine n_nil (then_normal (c_cond H rfl (fun hc28 => ?_) (fun hc28 => ?_)))
  · replace hm := condT hm hc28
    refine wp_seq (wp_region_lit ?_)
    replace hm := bindS hm; obtain ⟨r29, hr29, hm⟩ := hm
    refine n_call H rfl en37 (g_r10_bad_w (A := A) hr29) rfl ?_
    clear H; intro x32 w30 hv; clear a; intro a H; obtain ⟨rfl, hE31⟩ := hv
    replace hS := hS.ext hE31
    refine n_storeAll H rfl rfl (vs := [.int .i64 r29.Code, .int .i64 r29.Place]) rfl sz71 (hS.blk 0 rfl) rfl (by simp) ?_
    clear H; intro w33 hN hC34 hz; clear a; intro a H; replace hS := hS.setBlk hN hC34; clear hN hz
    refine n_nil (then_normal (wp_ret (then_ret ?_)))
    obtain rfl := Option.some.inj hm
    replace hS := hS.tk1
    refine retL H (.inr rfl) rfl (vs := [.agg #[.int .i64 r29.Code, .int .i64 r29.Place]]) (resCell rfl ((hS.blk 0 rfl).ldAll ag71 sz71) resNil) ?_
    replace hS := hS.tk0
    exact ⟨rfl, hS.x⟩
  · replace hm := condF hm hc28
    refine wp_skip (then_normal (wp_seq (wp_seq (wp_region_lit (n_q H (q_assign rfl) rfl ?_))))); clear H a; intro a H
    refine n_nil (then_normal (wp_block ?_))
    replace hS := hS.pk1
    replace hm := bindS hm; obtain ⟨q35, hm, hm35⟩ := hm; replace hm := iter_some hm; obtain ⟨n35, hm⟩ := hm
    refine c_loop (σ := Nat × Nat) (fun (m, i36) => [(1, .pointer (some ⟨b21, 0, none⟩)), (2, .pointer (some ⟨b24, 0, none⟩)), (3, .int .i64 ((i36 : Nat) : Int))]) (fun (m, i36) wl => iterN (g_r10_procs_L7 a0) m i36 = some q35 ∧ St NB w wl [blkR b21 [.int .i64 a0.Id, .bool a0.Mobile, vp0_0, vp0_1, vp0_2, .int .i64 a0.Events, vp0_3] 27, blkR b24 [.int .i64 0, .int .i64 0] 71]) (fun (m, i36) => m) (n35, 0) H ⟨rfl, rfl, rfl, trivial⟩ ⟨hm, hS⟩ ?_
    clear H hS hm a; intro xx a w37 H hR; obtain ⟨m, i36⟩ := xx; simp only [ent, List.map_cons, List.map_nil] at H; (try dsimp only at hR); obtain ⟨hm, hS⟩ := hR
    replace hm := iterN_step hm; obtain ⟨m35, o35, rfl, hm, hn35⟩ := hm; try dsimp only [g_r10_procs_L7] at hm
    refine wp_seq (wp_seq (wp_region_lit (n_q H (q_move rfl) rfl (W_q (q_fieldAddr0 rfl fo27_3) rfl (W_q (q_load rfl ((hS.blk 0 rfl).ld ag23 rfl)) rfl (W_q (q_lenV Tryz.underlying23 rfl hv27) rfl (W_q (q_lssN (i := i36) (j := a0.Procs.length) rfl rfl) rfl ?_))))))); clear H a; intro a H
    refine n_nil (then_normal (c_cond H rfl (fun hc38 => ?_) (fun hc38 => ?_)))
    · replace hm := condT hm hc38
      have hlt39 : i36 < a0.Procs.length := of_decide_eq_true hc38
      refine wp_skip (then_normal (wp_seq (wp_block (wp_seq (wp_region_lit (n_q H (q_fieldAddr0 rfl fo27_3) rfl (W_q (q_load rfl ((hS.blk 0 rfl).ld ag23 rfl)) rfl (W_q (q_move rfl) rfl ?_)))))))); clear H a; intro a H
      replace hm := bindS hm; obtain ⟨x40, hx40, hm⟩ := hm
      obtain ⟨adx40, hAx40⟩ := SlR.adV (hrp0_1.ext (Flat.mono _) hS.x) hv27 hx40
      refine n_q H (q_ixV (i := i36) Tryz.underlying23 sz62 rfl hv27 hAx40 rfl (natI hx40)) rfl (W_q (q_load rfl (SlR.ldAggV (hrp0_1.ext (Flat.mono _) hS.x) hv27 hAx40 ag62 sz62 hx40)) rfl ?_); clear H a; intro a H
      refine n_alloc H ze62 rfl ?_
      clear H; intro b41 w42 hN hE43 hs; clear a; intro a H
      replace hS := hS.newBlk hN hE43 hs; clear hN hs
      refine n_storeAll H rfl rfl (vs := [.int .i64 x40.Entry, .int .i64 x40.Prio, .bool x40.Auto]) rfl sz62 (hS.blk 0 rfl) rfl (by simp) ?_
      clear H; intro w44 hN hC45 hz; clear a; intro a H; replace hS := hS.setBlk hN hC45; clear hN hz
      refine n_nil (then_normal ?_)
      replace hm := bindS hm; obtain ⟨j46, hm, hm46⟩ := hm
      refine c_join (σ := Bool) H (fun q547 => [(1, .pointer (some ⟨b21, 0, none⟩)), (2, .pointer (some ⟨b24, 0, none⟩)), (3, .int .i64 ((i36 : Nat) : Int)), (55, .bool q547)]) (fun q547 wl => (g_r10_procs_J6 i36) q547 = some o35 ∧ St NB w wl [blkR b21 [.int .i64 a0.Id, .bool a0.Mobile, vp0_0, vp0_1, vp0_2, .int .i64 a0.Events, vp0_3] 27, blkR b24 [.int .i64 0, .int .i64 0] 71]) ?_ ?_
      · skip
        refine wp_region_lit (n_q H (q_fieldAddr0 rfl fo62_0) rfl (W_q (q_load rfl ((hS.blk 0 rfl).ld ag3 rfl)) rfl (W_q (q_lss rfl rfl) rfl (W_q (q_move rfl) rfl ?_)))); clear H a; intro a H
        rcases Bool.eq_false_or_eq_true (decide (x40.Entry < 0)) with hg548 | hg548
        · replace H := H.know 31 rfl hg548
          replace hm := condT hm hg548
          refine n_no H rfl rfl (by decide) rfl (W_no rfl rfl (by decide) rfl (W_no rfl rfl (by decide) rfl (W_no rfl rfl (by decide) rfl (W_q (q_pickT rfl rfl) rfl (W_q (q_move rfl) rfl (W_no rfl rfl (by decide) rfl (W_no rfl rfl (by decide) rfl (W_no rfl rfl (by decide) rfl (W_no rfl rfl (by decide) rfl (W_no rfl rfl (by decide) rfl (W_no rfl rfl (by decide) rfl ?_))))))))))); clear H a; intro a H
          refine n_no H rfl rfl (by decide) rfl (W_q (q_pickT rfl rfl) rfl (W_q (q_move rfl) rfl (W_no rfl rfl (by decide) rfl (W_no rfl rfl (by decide) rfl (W_no rfl rfl (by decide) rfl (W_q (q_pickT rfl rfl) rfl (W_q (q_move rfl) rfl (W_no rfl rfl (by decide) rfl (W_no rfl rfl (by decide) rfl (W_no rfl rfl (by decide) rfl (W_q (q_pickT rfl rfl) rfl ?_))))))))))); clear H a; intro a H
          refine n_nil (then_normal ?_)
          obtain rfl := Option.some.inj hm; replace hm := hm46; try dsimp only at hm
          replace hS := hS.pk2
          replace hS := hS.pk2
          replace hS := hS.tk2
          exact join true H ⟨rfl, rfl, rfl, rfl, trivial⟩ ⟨hm, hS⟩
        · replace H := H.know 31 rfl hg548
          replace hm := condF hm hg548
          refine n_yes H rfl rfl (n_q H (q_fieldAddr0 rfl fo62_0) rfl (W_yes rfl rfl (W_q (q_load rfl ((hS.blk 0 rfl).ld ag3 rfl)) rfl (W_yes rfl rfl (W_q (q_remW rfl rfl (by decide)) rfl (W_yes rfl rfl (W_q (q_neqD rfl rfl) rfl (W_q (q_pickF rfl rfl) rfl (W_q (q_move rfl) rfl ?_))))))))); clear H a; intro a H
          rcases Bool.eq_false_or_eq_true (!decide ((Int.tmod x40.Entry 4) = 0)) with hg549 | hg549
          · replace H := H.know 37 rfl hg549
            replace hm := condT hm hg549
            refine n_no H rfl rfl (by decide) rfl (W_no rfl rfl (by decide) rfl (W_no rfl rfl (by decide) rfl (W_no rfl rfl (by decide) rfl (W_no rfl rfl (by decide) rfl (W_no rfl rfl (by decide) rfl (W_no rfl rfl (by decide) rfl (W_q (q_pickT rfl rfl) rfl (W_q (q_move rfl) rfl (W_no rfl rfl (by decide) rfl (W_no rfl rfl (by decide) rfl (W_no rfl rfl (by decide) rfl ?_))))))))))); clear H a; intro a H
            refine n_q H (q_pickT rfl rfl) rfl (W_q (q_move rfl) rfl (W_no rfl rfl (by decide) rfl (W_no rfl rfl (by decide) rfl (W_no rfl rfl (by decide) rfl (W_q (q_pickT rfl rfl) rfl ?_))))); clear H a; intro a H
            refine n_nil (then_normal ?_)
            obtain rfl := Option.some.inj hm; replace hm := hm46; try dsimp only at hm
            replace hS := hS.pk2
            replace hS := hS.pk2
            replace hS := hS.tk2
            exact join true H ⟨rfl, rfl, rfl, rfl, trivial⟩ ⟨hm, hS⟩
          · replace H := H.know 37 rfl hg549
            replace hm := condF hm hg549
            refine n_yes H rfl rfl (n_q H (q_fieldAddr0 rfl fo62_0) rfl (W_yes rfl rfl (W_q (q_load rfl ((hS.blk 0 rfl).ld ag3 rfl)) rfl (W_yes rfl rfl (W_q (q_fieldAddr0 rfl fo27_2) rfl (W_yes rfl rfl (W_q (q_load rfl ((hS.blk 1 rfl).ld ag22 rfl)) rfl (W_yes rfl rfl ?_)))))))); clear H a; intro a H
            obtain ⟨A550, c550, hv550, hl550, hm550⟩ := SlR.formV (hrp0_0.ext (Flat.mono _) hS.x)
            refine n_q H (q_lenV Tryz.underlying22 rfl hv550) rfl (W_yes rfl rfl (W_q (q_mulW rfl rfl) rfl (W_yes rfl rfl (W_q (q_geq rfl rfl) rfl (W_q (q_pickF rfl rfl) rfl (W_q (q_move rfl) rfl ?_)))))); clear H a; intro a H
            rcases Bool.eq_false_or_eq_true (decide ((IntKind.i64.wrap (64 * ((a0.Pages.length : Nat) : Int))) ≤ x40.Entry)) with hg551 | hg551
            · replace H := H.know 46 rfl hg551
              replace hm := condT hm hg551
              refine n_no H rfl rfl (by decide) rfl (W_no rfl rfl (by decide) rfl (W_no rfl rfl (by decide) rfl (W_q (q_pickT rfl rfl) rfl (W_q (q_move rfl) rfl (W_no rfl rfl (by decide) rfl (W_no rfl rfl (by decide) rfl (W_no rfl rfl (by decide) rfl (W_q (q_pickT rfl rfl) rfl ?_)))))))); clear H a; intro a H
              refine n_nil (then_normal ?_)
              obtain rfl := Option.some.inj hm; replace hm := hm46; try dsimp only at hm
              replace hS := hS.pk2
              replace hS := hS.pk2
              replace hS := hS.tk2
              exact join true H ⟨rfl, rfl, rfl, rfl, trivial⟩ ⟨hm, hS⟩
            · replace H := H.know 46 rfl hg551
              replace hm := condF hm hg551
              refine n_yes H rfl rfl (n_q H (q_fieldAddr0 rfl fo62_1) rfl (W_yes rfl rfl (W_q (q_load rfl ((hS.blk 0 rfl).ld ag3 rfl)) rfl (W_yes rfl rfl (W_q (q_lss rfl rfl) rfl (W_q (q_pickF rfl rfl) rfl (W_q (q_move rfl) rfl ?_))))))); clear H a; intro a H
              rcases Bool.eq_false_or_eq_true (decide (x40.Prio < 0)) with hg552 | hg552
              · replace H := H.know 51 rfl hg552
                replace hm := condT hm hg552
                refine n_no H rfl rfl (by decide) rfl (W_no rfl rfl (by decide) rfl (W_no rfl rfl (by decide) rfl (W_q (q_pickT rfl rfl) rfl ?_))); clear H a; intro a H
                refine n_nil (then_normal ?_)
                obtain rfl := Option.some.inj hm; replace hm := hm46; try dsimp only at hm
                replace hS := hS.pk2
                replace hS := hS.pk2
                replace hS := hS.tk2
                exact join true H ⟨rfl, rfl, rfl, rfl, trivial⟩ ⟨hm, hS⟩
              · replace H := H.know 51 rfl hg552
                replace hm := condF hm hg552
                refine n_yes H rfl rfl (n_q H (q_fieldAddr0 rfl fo62_1) rfl (W_yes rfl rfl (W_q (q_load rfl ((hS.blk 0 rfl).ld ag3 rfl)) rfl (W_yes rfl rfl (W_q (q_gtr rfl rfl) rfl (W_q (q_pickF rfl rfl) rfl ?_)))))); clear H a; intro a H
                refine n_nil (then_normal ?_)
                obtain rfl := Option.some.inj hm; replace hm := hm46; try dsimp only at hm
                replace hS := hS.pk2
                replace hS := hS.pk2
                replace hS := hS.tk2
                exact join (decide (255 < x40.Prio)) H ⟨rfl, rfl, rfl, rfl, trivial⟩ ⟨hm, hS⟩
      · clear H hS hm a; intro q547 a w553 H hR
        simp only [ent, List.map_cons, List.map_nil] at H; (try dsimp only at hR); obtain ⟨hm, hS⟩ := hR; try dsimp only [g_r10_procs_J6] at hm
        refine c_cond H rfl (fun hc554 => ?_) (fun hc554 => ?_)
        · replace hm := condT hm hc554
          refine wp_seq (wp_region_lit (n_q H (q_move rfl) rfl (W_q (q_build (cs := [.int .i64 4, .int .i64 ((i36 : Nat) : Int)]) ze71 bd71 pl71 rfl (by kernel_rfl)) rfl ?_))); clear H a; intro a H
          replace hS := hS.pk1
          refine n_storeAll H rfl rfl (vs := [.int .i64 4, .int .i64 ((i36 : Nat) : Int)]) rfl sz71 (hS.blk 0 rfl) rfl (by simp) ?_
          clear H; intro w555 hN hC556 hz; clear a; intro a H; replace hS := hS.setBlk hN hC556; clear hN hz
          refine n_nil (then_normal (wp_ret (block_ret (then_ret (then_ret (block_ret (then_ret ?_)))))))
          obtain rfl := Option.some.inj hm; have hz : _ = q35 := hn35; subst hz; replace hm := hm35; try dsimp only at hm
          obtain rfl := Option.some.inj hm
          replace hS := hS.tk1
          refine retL H (.inr rfl) rfl (vs := [.agg #[.int .i64 4, .int .i64 ((i36 : Nat) : Int)]]) (resCell rfl ((hS.blk 0 rfl).ldAll ag71 sz71) resNil) ?_
          replace hS := hS.tk0
          exact ⟨rfl, hS.x⟩
        · replace hm := condF hm hc554
          refine wp_skip (block_normal (then_normal (wp_region_lit (n_q H (q_move rfl) rfl (W_q (q_incr (i := i36) (j := 1) rfl rfl (by omega)) rfl (W_q (q_assign rfl) rfl ?_)))))); clear H a; intro a H
          refine n_nil (then_normal ?_)
          obtain rfl := Option.some.inj hm
          exact round (m35, i36 + 1) H ⟨rfl, rfl, rfl, trivial⟩ ⟨hn35, hS⟩ (Nat.lt_succ_self _)
    · replace hm := condF hm hc38
      refine wp_exit (then_exit (then_exit (block_exit ?_)))
      obtain rfl := Option.some.inj hm; have hz : _ = q35 := hn35; subst hz; replace hm := hm35; try dsimp only at hm
      refine then_normal (wp_seq (wp_region_lit ?_))
      replace hm := bindS hm; obtain ⟨r557, hr557, hm⟩ := hm
      refine n_call H rfl en43 (g_r10_none_w (A := A) hr557) rfl ?_
      clear H; intro x560 w558 hv; clear a; intro a H; obtain ⟨rfl, hE559⟩ := hv
      replace hS := hS.ext hE559
      replace hS := hS.pk1
      refine n_storeAll H rfl rfl (vs := [.int .i64 r557.Code, .int .i64 r557.Place]) rfl sz71 (hS.blk 0 rfl) rfl (by simp) ?_
      clear H; intro w561 hN hC562 hz; clear a; intro a H; replace hS := hS.setBlk hN hC562; clear hN hz
      refine n_nil (then_normal (wp_ret ?_))
      obtain rfl := Option.some.inj hm
      replace hS := hS.tk1
      refine retL H (.inr rfl) rfl (vs := [.agg #[.int .i64 r557.Code, .int .i64 r557.Place]]) (resCell rfl ((hS.blk 0 rfl).ldAll ag71 sz71) resNil) ?_
      replace hS := hS.tk0
      exact ⟨rfl, hS.x⟩
theorem g_r07_CheckPlan_w {w : World} {A : Nat → Addr} {a0 : GPortPlan} {r : Int} (hm : g_r07_CheckPlan a0 = some r) :
    Calls Tryz.prog 68 [.agg (eGPortPlan a0).toArray].toArray w (Ret fun u w' => u = .int .i64 r ∧ Ext w w') := by
  have hS := St.begin NB w
  unfold g_r07_CheckPlan at hm
  refine enter Tryz.func68 rfl rfl rfl ?_; intro a H; dsimp only [enumL, Nat.zero_add, Nat.reduceAdd] at H
  refine wp_seq (wp_region_lit (n_box H rfl (cs := [.int .i64 a0.Kind, .int .i64 a0.Size, .int .i64 a0.Depth, .int .i64 a0.Refresh]) rfl rfl ?_))
  clear H; intro b21 w22 hN hE23 hs; clear a; intro a H
  replace hS := hS.newBlk hN hE23 hs; clear hN hs
  refine n_q H (q_assign rfl) rfl ?_; clear H a; intro a H
  refine n_nil (then_normal (wp_seq (wp_seq (wp_region_lit (n_c H (fun HC => ?_)))))); clear H
  refine nc_q HC (q_fieldAddr0 rfl fo78_0) rfl (by kernel_rfl) (V_q (q_load rfl ((hS.blk 0 rfl).ld ag3 rfl)) rfl (by kernel_rfl) (V_q (q_lss rfl rfl) rfl (by kernel_rfl) (V_q (q_move rfl) rfl (by kernel_rfl) (V_g (q_fieldAddr0 rfl fo78_0) (by kernel_rfl) (by kernel_rfl) (by kernel_rfl) (V_g (q_load rfl ((hS.blk 0 rfl).ld ag3 rfl)) (by kernel_rfl) (by kernel_rfl) (by kernel_rfl) (V_g (q_gtr rfl rfl) (by kernel_rfl) (by kernel_rfl) (by kernel_rfl) (V_or (j := 3) rfl rfl rfl (by kernel_rfl) (by kernel_rfl) ?_))))))); clear HC a; intro a HC
  have H := HC.has; clear HC
  refine n_nil (then_normal (c_cond H rfl (fun hc24 => ?_) (fun hc24 => ?_)))
  · replace hm := condT hm hc24
    refine wp_seq (wp_region_lit (n_q H (q_assign rfl) rfl ?_)); clear H a; intro a H
    refine n_nil (then_normal (wp_ret (then_ret ?_)))
    obtain rfl := Option.some.inj hm
    replace hS := hS.tk0
    refine ret1 H (.inr rfl) rfl rfl ?_
    exact ⟨rfl, hS.x⟩
  · replace hm := condF hm hc24
    refine wp_skip (then_normal (wp_seq (wp_seq (wp_region_lit (n_c H (fun HC => ?_)))))); clear H
    refine nc_q HC (q_fieldAddr0 rfl fo78_1) rfl (by kernel_rfl) (V_q (q_load rfl ((hS.blk 0 rfl).ld ag3 rfl)) rfl (by kernel_rfl) (V_q (q_lss rfl rfl) rfl (by kernel_rfl) (V_q (q_move rfl) rfl (by kernel_rfl) (V_g (q_fieldAddr0 rfl fo78_1) (by kernel_rfl) (by kernel_rfl) (by kernel_rfl) (V_g (q_load rfl ((hS.blk 0 rfl).ld ag3 rfl)) (by kernel_rfl) (by kernel_rfl) (by kernel_rfl) (V_g (q_gtr rfl rfl) (by kernel_rfl) (by kernel_rfl) (by kernel_rfl) (V_or (j := 3) rfl rfl rfl (by kernel_rfl) (by kernel_rfl) ?_))))))); clear HC a; intro a HC
    have H := HC.has; clear HC
    refine n_nil (then_normal (c_cond H rfl (fun hc25 => ?_) (fun hc25 => ?_)))
    · replace hm := condT hm hc25
      refine wp_seq (wp_region_lit (n_q H (q_assign rfl) rfl ?_)); clear H a; intro a H
      refine n_nil (then_normal (wp_ret (then_ret ?_)))
      obtain rfl := Option.some.inj hm
      replace hS := hS.tk0
      refine ret1 H (.inr rfl) rfl rfl ?_
      exact ⟨rfl, hS.x⟩
    · replace hm := condF hm hc25
      refine wp_skip (then_normal (wp_seq (wp_region_lit (n_q H (q_fieldAddr0 rfl fo78_0) rfl (W_q (q_load rfl ((hS.blk 0 rfl).ld ag3 rfl)) rfl (W_q (q_geq rfl rfl) rfl (W_q (q_assign rfl) rfl ?_))))))); clear H a; intro a H
      refine n_nil (then_normal (wp_seq (wp_seq (wp_region_lit (n_c H (fun HC => ?_)))))); clear H
      refine nc_q HC (q_fieldAddr0 rfl fo78_2) rfl (by kernel_rfl) (V_q (q_load rfl ((hS.blk 0 rfl).ld ag3 rfl)) rfl (by kernel_rfl) (V_q (q_lss rfl rfl) rfl (by kernel_rfl) (V_q (q_move rfl) rfl (by kernel_rfl) (V_g (q_fieldAddr0 rfl fo78_2) (by kernel_rfl) (by kernel_rfl) (by kernel_rfl) (V_g (q_load rfl ((hS.blk 0 rfl).ld ag3 rfl)) (by kernel_rfl) (by kernel_rfl) (by kernel_rfl) (V_g (q_gtr rfl rfl) (by kernel_rfl) (by kernel_rfl) (by kernel_rfl) (V_or (j := 3) rfl rfl rfl (by kernel_rfl) (by kernel_rfl) (V_q (q_move rfl) rfl (by kernel_rfl) (V_g (q_move rfl) (by kernel_rfl) (by kernel_rfl) (by kernel_rfl) (V_g (q_not rfl) (by kernel_rfl) (by kernel_rfl) (by kernel_rfl) (V_g (q_move rfl) (by kernel_rfl) (by kernel_rfl) (by kernel_rfl) ?_))))))))))); clear HC a; intro a HC
      refine nc_g HC (q_fieldAddr0 rfl fo78_2) (by kernel_rfl) (by kernel_rfl) (by kernel_rfl) (V_g (q_load rfl ((hS.blk 0 rfl).ld ag3 rfl)) (by kernel_rfl) (by kernel_rfl) (by kernel_rfl) (V_g (q_neqD rfl rfl) (by kernel_rfl) (by kernel_rfl) (by kernel_rfl) ?_)); clear HC a; intro a HC
      refine nc_andg (j := 11) HC rfl rfl rfl (by kernel_rfl) (by kernel_rfl) (by kernel_rfl) ?_; clear HC a; intro a HC
      refine nc_or (j := 8) HC rfl rfl rfl (by kernel_rfl) (by kernel_rfl) ?_; clear HC a; intro a HC
      have H := HC.has; clear HC
      refine n_nil (then_normal (c_cond H rfl (fun hc26 => ?_) (fun hc26 => ?_)))
      · replace hm := condT hm hc26
        refine wp_seq (wp_region_lit (n_q H (q_assign rfl) rfl ?_)); clear H a; intro a H
        refine n_nil (then_normal (wp_ret (then_ret ?_)))
        obtain rfl := Option.some.inj hm
        replace hS := hS.tk0
        refine ret1 H (.inr rfl) rfl rfl ?_
        exact ⟨rfl, hS.x⟩
      · replace hm := condF hm hc26
        refine wp_skip (then_normal (wp_seq (wp_seq (wp_region_lit (n_c H (fun HC => ?_)))))); clear H
        refine nc_q HC (q_fieldAddr0 rfl fo78_3) rfl (by kernel_rfl) (V_q (q_load rfl ((hS.blk 0 rfl).ld ag3 rfl)) rfl (by kernel_rfl) (V_q (q_lss rfl rfl) rfl (by kernel_rfl) (V_q (q_move rfl) rfl (by kernel_rfl) (V_g (q_fieldAddr0 rfl fo78_3) (by kernel_rfl) (by kernel_rfl) (by kernel_rfl) (V_g (q_load rfl ((hS.blk 0 rfl).ld ag3 rfl)) (by kernel_rfl) (by kernel_rfl) (by kernel_rfl) (V_g (q_gtr rfl rfl) (by kernel_rfl) (by kernel_rfl) (by kernel_rfl) (V_or (j := 3) rfl rfl rfl (by kernel_rfl) (by kernel_rfl) (V_q (q_move rfl) rfl (by kernel_rfl) (V_g (q_fieldAddr0 rfl fo78_0) (by kernel_rfl) (by kernel_rfl) (by kernel_rfl) (V_g (q_load rfl ((hS.blk 0 rfl).ld ag3 rfl)) (by kernel_rfl) (by kernel_rfl) (by kernel_rfl) (V_g (q_neqD rfl rfl) (by kernel_rfl) (by kernel_rfl) (by kernel_rfl) ?_))))))))))); clear HC a; intro a HC
        refine nc_g HC (q_move rfl) (by kernel_rfl) (by kernel_rfl) (by kernel_rfl) (V_g (q_fieldAddr0 rfl fo78_3) (by kernel_rfl) (by kernel_rfl) (by kernel_rfl) (V_g (q_load rfl ((hS.blk 0 rfl).ld ag3 rfl)) (by kernel_rfl) (by kernel_rfl) (by kernel_rfl) (V_g (q_neqD rfl rfl) (by kernel_rfl) (by kernel_rfl) (by kernel_rfl) ?_))); clear HC a; intro a HC
        refine nc_andg (j := 12) HC rfl rfl rfl (by kernel_rfl) (by kernel_rfl) (by kernel_rfl) ?_; clear HC a; intro a HC
        refine nc_or (j := 8) HC rfl rfl rfl (by kernel_rfl) (by kernel_rfl) ?_; clear HC a; intro a HC
        have H := HC.has; clear HC
        refine n_nil (then_normal (c_cond H rfl (fun hc27 => ?_) (fun hc27 => ?_)))
        · replace hm := condT hm hc27
          refine wp_seq (wp_region_lit (n_q H (q_assign rfl) rfl ?_)); clear H a; intro a H
          refine n_nil (then_normal (wp_ret (then_ret ?_)))
          obtain rfl := Option.some.inj hm
          replace hS := hS.tk0
          refine ret1 H (.inr rfl) rfl rfl ?_
          exact ⟨rfl, hS.x⟩
        · replace hm := condF hm hc27
          refine wp_skip (then_normal (wp_seq (wp_region_lit (n_q H (q_assign rfl) rfl ?_)))); clear H a; intro a H
          refine n_nil (then_normal (wp_ret ?_))
          obtain rfl := Option.some.inj hm
          replace hS := hS.tk0
          refine ret1 H (.inr rfl) rfl rfl ?_
          exact ⟨rfl, hS.x⟩
theorem g_r10_ports_w {w : World} {A : Nat → Addr} {cs0 : List Value} {a0 : GPlan} (h0 : RGPlan w cs0 a0) {r : GR10Err} (hm : g_r10_ports a0 = some r) :
    Calls Tryz.prog 40 [.agg cs0.toArray].toArray w (Ret fun u w' => u = .agg (eGR10Err r).toArray ∧ Ext w w') := by
  obtain ⟨vp0_0, vp0_1, vp0_2, vp0_3, rfl, hrp0_0, hrp0_1, hrp0_2, hrp0_3⟩ := h0
  have hS := St.begin NB w
  unfold g_r10_ports at hm
  refine enter Tryz.func40 rfl rfl rfl ?_; intro a H; dsimp only [enumL, Nat.zero_add, Nat.reduceAdd] at H
  refine wp_seq (wp_region_lit (n_box H rfl (cs := [.int .i64 a0.Id, .bool a0.Mobile, vp0_0, vp0_1, vp0_2, .int .i64 a0.Events, vp0_3]) rfl rfl ?_))
  clear H; intro b21 w22 hN hE23 hs; clear a; intro a H
  replace hS := hS.newBlk hN hE23 hs; clear hN hs
  refine n_alloc H ze71 rfl ?_
  clear H; intro b24 w25 hN hE26 hs; clear a; intro a H
  replace hS := hS.newBlk hN hE26 hs; clear hN hs
  refine n_nil (then_normal (wp_seq (wp_seq (wp_region_lit (n_q H (q_fieldAddr0 rfl fo27_4) rfl (W_q (q_load rfl ((hS.blk 1 rfl).ld ag24 rfl)) rfl ?_)))))); clear H a; intro a H
  obtain ⟨A27, c27, hv27, hl27, hm27⟩ := SlR.formV (hrp0_2.ext (Flat.mono _) hS.x)
  refine n_q H (q_lenV Tryz.underlying24 rfl hv27) rfl (W_q (q_gtrN (i := a0.Ports.length) (j := 8) rfl rfl) rfl ?_); clear H a; intro a H
  refine n_nil (then_normal (c_cond H rfl (fun hc28 => ?_) (fun hc28 => ?_)))
  · replace hm := condT hm hc28
    refine wp_seq (wp_region_lit ?_)
    replace hm := bindS hm; obtain ⟨r29, hr29, hm⟩ := hm
    refine n_call H rfl en37 (g_r10_bad_w (A := A) hr29) rfl ?_
    clear H; intro x32 w30 hv; clear a; intro a H; obtain ⟨rfl, hE31⟩ := hv
    replace hS := hS.ext hE31
    refine n_storeAll H rfl rfl (vs := [.int .i64 r29.Code, .int .i64 r29.Place]) rfl sz71 (hS.blk 0 rfl) rfl (by simp) ?_
    clear H; intro w33 hN hC34 hz; clear a; intro a H; replace hS := hS.setBlk hN hC34; clear hN hz
    refine n_nil (then_normal (wp_ret (then_ret ?_)))
    obtain rfl := Option.some.inj hm
    replace hS := hS.tk1
    refine retL H (.inr rfl) rfl (vs := [.agg #[.int .i64 r29.Code, .int .i64 r29.Place]]) (resCell rfl ((hS.blk 0 rfl).ldAll ag71 sz71) resNil) ?_
    replace hS := hS.tk0
    exact ⟨rfl, hS.x⟩
  · replace hm := condF hm hc28
    refine wp_skip (then_normal (wp_seq (wp_seq (wp_region_lit (n_q H (q_assign rfl) rfl ?_))))); clear H a; intro a H
    refine n_nil (then_normal (wp_block ?_))
    replace hS := hS.pk1
    replace hm := bindS hm; obtain ⟨q35, hm, hm35⟩ := hm; replace hm := iter_some hm; obtain ⟨n35, hm⟩ := hm
    refine c_loop (σ := Nat × Nat) (fun (m, i36) => [(1, .pointer (some ⟨b21, 0, none⟩)), (2, .pointer (some ⟨b24, 0, none⟩)), (3, .int .i64 ((i36 : Nat) : Int))]) (fun (m, i36) wl => iterN (g_r10_ports_L1 a0) m i36 = some q35 ∧ St NB w wl [blkR b21 [.int .i64 a0.Id, .bool a0.Mobile, vp0_0, vp0_1, vp0_2, .int .i64 a0.Events, vp0_3] 27, blkR b24 [.int .i64 0, .int .i64 0] 71]) (fun (m, i36) => m) (n35, 0) H ⟨rfl, rfl, rfl, trivial⟩ ⟨hm, hS⟩ ?_
    clear H hS hm a; intro xx a w37 H hR; obtain ⟨m, i36⟩ := xx; simp only [ent, List.map_cons, List.map_nil] at H; (try dsimp only at hR); obtain ⟨hm, hS⟩ := hR
    replace hm := iterN_step hm; obtain ⟨m35, o35, rfl, hm, hn35⟩ := hm; try dsimp only [g_r10_ports_L1] at hm
    refine wp_seq (wp_seq (wp_region_lit (n_q H (q_move rfl) rfl (W_q (q_fieldAddr0 rfl fo27_4) rfl (W_q (q_load rfl ((hS.blk 0 rfl).ld ag24 rfl)) rfl (W_q (q_lenV Tryz.underlying24 rfl hv27) rfl (W_q (q_lssN (i := i36) (j := a0.Ports.length) rfl rfl) rfl ?_))))))); clear H a; intro a H
    refine n_nil (then_normal (c_cond H rfl (fun hc38 => ?_) (fun hc38 => ?_)))
    · replace hm := condT hm hc38
      have hlt39 : i36 < a0.Ports.length := of_decide_eq_true hc38
      refine wp_skip (then_normal (wp_seq (wp_block (wp_seq (wp_region_lit (n_q H (q_fieldAddr0 rfl fo27_4) rfl (W_q (q_load rfl ((hS.blk 0 rfl).ld ag24 rfl)) rfl (W_q (q_move rfl) rfl ?_)))))))); clear H a; intro a H
      replace hm := bindS hm; obtain ⟨x40, hx40, hm⟩ := hm
      obtain ⟨adx40, hAx40⟩ := SlR.adV (hrp0_2.ext (Flat.mono _) hS.x) hv27 hx40
      refine n_q H (q_ixV (i := i36) Tryz.underlying24 sz78 rfl hv27 hAx40 rfl (natI hx40)) rfl (W_q (q_load rfl (SlR.ldAggV (hrp0_2.ext (Flat.mono _) hS.x) hv27 hAx40 ag78 sz78 hx40)) rfl ?_); clear H a; intro a H
      replace hm := bindS hm; obtain ⟨r41, hr41, hm⟩ := hm
      refine n_call H rfl en68 (g_r07_CheckPlan_w (A := A) hr41) rfl ?_
      clear H; intro x44 w42 hv; clear a; intro a H; obtain ⟨rfl, hE43⟩ := hv
      replace hS := hS.ext hE43
      refine n_q H (q_assign rfl) rfl ?_; clear H a; intro a H
      refine n_nil (then_normal (wp_seq (wp_region_lit (n_q H (q_move rfl) rfl (W_q (q_neqD rfl rfl) rfl ?_))))); clear H a; intro a H
      refine n_nil (then_normal (c_cond H rfl (fun hc45 => ?_) (fun hc45 => ?_)))
      · replace hm := condT hm hc45
        refine wp_seq (wp_region_lit (n_q H (q_move rfl) rfl (W_q (q_move rfl) rfl (W_q (q_build (cs := [.int .i64 r41, .int .i64 ((i36 : Nat) : Int)]) ze71 bd71 pl71 rfl (by kernel_rfl)) rfl ?_)))); clear H a; intro a H
        replace hS := hS.pk1
        refine n_storeAll H rfl rfl (vs := [.int .i64 r41, .int .i64 ((i36 : Nat) : Int)]) rfl sz71 (hS.blk 0 rfl) rfl (by simp) ?_
        clear H; intro w46 hN hC47 hz; clear a; intro a H; replace hS := hS.setBlk hN hC47; clear hN hz
        refine n_nil (then_normal (wp_ret (block_ret (then_ret (then_ret (block_ret (then_ret ?_)))))))
        obtain rfl := Option.some.inj hm; have hz : _ = q35 := hn35; subst hz; replace hm := hm35; try dsimp only at hm
        obtain rfl := Option.some.inj hm
        replace hS := hS.tk1
        refine retL H (.inr rfl) rfl (vs := [.agg #[.int .i64 r41, .int .i64 ((i36 : Nat) : Int)]]) (resCell rfl ((hS.blk 0 rfl).ldAll ag71 sz71) resNil) ?_
        replace hS := hS.tk0
        exact ⟨rfl, hS.x⟩
      · replace hm := condF hm hc45
        refine wp_skip (block_normal (then_normal (wp_region_lit (n_q H (q_move rfl) rfl (W_q (q_incr (i := i36) (j := 1) rfl rfl (by omega)) rfl (W_q (q_assign rfl) rfl ?_)))))); clear H a; intro a H
        refine n_nil (then_normal ?_)
        obtain rfl := Option.some.inj hm
        exact round (m35, i36 + 1) H ⟨rfl, rfl, rfl, trivial⟩ ⟨hn35, hS⟩ (Nat.lt_succ_self _)
    · replace hm := condF hm hc38
      refine wp_exit (then_exit (then_exit (block_exit ?_)))
      obtain rfl := Option.some.inj hm; have hz : _ = q35 := hn35; subst hz; replace hm := hm35; try dsimp only at hm
      refine then_normal (wp_seq (wp_region_lit ?_))
      replace hm := bindS hm; obtain ⟨r48, hr48, hm⟩ := hm
      refine n_call H rfl en43 (g_r10_none_w (A := A) hr48) rfl ?_
      clear H; intro x51 w49 hv; clear a; intro a H; obtain ⟨rfl, hE50⟩ := hv
      replace hS := hS.ext hE50
      replace hS := hS.pk1
      refine n_storeAll H rfl rfl (vs := [.int .i64 r48.Code, .int .i64 r48.Place]) rfl sz71 (hS.blk 0 rfl) rfl (by simp) ?_
      clear H; intro w52 hN hC53 hz; clear a; intro a H; replace hS := hS.setBlk hN hC53; clear hN hz
      refine n_nil (then_normal (wp_ret ?_))
      obtain rfl := Option.some.inj hm
      replace hS := hS.tk1
      refine retL H (.inr rfl) rfl (vs := [.agg #[.int .i64 r48.Code, .int .i64 r48.Place]]) (resCell rfl ((hS.blk 0 rfl).ldAll ag71 sz71) resNil) ?_
      replace hS := hS.tk0
      exact ⟨rfl, hS.x⟩
theorem g_r10_things_w {w : World} {A : Nat → Addr} {cs0 : List Value} {a0 : GPlan} (h0 : RGPlan w cs0 a0) {r : GR10Err} (hm : g_r10_things a0 = some r) :
    Calls Tryz.prog 41 [.agg cs0.toArray].toArray w (Ret fun u w' => u = .agg (eGR10Err r).toArray ∧ Ext w w') := by
  obtain ⟨vp0_0, vp0_1, vp0_2, vp0_3, rfl, hrp0_0, hrp0_1, hrp0_2, hrp0_3⟩ := h0
  have hS := St.begin NB w
  unfold g_r10_things at hm
  refine enter Tryz.func41 rfl rfl rfl ?_; intro a H; dsimp only [enumL, Nat.zero_add, Nat.reduceAdd] at H
  refine wp_seq (wp_region_lit (n_box H rfl (cs := [.int .i64 a0.Id, .bool a0.Mobile, vp0_0, vp0_1, vp0_2, .int .i64 a0.Events, vp0_3]) rfl rfl ?_))
  clear H; intro b21 w22 hN hE23 hs; clear a; intro a H
  replace hS := hS.newBlk hN hE23 hs; clear hN hs
  refine n_alloc H ze71 rfl ?_
  clear H; intro b24 w25 hN hE26 hs; clear a; intro a H
  replace hS := hS.newBlk hN hE26 hs; clear hN hs
  refine n_nil (then_normal (wp_seq (wp_seq (wp_region_lit (n_c H (fun HC => ?_)))))); clear H
  refine nc_q HC (q_fieldAddr0 rfl fo27_5) rfl (by kernel_rfl) (V_q (q_load rfl ((hS.blk 1 rfl).ld ag3 rfl)) rfl (by kernel_rfl) (V_q (q_lss rfl rfl) rfl (by kernel_rfl) (V_q (q_move rfl) rfl (by kernel_rfl) (V_g (q_fieldAddr0 rfl fo27_5) (by kernel_rfl) (by kernel_rfl) (by kernel_rfl) (V_g (q_load rfl ((hS.blk 1 rfl).ld ag3 rfl)) (by kernel_rfl) (by kernel_rfl) (by kernel_rfl) (V_g (q_gtr rfl rfl) (by kernel_rfl) (by kernel_rfl) (by kernel_rfl) (V_or (j := 3) rfl rfl rfl (by kernel_rfl) (by kernel_rfl) ?_))))))); clear HC a; intro a HC
  have H := HC.has; clear HC
  refine n_nil (then_normal (c_cond H rfl (fun hc27 => ?_) (fun hc27 => ?_)))
  · replace hm := condT hm hc27
    refine wp_seq (wp_region_lit ?_)
    replace hm := bindS hm; obtain ⟨r28, hr28, hm⟩ := hm
    refine n_call H rfl en37 (g_r10_bad_w (A := A) hr28) rfl ?_
    clear H; intro x31 w29 hv; clear a; intro a H; obtain ⟨rfl, hE30⟩ := hv
    replace hS := hS.ext hE30
    refine n_storeAll H rfl rfl (vs := [.int .i64 r28.Code, .int .i64 r28.Place]) rfl sz71 (hS.blk 0 rfl) rfl (by simp) ?_
    clear H; intro w32 hN hC33 hz; clear a; intro a H; replace hS := hS.setBlk hN hC33; clear hN hz
    refine n_nil (then_normal (wp_ret (then_ret ?_)))
    obtain rfl := Option.some.inj hm
    replace hS := hS.tk1
    refine retL H (.inr rfl) rfl (vs := [.agg #[.int .i64 r28.Code, .int .i64 r28.Place]]) (resCell rfl ((hS.blk 0 rfl).ldAll ag71 sz71) resNil) ?_
    replace hS := hS.tk0
    exact ⟨rfl, hS.x⟩
  · replace hm := condF hm hc27
    refine wp_skip (then_normal (wp_seq (wp_seq (wp_region_lit (n_q H (q_fieldAddr0 rfl fo27_6) rfl (W_q (q_load rfl ((hS.blk 1 rfl).ld ag25 rfl)) rfl ?_)))))); clear H a; intro a H
    obtain ⟨A34, c34, hv34, hl34, hm34⟩ := SlR.formV (hrp0_3.ext (Flat.mono _) hS.x)
    refine n_q H (q_lenV Tryz.underlying25 rfl hv34) rfl (W_q (q_gtrN (i := a0.Sems.length) (j := 8) rfl rfl) rfl ?_); clear H a; intro a H
    refine n_nil (then_normal (c_cond H rfl (fun hc35 => ?_) (fun hc35 => ?_)))
    · replace hm := condT hm hc35
      refine wp_seq (wp_region_lit ?_)
      replace hm := bindS hm; obtain ⟨r36, hr36, hm⟩ := hm
      refine n_call H rfl en37 (g_r10_bad_w (A := A) hr36) rfl ?_
      clear H; intro x39 w37 hv; clear a; intro a H; obtain ⟨rfl, hE38⟩ := hv
      replace hS := hS.ext hE38
      refine n_storeAll H rfl rfl (vs := [.int .i64 r36.Code, .int .i64 r36.Place]) rfl sz71 (hS.blk 0 rfl) rfl (by simp) ?_
      clear H; intro w40 hN hC41 hz; clear a; intro a H; replace hS := hS.setBlk hN hC41; clear hN hz
      refine n_nil (then_normal (wp_ret (then_ret ?_)))
      obtain rfl := Option.some.inj hm
      replace hS := hS.tk1
      refine retL H (.inr rfl) rfl (vs := [.agg #[.int .i64 r36.Code, .int .i64 r36.Place]]) (resCell rfl ((hS.blk 0 rfl).ldAll ag71 sz71) resNil) ?_
      replace hS := hS.tk0
      exact ⟨rfl, hS.x⟩
    · replace hm := condF hm hc35
      refine wp_skip (then_normal (wp_seq (wp_seq (wp_region_lit (n_q H (q_assign rfl) rfl ?_))))); clear H a; intro a H
      refine n_nil (then_normal (wp_block ?_))
      replace hS := hS.pk1
      replace hm := bindS hm; obtain ⟨q42, hm, hm42⟩ := hm; replace hm := iter_some hm; obtain ⟨n42, hm⟩ := hm
      refine c_loop (σ := Nat × Nat) (fun (m, i43) => [(1, .pointer (some ⟨b21, 0, none⟩)), (2, .pointer (some ⟨b24, 0, none⟩)), (3, .int .i64 ((i43 : Nat) : Int))]) (fun (m, i43) wl => iterN (g_r10_things_L7 a0) m i43 = some q42 ∧ St NB w wl [blkR b21 [.int .i64 a0.Id, .bool a0.Mobile, vp0_0, vp0_1, vp0_2, .int .i64 a0.Events, vp0_3] 27, blkR b24 [.int .i64 0, .int .i64 0] 71]) (fun (m, i43) => m) (n42, 0) H ⟨rfl, rfl, rfl, trivial⟩ ⟨hm, hS⟩ ?_
      clear H hS hm a; intro xx a w44 H hR; obtain ⟨m, i43⟩ := xx; simp only [ent, List.map_cons, List.map_nil] at H; (try dsimp only at hR); obtain ⟨hm, hS⟩ := hR
      replace hm := iterN_step hm; obtain ⟨m42, o42, rfl, hm, hn42⟩ := hm; try dsimp only [g_r10_things_L7] at hm
      refine wp_seq (wp_seq (wp_region_lit (n_q H (q_move rfl) rfl (W_q (q_fieldAddr0 rfl fo27_6) rfl (W_q (q_load rfl ((hS.blk 0 rfl).ld ag25 rfl)) rfl (W_q (q_lenV Tryz.underlying25 rfl hv34) rfl (W_q (q_lssN (i := i43) (j := a0.Sems.length) rfl rfl) rfl ?_))))))); clear H a; intro a H
      refine n_nil (then_normal (c_cond H rfl (fun hc45 => ?_) (fun hc45 => ?_)))
      · replace hm := condT hm hc45
        have hlt46 : i43 < a0.Sems.length := of_decide_eq_true hc45
        refine wp_skip (then_normal (wp_seq (wp_block ?_)))
        replace hm := bindS hm; obtain ⟨j47, hm, hm47⟩ := hm
        refine c_join (σ := Bool) H (fun q548 => [(1, .pointer (some ⟨b21, 0, none⟩)), (2, .pointer (some ⟨b24, 0, none⟩)), (3, .int .i64 ((i43 : Nat) : Int)), (38, .bool q548)]) (fun q548 wl => (g_r10_things_J6 i43) q548 = some o42 ∧ St NB w wl [blkR b21 [.int .i64 a0.Id, .bool a0.Mobile, vp0_0, vp0_1, vp0_2, .int .i64 a0.Events, vp0_3] 27, blkR b24 [.int .i64 0, .int .i64 0] 71]) ?_ ?_
        · skip
          refine wp_region_lit (n_q H (q_fieldAddr0 rfl fo27_6) rfl (W_q (q_load rfl ((hS.blk 0 rfl).ld ag25 rfl)) rfl (W_q (q_move rfl) rfl ?_))); clear H a; intro a H
          replace hm := bindS hm; obtain ⟨x549, hx549, hm⟩ := hm
          obtain ⟨adx549, hAx549⟩ := SlR.adV (hrp0_3.ext (Flat.mono _) hS.x) hv34 hx549
          refine n_q H (q_ixV (i := i43) Tryz.underlying25 sz3 rfl hv34 hAx549 rfl (natI hx549)) rfl (W_q (q_load rfl (SlR.ldOneV (hrp0_3.ext (Flat.mono _) hS.x) hv34 hAx549 ag3 hx549 rfl)) rfl (W_q (q_lss rfl rfl) rfl (W_q (q_move rfl) rfl ?_))); clear H a; intro a H
          rcases Bool.eq_false_or_eq_true (decide (x549 < 0)) with hg550 | hg550
          · replace H := H.know 31 rfl hg550
            replace hm := condT hm hg550
            refine n_no H rfl rfl (by decide) rfl (W_no rfl rfl (by decide) rfl (W_no rfl rfl (by decide) rfl (W_no rfl rfl (by decide) rfl (W_no rfl rfl (by decide) rfl (W_no rfl rfl (by decide) rfl (W_q (q_pickT rfl rfl) rfl ?_)))))); clear H a; intro a H
            refine n_nil (then_normal ?_)
            obtain rfl := Option.some.inj hm; replace hm := hm47; try dsimp only at hm
            exact join true H ⟨rfl, rfl, rfl, rfl, trivial⟩ ⟨hm, hS⟩
          · replace H := H.know 31 rfl hg550
            replace hm := condF hm hg550
            refine n_yes H rfl rfl (n_q H (q_fieldAddr0 rfl fo27_6) rfl (W_yes rfl rfl (W_q (q_load rfl ((hS.blk 0 rfl).ld ag25 rfl)) rfl (W_yes rfl rfl (W_q (q_move rfl) rfl (W_yes rfl rfl ?_)))))); clear H a; intro a H
            replace hm := bindS hm; obtain ⟨x551, hx551, hm⟩ := hm
            obtain ⟨adx551, hAx551⟩ := SlR.adV (hrp0_3.ext (Flat.mono _) hS.x) hv34 hx551
            refine n_q H (q_ixV (i := i43) Tryz.underlying25 sz3 rfl hv34 hAx551 rfl (natI hx551)) rfl (W_yes rfl rfl (W_q (q_load rfl (SlR.ldOneV (hrp0_3.ext (Flat.mono _) hS.x) hv34 hAx551 ag3 hx551 rfl)) rfl (W_yes rfl rfl (W_q (q_gtr rfl rfl) rfl (W_q (q_pickF rfl rfl) rfl ?_))))); clear H a; intro a H
            refine n_nil (then_normal ?_)
            obtain rfl := Option.some.inj hm; replace hm := hm47; try dsimp only at hm
            exact join (decide (255 < x551)) H ⟨rfl, rfl, rfl, rfl, trivial⟩ ⟨hm, hS⟩
        · clear H hS hm a; intro q548 a w552 H hR
          simp only [ent, List.map_cons, List.map_nil] at H; (try dsimp only at hR); obtain ⟨hm, hS⟩ := hR; try dsimp only [g_r10_things_J6] at hm
          refine c_cond H rfl (fun hc553 => ?_) (fun hc553 => ?_)
          · replace hm := condT hm hc553
            refine wp_seq (wp_region_lit (n_q H (q_move rfl) rfl (W_q (q_build (cs := [.int .i64 4, .int .i64 ((i43 : Nat) : Int)]) ze71 bd71 pl71 rfl (by kernel_rfl)) rfl ?_))); clear H a; intro a H
            replace hS := hS.pk1
            refine n_storeAll H rfl rfl (vs := [.int .i64 4, .int .i64 ((i43 : Nat) : Int)]) rfl sz71 (hS.blk 0 rfl) rfl (by simp) ?_
            clear H; intro w554 hN hC555 hz; clear a; intro a H; replace hS := hS.setBlk hN hC555; clear hN hz
            refine n_nil (then_normal (wp_ret (block_ret (then_ret (then_ret (block_ret (then_ret ?_)))))))
            obtain rfl := Option.some.inj hm; have hz : _ = q42 := hn42; subst hz; replace hm := hm42; try dsimp only at hm
            obtain rfl := Option.some.inj hm
            replace hS := hS.tk1
            refine retL H (.inr rfl) rfl (vs := [.agg #[.int .i64 4, .int .i64 ((i43 : Nat) : Int)]]) (resCell rfl ((hS.blk 0 rfl).ldAll ag71 sz71) resNil) ?_
            replace hS := hS.tk0
            exact ⟨rfl, hS.x⟩
          · replace hm := condF hm hc553
            refine wp_skip (block_normal (then_normal (wp_region_lit (n_q H (q_move rfl) rfl (W_q (q_incr (i := i43) (j := 1) rfl rfl (by omega)) rfl (W_q (q_assign rfl) rfl ?_)))))); clear H a; intro a H
            refine n_nil (then_normal ?_)
            obtain rfl := Option.some.inj hm
            exact round (m42, i43 + 1) H ⟨rfl, rfl, rfl, trivial⟩ ⟨hn42, hS⟩ (Nat.lt_succ_self _)
      · replace hm := condF hm hc45
        refine wp_exit (then_exit (then_exit (block_exit ?_)))
        obtain rfl := Option.some.inj hm; have hz : _ = q42 := hn42; subst hz; replace hm := hm42; try dsimp only at hm
        refine then_normal (wp_seq (wp_region_lit ?_))
        replace hm := bindS hm; obtain ⟨r556, hr556, hm⟩ := hm
        refine n_call H rfl en43 (g_r10_none_w (A := A) hr556) rfl ?_
        clear H; intro x559 w557 hv; clear a; intro a H; obtain ⟨rfl, hE558⟩ := hv
        replace hS := hS.ext hE558
        replace hS := hS.pk1
        refine n_storeAll H rfl rfl (vs := [.int .i64 r556.Code, .int .i64 r556.Place]) rfl sz71 (hS.blk 0 rfl) rfl (by simp) ?_
        clear H; intro w560 hN hC561 hz; clear a; intro a H; replace hS := hS.setBlk hN hC561; clear hN hz
        refine n_nil (then_normal (wp_ret ?_))
        obtain rfl := Option.some.inj hm
        replace hS := hS.tk1
        refine retL H (.inr rfl) rfl (vs := [.agg #[.int .i64 r556.Code, .int .i64 r556.Place]]) (resCell rfl ((hS.blk 0 rfl).ldAll ag71 sz71) resNil) ?_
        replace hS := hS.tk0
        exact ⟨rfl, hS.x⟩
theorem g_r07_Most_w {w : World} {A : Nat → Addr} {a0 : GPortPlan} {r : Int × Int} (hm : g_r07_Most a0 = some r) :
    Calls Tryz.prog 69 [.agg (eGPortPlan a0).toArray].toArray w (Ret fun u w' => u = .tuple #[.int .i64 r.1, .int .i64 r.2] ∧ Ext w w') := by
  have hS := St.begin NB w
  unfold g_r07_Most at hm
  refine enter Tryz.func69 rfl rfl rfl ?_; intro a H; dsimp only [enumL, Nat.zero_add, Nat.reduceAdd] at H
  refine wp_seq (wp_region_lit (n_box H rfl (cs := [.int .i64 a0.Kind, .int .i64 a0.Size, .int .i64 a0.Depth, .int .i64 a0.Refresh]) rfl rfl ?_))
  clear H; intro b21 w22 hN hE23 hs; clear a; intro a H
  replace hS := hS.newBlk hN hE23 hs; clear hN hs
  refine n_q H (q_assign rfl) rfl (W_q (q_assign rfl) rfl ?_); clear H a; intro a H
  refine n_nil (then_normal (wp_seq (wp_seq (wp_region_lit (n_q H (q_load rfl ((hS.blk 0 rfl).ldAll ag78 sz78)) rfl ?_))))); clear H a; intro a H
  replace hm := bindS hm; obtain ⟨r24, hr24, hm⟩ := hm
  refine n_call H rfl en68 (g_r07_CheckPlan_w (A := A) hr24) rfl ?_
  clear H; intro x27 w25 hv; clear a; intro a H; obtain ⟨rfl, hE26⟩ := hv
  replace hS := hS.ext hE26
  refine n_q H (q_neqD rfl rfl) rfl ?_; clear H a; intro a H
  refine n_nil (then_normal (c_cond H rfl (fun hc28 => ?_) (fun hc28 => ?_)))
  · replace hm := condT hm hc28
    refine wp_seq (wp_region_lit (n_q H (q_assign rfl) rfl (W_q (q_assign rfl) rfl ?_))); clear H a; intro a H
    refine n_nil (then_normal (wp_ret (then_ret ?_)))
    obtain rfl := Option.some.inj hm
    replace hS := hS.tk0
    refine ret2 H (.inr rfl) rfl rfl rfl ?_
    exact ⟨rfl, hS.x⟩
  · replace hm := condF hm hc28
    refine wp_skip (then_normal (wp_seq (wp_seq (wp_region_lit (n_q H (q_fieldAddr0 rfl fo78_0) rfl (W_q (q_load rfl ((hS.blk 0 rfl).ld ag3 rfl)) rfl ?_)))))); clear H a; intro a H
    refine n_nil (then_normal (wp_block (wp_seq (wp_region_lit (n_q H (q_eqlD rfl rfl) rfl (W_q (q_assign rfl) rfl ?_)))))); clear H a; intro a H
    refine n_nil (then_normal (c_cond H rfl (fun hc29 => ?_) (fun hc29 => ?_)))
    · replace hm := condT hm hc29
      refine wp_seq (wp_region_lit (n_q H (q_fieldAddr0 rfl fo78_1) rfl (W_q (q_load rfl ((hS.blk 0 rfl).ld ag3 rfl)) rfl (W_q (q_addW rfl rfl) rfl (W_q (q_assign rfl) rfl (W_q (q_assign rfl) rfl ?_)))))); clear H a; intro a H
      refine n_nil (then_normal (wp_ret (block_ret (then_ret ?_))))
      obtain rfl := Option.some.inj hm
      replace hS := hS.tk0
      refine ret2 H (.inr rfl) rfl rfl rfl ?_
      exact ⟨rfl, hS.x⟩
    · replace hm := condF hm hc29
      refine wp_seq (wp_region_lit (n_q H (q_eqlD rfl rfl) rfl (W_q (q_assign rfl) rfl ?_))); clear H a; intro a H
      refine n_nil (then_normal (c_cond H rfl (fun hc30 => ?_) (fun hc30 => ?_)))
      · replace hm := condT hm hc30
        refine wp_seq (wp_region_lit (n_q H (q_fieldAddr0 rfl fo78_2) rfl (W_q (q_load rfl ((hS.blk 0 rfl).ld ag3 rfl)) rfl (W_q (q_fieldAddr0 rfl fo78_1) rfl (W_q (q_load rfl ((hS.blk 0 rfl).ld ag3 rfl)) rfl (W_q (q_addW rfl rfl) rfl (W_q (q_mulW rfl rfl) rfl (W_q (q_addW rfl rfl) rfl (W_q (q_assign rfl) rfl (W_q (q_assign rfl) rfl ?_)))))))))); clear H a; intro a H
        refine n_nil (then_normal (wp_ret (block_ret (then_ret ?_))))
        obtain rfl := Option.some.inj hm
        replace hS := hS.tk0
        refine ret2 H (.inr rfl) rfl rfl rfl ?_
        exact ⟨rfl, hS.x⟩
      · replace hm := condF hm hc30
        refine wp_skip (block_normal (then_normal (wp_seq (wp_region_lit (n_q H (q_assign rfl) rfl (W_q (q_assign rfl) rfl ?_)))))); clear H a; intro a H
        refine n_nil (then_normal (wp_ret ?_))
        obtain rfl := Option.some.inj hm
        replace hS := hS.tk0
        refine ret2 H (.inr rfl) rfl rfl rfl ?_
        exact ⟨rfl, hS.x⟩
theorem g_r10_bound_w {w : World} {A : Nat → Addr} {cs0 : List Value} {a0 : GPlan} (h0 : RGPlan w cs0 a0) {r : Int} (hm : g_r10_bound a0 = some r) :
    Calls Tryz.prog 42 [.agg cs0.toArray].toArray w (Ret fun u w' => u = .int .i64 r ∧ Ext w w') := by
  obtain ⟨vp0_0, vp0_1, vp0_2, vp0_3, rfl, hrp0_0, hrp0_1, hrp0_2, hrp0_3⟩ := h0
  have hS := St.begin NB w
  unfold g_r10_bound at hm
  refine enter Tryz.func42 rfl rfl rfl ?_; intro a H; dsimp only [enumL, Nat.zero_add, Nat.reduceAdd] at H
  refine wp_seq (wp_region_lit (n_box H rfl (cs := [.int .i64 a0.Id, .bool a0.Mobile, vp0_0, vp0_1, vp0_2, .int .i64 a0.Events, vp0_3]) rfl rfl ?_))
  clear H; intro b21 w22 hN hE23 hs; clear a; intro a H
  replace hS := hS.newBlk hN hE23 hs; clear hN hs
  refine n_q H (q_assign rfl) rfl ?_; clear H a; intro a H
  refine n_nil (then_normal (wp_seq (wp_region_lit (n_q H (q_fieldAddr0 rfl fo27_3) rfl (W_q (q_load rfl ((hS.blk 0 rfl).ld ag23 rfl)) rfl ?_))))); clear H a; intro a H
  obtain ⟨A24, c24, hv24, hl24, hm24⟩ := SlR.formV (hrp0_1.ext (Flat.mono _) hS.x)
  refine n_q H (q_lenV Tryz.underlying23 rfl hv24) rfl (W_q (q_mulW rfl rfl) rfl (W_q (q_addW rfl rfl) rfl (W_q (q_fieldAddr0 rfl fo27_2) rfl (W_q (q_load rfl ((hS.blk 0 rfl).ld ag22 rfl)) rfl ?_)))); clear H a; intro a H
  obtain ⟨A25, c25, hv25, hl25, hm25⟩ := SlR.formV (hrp0_0.ext (Flat.mono _) hS.x)
  refine n_q H (q_lenV Tryz.underlying22 rfl hv25) rfl (W_q (q_mulW rfl rfl) rfl (W_q (q_addW rfl rfl) rfl (W_q (q_fieldAddr0 rfl fo27_5) rfl (W_q (q_load rfl ((hS.blk 0 rfl).ld ag3 rfl)) rfl (W_q (q_addW rfl rfl) rfl (W_q (q_fieldAddr0 rfl fo27_6) rfl (W_q (q_load rfl ((hS.blk 0 rfl).ld ag25 rfl)) rfl ?_))))))); clear H a; intro a H
  obtain ⟨A26, c26, hv26, hl26, hm26⟩ := SlR.formV (hrp0_3.ext (Flat.mono _) hS.x)
  refine n_q H (q_lenV Tryz.underlying25 rfl hv26) rfl (W_q (q_addW rfl rfl) rfl (W_q (q_assign rfl) rfl ?_)); clear H a; intro a H
  refine n_nil (then_normal (wp_seq (wp_seq (wp_region_lit (n_q H (q_assign rfl) rfl ?_))))); clear H a; intro a H
  refine n_nil (then_normal (wp_block ?_))
  replace hm := bindS hm; obtain ⟨q27, hm, hm27⟩ := hm; replace hm := iter_some hm; obtain ⟨n27, hm⟩ := hm
  refine c_loop (σ := Nat × Int × Nat) (fun (m, z28, i29) => [(1, .pointer (some ⟨b21, 0, none⟩)), (3, .int .i64 z28), (4, .int .i64 ((i29 : Nat) : Int))]) (fun (m, z28, i29) wl => iterN (g_r10_bound_L1 a0) m (z28, i29) = some q27 ∧ St NB w wl [blkR b21 [.int .i64 a0.Id, .bool a0.Mobile, vp0_0, vp0_1, vp0_2, .int .i64 a0.Events, vp0_3] 27]) (fun (m, z28, i29) => m) (n27, (IntKind.i64.wrap ((IntKind.i64.wrap ((IntKind.i64.wrap ((IntKind.i64.wrap (58 + (IntKind.i64.wrap (76 * ((a0.Procs.length : Nat) : Int))))) + (IntKind.i64.wrap (68 * ((a0.Pages.length : Nat) : Int))))) + a0.Events)) + ((a0.Sems.length : Nat) : Int))), 0) H ⟨rfl, rfl, rfl, trivial⟩ ⟨hm, hS⟩ ?_
  clear H hS hm a; intro xx a w30 H hR; obtain ⟨m, z28, i29⟩ := xx; simp only [ent, List.map_cons, List.map_nil] at H; (try dsimp only at hR); obtain ⟨hm, hS⟩ := hR
  replace hm := iterN_step hm; obtain ⟨m27, o27, rfl, hm, hn27⟩ := hm; try dsimp only [g_r10_bound_L1] at hm
  refine wp_seq (wp_seq (wp_region_lit (n_q H (q_move rfl) rfl (W_q (q_fieldAddr0 rfl fo27_4) rfl (W_q (q_load rfl ((hS.blk 0 rfl).ld ag24 rfl)) rfl ?_))))); clear H a; intro a H
  obtain ⟨A31, c31, hv31, hl31, hm31⟩ := SlR.formV (hrp0_2.ext (Flat.mono _) hS.x)
  refine n_q H (q_lenV Tryz.underlying24 rfl hv31) rfl (W_q (q_lssN (i := i29) (j := a0.Ports.length) rfl rfl) rfl ?_); clear H a; intro a H
  refine n_nil (then_normal (c_cond H rfl (fun hc32 => ?_) (fun hc32 => ?_)))
  · replace hm := condT hm hc32
    have hlt33 : i29 < a0.Ports.length := of_decide_eq_true hc32
    refine wp_skip (then_normal (wp_seq (wp_block (wp_seq (wp_region_lit (n_q H (q_fieldAddr0 rfl fo27_4) rfl (W_q (q_load rfl ((hS.blk 0 rfl).ld ag24 rfl)) rfl (W_q (q_move rfl) rfl ?_)))))))); clear H a; intro a H
    replace hm := bindS hm; obtain ⟨x34, hx34, hm⟩ := hm
    obtain ⟨adx34, hAx34⟩ := SlR.adV (hrp0_2.ext (Flat.mono _) hS.x) hv31 hx34
    refine n_q H (q_ixV (i := i29) Tryz.underlying24 sz78 rfl hv31 hAx34 rfl (natI hx34)) rfl (W_q (q_load rfl (SlR.ldAggV (hrp0_2.ext (Flat.mono _) hS.x) hv31 hAx34 ag78 sz78 hx34)) rfl ?_); clear H a; intro a H
    replace hm := bindS hm; obtain ⟨r35, hr35, hm⟩ := hm
    refine n_call H rfl en69 (g_r07_Most_w (A := A) hr35) rfl ?_
    clear H; intro x38 w36 hv; clear a; intro a H; obtain ⟨rfl, hE37⟩ := hv
    replace hS := hS.ext hE37
    refine n_q H (q_move rfl) rfl (W_q (q_extract rfl rfl) rfl (W_q (q_extract rfl rfl) rfl (W_q (q_assign rfl) rfl (W_q (q_assign rfl) rfl ?_)))); clear H a; intro a H
    refine n_nil (then_normal (wp_region_lit (n_q H (q_move rfl) rfl (W_q (q_move rfl) rfl (W_q (q_addW rfl rfl) rfl (W_q (q_addW rfl rfl) rfl (W_q (q_assign rfl) rfl ?_))))))); clear H a; intro a H
    refine n_nil (block_normal (then_normal (wp_region_lit (n_q H (q_move rfl) rfl (W_q (q_incr (i := i29) (j := 1) rfl rfl (by omega)) rfl (W_q (q_assign rfl) rfl ?_)))))); clear H a; intro a H
    refine n_nil (then_normal ?_)
    obtain rfl := Option.some.inj hm
    exact round (m27, (IntKind.i64.wrap (z28 + (IntKind.i64.wrap (3 + r35.1)))), i29 + 1) H ⟨rfl, rfl, rfl, trivial⟩ ⟨hn27, hS⟩ (Nat.lt_succ_self _)
  · replace hm := condF hm hc32
    refine wp_exit (then_exit (then_exit (block_exit ?_)))
    obtain rfl := Option.some.inj hm; have hz : _ = q27 := hn27; subst hz; replace hm := hm27; try dsimp only at hm
    refine then_normal (wp_seq (wp_region_lit (n_q H (q_move rfl) rfl (W_q (q_assign rfl) rfl ?_)))); clear H a; intro a H
    refine n_nil (then_normal (wp_ret ?_))
    obtain rfl := Option.some.inj hm
    replace hS := hS.tk0
    refine ret1 H (.inr rfl) rfl rfl ?_
    exact ⟨rfl, hS.x⟩
theorem g_r10_Check_w {w : World} {A : Nat → Addr} {cs0 : List Value} {a0 : GPlan} (h0 : RGPlan w cs0 a0) {r : GR10Err} (hm : g_r10_Check a0 = some r) :
    Calls Tryz.prog 19 [.agg cs0.toArray].toArray w (Ret fun u w' => u = .agg (eGR10Err r).toArray ∧ Ext w w') := by
  obtain ⟨vp0_0, vp0_1, vp0_2, vp0_3, rfl, hrp0_0, hrp0_1, hrp0_2, hrp0_3⟩ := h0
  have hS := St.begin NB w
  unfold g_r10_Check at hm
  refine enter Tryz.func19 rfl rfl rfl ?_; intro a H; dsimp only [enumL, Nat.zero_add, Nat.reduceAdd] at H
  refine wp_seq (wp_region_lit (n_box H rfl (cs := [.int .i64 a0.Id, .bool a0.Mobile, vp0_0, vp0_1, vp0_2, .int .i64 a0.Events, vp0_3]) rfl rfl ?_))
  clear H; intro b21 w22 hN hE23 hs; clear a; intro a H
  replace hS := hS.newBlk hN hE23 hs; clear hN hs
  refine n_alloc H ze71 rfl ?_
  clear H; intro b24 w25 hN hE26 hs; clear a; intro a H
  replace hS := hS.newBlk hN hE26 hs; clear hN hs
  refine n_nil (then_normal (wp_seq (wp_seq (wp_region_lit (n_c H (fun HC => ?_)))))); clear H
  refine nc_q HC (q_fieldAddr0 rfl fo27_0) rfl (by kernel_rfl) (V_q (q_load rfl ((hS.blk 1 rfl).ld ag3 rfl)) rfl (by kernel_rfl) (V_q (q_lss rfl rfl) rfl (by kernel_rfl) (V_q (q_move rfl) rfl (by kernel_rfl) (V_g (q_fieldAddr0 rfl fo27_0) (by kernel_rfl) (by kernel_rfl) (by kernel_rfl) (V_g (q_load rfl ((hS.blk 1 rfl).ld ag3 rfl)) (by kernel_rfl) (by kernel_rfl) (by kernel_rfl) (V_g (q_gtr rfl rfl) (by kernel_rfl) (by kernel_rfl) (by kernel_rfl) (V_or (j := 3) rfl rfl rfl (by kernel_rfl) (by kernel_rfl) ?_))))))); clear HC a; intro a HC
  have H := HC.has; clear HC
  refine n_nil (then_normal (c_cond H rfl (fun hc27 => ?_) (fun hc27 => ?_)))
  · replace hm := condT hm hc27
    refine wp_seq (wp_region_lit ?_)
    replace hm := bindS hm; obtain ⟨r28, hr28, hm⟩ := hm
    refine n_call H rfl en37 (g_r10_bad_w (A := A) hr28) rfl ?_
    clear H; intro x31 w29 hv; clear a; intro a H; obtain ⟨rfl, hE30⟩ := hv
    replace hS := hS.ext hE30
    refine n_storeAll H rfl rfl (vs := [.int .i64 r28.Code, .int .i64 r28.Place]) rfl sz71 (hS.blk 0 rfl) rfl (by simp) ?_
    clear H; intro w32 hN hC33 hz; clear a; intro a H; replace hS := hS.setBlk hN hC33; clear hN hz
    refine n_nil (then_normal (wp_ret (then_ret ?_)))
    obtain rfl := Option.some.inj hm
    replace hS := hS.tk1
    refine retL H (.inr rfl) rfl (vs := [.agg #[.int .i64 r28.Code, .int .i64 r28.Place]]) (resCell rfl ((hS.blk 0 rfl).ldAll ag71 sz71) resNil) ?_
    replace hS := hS.tk0
    exact ⟨rfl, hS.x⟩
  · replace hm := condF hm hc27
    refine wp_skip (then_normal (wp_seq (c_ord [] 10 (by kernel_rfl) ?_)))
    obtain ⟨w34, hw34⟩ : ∃ x, x = w25.drew := ⟨_, rfl⟩; rw [← hw34]; have hE35 : Ext w25 w34 := by rw [hw34]; exact Ext.drew' _
    clear hw34
    replace hS := hS.ext hE35
    have hS36 := hS
    have hW := Nat.le_refl w34.heap.size
    refine k_take 0 H rfl (q_load rfl (LdC.old ((hS36.blk 1 rfl).ldAll ag27 sz27) Ext.rfl' (Nat.le_refl _) (by simp))) rfl (by kernel_rfl) (by kernel_rfl) (by kernel_rfl) (by kernel_rfl) (fun _ _ _ h => h) ?_; clear H a; intro a H
    refine k_take 2 H rfl (q_load rfl (LdC.old ((hS36.blk 1 rfl).ldAll ag27 sz27) Ext.rfl' (Nat.le_refl _) (by simp))) rfl (by kernel_rfl) (by kernel_rfl) (by kernel_rfl) (by kernel_rfl) (fun _ _ _ h => h) ?_; clear H a; intro a H
    refine k_take 4 H rfl (q_load rfl (LdC.old ((hS36.blk 1 rfl).ldAll ag27 sz27) Ext.rfl' (Nat.le_refl _) (by simp))) rfl (by kernel_rfl) (by kernel_rfl) (by kernel_rfl) (by kernel_rfl) (fun _ _ _ h => h) ?_; clear H a; intro a H
    refine k_take 6 H rfl (q_load rfl (LdC.old ((hS36.blk 1 rfl).ldAll ag27 sz27) Ext.rfl' (Nat.le_refl _) (by simp))) rfl (by kernel_rfl) (by kernel_rfl) (by kernel_rfl) (by kernel_rfl) (fun _ _ _ h => h) ?_; clear H a; intro a H
    replace hm := bindS hm; obtain ⟨r37, hr37, hm⟩ := hm
    refine k_of_kk 1 (by kernel_rfl) ?_
    refine kk_call 1 H rfl rfl en38 (g_r10_pages_w (A := A) (⟨_, _, _, _, rfl, (hrp0_0.ext (Flat.mono _) hS.x), (hrp0_1.ext (Flat.mono _) hS.x), (hrp0_2.ext (Flat.mono _) hS.x), (hrp0_3.ext (Flat.mono _) hS.x)⟩ : RGPlan _ [.int .i64 a0.Id, .bool a0.Mobile, vp0_0, vp0_1, vp0_2, .int .i64 a0.Events, vp0_3] a0) hr37) rfl (fun v w hv => .inl (ChgF.of_ext (by obtain ⟨_, hE0⟩ := hv; exact hE0))) ?_
    clear H; intro x40 w38 hv; clear a; intro a H; obtain ⟨rfl, hE39⟩ := hv
    replace hS := hS.ext hE39
    replace hW := Nat.le_trans hW hE39.size
    replace hm := bindS hm; obtain ⟨r41, hr41, hm⟩ := hm
    refine k_of_kk 3 (by kernel_rfl) ?_
    refine kk_call 3 H rfl rfl en39 (g_r10_procs_w (A := A) (⟨_, _, _, _, rfl, (hrp0_0.ext (Flat.mono _) hS.x), (hrp0_1.ext (Flat.mono _) hS.x), (hrp0_2.ext (Flat.mono _) hS.x), (hrp0_3.ext (Flat.mono _) hS.x)⟩ : RGPlan _ [.int .i64 a0.Id, .bool a0.Mobile, vp0_0, vp0_1, vp0_2, .int .i64 a0.Events, vp0_3] a0) hr41) rfl (fun v w hv => .inl (ChgF.of_ext (by obtain ⟨_, hE0⟩ := hv; exact hE0))) ?_
    clear H; intro x44 w42 hv; clear a; intro a H; obtain ⟨rfl, hE43⟩ := hv
    replace hS := hS.ext hE43
    replace hW := Nat.le_trans hW hE43.size
    replace hm := bindS hm; obtain ⟨r45, hr45, hm⟩ := hm
    refine k_of_kk 5 (by kernel_rfl) ?_
    refine kk_call 5 H rfl rfl en40 (g_r10_ports_w (A := A) (⟨_, _, _, _, rfl, (hrp0_0.ext (Flat.mono _) hS.x), (hrp0_1.ext (Flat.mono _) hS.x), (hrp0_2.ext (Flat.mono _) hS.x), (hrp0_3.ext (Flat.mono _) hS.x)⟩ : RGPlan _ [.int .i64 a0.Id, .bool a0.Mobile, vp0_0, vp0_1, vp0_2, .int .i64 a0.Events, vp0_3] a0) hr45) rfl (fun v w hv => .inl (ChgF.of_ext (by obtain ⟨_, hE0⟩ := hv; exact hE0))) ?_
    clear H; intro x48 w46 hv; clear a; intro a H; obtain ⟨rfl, hE47⟩ := hv
    replace hS := hS.ext hE47
    replace hW := Nat.le_trans hW hE47.size
    replace hm := bindS hm; obtain ⟨r49, hr49, hm⟩ := hm
    refine k_of_kk 7 (by kernel_rfl) ?_
    refine kk_call 7 H rfl rfl en41 (g_r10_things_w (A := A) (⟨_, _, _, _, rfl, (hrp0_0.ext (Flat.mono _) hS.x), (hrp0_1.ext (Flat.mono _) hS.x), (hrp0_2.ext (Flat.mono _) hS.x), (hrp0_3.ext (Flat.mono _) hS.x)⟩ : RGPlan _ [.int .i64 a0.Id, .bool a0.Mobile, vp0_0, vp0_1, vp0_2, .int .i64 a0.Events, vp0_3] a0) hr49) rfl (fun v w hv => .inl (ChgF.of_ext (by obtain ⟨_, hE0⟩ := hv; exact hE0))) ?_
    clear H; intro x52 w50 hv; clear a; intro a H; obtain ⟨rfl, hE51⟩ := hv
    replace hS := hS.ext hE51
    replace hW := Nat.le_trans hW hE51.size
    refine k_buildSlice 8 H rfl Tryz.underlying96 sz71 ze71 rfl rfl rfl (cs := [.int .i64 r37.Code, .int .i64 r37.Place, .int .i64 r41.Code, .int .i64 r41.Place, .int .i64 r45.Code, .int .i64 r45.Place, .int .i64 r49.Code, .int .i64 r49.Place]) (by kernel_rfl) rfl (by kernel_rfl) ?_
    clear H; intro b55 w53 hN hE54 hs; clear a; intro a H
    have hge_b55 : w34.heap.size ≤ b55 := hs ▸ hW
    replace hS := hS.newBlk hN hE54 hs; clear hN hs
    replace hW := Nat.le_trans hW hE54.size
    replace hS := hS.blkOwnL (e := eGR10Err) (k := 2) [r37, r41, r45, r49] rfl rfl (by simp [maxLen])
    refine k_takeT 9 H rfl (q_assign rfl) rfl (by kernel_rfl) (by kernel_rfl) (by kernel_rfl) (by kernel_rfl) (fun _ _ _ h => h) ?_; clear H a; intro a H
    refine k_done (by kernel_rfl) ?_
    refine then_normal (wp_seq (wp_seq (wp_region_lit (n_q H (q_assign rfl) rfl ?_)))); clear H a; intro a H
    refine n_nil (then_normal (wp_block ?_))
    replace hS := hS.pk1
    replace hS := hS.pk2
    replace hS := hS.pk2
    replace hm := bindS hm; obtain ⟨q57, hm, hm57⟩ := hm; replace hm := iter_some hm; obtain ⟨n57, hm⟩ := hm
    refine c_loop (σ := Nat × Nat) (fun (m, i58) => [(1, .pointer (some ⟨b21, 0, none⟩)), (2, .pointer (some ⟨b24, 0, none⟩)), (3, .slice (some ⟨b55, 0, none⟩) 4 4), (4, .int .i64 ((i58 : Nat) : Int))]) (fun (m, i58) wl => iterN (g_r10_Check_L1 r37 r41 r45 r49) m i58 = some q57 ∧ St NB w wl [ownR 71 2 (.slice (some ⟨b55, 0, none⟩) 4 4) [r37, r41, r45, r49].length ([r37, r41, r45, r49].flatMap eGR10Err), blkR b21 [.int .i64 a0.Id, .bool a0.Mobile, vp0_0, vp0_1, vp0_2, .int .i64 a0.Events, vp0_3] 27, blkR b24 [.int .i64 0, .int .i64 0] 71]) (fun (m, i58) => m) (n57, 0) H ⟨rfl, rfl, rfl, rfl, trivial⟩ ⟨hm, hS⟩ ?_
    clear H hS hm a; intro xx a w59 H hR; obtain ⟨m, i58⟩ := xx; simp only [ent, List.map_cons, List.map_nil] at H; (try dsimp only at hR); obtain ⟨hm, hS⟩ := hR
    replace hm := iterN_step hm; obtain ⟨m57, o57, rfl, hm, hn57⟩ := hm; try dsimp only [g_r10_Check_L1] at hm
    refine wp_seq (wp_seq (wp_region_lit (n_q H (q_move rfl) rfl (W_q (q_move rfl) rfl ?_)))); clear H a; intro a H
    obtain ⟨A60, c60, hv60, hl60, hm60⟩ := SlR.formV ((hS.own 0 rfl).slr rfl (fun _ _ => rfl))
    refine n_q H (q_lenV Tryz.underlying96 rfl hv60) rfl (W_q (q_lssN (i := i58) (j := ([r37, r41, r45, r49].length)) rfl rfl) rfl ?_); clear H a; intro a H
    refine n_nil (then_normal (c_cond H rfl (fun hc61 => ?_) (fun hc61 => ?_)))
    · replace hm := condT hm hc61
      have hlt62 : i58 < [r37, r41, r45, r49].length := of_decide_eq_true hc61
      refine wp_skip (then_normal (wp_seq (wp_block (wp_seq (wp_region_lit (n_q H (q_move rfl) rfl (W_q (q_move rfl) rfl ?_))))))); clear H a; intro a H
      replace hm := bindS hm; obtain ⟨x63, hx63, hm⟩ := hm
      obtain ⟨adx63, hAx63⟩ := SlR.adV ((hS.own 0 rfl).slr rfl (fun _ _ => rfl)) hv60 hx63
      refine n_q H (q_ixV (i := i58) Tryz.underlying96 sz71 rfl hv60 hAx63 rfl (natI hx63)) rfl (W_q (q_fieldAddr rfl fo71_0) rfl (W_q (q_load rfl (SlR.ldCellV (j := 0) ((hS.own 0 rfl).slr rfl (fun _ _ => rfl)) hv60 hAx63 ag3 hx63 rfl)) rfl (W_q (q_neqD rfl rfl) rfl ?_))); clear H a; intro a H
      refine n_nil (then_normal (c_cond H rfl (fun hc64 => ?_) (fun hc64 => ?_)))
      · replace hm := condT hm hc64
        refine wp_seq (wp_region_lit (n_q H (q_move rfl) rfl (W_q (q_move rfl) rfl ?_))); clear H a; intro a H
        replace hm := bindS hm; obtain ⟨x65, hx65, hm⟩ := hm
        obtain ⟨adx65, hAx65⟩ := SlR.adV ((hS.own 0 rfl).slr rfl (fun _ _ => rfl)) hv60 hx65
        refine n_q H (q_ixV (i := i58) Tryz.underlying96 sz71 rfl hv60 hAx65 rfl (natI hx65)) rfl (W_q (q_load rfl (SlR.ldAggV ((hS.own 0 rfl).slr rfl (fun _ _ => rfl)) hv60 hAx65 ag71 sz71 hx65)) rfl ?_); clear H a; intro a H
        replace hS := hS.pk2
        refine n_storeAll H rfl rfl (vs := [.int .i64 x65.Code, .int .i64 x65.Place]) rfl sz71 (hS.blk 0 rfl) rfl (by simp) ?_
        clear H; intro w66 hN hC67 hz; clear a; intro a H; replace hS := hS.setBlk hN hC67; clear hN hz
        refine n_nil (then_normal (wp_ret (block_ret (then_ret (then_ret (block_ret (then_ret ?_)))))))
        obtain rfl := Option.some.inj hm; have hz : _ = q57 := hn57; subst hz; replace hm := hm57; try dsimp only at hm
        obtain rfl := Option.some.inj hm
        replace hS := hS.tk1
        refine retL H (.inr rfl) rfl (vs := [.agg #[.int .i64 x65.Code, .int .i64 x65.Place]]) (resCell rfl ((hS.blk 0 rfl).ldAll ag71 sz71) resNil) ?_
        replace hS := hS.tk0
        exact ⟨rfl, hS.x⟩
      · replace hm := condF hm hc64
        refine wp_skip (block_normal (then_normal (wp_region_lit (n_q H (q_move rfl) rfl (W_q (q_incr (i := i58) (j := 1) rfl rfl (by omega)) rfl (W_q (q_assign rfl) rfl ?_)))))); clear H a; intro a H
        refine n_nil (then_normal ?_)
        obtain rfl := Option.some.inj hm
        exact round (m57, i58 + 1) H ⟨rfl, rfl, rfl, rfl, trivial⟩ ⟨hn57, hS⟩ (Nat.lt_succ_self _)
    · replace hm := condF hm hc61
      refine wp_exit (then_exit (then_exit (block_exit ?_)))
      obtain rfl := Option.some.inj hm; have hz : _ = q57 := hn57; subst hz; replace hm := hm57; try dsimp only at hm
      refine then_normal (wp_seq (wp_seq (wp_region_lit (n_q H (q_load rfl ((hS.blk 1 rfl).ldAll ag27 sz27)) rfl ?_)))); clear H a; intro a H
      replace hm := bindS hm; obtain ⟨r68, hr68, hm⟩ := hm
      refine n_call H rfl en42 (g_r10_bound_w (A := A) (⟨_, _, _, _, rfl, (hrp0_0.ext (Flat.mono _) hS.x), (hrp0_1.ext (Flat.mono _) hS.x), (hrp0_2.ext (Flat.mono _) hS.x), (hrp0_3.ext (Flat.mono _) hS.x)⟩ : RGPlan _ [.int .i64 a0.Id, .bool a0.Mobile, vp0_0, vp0_1, vp0_2, .int .i64 a0.Events, vp0_3] a0) hr68) rfl ?_
      clear H; intro x71 w69 hv; clear a; intro a H; obtain ⟨rfl, hE70⟩ := hv
      replace hS := hS.ext hE70
      refine n_q H (q_gtr rfl rfl) rfl ?_; clear H a; intro a H
      refine n_nil (then_normal (c_cond H rfl (fun hc72 => ?_) (fun hc72 => ?_)))
      · replace hm := condT hm hc72
        refine wp_seq (wp_region_lit ?_)
        replace hm := bindS hm; obtain ⟨r73, hr73, hm⟩ := hm
        refine n_call H rfl en37 (g_r10_bad_w (A := A) hr73) rfl ?_
        clear H; intro x76 w74 hv; clear a; intro a H; obtain ⟨rfl, hE75⟩ := hv
        replace hS := hS.ext hE75
        replace hS := hS.pk2
        refine n_storeAll H rfl rfl (vs := [.int .i64 r73.Code, .int .i64 r73.Place]) rfl sz71 (hS.blk 0 rfl) rfl (by simp) ?_
        clear H; intro w77 hN hC78 hz; clear a; intro a H; replace hS := hS.setBlk hN hC78; clear hN hz
        refine n_nil (then_normal (wp_ret (then_ret ?_)))
        obtain rfl := Option.some.inj hm
        replace hS := hS.tk1
        refine retL H (.inr rfl) rfl (vs := [.agg #[.int .i64 r73.Code, .int .i64 r73.Place]]) (resCell rfl ((hS.blk 0 rfl).ldAll ag71 sz71) resNil) ?_
        replace hS := hS.tk0
        exact ⟨rfl, hS.x⟩
      · replace hm := condF hm hc72
        refine wp_skip (then_normal (wp_seq (wp_region_lit ?_)))
        replace hm := bindS hm; obtain ⟨r79, hr79, hm⟩ := hm
        refine n_call H rfl en43 (g_r10_none_w (A := A) hr79) rfl ?_
        clear H; intro x82 w80 hv; clear a; intro a H; obtain ⟨rfl, hE81⟩ := hv
        replace hS := hS.ext hE81
        replace hS := hS.pk2
        refine n_storeAll H rfl rfl (vs := [.int .i64 r79.Code, .int .i64 r79.Place]) rfl sz71 (hS.blk 0 rfl) rfl (by simp) ?_
        clear H; intro w83 hN hC84 hz; clear a; intro a H; replace hS := hS.setBlk hN hC84; clear hN hz
        refine n_nil (then_normal (wp_ret ?_))
        obtain rfl := Option.some.inj hm
        replace hS := hS.tk1
        refine retL H (.inr rfl) rfl (vs := [.agg #[.int .i64 r79.Code, .int .i64 r79.Place]]) (resCell rfl ((hS.blk 0 rfl).ldAll ag71 sz71) resNil) ?_
        replace hS := hS.tk0
        exact ⟨rfl, hS.x⟩
theorem g_r10_Good_w {w : World} {A : Nat → Addr} {cs0 : List Value} {a0 : GPlan} (h0 : RGPlan w cs0 a0) {r : Bool} (hm : g_r10_Good a0 = some r) :
    Calls Tryz.prog 7 [.agg cs0.toArray].toArray w (Ret fun u w' => u = .bool r ∧ Ext w w') := by
  obtain ⟨vp0_0, vp0_1, vp0_2, vp0_3, rfl, hrp0_0, hrp0_1, hrp0_2, hrp0_3⟩ := h0
  have hS := St.begin NB w
  unfold g_r10_Good at hm
  refine enter Tryz.func7 rfl rfl rfl ?_; intro a H; dsimp only [enumL, Nat.zero_add, Nat.reduceAdd] at H
  refine wp_seq (wp_region_lit (n_box H rfl (cs := [.int .i64 a0.Id, .bool a0.Mobile, vp0_0, vp0_1, vp0_2, .int .i64 a0.Events, vp0_3]) rfl rfl ?_))
  clear H; intro b21 w22 hN hE23 hs; clear a; intro a H
  replace hS := hS.newBlk hN hE23 hs; clear hN hs
  refine n_q H (q_assign rfl) rfl ?_; clear H a; intro a H
  refine n_nil (then_normal (wp_seq (wp_region_lit (n_q H (q_load rfl ((hS.blk 0 rfl).ldAll ag27 sz27)) rfl ?_)))); clear H a; intro a H
  replace hm := bindS hm; obtain ⟨r24, hr24, hm⟩ := hm
  refine n_call H rfl en19 (g_r10_Check_w (A := A) (⟨_, _, _, _, rfl, (hrp0_0.ext (Flat.mono _) hS.x), (hrp0_1.ext (Flat.mono _) hS.x), (hrp0_2.ext (Flat.mono _) hS.x), (hrp0_3.ext (Flat.mono _) hS.x)⟩ : RGPlan _ [.int .i64 a0.Id, .bool a0.Mobile, vp0_0, vp0_1, vp0_2, .int .i64 a0.Events, vp0_3] a0) hr24) rfl ?_
  clear H; intro x27 w25 hv; clear a; intro a H; obtain ⟨rfl, hE26⟩ := hv
  replace hS := hS.ext hE26
  refine n_q H (q_fieldV fd71_0 rfl rfl) rfl (W_q (q_eqlD rfl rfl) rfl (W_q (q_assign rfl) rfl ?_)); clear H a; intro a H
  refine n_nil (then_normal (wp_ret ?_))
  obtain rfl := Option.some.inj hm
  replace hS := hS.tk0
  refine ret1 H (.inr rfl) rfl rfl ?_
  exact ⟨rfl, hS.x⟩
theorem g_law10_same_w {w : World} {A : Nat → Addr} {v0 : Value} {a0 : ErrM} {a1 : Int} (hG : EV A w) (hH : HE w) (h0 : IsE A w v0 a0) {r : Bool} (hm : g_law10_same a0 a1 = some r) :
    Calls Tryz.prog 8 [v0, .int .i64 a1].toArray w (Ret fun u w' => u = .bool r ∧ Ext w w') := by
  have hS := St.begin NB w
  unfold g_law10_same at hm
  refine enter Tryz.func8 rfl rfl rfl ?_; intro a H; dsimp only [enumL, Nat.zero_add, Nat.reduceAdd] at H
  refine wp_seq (wp_region_lit (n_q H (q_assign rfl) rfl ?_)); clear H a; intro a H
  refine n_nil (then_normal (wp_seq (wp_region_lit (n_q H (q_move rfl) rfl ?_)))); clear H a; intro a H
  refine n_call H rfl en16 (code_w (hG.ext hS.x) (IsErr.ext h0 hS.x)) rfl ?_
  clear H; intro x23 w21 hv; clear a; intro a H; obtain ⟨rfl, hE22⟩ := hv; replace hS := hS.ext hE22
  refine n_q H (q_move rfl) rfl (W_q (q_eqlD rfl rfl) rfl (W_q (q_move rfl) rfl ?_)); clear H a; intro a H
  rcases Bool.eq_false_or_eq_true (decide ((ErrM.code a0) = a1)) with hg24 | hg24
  · replace H := H.know 9 rfl hg24
    replace hm := condT hm hg24
    refine n_yes H rfl rfl (n_q H (q_move rfl) rfl (W_yes rfl rfl ?_)); clear H a; intro a H
    refine n_call H rfl en17 (place_w (hH.ext hS.x) (IsErr.ext h0 hS.x)) rfl ?_
    clear H; intro x27 w25 hv; clear a; intro a H; obtain ⟨rfl, hE26⟩ := hv; replace hS := hS.ext hE26
    refine n_yes H rfl rfl (n_q H (q_eqlD rfl rfl) rfl (W_q (q_pickT rfl rfl) rfl (W_q (q_assign rfl) rfl ?_))); clear H a; intro a H
    refine n_nil (then_normal (wp_ret ?_))
    obtain rfl := Option.some.inj hm
    refine ret1 H (.inr rfl) rfl rfl ?_
    exact ⟨rfl, hS.x⟩
  · replace H := H.know 9 rfl hg24
    replace hm := condF hm hg24
    refine n_no H rfl rfl (by decide) rfl (W_no rfl rfl (by decide) rfl (W_no rfl rfl (by decide) rfl (W_q (q_pickF rfl rfl) rfl (W_q (q_assign rfl) rfl ?_)))); clear H a; intro a H
    refine n_nil (then_normal (wp_ret ?_))
    obtain rfl := Option.some.inj hm
    refine ret1 H (.inr rfl) rfl rfl ?_
    exact ⟨rfl, hS.x⟩
theorem g_r11_ints_w {w : World} {A : Nat → Addr} {v0 : Value} {a0 : List Int} {v1 : Value} {a1 : List Int} (h0 : SlR w 1 (Flat eI) v0 a0) (h1 : SlR w 1 (Flat eI) v1 a1) {r : Bool} (hm : g_r11_ints a0 a1 = some r) :
    Calls Tryz.prog 44 [v0, v1].toArray w (Ret fun u w' => u = .bool r ∧ Ext w w') := by
  have hS := St.begin NB w
  unfold g_r11_ints at hm
  refine enter Tryz.func44 rfl rfl rfl ?_; intro a H; dsimp only [enumL, Nat.zero_add, Nat.reduceAdd] at H
  refine wp_seq (wp_region_lit (n_q H (q_assign rfl) rfl ?_)); clear H a; intro a H
  refine n_nil (then_normal (wp_seq (wp_seq (wp_region_lit (n_q H (q_move rfl) rfl ?_))))); clear H a; intro a H
  obtain ⟨A21, c21, hv21, hl21, hm21⟩ := SlR.formV (h0.ext (Flat.mono _) hS.x)
  refine n_q H (q_lenV Tryz.underlying25 rfl hv21) rfl (W_q (q_move rfl) rfl ?_); clear H a; intro a H
  obtain ⟨A22, c22, hv22, hl22, hm22⟩ := SlR.formV (h1.ext (Flat.mono _) hS.x)
  refine n_q H (q_lenV Tryz.underlying25 rfl hv22) rfl (W_q (q_neqN (i := a0.length) (j := a1.length) rfl rfl) rfl ?_); clear H a; intro a H
  refine n_nil (then_normal (c_cond H rfl (fun hc23 => ?_) (fun hc23 => ?_)))
  · replace hm := condT hm hc23
    refine wp_seq (wp_region_lit (n_q H (q_assign rfl) rfl ?_)); clear H a; intro a H
    refine n_nil (then_normal (wp_ret (then_ret ?_)))
    obtain rfl := Option.some.inj hm
    refine ret1 H (.inr rfl) rfl rfl ?_
    exact ⟨rfl, hS.x⟩
  · replace hm := condF hm hc23
    refine wp_skip (then_normal (wp_seq (wp_seq (wp_region_lit (n_q H (q_assign rfl) rfl ?_))))); clear H a; intro a H
    refine n_nil (then_normal (wp_block ?_))
    replace hm := bindS hm; obtain ⟨q24, hm, hm24⟩ := hm; replace hm := iter_some hm; obtain ⟨n24, hm⟩ := hm
    refine c_loop (σ := Nat × Nat) (fun (m, i25) => [(0, v0), (1, v1), (5, .int .i64 ((i25 : Nat) : Int))]) (fun (m, i25) wl => iterN (g_r11_ints_L1 a0 a1) m i25 = some q24 ∧ St NB w wl []) (fun (m, i25) => m) (n24, 0) H ⟨rfl, rfl, rfl, trivial⟩ ⟨hm, hS⟩ ?_
    clear H hS hm a; intro xx a w26 H hR; obtain ⟨m, i25⟩ := xx; simp only [ent, List.map_cons, List.map_nil] at H; (try dsimp only at hR); obtain ⟨hm, hS⟩ := hR
    replace hm := iterN_step hm; obtain ⟨m24, o24, rfl, hm, hn24⟩ := hm; try dsimp only [g_r11_ints_L1] at hm
    refine wp_seq (wp_seq (wp_region_lit (n_q H (q_move rfl) rfl (W_q (q_move rfl) rfl (W_q (q_lenV Tryz.underlying25 rfl hv21) rfl (W_q (q_lssN (i := i25) (j := a0.length) rfl rfl) rfl ?_)))))); clear H a; intro a H
    refine n_nil (then_normal (c_cond H rfl (fun hc27 => ?_) (fun hc27 => ?_)))
    · replace hm := condT hm hc27
      have hlt28 : i25 < a0.length := of_decide_eq_true hc27
      refine wp_skip (then_normal (wp_seq (wp_block (wp_seq (c_quiet (by kernel_rfl) (by kernel_rfl) ?_)))))
      refine qq_q H (q_move rfl) rfl ?_; clear H a; intro a H
      refine qq_q H (q_move rfl) rfl ?_; clear H a; intro a H
      replace hm := bindS hm; obtain ⟨x29, hx29, hm⟩ := hm
      obtain ⟨adx29, hAx29⟩ := SlR.adV (h0.ext (Flat.mono _) hS.x) hv21 hx29
      refine qq_q H (q_ixV (i := i25) Tryz.underlying25 sz3 rfl hv21 hAx29 rfl (natI hx29)) rfl ?_; clear H a; intro a H
      refine qq_q H (q_load rfl (SlR.ldOneV (h0.ext (Flat.mono _) hS.x) hv21 hAx29 ag3 hx29 rfl)) rfl ?_; clear H a; intro a H
      refine qq_q H (q_move rfl) rfl ?_; clear H a; intro a H
      refine qq_q H (q_move rfl) rfl ?_; clear H a; intro a H
      replace hm := bindS hm; obtain ⟨x30, hx30, hm⟩ := hm
      obtain ⟨adx30, hAx30⟩ := SlR.adV (h1.ext (Flat.mono _) hS.x) hv22 hx30
      refine qq_q H (q_ixV (i := i25) Tryz.underlying25 sz3 rfl hv22 hAx30 rfl (natI hx30)) rfl ?_; clear H a; intro a H
      refine qq_q H (q_load rfl (SlR.ldOneV (h1.ext (Flat.mono _) hS.x) hv22 hAx30 ag3 hx30 rfl)) rfl ?_; clear H a; intro a H
      refine qq_q H (q_neqD rfl rfl) rfl ?_; clear H a; intro a H
      refine qq_nil ?_; intro w31 hE32
      replace hS := hS.ext hE32
      refine then_normal (c_cond H rfl (fun hc33 => ?_) (fun hc33 => ?_))
      · replace hm := condT hm hc33
        refine wp_seq (wp_region_lit (n_q H (q_assign rfl) rfl ?_)); clear H a; intro a H
        refine n_nil (then_normal (wp_ret (block_ret (then_ret (then_ret (block_ret (then_ret ?_)))))))
        obtain rfl := Option.some.inj hm; have hz : _ = q24 := hn24; subst hz; replace hm := hm24; try dsimp only at hm
        obtain rfl := Option.some.inj hm
        refine ret1 H (.inr rfl) rfl rfl ?_
        exact ⟨rfl, hS.x⟩
      · replace hm := condF hm hc33
        refine wp_skip (block_normal (then_normal (wp_region_lit (n_q H (q_move rfl) rfl (W_q (q_incr (i := i25) (j := 1) rfl rfl (by omega)) rfl (W_q (q_assign rfl) rfl ?_)))))); clear H a; intro a H
        refine n_nil (then_normal ?_)
        obtain rfl := Option.some.inj hm
        exact round (m24, i25 + 1) H ⟨rfl, rfl, rfl, trivial⟩ ⟨hn24, hS⟩ (Nat.lt_succ_self _)
    · replace hm := condF hm hc27
      refine wp_exit (then_exit (then_exit (block_exit ?_)))
      obtain rfl := Option.some.inj hm; have hz : _ = q24 := hn24; subst hz; replace hm := hm24; try dsimp only at hm
      refine then_normal (wp_seq (wp_region_lit (n_q H (q_assign rfl) rfl ?_))); clear H a; intro a H
      refine n_nil (then_normal (wp_ret ?_))
      obtain rfl := Option.some.inj hm
      refine ret1 H (.inr rfl) rfl rfl ?_
      exact ⟨rfl, hS.x⟩
set_option maxHeartbeats 1000000 in
theorem g_r11_rest_w {w : World} {A : Nat → Addr} {cs0 : List Value} {a0 : GState} {cs1 : List Value} {a1 : GState} (h0 : RGState w cs0 a0) (h1 : RGState w cs1 a1) {r : Bool} (hm : g_r11_rest a0 a1 = some r) :
    Calls Tryz.prog 20 [.agg cs0.toArray, .agg cs1.toArray].toArray w (Ret fun u w' => u = .bool r ∧ Ext w w') := by
  obtain ⟨vp0_0, vp0_1, vp0_2, vp0_3, vp0_4, vp0_5, vp0_6, rfl, hrp0_0, hrp0_1, hrp0_2, hrp0_3, hrp0_4, hrp0_5, hrp0_6⟩ := h0
  obtain ⟨vp1_0, vp1_1, vp1_2, vp1_3, vp1_4, vp1_5, vp1_6, rfl, hrp1_0, hrp1_1, hrp1_2, hrp1_3, hrp1_4, hrp1_5, hrp1_6⟩ := h1
  have hS := St.begin NB w
  unfold g_r11_rest at hm
  refine enter Tryz.func20 rfl rfl rfl ?_; intro a H; dsimp only [enumL, Nat.zero_add, Nat.reduceAdd] at H
  refine wp_seq (wp_region_lit (n_box H rfl (cs := [.int .i64 a0.Id, .int .i64 a0.Frame, .int .i64 a0.Epoch, vp0_0, vp0_1, vp0_2, vp0_3, vp0_4, vp0_5, vp0_6]) rfl rfl ?_))
  clear H; intro b21 w22 hN hE23 hs; clear a; intro a H
  replace hS := hS.newBlk hN hE23 hs; clear hN hs
  refine n_box H rfl (cs := [.int .i64 a1.Id, .int .i64 a1.Frame, .int .i64 a1.Epoch, vp1_0, vp1_1, vp1_2, vp1_3, vp1_4, vp1_5, vp1_6]) rfl rfl ?_
  clear H; intro b24 w25 hN hE26 hs; clear a; intro a H
  replace hS := hS.newBlk hN hE26 hs; clear hN hs
  refine n_q H (q_assign rfl) rfl ?_; clear H a; intro a H
  refine n_nil (then_normal (wp_seq (wp_seq (wp_region_lit (n_c H (fun HC => ?_)))))); clear H
  refine nc_q HC (q_fieldAddr0 rfl fo39_0) rfl (by kernel_rfl) (V_q (q_load rfl ((hS.blk 1 rfl).ld ag3 rfl)) rfl (by kernel_rfl) (V_q (q_fieldAddr0 rfl fo39_0) rfl (by kernel_rfl) (V_q (q_load rfl ((hS.blk 0 rfl).ld ag3 rfl)) rfl (by kernel_rfl) (V_q (q_neqD rfl rfl) rfl (by kernel_rfl) (V_q (q_move rfl) rfl (by kernel_rfl) (V_g (q_fieldAddr0 rfl fo39_1) (by kernel_rfl) (by kernel_rfl) (by kernel_rfl) (V_g (q_load rfl ((hS.blk 1 rfl).ld ag3 rfl)) (by kernel_rfl) (by kernel_rfl) (by kernel_rfl) (V_g (q_fieldAddr0 rfl fo39_1) (by kernel_rfl) (by kernel_rfl) (by kernel_rfl) (V_g (q_load rfl ((hS.blk 0 rfl).ld ag3 rfl)) (by kernel_rfl) (by kernel_rfl) (by kernel_rfl) (V_g (q_neqD rfl rfl) (by kernel_rfl) (by kernel_rfl) (by kernel_rfl) (V_or (j := 5) rfl rfl rfl (by kernel_rfl) (by kernel_rfl) ?_))))))))))); clear HC a; intro a HC
  refine nc_q HC (q_move rfl) rfl (by kernel_rfl) (V_g (q_fieldAddr0 rfl fo39_3) (by kernel_rfl) (by kernel_rfl) (by kernel_rfl) (V_g (q_load rfl ((hS.blk 1 rfl).ld ag33 rfl)) (by kernel_rfl) (by kernel_rfl) (by kernel_rfl) ?_)); clear HC a; intro a HC
  obtain ⟨A27, c27, hv27, hl27, hm27⟩ := SlR.formV (hrp0_0.ext (Flat.mono _) hS.x)
  refine nc_g HC (q_lenV Tryz.underlying33 rfl hv27) (by kernel_rfl) (by kernel_rfl) (by kernel_rfl) (V_g (q_fieldAddr0 rfl fo39_3) (by kernel_rfl) (by kernel_rfl) (by kernel_rfl) (V_g (q_load rfl ((hS.blk 0 rfl).ld ag33 rfl)) (by kernel_rfl) (by kernel_rfl) (by kernel_rfl) ?_)); clear HC a; intro a HC
  obtain ⟨A28, c28, hv28, hl28, hm28⟩ := SlR.formV (hrp1_0.ext (Flat.mono _) hS.x)
  refine nc_g HC (q_lenV Tryz.underlying33 rfl hv28) (by kernel_rfl) (by kernel_rfl) (by kernel_rfl) (V_g (q_neqN (i := a0.Procs.length) (j := a1.Procs.length) rfl rfl) (by kernel_rfl) (by kernel_rfl) (by kernel_rfl) (V_or (j := 12) rfl rfl rfl (by kernel_rfl) (by kernel_rfl) (V_q (q_move rfl) rfl (by kernel_rfl) (V_g (q_fieldAddr0 rfl fo39_5) (by kernel_rfl) (by kernel_rfl) (by kernel_rfl) (V_g (q_load rfl ((hS.blk 1 rfl).ld ag34 rfl)) (by kernel_rfl) (by kernel_rfl) (by kernel_rfl) ?_))))); clear HC a; intro a HC
  obtain ⟨A29, c29, hv29, hl29, hm29⟩ := SlR.formV (hrp0_2.ext (Flat.mono _) hS.x)
  refine nc_g HC (q_lenV Tryz.underlying34 rfl hv29) (by kernel_rfl) (by kernel_rfl) (by kernel_rfl) (V_g (q_fieldAddr0 rfl fo39_5) (by kernel_rfl) (by kernel_rfl) (by kernel_rfl) (V_g (q_load rfl ((hS.blk 0 rfl).ld ag34 rfl)) (by kernel_rfl) (by kernel_rfl) (by kernel_rfl) ?_)); clear HC a; intro a HC
  obtain ⟨A30, c30, hv30, hl30, hm30⟩ := SlR.formV (hrp1_2.ext (Flat.mono _) hS.x)
  refine nc_g HC (q_lenV Tryz.underlying34 rfl hv30) (by kernel_rfl) (by kernel_rfl) (by kernel_rfl) (V_g (q_neqN (i := a0.Timers.length) (j := a1.Timers.length) rfl rfl) (by kernel_rfl) (by kernel_rfl) (by kernel_rfl) (V_or (j := 21) rfl rfl rfl (by kernel_rfl) (by kernel_rfl) (V_q (q_move rfl) rfl (by kernel_rfl) (V_g (q_fieldAddr0 rfl fo39_6) (by kernel_rfl) (by kernel_rfl) (by kernel_rfl) (V_g (q_load rfl ((hS.blk 1 rfl).ld ag35 rfl)) (by kernel_rfl) (by kernel_rfl) (by kernel_rfl) ?_))))); clear HC a; intro a HC
  obtain ⟨A31, c31, hv31, hl31, hm31⟩ := SlR.formV (hrp0_3.ext (Flat.mono _) hS.x)
  refine nc_g HC (q_lenV Tryz.underlying35 rfl hv31) (by kernel_rfl) (by kernel_rfl) (by kernel_rfl) (V_g (q_fieldAddr0 rfl fo39_6) (by kernel_rfl) (by kernel_rfl) (by kernel_rfl) (V_g (q_load rfl ((hS.blk 0 rfl).ld ag35 rfl)) (by kernel_rfl) (by kernel_rfl) (by kernel_rfl) ?_)); clear HC a; intro a HC
  obtain ⟨A32, c32, hv32, hl32, hm32⟩ := SlR.formV (hrp1_3.ext (Flat.mono _) hS.x)
  refine nc_g HC (q_lenV Tryz.underlying35 rfl hv32) (by kernel_rfl) (by kernel_rfl) (by kernel_rfl) (V_g (q_neqN (i := a0.Up.length) (j := a1.Up.length) rfl rfl) (by kernel_rfl) (by kernel_rfl) (by kernel_rfl) (V_or (j := 30) rfl rfl rfl (by kernel_rfl) (by kernel_rfl) (V_q (q_move rfl) rfl (by kernel_rfl) (V_g (q_fieldAddr0 rfl fo39_8) (by kernel_rfl) (by kernel_rfl) (by kernel_rfl) (V_g (q_load rfl ((hS.blk 1 rfl).ld ag36 rfl)) (by kernel_rfl) (by kernel_rfl) (by kernel_rfl) ?_))))); clear HC a; intro a HC
  obtain ⟨A33, c33, hv33, hl33, hm33⟩ := SlR.formV (hrp0_5.ext RGPort.mono hS.x)
  refine nc_g HC (q_lenV Tryz.underlying36 rfl hv33) (by kernel_rfl) (by kernel_rfl) (by kernel_rfl) (V_g (q_fieldAddr0 rfl fo39_8) (by kernel_rfl) (by kernel_rfl) (by kernel_rfl) (V_g (q_load rfl ((hS.blk 0 rfl).ld ag36 rfl)) (by kernel_rfl) (by kernel_rfl) (by kernel_rfl) ?_)); clear HC a; intro a HC
  obtain ⟨A34, c34, hv34, hl34, hm34⟩ := SlR.formV (hrp1_5.ext RGPort.mono hS.x)
  refine nc_g HC (q_lenV Tryz.underlying36 rfl hv34) (by kernel_rfl) (by kernel_rfl) (by kernel_rfl) (V_g (q_neqN (i := a0.Ports.length) (j := a1.Ports.length) rfl rfl) (by kernel_rfl) (by kernel_rfl) (by kernel_rfl) (V_or (j := 39) rfl rfl rfl (by kernel_rfl) (by kernel_rfl) ?_)); clear HC a; intro a HC
  have H := HC.has; clear HC
  refine n_nil (then_normal (c_cond H rfl (fun hc35 => ?_) (fun hc35 => ?_)))
  · replace hm := condT hm hc35
    refine wp_seq (wp_region_lit (n_q H (q_assign rfl) rfl ?_)); clear H a; intro a H
    refine n_nil (then_normal (wp_ret (then_ret ?_)))
    obtain rfl := Option.some.inj hm
    replace hS := hS.tk0
    refine ret1 H (.inr rfl) rfl rfl ?_
    exact ⟨rfl, hS.x⟩
  · replace hm := condF hm hc35
    refine wp_skip (then_normal (wp_seq (wp_seq (wp_region_lit (n_q H (q_assign rfl) rfl ?_))))); clear H a; intro a H
    refine n_nil (then_normal (wp_block ?_))
    replace hS := hS.pk1
    replace hm := bindS hm; obtain ⟨q36, hm, hm36⟩ := hm; replace hm := iter_some hm; obtain ⟨n36, hm⟩ := hm
    refine c_loop (σ := Nat × Nat) (fun (m, i37) => [(2, .pointer (some ⟨b21, 0, none⟩)), (3, .pointer (some ⟨b24, 0, none⟩)), (5, .int .i64 ((i37 : Nat) : Int))]) (fun (m, i37) wl => iterN (g_r11_rest_L22 a0 a1) m i37 = some q36 ∧ St NB w wl [blkR b21 [.int .i64 a0.Id, .int .i64 a0.Frame, .int .i64 a0.Epoch, vp0_0, vp0_1, vp0_2, vp0_3, vp0_4, vp0_5, vp0_6] 39, blkR b24 [.int .i64 a1.Id, .int .i64 a1.Frame, .int .i64 a1.Epoch, vp1_0, vp1_1, vp1_2, vp1_3, vp1_4, vp1_5, vp1_6] 39]) (fun (m, i37) => m) (n36, 0) H ⟨rfl, rfl, rfl, trivial⟩ ⟨hm, hS⟩ ?_
    clear H hS hm a; intro xx a w38 H hR; obtain ⟨m, i37⟩ := xx; simp only [ent, List.map_cons, List.map_nil] at H; (try dsimp only at hR); obtain ⟨hm, hS⟩ := hR
    replace hm := iterN_step hm; obtain ⟨m36, o36, rfl, hm, hn36⟩ := hm; try dsimp only [g_r11_rest_L22] at hm
    refine wp_seq (wp_seq (wp_region_lit (n_q H (q_move rfl) rfl (W_q (q_fieldAddr0 rfl fo39_3) rfl (W_q (q_load rfl ((hS.blk 0 rfl).ld ag33 rfl)) rfl (W_q (q_lenV Tryz.underlying33 rfl hv27) rfl (W_q (q_lssN (i := i37) (j := a0.Procs.length) rfl rfl) rfl ?_))))))); clear H a; intro a H
    refine n_nil (then_normal (c_cond H rfl (fun hc39 => ?_) (fun hc39 => ?_)))
    · replace hm := condT hm hc39
      have hlt40 : i37 < a0.Procs.length := of_decide_eq_true hc39
      refine wp_skip (then_normal (wp_seq (wp_block (wp_seq (c_quiet (by kernel_rfl) (by kernel_rfl) ?_)))))
      refine qq_q H (q_fieldAddr0 rfl fo39_3) rfl ?_; clear H a; intro a H
      refine qq_q H (q_load rfl ((hS.blk 0 rfl).ld ag33 rfl)) rfl ?_; clear H a; intro a H
      refine qq_q H (q_move rfl) rfl ?_; clear H a; intro a H
      replace hm := bindS hm; obtain ⟨x41, hx41, hm⟩ := hm
      obtain ⟨adx41, hAx41⟩ := SlR.adV (hrp0_0.ext (Flat.mono _) hS.x) hv27 hx41
      refine qq_q H (q_ixV (i := i37) Tryz.underlying33 sz67 rfl hv27 hAx41 rfl (natI hx41)) rfl ?_; clear H a; intro a H
      refine qq_q H (q_load rfl (SlR.ldAggV (hrp0_0.ext (Flat.mono _) hS.x) hv27 hAx41 ag67 sz67 hx41)) rfl ?_; clear H a; intro a H
      refine qq_q H (q_fieldAddr0 rfl fo39_3) rfl ?_; clear H a; intro a H
      refine qq_q H (q_load rfl ((hS.blk 1 rfl).ld ag33 rfl)) rfl ?_; clear H a; intro a H
      refine qq_q H (q_move rfl) rfl ?_; clear H a; intro a H
      replace hm := bindS hm; obtain ⟨x42, hx42, hm⟩ := hm
      obtain ⟨adx42, hAx42⟩ := SlR.adV (hrp1_0.ext (Flat.mono _) hS.x) hv28 hx42
      refine qq_q H (q_ixV (i := i37) Tryz.underlying33 sz67 rfl hv28 hAx42 rfl (natI hx42)) rfl ?_; clear H a; intro a H
      refine qq_q H (q_load rfl (SlR.ldAggV (hrp1_0.ext (Flat.mono _) hS.x) hv28 hAx42 ag67 sz67 hx42)) rfl ?_; clear H a; intro a H
      refine qq_q H (q_neqG (structB_guard st67) (eqInGProc x41 x42) (by omega) rfl rfl) rfl ?_; clear H a; intro a H
      refine qq_nil ?_; intro w43 hE44
      replace hS := hS.ext hE44
      refine then_normal (c_cond H rfl (fun hc45 => ?_) (fun hc45 => ?_))
      · replace hm := condT hm hc45
        refine wp_seq (wp_region_lit (n_q H (q_assign rfl) rfl ?_)); clear H a; intro a H
        refine n_nil (then_normal (wp_ret (block_ret (then_ret (then_ret (block_ret (then_ret ?_)))))))
        obtain rfl := Option.some.inj hm; have hz : _ = q36 := hn36; subst hz; replace hm := hm36; try dsimp only at hm
        obtain rfl := Option.some.inj hm
        replace hS := hS.tk0
        refine ret1 H (.inr rfl) rfl rfl ?_
        exact ⟨rfl, hS.x⟩
      · replace hm := condF hm hc45
        refine wp_skip (block_normal (then_normal (wp_region_lit (n_q H (q_move rfl) rfl (W_q (q_incr (i := i37) (j := 1) rfl rfl (by omega)) rfl (W_q (q_assign rfl) rfl ?_)))))); clear H a; intro a H
        refine n_nil (then_normal ?_)
        obtain rfl := Option.some.inj hm
        exact round (m36, i37 + 1) H ⟨rfl, rfl, rfl, trivial⟩ ⟨hn36, hS⟩ (Nat.lt_succ_self _)
    · replace hm := condF hm hc39
      refine wp_exit (then_exit (then_exit (block_exit ?_)))
      obtain rfl := Option.some.inj hm; have hz : _ = q36 := hn36; subst hz; replace hm := hm36; try dsimp only at hm
      refine then_normal (wp_seq (wp_seq (wp_region_lit (n_q H (q_assign rfl) rfl ?_)))); clear H a; intro a H
      refine n_nil (then_normal (wp_block ?_))
      replace hm := bindS hm; obtain ⟨q46, hm, hm46⟩ := hm; replace hm := iter_some hm; obtain ⟨n46, hm⟩ := hm
      refine c_loop (σ := Nat × Nat) (fun (m, i47) => [(2, .pointer (some ⟨b21, 0, none⟩)), (3, .pointer (some ⟨b24, 0, none⟩)), (6, .int .i64 ((i47 : Nat) : Int))]) (fun (m, i47) wl => iterN (g_r11_rest_L21 a0 a1) m i47 = some q46 ∧ St NB w wl [blkR b21 [.int .i64 a0.Id, .int .i64 a0.Frame, .int .i64 a0.Epoch, vp0_0, vp0_1, vp0_2, vp0_3, vp0_4, vp0_5, vp0_6] 39, blkR b24 [.int .i64 a1.Id, .int .i64 a1.Frame, .int .i64 a1.Epoch, vp1_0, vp1_1, vp1_2, vp1_3, vp1_4, vp1_5, vp1_6] 39]) (fun (m, i47) => m) (n46, 0) H ⟨rfl, rfl, rfl, trivial⟩ ⟨hm, hS⟩ ?_
      clear H hS hm a; intro xx a w48 H hR; obtain ⟨m, i47⟩ := xx; simp only [ent, List.map_cons, List.map_nil] at H; (try dsimp only at hR); obtain ⟨hm, hS⟩ := hR
      replace hm := iterN_step hm; obtain ⟨m46, o46, rfl, hm, hn46⟩ := hm; try dsimp only [g_r11_rest_L21] at hm
      refine wp_seq (wp_seq (wp_region_lit (n_q H (q_move rfl) rfl (W_q (q_fieldAddr0 rfl fo39_5) rfl (W_q (q_load rfl ((hS.blk 0 rfl).ld ag34 rfl)) rfl (W_q (q_lenV Tryz.underlying34 rfl hv29) rfl (W_q (q_lssN (i := i47) (j := a0.Timers.length) rfl rfl) rfl ?_))))))); clear H a; intro a H
      refine n_nil (then_normal (c_cond H rfl (fun hc49 => ?_) (fun hc49 => ?_)))
      · replace hm := condT hm hc49
        have hlt50 : i47 < a0.Timers.length := of_decide_eq_true hc49
        refine wp_skip (then_normal (wp_seq (wp_block (wp_seq (c_quiet (by kernel_rfl) (by kernel_rfl) ?_)))))
        refine qq_q H (q_fieldAddr0 rfl fo39_5) rfl ?_; clear H a; intro a H
        refine qq_q H (q_load rfl ((hS.blk 0 rfl).ld ag34 rfl)) rfl ?_; clear H a; intro a H
        refine qq_q H (q_move rfl) rfl ?_; clear H a; intro a H
        replace hm := bindS hm; obtain ⟨x51, hx51, hm⟩ := hm
        obtain ⟨adx51, hAx51⟩ := SlR.adV (hrp0_2.ext (Flat.mono _) hS.x) hv29 hx51
        refine qq_q H (q_ixV (i := i47) Tryz.underlying34 sz99 rfl hv29 hAx51 rfl (natI hx51)) rfl ?_; clear H a; intro a H
        refine qq_q H (q_load rfl (SlR.ldAggV (hrp0_2.ext (Flat.mono _) hS.x) hv29 hAx51 ag99 sz99 hx51)) rfl ?_; clear H a; intro a H
        refine qq_q H (q_fieldAddr0 rfl fo39_5) rfl ?_; clear H a; intro a H
        refine qq_q H (q_load rfl ((hS.blk 1 rfl).ld ag34 rfl)) rfl ?_; clear H a; intro a H
        refine qq_q H (q_move rfl) rfl ?_; clear H a; intro a H
        replace hm := bindS hm; obtain ⟨x52, hx52, hm⟩ := hm
        obtain ⟨adx52, hAx52⟩ := SlR.adV (hrp1_2.ext (Flat.mono _) hS.x) hv30 hx52
        refine qq_q H (q_ixV (i := i47) Tryz.underlying34 sz99 rfl hv30 hAx52 rfl (natI hx52)) rfl ?_; clear H a; intro a H
        refine qq_q H (q_load rfl (SlR.ldAggV (hrp1_2.ext (Flat.mono _) hS.x) hv30 hAx52 ag99 sz99 hx52)) rfl ?_; clear H a; intro a H
        refine qq_q H (q_neqG (structB_guard st99) (eqInGTimer x51 x52) (by omega) rfl rfl) rfl ?_; clear H a; intro a H
        refine qq_nil ?_; intro w53 hE54
        replace hS := hS.ext hE54
        refine then_normal (c_cond H rfl (fun hc55 => ?_) (fun hc55 => ?_))
        · replace hm := condT hm hc55
          refine wp_seq (wp_region_lit (n_q H (q_assign rfl) rfl ?_)); clear H a; intro a H
          refine n_nil (then_normal (wp_ret (block_ret (then_ret (then_ret (block_ret (then_ret ?_)))))))
          obtain rfl := Option.some.inj hm; have hz : _ = q46 := hn46; subst hz; replace hm := hm46; try dsimp only at hm
          obtain rfl := Option.some.inj hm
          replace hS := hS.tk0
          refine ret1 H (.inr rfl) rfl rfl ?_
          exact ⟨rfl, hS.x⟩
        · replace hm := condF hm hc55
          refine wp_skip (block_normal (then_normal (wp_region_lit (n_q H (q_move rfl) rfl (W_q (q_incr (i := i47) (j := 1) rfl rfl (by omega)) rfl (W_q (q_assign rfl) rfl ?_)))))); clear H a; intro a H
          refine n_nil (then_normal ?_)
          obtain rfl := Option.some.inj hm
          exact round (m46, i47 + 1) H ⟨rfl, rfl, rfl, trivial⟩ ⟨hn46, hS⟩ (Nat.lt_succ_self _)
      · replace hm := condF hm hc49
        refine wp_exit (then_exit (then_exit (block_exit ?_)))
        obtain rfl := Option.some.inj hm; have hz : _ = q46 := hn46; subst hz; replace hm := hm46; try dsimp only at hm
        refine then_normal (wp_seq (wp_seq (wp_region_lit (n_q H (q_assign rfl) rfl ?_)))); clear H a; intro a H
        refine n_nil (then_normal (wp_block ?_))
        replace hm := bindS hm; obtain ⟨q56, hm, hm56⟩ := hm; replace hm := iter_some hm; obtain ⟨n56, hm⟩ := hm
        refine c_loop (σ := Nat × Nat) (fun (m, i57) => [(2, .pointer (some ⟨b21, 0, none⟩)), (3, .pointer (some ⟨b24, 0, none⟩)), (7, .int .i64 ((i57 : Nat) : Int))]) (fun (m, i57) wl => iterN (g_r11_rest_L20 a0 a1) m i57 = some q56 ∧ St NB w wl [blkR b21 [.int .i64 a0.Id, .int .i64 a0.Frame, .int .i64 a0.Epoch, vp0_0, vp0_1, vp0_2, vp0_3, vp0_4, vp0_5, vp0_6] 39, blkR b24 [.int .i64 a1.Id, .int .i64 a1.Frame, .int .i64 a1.Epoch, vp1_0, vp1_1, vp1_2, vp1_3, vp1_4, vp1_5, vp1_6] 39]) (fun (m, i57) => m) (n56, 0) H ⟨rfl, rfl, rfl, trivial⟩ ⟨hm, hS⟩ ?_
        clear H hS hm a; intro xx a w58 H hR; obtain ⟨m, i57⟩ := xx; simp only [ent, List.map_cons, List.map_nil] at H; (try dsimp only at hR); obtain ⟨hm, hS⟩ := hR
        replace hm := iterN_step hm; obtain ⟨m56, o56, rfl, hm, hn56⟩ := hm; try dsimp only [g_r11_rest_L20] at hm
        refine wp_seq (wp_seq (wp_region_lit (n_q H (q_move rfl) rfl (W_q (q_fieldAddr0 rfl fo39_6) rfl (W_q (q_load rfl ((hS.blk 0 rfl).ld ag35 rfl)) rfl (W_q (q_lenV Tryz.underlying35 rfl hv31) rfl (W_q (q_lssN (i := i57) (j := a0.Up.length) rfl rfl) rfl ?_))))))); clear H a; intro a H
        refine n_nil (then_normal (c_cond H rfl (fun hc59 => ?_) (fun hc59 => ?_)))
        · replace hm := condT hm hc59
          have hlt60 : i57 < a0.Up.length := of_decide_eq_true hc59
          refine wp_skip (then_normal (wp_seq (wp_block (wp_seq (c_quiet (by kernel_rfl) (by kernel_rfl) ?_)))))
          refine qq_q H (q_fieldAddr0 rfl fo39_6) rfl ?_; clear H a; intro a H
          refine qq_q H (q_load rfl ((hS.blk 0 rfl).ld ag35 rfl)) rfl ?_; clear H a; intro a H
          refine qq_q H (q_move rfl) rfl ?_; clear H a; intro a H
          replace hm := bindS hm; obtain ⟨x61, hx61, hm⟩ := hm
          obtain ⟨adx61, hAx61⟩ := SlR.adV (hrp0_3.ext (Flat.mono _) hS.x) hv31 hx61
          refine qq_q H (q_ixV (i := i57) Tryz.underlying35 sz4 rfl hv31 hAx61 rfl (natI hx61)) rfl ?_; clear H a; intro a H
          refine qq_q H (q_load rfl (SlR.ldOneV (hrp0_3.ext (Flat.mono _) hS.x) hv31 hAx61 ag4 hx61 rfl)) rfl ?_; clear H a; intro a H
          refine qq_q H (q_fieldAddr0 rfl fo39_6) rfl ?_; clear H a; intro a H
          refine qq_q H (q_load rfl ((hS.blk 1 rfl).ld ag35 rfl)) rfl ?_; clear H a; intro a H
          refine qq_q H (q_move rfl) rfl ?_; clear H a; intro a H
          replace hm := bindS hm; obtain ⟨x62, hx62, hm⟩ := hm
          obtain ⟨adx62, hAx62⟩ := SlR.adV (hrp1_3.ext (Flat.mono _) hS.x) hv32 hx62
          refine qq_q H (q_ixV (i := i57) Tryz.underlying35 sz4 rfl hv32 hAx62 rfl (natI hx62)) rfl ?_; clear H a; intro a H
          refine qq_q H (q_load rfl (SlR.ldOneV (hrp1_3.ext (Flat.mono _) hS.x) hv32 hAx62 ag4 hx62 rfl)) rfl ?_; clear H a; intro a H
          refine qq_q H (q_neqB Tryz.underlying4 rfl rfl) rfl ?_; clear H a; intro a H
          refine qq_nil ?_; intro w63 hE64
          replace hS := hS.ext hE64
          refine then_normal (c_cond H rfl (fun hc65 => ?_) (fun hc65 => ?_))
          · replace hm := condT hm hc65
            refine wp_seq (wp_region_lit (n_q H (q_assign rfl) rfl ?_)); clear H a; intro a H
            refine n_nil (then_normal (wp_ret (block_ret (then_ret (then_ret (block_ret (then_ret ?_)))))))
            obtain rfl := Option.some.inj hm; have hz : _ = q56 := hn56; subst hz; replace hm := hm56; try dsimp only at hm
            obtain rfl := Option.some.inj hm
            replace hS := hS.tk0
            refine ret1 H (.inr rfl) rfl rfl ?_
            exact ⟨rfl, hS.x⟩
          · replace hm := condF hm hc65
            refine wp_skip (block_normal (then_normal (wp_region_lit (n_q H (q_move rfl) rfl (W_q (q_incr (i := i57) (j := 1) rfl rfl (by omega)) rfl (W_q (q_assign rfl) rfl ?_)))))); clear H a; intro a H
            refine n_nil (then_normal ?_)
            obtain rfl := Option.some.inj hm
            exact round (m56, i57 + 1) H ⟨rfl, rfl, rfl, trivial⟩ ⟨hn56, hS⟩ (Nat.lt_succ_self _)
        · replace hm := condF hm hc59
          refine wp_exit (then_exit (then_exit (block_exit ?_)))
          obtain rfl := Option.some.inj hm; have hz : _ = q56 := hn56; subst hz; replace hm := hm56; try dsimp only at hm
          refine then_normal (wp_seq (wp_seq (wp_region_lit (n_q H (q_assign rfl) rfl ?_)))); clear H a; intro a H
          refine n_nil (then_normal (wp_block ?_))
          replace hm := bindS hm; obtain ⟨q66, hm, hm66⟩ := hm; replace hm := iter_some hm; obtain ⟨n66, hm⟩ := hm
          refine c_loop (σ := Nat × Nat) (fun (m, i67) => [(2, .pointer (some ⟨b21, 0, none⟩)), (3, .pointer (some ⟨b24, 0, none⟩)), (8, .int .i64 ((i67 : Nat) : Int))]) (fun (m, i67) wl => iterN (g_r11_rest_L19 a0 a1) m i67 = some q66 ∧ St NB w wl [blkR b21 [.int .i64 a0.Id, .int .i64 a0.Frame, .int .i64 a0.Epoch, vp0_0, vp0_1, vp0_2, vp0_3, vp0_4, vp0_5, vp0_6] 39, blkR b24 [.int .i64 a1.Id, .int .i64 a1.Frame, .int .i64 a1.Epoch, vp1_0, vp1_1, vp1_2, vp1_3, vp1_4, vp1_5, vp1_6] 39]) (fun (m, i67) => m) (n66, 0) H ⟨rfl, rfl, rfl, trivial⟩ ⟨hm, hS⟩ ?_
          clear H hS hm a; intro xx a w68 H hR; obtain ⟨m, i67⟩ := xx; simp only [ent, List.map_cons, List.map_nil] at H; (try dsimp only at hR); obtain ⟨hm, hS⟩ := hR
          replace hm := iterN_step hm; obtain ⟨m66, o66, rfl, hm, hn66⟩ := hm; try dsimp only [g_r11_rest_L19] at hm
          refine wp_seq (wp_seq (wp_region_lit (n_q H (q_move rfl) rfl (W_q (q_fieldAddr0 rfl fo39_8) rfl (W_q (q_load rfl ((hS.blk 0 rfl).ld ag36 rfl)) rfl (W_q (q_lenV Tryz.underlying36 rfl hv33) rfl (W_q (q_lssN (i := i67) (j := a0.Ports.length) rfl rfl) rfl ?_))))))); clear H a; intro a H
          refine n_nil (then_normal (c_cond H rfl (fun hc69 => ?_) (fun hc69 => ?_)))
          · replace hm := condT hm hc69
            have hlt70 : i67 < a0.Ports.length := of_decide_eq_true hc69
            refine wp_skip (then_normal (wp_seq (wp_block (wp_seq ?_))))
            replace hm := bindS hm; obtain ⟨j71, hm, hm71⟩ := hm
            refine c_join (σ := Bool) H (fun q572 => [(2, .pointer (some ⟨b21, 0, none⟩)), (3, .pointer (some ⟨b24, 0, none⟩)), (8, .int .i64 ((i67 : Nat) : Int)), (148, .bool q572)]) (fun q572 wl => (g_r11_rest_J18 a0 a1 i67) q572 = some o66 ∧ St NB w wl [blkR b21 [.int .i64 a0.Id, .int .i64 a0.Frame, .int .i64 a0.Epoch, vp0_0, vp0_1, vp0_2, vp0_3, vp0_4, vp0_5, vp0_6] 39, blkR b24 [.int .i64 a1.Id, .int .i64 a1.Frame, .int .i64 a1.Epoch, vp1_0, vp1_1, vp1_2, vp1_3, vp1_4, vp1_5, vp1_6] 39]) ?_ ?_
            · skip
              refine c_quiet (by kernel_rfl) (by kernel_rfl) ?_
              refine qq_q H (q_fieldAddr0 rfl fo39_8) rfl ?_; clear H a; intro a H
              refine qq_q H (q_load rfl ((hS.blk 0 rfl).ld ag36 rfl)) rfl ?_; clear H a; intro a H
              refine qq_q H (q_move rfl) rfl ?_; clear H a; intro a H
              replace hm := bindS hm; obtain ⟨x573, hx573, hm⟩ := hm
              obtain ⟨adx573, hAx573⟩ := SlR.adV (hrp0_5.ext RGPort.mono hS.x) hv33 hx573
              obtain ⟨csx573, hclx573, ⟨vx573_0, rfl, hrx573_0⟩, hcx573⟩ := SlR.elV hrp0_5 hv33 hAx573 hx573
              refine qq_q H (q_ixV (i := i67) Tryz.underlying36 sz76 rfl hv33 hAx573 rfl (natI hx573)) rfl ?_; clear H a; intro a H
              refine qq_q H (q_fieldAddr rfl fo76_1) rfl ?_; clear H a; intro a H
              refine qq_q H (q_load rfl (LdX.ext (ldElC (j := 1) ag3 hcx573 rfl) hS.x)) rfl ?_; clear H a; intro a H
              refine qq_q H (q_fieldAddr0 rfl fo39_8) rfl ?_; clear H a; intro a H
              refine qq_q H (q_load rfl ((hS.blk 1 rfl).ld ag36 rfl)) rfl ?_; clear H a; intro a H
              refine qq_q H (q_move rfl) rfl ?_; clear H a; intro a H
              replace hm := bindS hm; obtain ⟨x574, hx574, hm⟩ := hm
              obtain ⟨adx574, hAx574⟩ := SlR.adV (hrp1_5.ext RGPort.mono hS.x) hv34 hx574
              obtain ⟨csx574, hclx574, ⟨vx574_0, rfl, hrx574_0⟩, hcx574⟩ := SlR.elV hrp1_5 hv34 hAx574 hx574
              refine qq_q H (q_ixV (i := i67) Tryz.underlying36 sz76 rfl hv34 hAx574 rfl (natI hx574)) rfl ?_; clear H a; intro a H
              refine qq_q H (q_fieldAddr rfl fo76_1) rfl ?_; clear H a; intro a H
              refine qq_q H (q_load rfl (LdX.ext (ldElC (j := 1) ag3 hcx574 rfl) hS.x)) rfl ?_; clear H a; intro a H
              refine qq_q H (q_neqD rfl rfl) rfl ?_; clear H a; intro a H
              refine qq_q H (q_move rfl) rfl ?_; clear H a; intro a H
              rcases Bool.eq_false_or_eq_true (!decide (x573.Age = x574.Age)) with hg575 | hg575
              · replace H := H.know 132 rfl hg575
                replace hm := condT hm hg575
                refine qq_no H rfl rfl (by decide) rfl ?_; clear H a; intro a H
                refine qq_no H rfl rfl (by decide) rfl ?_; clear H a; intro a H
                refine qq_no H rfl rfl (by decide) rfl ?_; clear H a; intro a H
                refine qq_no H rfl rfl (by decide) rfl ?_; clear H a; intro a H
                refine qq_no H rfl rfl (by decide) rfl ?_; clear H a; intro a H
                refine qq_no H rfl rfl (by decide) rfl ?_; clear H a; intro a H
                refine qq_no H rfl rfl (by decide) rfl ?_; clear H a; intro a H
                refine qq_no H rfl rfl (by decide) rfl ?_; clear H a; intro a H
                refine qq_no H rfl rfl (by decide) rfl ?_; clear H a; intro a H
                refine qq_no H rfl rfl (by decide) rfl ?_; clear H a; intro a H
                refine qq_no H rfl rfl (by decide) rfl ?_; clear H a; intro a H
                refine qq_no H rfl rfl (by decide) rfl ?_; clear H a; intro a H
                refine qq_no H rfl rfl (by decide) rfl ?_; clear H a; intro a H
                refine qq_no H rfl rfl (by decide) rfl ?_; clear H a; intro a H
                refine qq_no H rfl rfl (by decide) rfl ?_; clear H a; intro a H
                refine qq_q H (q_pickT rfl rfl) rfl ?_; clear H a; intro a H
                refine qq_nil ?_; intro w576 hE577
                replace hS := hS.ext hE577
                refine then_normal ?_
                obtain rfl := Option.some.inj hm; replace hm := hm71; try dsimp only at hm
                exact join true H ⟨rfl, rfl, rfl, rfl, trivial⟩ ⟨hm, hS⟩
              · replace H := H.know 132 rfl hg575
                replace hm := condF hm hg575
                refine qq_yes H rfl rfl ?_
                refine qq_q H (q_fieldAddr0 rfl fo39_8) rfl ?_; clear H a; intro a H
                refine qq_yes H rfl rfl ?_
                refine qq_q H (q_load rfl ((hS.blk 0 rfl).ld ag36 rfl)) rfl ?_; clear H a; intro a H
                refine qq_yes H rfl rfl ?_
                refine qq_q H (q_move rfl) rfl ?_; clear H a; intro a H
                refine qq_yes H rfl rfl ?_
                replace hm := bindS hm; obtain ⟨x578, hx578, hm⟩ := hm
                obtain ⟨adx578, hAx578⟩ := SlR.adV (hrp0_5.ext RGPort.mono hS.x) hv33 hx578
                obtain ⟨csx578, hclx578, ⟨vx578_0, rfl, hrx578_0⟩, hcx578⟩ := SlR.elV hrp0_5 hv33 hAx578 hx578
                refine qq_q H (q_ixV (i := i67) Tryz.underlying36 sz76 rfl hv33 hAx578 rfl (natI hx578)) rfl ?_; clear H a; intro a H
                refine qq_yes H rfl rfl ?_
                refine qq_q H (q_fieldAddr rfl fo76_0) rfl ?_; clear H a; intro a H
                refine qq_yes H rfl rfl ?_
                refine qq_q H (q_load rfl (LdX.ext (ldElC (j := 0) ag74 hcx578 rfl) hS.x)) rfl ?_; clear H a; intro a H
                refine qq_yes H rfl rfl ?_
                obtain ⟨A579, c579, hv579, hl579, hm579⟩ := SlR.formV (hrx578_0.ext (Flat.mono _) hS.x)
                refine qq_q H (q_lenV Tryz.underlying74 rfl hv579) rfl ?_; clear H a; intro a H
                refine qq_yes H rfl rfl ?_
                refine qq_q H (q_fieldAddr0 rfl fo39_8) rfl ?_; clear H a; intro a H
                refine qq_yes H rfl rfl ?_
                refine qq_q H (q_load rfl ((hS.blk 1 rfl).ld ag36 rfl)) rfl ?_; clear H a; intro a H
                refine qq_yes H rfl rfl ?_
                refine qq_q H (q_move rfl) rfl ?_; clear H a; intro a H
                refine qq_yes H rfl rfl ?_
                replace hm := bindS hm; obtain ⟨x580, hx580, hm⟩ := hm
                obtain ⟨adx580, hAx580⟩ := SlR.adV (hrp1_5.ext RGPort.mono hS.x) hv34 hx580
                obtain ⟨csx580, hclx580, ⟨vx580_0, rfl, hrx580_0⟩, hcx580⟩ := SlR.elV hrp1_5 hv34 hAx580 hx580
                refine qq_q H (q_ixV (i := i67) Tryz.underlying36 sz76 rfl hv34 hAx580 rfl (natI hx580)) rfl ?_; clear H a; intro a H
                refine qq_yes H rfl rfl ?_
                refine qq_q H (q_fieldAddr rfl fo76_0) rfl ?_; clear H a; intro a H
                refine qq_yes H rfl rfl ?_
                refine qq_q H (q_load rfl (LdX.ext (ldElC (j := 0) ag74 hcx580 rfl) hS.x)) rfl ?_; clear H a; intro a H
                refine qq_yes H rfl rfl ?_
                obtain ⟨A581, c581, hv581, hl581, hm581⟩ := SlR.formV (hrx580_0.ext (Flat.mono _) hS.x)
                refine qq_q H (q_lenV Tryz.underlying74 rfl hv581) rfl ?_; clear H a; intro a H
                refine qq_yes H rfl rfl ?_
                refine qq_q H (q_neqN (i := x578.Msgs.length) (j := x580.Msgs.length) rfl rfl) rfl ?_; clear H a; intro a H
                refine qq_q H (q_pickF rfl rfl) rfl ?_; clear H a; intro a H
                refine qq_nil ?_; intro w582 hE583
                replace hS := hS.ext hE583
                refine then_normal ?_
                obtain rfl := Option.some.inj hm; replace hm := hm71; try dsimp only at hm
                exact join (!decide (x578.Msgs.length = x580.Msgs.length)) H ⟨rfl, rfl, rfl, rfl, trivial⟩ ⟨hm, hS⟩
            · clear H hS hm a; intro q572 a w584 H hR
              simp only [ent, List.map_cons, List.map_nil] at H; (try dsimp only at hR); obtain ⟨hm, hS⟩ := hR; try dsimp only [g_r11_rest_J18] at hm
              refine c_cond H rfl (fun hc585 => ?_) (fun hc585 => ?_)
              · replace hm := condT hm hc585
                refine wp_seq (wp_region_lit (n_q H (q_assign rfl) rfl ?_)); clear H a; intro a H
                refine n_nil (then_normal (wp_ret (then_ret (block_ret (then_ret (then_ret (block_ret (then_ret ?_))))))))
                obtain rfl := Option.some.inj hm; have hz : _ = q66 := hn66; subst hz; replace hm := hm66; try dsimp only at hm
                obtain rfl := Option.some.inj hm
                replace hS := hS.tk0
                refine ret1 H (.inr rfl) rfl rfl ?_
                exact ⟨rfl, hS.x⟩
              · replace hm := condF hm hc585
                refine wp_skip (then_normal (wp_seq (wp_region_lit (n_q H (q_assign rfl) rfl ?_)))); clear H a; intro a H
                refine n_nil (then_normal (wp_block ?_))
                replace hm := bindS hm; obtain ⟨q586, hm, hm586⟩ := hm; replace hm := iter_some hm; obtain ⟨n586, hm⟩ := hm
                refine c_loop (σ := Nat × Nat) (fun (m, i587) => [(2, .pointer (some ⟨b21, 0, none⟩)), (3, .pointer (some ⟨b24, 0, none⟩)), (8, .int .i64 ((i67 : Nat) : Int)), (9, .int .i64 ((i587 : Nat) : Int))]) (fun (m, i587) wl => iterN (g_r11_rest_L17 a0 a1 i67) m i587 = some q586 ∧ St NB w wl [blkR b21 [.int .i64 a0.Id, .int .i64 a0.Frame, .int .i64 a0.Epoch, vp0_0, vp0_1, vp0_2, vp0_3, vp0_4, vp0_5, vp0_6] 39, blkR b24 [.int .i64 a1.Id, .int .i64 a1.Frame, .int .i64 a1.Epoch, vp1_0, vp1_1, vp1_2, vp1_3, vp1_4, vp1_5, vp1_6] 39]) (fun (m, i587) => m) (n586, 0) H ⟨rfl, rfl, rfl, rfl, trivial⟩ ⟨hm, hS⟩ ?_
                clear H hS hm a; intro xx a w588 H hR; obtain ⟨m, i587⟩ := xx; simp only [ent, List.map_cons, List.map_nil] at H; (try dsimp only at hR); obtain ⟨hm, hS⟩ := hR
                replace hm := iterN_step hm; obtain ⟨m586, o586, rfl, hm, hn586⟩ := hm; try dsimp only [g_r11_rest_L17] at hm
                refine wp_seq (wp_seq (wp_region_lit (n_q H (q_move rfl) rfl (W_q (q_fieldAddr0 rfl fo39_8) rfl (W_q (q_load rfl ((hS.blk 0 rfl).ld ag36 rfl)) rfl (W_q (q_move rfl) rfl ?_)))))); clear H a; intro a H
                replace hm := bindS hm; obtain ⟨x589, hx589, hm⟩ := hm
                obtain ⟨adx589, hAx589⟩ := SlR.adV (hrp0_5.ext RGPort.mono hS.x) hv33 hx589
                obtain ⟨csx589, hclx589, ⟨vx589_0, rfl, hrx589_0⟩, hcx589⟩ := SlR.elV hrp0_5 hv33 hAx589 hx589
                refine n_q H (q_ixV (i := i67) Tryz.underlying36 sz76 rfl hv33 hAx589 rfl (natI hx589)) rfl (W_q (q_fieldAddr rfl fo76_0) rfl (W_q (q_load rfl (LdX.ext (ldElC (j := 0) ag74 hcx589 rfl) hS.x)) rfl ?_)); clear H a; intro a H
                obtain ⟨A590, c590, hv590, hl590, hm590⟩ := SlR.formV (hrx589_0.ext (Flat.mono _) hS.x)
                refine n_q H (q_lenV Tryz.underlying74 rfl hv590) rfl (W_q (q_lssN (i := i587) (j := x589.Msgs.length) rfl rfl) rfl ?_); clear H a; intro a H
                refine n_nil (then_normal (c_cond H rfl (fun hc591 => ?_) (fun hc591 => ?_)))
                · replace hm := condT hm hc591
                  have hlt592 : i587 < x589.Msgs.length := of_decide_eq_true hc591
                  refine wp_skip (then_normal (wp_seq (wp_block (wp_seq (c_quiet (by kernel_rfl) (by kernel_rfl) ?_)))))
                  refine qq_q H (q_fieldAddr0 rfl fo39_8) rfl ?_; clear H a; intro a H
                  refine qq_q H (q_load rfl ((hS.blk 0 rfl).ld ag36 rfl)) rfl ?_; clear H a; intro a H
                  refine qq_q H (q_move rfl) rfl ?_; clear H a; intro a H
                  replace hm := bindS hm; obtain ⟨x593, hx593, hm⟩ := hm
                  obtain ⟨adx593, hAx593⟩ := SlR.adV (hrp0_5.ext RGPort.mono hS.x) hv33 hx593
                  obtain ⟨csx593, hclx593, ⟨vx593_0, rfl, hrx593_0⟩, hcx593⟩ := SlR.elV hrp0_5 hv33 hAx593 hx593
                  refine qq_q H (q_ixV (i := i67) Tryz.underlying36 sz76 rfl hv33 hAx593 rfl (natI hx593)) rfl ?_; clear H a; intro a H
                  refine qq_q H (q_fieldAddr rfl fo76_0) rfl ?_; clear H a; intro a H
                  refine qq_q H (q_load rfl (LdX.ext (ldElC (j := 0) ag74 hcx593 rfl) hS.x)) rfl ?_; clear H a; intro a H
                  refine qq_q H (q_move rfl) rfl ?_; clear H a; intro a H
                  obtain ⟨A594, c594, hv594, hl594, hm594⟩ := SlR.formV (hrx593_0.ext (Flat.mono _) hS.x)
                  replace hm := bindS hm; obtain ⟨x595, hx595, hm⟩ := hm
                  obtain ⟨adx595, hAx595⟩ := SlR.adV (hrx593_0.ext (Flat.mono _) hS.x) hv594 hx595
                  refine qq_q H (q_ixV (i := i587) Tryz.underlying74 sz9 rfl hv594 hAx595 rfl (natI hx595)) rfl ?_; clear H a; intro a H
                  refine qq_q H (q_load rfl (SlR.ldOneV (hrx593_0.ext (Flat.mono _) hS.x) hv594 hAx595 ag9 hx595 rfl)) rfl ?_; clear H a; intro a H
                  refine qq_q H (q_fieldAddr0 rfl fo39_8) rfl ?_; clear H a; intro a H
                  refine qq_q H (q_load rfl ((hS.blk 1 rfl).ld ag36 rfl)) rfl ?_; clear H a; intro a H
                  refine qq_q H (q_move rfl) rfl ?_; clear H a; intro a H
                  replace hm := bindS hm; obtain ⟨x596, hx596, hm⟩ := hm
                  obtain ⟨adx596, hAx596⟩ := SlR.adV (hrp1_5.ext RGPort.mono hS.x) hv34 hx596
                  obtain ⟨csx596, hclx596, ⟨vx596_0, rfl, hrx596_0⟩, hcx596⟩ := SlR.elV hrp1_5 hv34 hAx596 hx596
                  refine qq_q H (q_ixV (i := i67) Tryz.underlying36 sz76 rfl hv34 hAx596 rfl (natI hx596)) rfl ?_; clear H a; intro a H
                  refine qq_q H (q_fieldAddr rfl fo76_0) rfl ?_; clear H a; intro a H
                  refine qq_q H (q_load rfl (LdX.ext (ldElC (j := 0) ag74 hcx596 rfl) hS.x)) rfl ?_; clear H a; intro a H
                  refine qq_q H (q_move rfl) rfl ?_; clear H a; intro a H
                  obtain ⟨A597, c597, hv597, hl597, hm597⟩ := SlR.formV (hrx596_0.ext (Flat.mono _) hS.x)
                  replace hm := bindS hm; obtain ⟨x598, hx598, hm⟩ := hm
                  obtain ⟨adx598, hAx598⟩ := SlR.adV (hrx596_0.ext (Flat.mono _) hS.x) hv597 hx598
                  refine qq_q H (q_ixV (i := i587) Tryz.underlying74 sz9 rfl hv597 hAx598 rfl (natI hx598)) rfl ?_; clear H a; intro a H
                  refine qq_q H (q_load rfl (SlR.ldOneV (hrx596_0.ext (Flat.mono _) hS.x) hv597 hAx598 ag9 hx598 rfl)) rfl ?_; clear H a; intro a H
                  refine qq_q H (q_neqS rfl rfl) rfl ?_; clear H a; intro a H
                  refine qq_nil ?_; intro w599 hE600
                  replace hS := hS.ext hE600
                  refine then_normal (c_cond H rfl (fun hc601 => ?_) (fun hc601 => ?_))
                  · replace hm := condT hm hc601
                    refine wp_seq (wp_region_lit (n_q H (q_assign rfl) rfl ?_)); clear H a; intro a H
                    refine n_nil (then_normal (wp_ret (block_ret (then_ret (then_ret (block_ret (block_ret (then_ret (then_ret (block_ret (then_ret ?_)))))))))))
                    obtain rfl := Option.some.inj hm; have hz : _ = q586 := hn586; subst hz; replace hm := hm586; try dsimp only at hm
                    obtain rfl := Option.some.inj hm; have hz : _ = q66 := hn66; subst hz; replace hm := hm66; try dsimp only at hm
                    obtain rfl := Option.some.inj hm
                    replace hS := hS.tk0
                    refine ret1 H (.inr rfl) rfl rfl ?_
                    exact ⟨rfl, hS.x⟩
                  · replace hm := condF hm hc601
                    refine wp_skip (block_normal (then_normal (wp_region_lit (n_q H (q_move rfl) rfl (W_q (q_incr (i := i587) (j := 1) rfl rfl (by omega)) rfl (W_q (q_assign rfl) rfl ?_)))))); clear H a; intro a H
                    refine n_nil (then_normal ?_)
                    obtain rfl := Option.some.inj hm
                    exact round (m586, i587 + 1) H ⟨rfl, rfl, rfl, rfl, trivial⟩ ⟨hn586, hS⟩ (Nat.lt_succ_self _)
                · replace hm := condF hm hc591
                  refine wp_exit (then_exit (then_exit (block_exit ?_)))
                  obtain rfl := Option.some.inj hm; have hz : _ = q586 := hn586; subst hz; replace hm := hm586; try dsimp only at hm
                  refine block_normal (then_normal (wp_region_lit (n_q H (q_move rfl) rfl (W_q (q_incr (i := i67) (j := 1) rfl rfl (by omega)) rfl (W_q (q_assign rfl) rfl ?_))))); clear H a; intro a H
                  refine n_nil (then_normal ?_)
                  obtain rfl := Option.some.inj hm
                  exact round (m66, i67 + 1) H ⟨rfl, rfl, rfl, trivial⟩ ⟨hn66, hS⟩ (Nat.lt_succ_self _)
          · replace hm := condF hm hc69
            refine wp_exit (then_exit (then_exit (block_exit ?_)))
            obtain rfl := Option.some.inj hm; have hz : _ = q66 := hn66; subst hz; replace hm := hm66; try dsimp only at hm
            refine then_normal (wp_seq (wp_region_lit (n_q H (q_fieldAddr0 rfl fo39_4) rfl (W_q (q_load rfl ((hS.blk 0 rfl).ld ag25 rfl)) rfl (W_q (q_fieldAddr0 rfl fo39_4) rfl (W_q (q_load rfl ((hS.blk 1 rfl).ld ag25 rfl)) rfl ?_)))))); clear H a; intro a H
            replace hm := bindS hm; obtain ⟨r602, hr602, hm⟩ := hm
            refine n_call H rfl en44 (g_r11_ints_w (A := A) (hrp0_1.ext (Flat.mono _) hS.x) (hrp1_1.ext (Flat.mono _) hS.x) hr602) rfl ?_
            clear H; intro x605 w603 hv; clear a; intro a H; obtain ⟨rfl, hE604⟩ := hv
            replace hS := hS.ext hE604
            refine n_q H (q_move rfl) rfl ?_; clear H a; intro a H
            rcases Bool.eq_false_or_eq_true r602 with hg606 | hg606
            · replace H := H.know 184 rfl hg606
              replace hm := condT hm hg606
              refine n_yes H rfl rfl (n_q H (q_fieldAddr0 rfl fo39_7) rfl (W_yes rfl rfl (W_q (q_load rfl ((hS.blk 0 rfl).ld ag25 rfl)) rfl (W_yes rfl rfl (W_q (q_fieldAddr0 rfl fo39_7) rfl (W_yes rfl rfl (W_q (q_load rfl ((hS.blk 1 rfl).ld ag25 rfl)) rfl (W_yes rfl rfl ?_)))))))); clear H a; intro a H
              replace hm := bindS hm; obtain ⟨r607, hr607, hm⟩ := hm
              refine n_call H rfl en44 (g_r11_ints_w (A := A) (hrp0_4.ext (Flat.mono _) hS.x) (hrp1_4.ext (Flat.mono _) hS.x) hr607) rfl ?_
              clear H; intro x610 w608 hv; clear a; intro a H; obtain ⟨rfl, hE609⟩ := hv
              replace hS := hS.ext hE609
              refine n_q H (q_pickT rfl rfl) rfl (W_q (q_assign rfl) rfl ?_); clear H a; intro a H
              refine n_nil (then_normal (wp_ret ?_))
              obtain rfl := Option.some.inj hm
              replace hS := hS.tk0
              refine ret1 H (.inr rfl) rfl rfl ?_
              exact ⟨rfl, hS.x⟩
            · replace H := H.know 184 rfl hg606
              replace hm := condF hm hg606
              refine n_no H rfl rfl (by decide) rfl (W_no rfl rfl (by decide) rfl (W_no rfl rfl (by decide) rfl (W_no rfl rfl (by decide) rfl (W_no rfl rfl (by decide) rfl (W_q (q_pickF rfl rfl) rfl (W_q (q_assign rfl) rfl ?_)))))); clear H a; intro a H
              refine n_nil (then_normal (wp_ret ?_))
              obtain rfl := Option.some.inj hm
              replace hS := hS.tk0
              refine ret1 H (.inr rfl) rfl rfl ?_
              exact ⟨rfl, hS.x⟩
theorem g_r11_Same_w {w : World} {A : Nat → Addr} {cs0 : List Value} {a0 : GState} {cs1 : List Value} {a1 : GState} (h0 : RGState w cs0 a0) (h1 : RGState w cs1 a1) {r : Bool} (hm : g_r11_Same a0 a1 = some r) :
    Calls Tryz.prog 9 [.agg cs0.toArray, .agg cs1.toArray].toArray w (Ret fun u w' => u = .bool r ∧ Ext w w') := by
  obtain ⟨vp0_0, vp0_1, vp0_2, vp0_3, vp0_4, vp0_5, vp0_6, rfl, hrp0_0, hrp0_1, hrp0_2, hrp0_3, hrp0_4, hrp0_5, hrp0_6⟩ := h0
  obtain ⟨vp1_0, vp1_1, vp1_2, vp1_3, vp1_4, vp1_5, vp1_6, rfl, hrp1_0, hrp1_1, hrp1_2, hrp1_3, hrp1_4, hrp1_5, hrp1_6⟩ := h1
  have hS := St.begin NB w
  unfold g_r11_Same at hm
  refine enter Tryz.func9 rfl rfl rfl ?_; intro a H; dsimp only [enumL, Nat.zero_add, Nat.reduceAdd] at H
  refine wp_seq (wp_region_lit (n_box H rfl (cs := [.int .i64 a0.Id, .int .i64 a0.Frame, .int .i64 a0.Epoch, vp0_0, vp0_1, vp0_2, vp0_3, vp0_4, vp0_5, vp0_6]) rfl rfl ?_))
  clear H; intro b21 w22 hN hE23 hs; clear a; intro a H
  replace hS := hS.newBlk hN hE23 hs; clear hN hs
  refine n_box H rfl (cs := [.int .i64 a1.Id, .int .i64 a1.Frame, .int .i64 a1.Epoch, vp1_0, vp1_1, vp1_2, vp1_3, vp1_4, vp1_5, vp1_6]) rfl rfl ?_
  clear H; intro b24 w25 hN hE26 hs; clear a; intro a H
  replace hS := hS.newBlk hN hE26 hs; clear hN hs
  refine n_q H (q_assign rfl) rfl ?_; clear H a; intro a H
  refine n_nil (then_normal (wp_seq ?_))
  replace hm := bindS hm; obtain ⟨j27, hm, hm27⟩ := hm
  refine c_join (σ := Bool) H (fun q528 => [(2, .pointer (some ⟨b21, 0, none⟩)), (3, .pointer (some ⟨b24, 0, none⟩)), (25, .bool q528)]) (fun q528 wl => (g_r11_Same_J3 a0 a1) q528 = some r ∧ St NB w wl [blkR b21 [.int .i64 a0.Id, .int .i64 a0.Frame, .int .i64 a0.Epoch, vp0_0, vp0_1, vp0_2, vp0_3, vp0_4, vp0_5, vp0_6] 39, blkR b24 [.int .i64 a1.Id, .int .i64 a1.Frame, .int .i64 a1.Epoch, vp1_0, vp1_1, vp1_2, vp1_3, vp1_4, vp1_5, vp1_6] 39]) ?_ ?_
  · skip
    refine wp_region_lit (n_q H (q_load rfl ((hS.blk 1 rfl).ldAll ag39 sz39)) rfl (W_q (q_load rfl ((hS.blk 0 rfl).ldAll ag39 sz39)) rfl ?_)); clear H a; intro a H
    replace hm := bindS hm; obtain ⟨r529, hr529, hm⟩ := hm
    refine n_call H rfl en20 (g_r11_rest_w (A := A) (⟨_, _, _, _, _, _, _, rfl, (hrp0_0.ext (Flat.mono _) hS.x), (hrp0_1.ext (Flat.mono _) hS.x), (hrp0_2.ext (Flat.mono _) hS.x), (hrp0_3.ext (Flat.mono _) hS.x), (hrp0_4.ext (Flat.mono _) hS.x), (hrp0_5.ext RGPort.mono hS.x), (hrp0_6.ext (Flat.mono _) hS.x)⟩ : RGState _ [.int .i64 a0.Id, .int .i64 a0.Frame, .int .i64 a0.Epoch, vp0_0, vp0_1, vp0_2, vp0_3, vp0_4, vp0_5, vp0_6] a0) (⟨_, _, _, _, _, _, _, rfl, (hrp1_0.ext (Flat.mono _) hS.x), (hrp1_1.ext (Flat.mono _) hS.x), (hrp1_2.ext (Flat.mono _) hS.x), (hrp1_3.ext (Flat.mono _) hS.x), (hrp1_4.ext (Flat.mono _) hS.x), (hrp1_5.ext RGPort.mono hS.x), (hrp1_6.ext (Flat.mono _) hS.x)⟩ : RGState _ [.int .i64 a1.Id, .int .i64 a1.Frame, .int .i64 a1.Epoch, vp1_0, vp1_1, vp1_2, vp1_3, vp1_4, vp1_5, vp1_6] a1) hr529) rfl ?_
    clear H; intro x532 w530 hv; clear a; intro a H; obtain ⟨rfl, hE531⟩ := hv
    replace hS := hS.ext hE531
    refine n_q H (q_not rfl) rfl (W_q (q_move rfl) rfl ?_); clear H a; intro a H
    rcases Bool.eq_false_or_eq_true (!r529) with hg533 | hg533
    · replace H := H.know 10 rfl hg533
      replace hm := condT hm hg533
      refine n_no H rfl rfl (by decide) rfl (W_no rfl rfl (by decide) rfl (W_no rfl rfl (by decide) rfl (W_no rfl rfl (by decide) rfl (W_no rfl rfl (by decide) rfl (W_q (q_pickT rfl rfl) rfl (W_q (q_move rfl) rfl (W_no rfl rfl (by decide) rfl (W_no rfl rfl (by decide) rfl (W_no rfl rfl (by decide) rfl (W_no rfl rfl (by decide) rfl (W_no rfl rfl (by decide) rfl ?_))))))))))); clear H a; intro a H
      refine n_no H rfl rfl (by decide) rfl (W_no rfl rfl (by decide) rfl (W_q (q_pickT rfl rfl) rfl ?_)); clear H a; intro a H
      refine n_nil (then_normal ?_)
      obtain rfl := Option.some.inj hm; replace hm := hm27; try dsimp only at hm
      replace hS := hS.pk1
      exact join true H ⟨rfl, rfl, rfl, trivial⟩ ⟨hm, hS⟩
    · replace H := H.know 10 rfl hg533
      replace hm := condF hm hg533
      refine n_yes H rfl rfl (n_q H (q_fieldAddr0 rfl fo39_2) rfl (W_yes rfl rfl (W_q (q_load rfl ((hS.blk 1 rfl).ld ag3 rfl)) rfl (W_yes rfl rfl (W_q (q_fieldAddr0 rfl fo39_2) rfl (W_yes rfl rfl (W_q (q_load rfl ((hS.blk 0 rfl).ld ag3 rfl)) rfl (W_yes rfl rfl (W_q (q_neqD rfl rfl) rfl (W_q (q_pickF rfl rfl) rfl (W_q (q_move rfl) rfl ?_))))))))))); clear H a; intro a H
      rcases Bool.eq_false_or_eq_true (!decide (a0.Epoch = a1.Epoch)) with hg534 | hg534
      · replace H := H.know 17 rfl hg534
        replace hm := condT hm hg534
        refine n_no H rfl rfl (by decide) rfl (W_no rfl rfl (by decide) rfl (W_no rfl rfl (by decide) rfl (W_no rfl rfl (by decide) rfl (W_no rfl rfl (by decide) rfl (W_no rfl rfl (by decide) rfl (W_no rfl rfl (by decide) rfl (W_q (q_pickT rfl rfl) rfl ?_))))))); clear H a; intro a H
        refine n_nil (then_normal ?_)
        obtain rfl := Option.some.inj hm; replace hm := hm27; try dsimp only at hm
        replace hS := hS.pk1
        exact join true H ⟨rfl, rfl, rfl, trivial⟩ ⟨hm, hS⟩
      · replace H := H.know 17 rfl hg534
        replace hm := condF hm hg534
        refine n_yes H rfl rfl (n_q H (q_fieldAddr0 rfl fo39_9) rfl (W_yes rfl rfl (W_q (q_load rfl ((hS.blk 1 rfl).ld ag37 rfl)) rfl (W_yes rfl rfl ?_)))); clear H a; intro a H
        obtain ⟨A535, c535, hv535, hl535, hm535⟩ := SlR.formV (hrp0_6.ext (Flat.mono _) hS.x)
        refine n_q H (q_lenV Tryz.underlying37 rfl hv535) rfl (W_yes rfl rfl (W_q (q_fieldAddr0 rfl fo39_9) rfl (W_yes rfl rfl (W_q (q_load rfl ((hS.blk 0 rfl).ld ag37 rfl)) rfl (W_yes rfl rfl ?_))))); clear H a; intro a H
        obtain ⟨A536, c536, hv536, hl536, hm536⟩ := SlR.formV (hrp1_6.ext (Flat.mono _) hS.x)
        refine n_q H (q_lenV Tryz.underlying37 rfl hv536) rfl (W_yes rfl rfl (W_q (q_neqN (i := a0.Pages.length) (j := a1.Pages.length) rfl rfl) rfl (W_q (q_pickF rfl rfl) rfl ?_))); clear H a; intro a H
        refine n_nil (then_normal ?_)
        obtain rfl := Option.some.inj hm; replace hm := hm27; try dsimp only at hm
        replace hS := hS.pk1
        exact join (!decide (a0.Pages.length = a1.Pages.length)) H ⟨rfl, rfl, rfl, trivial⟩ ⟨hm, hS⟩
  · clear H hS hm a; intro q528 a w537 H hR
    simp only [ent, List.map_cons, List.map_nil] at H; (try dsimp only at hR); obtain ⟨hm, hS⟩ := hR; try dsimp only [g_r11_Same_J3] at hm
    refine c_cond H rfl (fun hc538 => ?_) (fun hc538 => ?_)
    · replace hm := condT hm hc538
      refine wp_seq (wp_region_lit (n_q H (q_assign rfl) rfl ?_)); clear H a; intro a H
      refine n_nil (then_normal (wp_ret (then_ret ?_)))
      obtain rfl := Option.some.inj hm
      replace hS := hS.tk0
      refine ret1 H (.inr rfl) rfl rfl ?_
      exact ⟨rfl, hS.x⟩
    · replace hm := condF hm hc538
      refine wp_skip (then_normal (wp_seq (wp_seq (wp_region_lit (n_q H (q_assign rfl) rfl ?_))))); clear H a; intro a H
      refine n_nil (then_normal (wp_block ?_))
      replace hm := bindS hm; obtain ⟨q539, hm, hm539⟩ := hm; replace hm := iter_some hm; obtain ⟨n539, hm⟩ := hm
      refine c_loop (σ := Nat × Nat) (fun (m, i540) => [(2, .pointer (some ⟨b21, 0, none⟩)), (3, .pointer (some ⟨b24, 0, none⟩)), (5, .int .i64 ((i540 : Nat) : Int))]) (fun (m, i540) wl => iterN (g_r11_Same_L2 a0 a1) m i540 = some q539 ∧ St NB w wl [blkR b21 [.int .i64 a0.Id, .int .i64 a0.Frame, .int .i64 a0.Epoch, vp0_0, vp0_1, vp0_2, vp0_3, vp0_4, vp0_5, vp0_6] 39, blkR b24 [.int .i64 a1.Id, .int .i64 a1.Frame, .int .i64 a1.Epoch, vp1_0, vp1_1, vp1_2, vp1_3, vp1_4, vp1_5, vp1_6] 39]) (fun (m, i540) => m) (n539, 0) H ⟨rfl, rfl, rfl, trivial⟩ ⟨hm, hS⟩ ?_
      clear H hS hm a; intro xx a w541 H hR; obtain ⟨m, i540⟩ := xx; simp only [ent, List.map_cons, List.map_nil] at H; (try dsimp only at hR); obtain ⟨hm, hS⟩ := hR
      replace hm := iterN_step hm; obtain ⟨m539, o539, rfl, hm, hn539⟩ := hm; try dsimp only [g_r11_Same_L2] at hm
      refine wp_seq (wp_seq (wp_region_lit (n_q H (q_move rfl) rfl (W_q (q_fieldAddr0 rfl fo39_9) rfl (W_q (q_load rfl ((hS.blk 0 rfl).ld ag37 rfl)) rfl ?_))))); clear H a; intro a H
      obtain ⟨A542, c542, hv542, hl542, hm542⟩ := SlR.formV (hrp0_6.ext (Flat.mono _) hS.x)
      refine n_q H (q_lenV Tryz.underlying37 rfl hv542) rfl (W_q (q_lssN (i := i540) (j := a0.Pages.length) rfl rfl) rfl ?_); clear H a; intro a H
      refine n_nil (then_normal (c_cond H rfl (fun hc543 => ?_) (fun hc543 => ?_)))
      · replace hm := condT hm hc543
        have hlt544 : i540 < a0.Pages.length := of_decide_eq_true hc543
        refine wp_skip (then_normal (wp_seq (wp_block (wp_seq (c_quiet (by kernel_rfl) (by kernel_rfl) ?_)))))
        refine qq_q H (q_fieldAddr0 rfl fo39_9) rfl ?_; clear H a; intro a H
        refine qq_q H (q_load rfl ((hS.blk 0 rfl).ld ag37 rfl)) rfl ?_; clear H a; intro a H
        refine qq_q H (q_move rfl) rfl ?_; clear H a; intro a H
        replace hm := bindS hm; obtain ⟨x545, hx545, hm⟩ := hm
        obtain ⟨adx545, hAx545⟩ := SlR.adV (hrp0_6.ext (Flat.mono _) hS.x) hv542 hx545
        refine qq_q H (q_ixV (i := i540) Tryz.underlying37 sz60 rfl hv542 hAx545 rfl (natI hx545)) rfl ?_; clear H a; intro a H
        refine qq_q H (q_load rfl (SlR.ldAggV (hrp0_6.ext (Flat.mono _) hS.x) hv542 hAx545 ag60 sz60 hx545)) rfl ?_; clear H a; intro a H
        refine qq_q H (q_fieldAddr0 rfl fo39_9) rfl ?_; clear H a; intro a H
        refine qq_q H (q_load rfl ((hS.blk 1 rfl).ld ag37 rfl)) rfl ?_; clear H a; intro a H
        refine qq_q H (q_move rfl) rfl ?_; clear H a; intro a H
        obtain ⟨A546, c546, hv546, hl546, hm546⟩ := SlR.formV (hrp1_6.ext (Flat.mono _) hS.x)
        replace hm := bindS hm; obtain ⟨x547, hx547, hm⟩ := hm
        obtain ⟨adx547, hAx547⟩ := SlR.adV (hrp1_6.ext (Flat.mono _) hS.x) hv546 hx547
        refine qq_q H (q_ixV (i := i540) Tryz.underlying37 sz60 rfl hv546 hAx547 rfl (natI hx547)) rfl ?_; clear H a; intro a H
        refine qq_q H (q_load rfl (SlR.ldAggV (hrp1_6.ext (Flat.mono _) hS.x) hv546 hAx547 ag60 sz60 hx547)) rfl ?_; clear H a; intro a H
        refine qq_q H (q_neqG (structB_guard st60) (eqInGPage x545 x547) (by omega) rfl rfl) rfl ?_; clear H a; intro a H
        refine qq_nil ?_; intro w548 hE549
        replace hS := hS.ext hE549
        refine then_normal (c_cond H rfl (fun hc550 => ?_) (fun hc550 => ?_))
        · replace hm := condT hm hc550
          refine wp_seq (wp_region_lit (n_q H (q_assign rfl) rfl ?_)); clear H a; intro a H
          refine n_nil (then_normal (wp_ret (block_ret (then_ret (then_ret (block_ret (then_ret ?_)))))))
          obtain rfl := Option.some.inj hm; have hz : _ = q539 := hn539; subst hz; replace hm := hm539; try dsimp only at hm
          obtain rfl := Option.some.inj hm
          replace hS := hS.tk0
          refine ret1 H (.inr rfl) rfl rfl ?_
          exact ⟨rfl, hS.x⟩
        · replace hm := condF hm hc550
          refine wp_skip (block_normal (then_normal (wp_region_lit (n_q H (q_move rfl) rfl (W_q (q_incr (i := i540) (j := 1) rfl rfl (by omega)) rfl (W_q (q_assign rfl) rfl ?_)))))); clear H a; intro a H
          refine n_nil (then_normal ?_)
          obtain rfl := Option.some.inj hm
          exact round (m539, i540 + 1) H ⟨rfl, rfl, rfl, trivial⟩ ⟨hn539, hS⟩ (Nat.lt_succ_self _)
      · replace hm := condF hm hc543
        refine wp_exit (then_exit (then_exit (block_exit ?_)))
        obtain rfl := Option.some.inj hm; have hz : _ = q539 := hn539; subst hz; replace hm := hm539; try dsimp only at hm
        refine then_normal (wp_seq (wp_region_lit (n_q H (q_assign rfl) rfl ?_))); clear H a; intro a H
        refine n_nil (then_normal (wp_ret ?_))
        obtain rfl := Option.some.inj hm
        replace hS := hS.tk0
        refine ret1 H (.inr rfl) rfl rfl ?_
        exact ⟨rfl, hS.x⟩
theorem g_r11_rule4_w {w : World} {A : Nat → Addr} {cs0 : List Value} {a0 : GState} (h0 : RGState w cs0 a0) {r : Bool} (hm : g_r11_rule4 a0 = some r) :
    Calls Tryz.prog 80 [.agg cs0.toArray].toArray w (Ret fun u w' => u = .bool r ∧ Ext w w') := by
  obtain ⟨vp0_0, vp0_1, vp0_2, vp0_3, vp0_4, vp0_5, vp0_6, rfl, hrp0_0, hrp0_1, hrp0_2, hrp0_3, hrp0_4, hrp0_5, hrp0_6⟩ := h0
  have hS := St.begin NB w
  unfold g_r11_rule4 at hm
  refine enter Tryz.func80 rfl rfl rfl ?_; intro a H; dsimp only [enumL, Nat.zero_add, Nat.reduceAdd] at H
  refine wp_seq (wp_region_lit (n_box H rfl (cs := [.int .i64 a0.Id, .int .i64 a0.Frame, .int .i64 a0.Epoch, vp0_0, vp0_1, vp0_2, vp0_3, vp0_4, vp0_5, vp0_6]) rfl rfl ?_))
  clear H; intro b21 w22 hN hE23 hs; clear a; intro a H
  replace hS := hS.newBlk hN hE23 hs; clear hN hs
  refine n_q H (q_assign rfl) rfl ?_; clear H a; intro a H
  refine n_nil (then_normal (wp_seq (wp_seq (wp_region_lit (n_q H (q_assign rfl) rfl ?_))))); clear H a; intro a H
  refine n_nil (then_normal (wp_block ?_))
  replace hm := bindS hm; obtain ⟨q24, hm, hm24⟩ := hm; replace hm := iter_some hm; obtain ⟨n24, hm⟩ := hm
  refine c_loop (σ := Nat × Nat) (fun (m, i25) => [(1, .pointer (some ⟨b21, 0, none⟩)), (3, .int .i64 ((i25 : Nat) : Int))]) (fun (m, i25) wl => iterN (g_r11_rule4_L1 a0) m i25 = some q24 ∧ St NB w wl [blkR b21 [.int .i64 a0.Id, .int .i64 a0.Frame, .int .i64 a0.Epoch, vp0_0, vp0_1, vp0_2, vp0_3, vp0_4, vp0_5, vp0_6] 39]) (fun (m, i25) => m) (n24, 0) H ⟨rfl, rfl, trivial⟩ ⟨hm, hS⟩ ?_
  clear H hS hm a; intro xx a w26 H hR; obtain ⟨m, i25⟩ := xx; simp only [ent, List.map_cons, List.map_nil] at H; (try dsimp only at hR); obtain ⟨hm, hS⟩ := hR
  replace hm := iterN_step hm; obtain ⟨m24, o24, rfl, hm, hn24⟩ := hm; try dsimp only [g_r11_rule4_L1] at hm
  refine wp_seq (wp_seq (wp_region_lit (n_q H (q_move rfl) rfl (W_q (q_fieldAddr0 rfl fo39_3) rfl (W_q (q_load rfl ((hS.blk 0 rfl).ld ag33 rfl)) rfl ?_))))); clear H a; intro a H
  obtain ⟨A27, c27, hv27, hl27, hm27⟩ := SlR.formV (hrp0_0.ext (Flat.mono _) hS.x)
  refine n_q H (q_lenV Tryz.underlying33 rfl hv27) rfl (W_q (q_lssN (i := i25) (j := a0.Procs.length) rfl rfl) rfl ?_); clear H a; intro a H
  refine n_nil (then_normal (c_cond H rfl (fun hc28 => ?_) (fun hc28 => ?_)))
  · replace hm := condT hm hc28
    have hlt29 : i25 < a0.Procs.length := of_decide_eq_true hc28
    refine wp_skip (then_normal (wp_seq (wp_block (wp_seq (wp_region_lit (n_q H (q_fieldAddr0 rfl fo39_3) rfl (W_q (q_load rfl ((hS.blk 0 rfl).ld ag33 rfl)) rfl (W_q (q_move rfl) rfl ?_)))))))); clear H a; intro a H
    replace hm := bindS hm; obtain ⟨x30, hx30, hm⟩ := hm
    obtain ⟨adx30, hAx30⟩ := SlR.adV (hrp0_0.ext (Flat.mono _) hS.x) hv27 hx30
    refine n_q H (q_ixV (i := i25) Tryz.underlying33 sz67 rfl hv27 hAx30 rfl (natI hx30)) rfl (W_q (q_load rfl (SlR.ldAggV (hrp0_0.ext (Flat.mono _) hS.x) hv27 hAx30 ag67 sz67 hx30)) rfl ?_); clear H a; intro a H
    refine n_alloc H ze67 rfl ?_
    clear H; intro b31 w32 hN hE33 hs; clear a; intro a H
    replace hS := hS.newBlk hN hE33 hs; clear hN hs
    refine n_storeAll H rfl rfl (vs := (x30.Regs.toList.map (Value.int .u32) ++ [.int .u32 x30.Pc, .int .i64 x30.State, .int .i64 x30.Prio, .int .i64 x30.Wait, .int .i64 x30.Obj])) rfl (sz67.trans (by simp)) (hS.blk 0 rfl) (by simp) (eGProc_one _) ?_
    clear H; intro w34 hN hC35 hz; clear a; intro a H; replace hS := hS.setBlk hN hC35; clear hN hz
    refine n_nil (then_normal (wp_seq (wp_region_lit (n_c H (fun HC => ?_))))); clear H
    refine nc_q HC (q_fieldAddr0 rfl fo67_0) rfl (by kernel_rfl) ?_; clear HC a; intro a HC
    replace hm := bindS hm; obtain ⟨x36, hx36, hm⟩ := hm
    obtain ⟨h0x36, h1x36, hxx36⟩ := rdV_some hx36
    refine nc_q HC (q_ixArrB Tryz.underlying65 sz29 rfl rfl h0x36 h1x36) rfl (by kernel_rfl) (V_q (q_load rfl ((hS.blk 0 rfl).ld ag29 (arr_at0 (f := (Value.int .u32)) hxx36))) rfl (by kernel_rfl) (V_q (q_neqD rfl rfl) rfl (by kernel_rfl) (V_q (q_move rfl) rfl (by kernel_rfl) (V_g (q_fieldAddr0 rfl fo67_2) (by kernel_rfl) (by kernel_rfl) (by kernel_rfl) (V_g (q_load rfl ((hS.blk 0 rfl).ld (v := Value.int .i64 x30.State) ag3 (by simp))) (by kernel_rfl) (by kernel_rfl) (by kernel_rfl) (V_g (q_lss rfl rfl) (by kernel_rfl) (by kernel_rfl) (by kernel_rfl) (V_or (j := 4) rfl rfl rfl (by kernel_rfl) (by kernel_rfl) (V_q (q_move rfl) rfl (by kernel_rfl) (V_g (q_fieldAddr0 rfl fo67_2) (by kernel_rfl) (by kernel_rfl) (by kernel_rfl) (V_g (q_load rfl ((hS.blk 0 rfl).ld (v := Value.int .i64 x30.State) ag3 (by simp))) (by kernel_rfl) (by kernel_rfl) (by kernel_rfl) (V_g (q_gtr rfl rfl) (by kernel_rfl) (by kernel_rfl) (by kernel_rfl) ?_))))))))))); clear HC a; intro a HC
    refine nc_or (j := 9) HC rfl rfl rfl (by kernel_rfl) (by kernel_rfl) (V_q (q_move rfl) rfl (by kernel_rfl) (V_g (q_fieldAddr0 rfl fo67_3) (by kernel_rfl) (by kernel_rfl) (by kernel_rfl) (V_g (q_load rfl ((hS.blk 0 rfl).ld (v := Value.int .i64 x30.Prio) ag3 (by simp))) (by kernel_rfl) (by kernel_rfl) (by kernel_rfl) (V_g (q_lss rfl rfl) (by kernel_rfl) (by kernel_rfl) (by kernel_rfl) (V_or (j := 14) rfl rfl rfl (by kernel_rfl) (by kernel_rfl) (V_q (q_move rfl) rfl (by kernel_rfl) (V_g (q_fieldAddr0 rfl fo67_3) (by kernel_rfl) (by kernel_rfl) (by kernel_rfl) (V_g (q_load rfl ((hS.blk 0 rfl).ld (v := Value.int .i64 x30.Prio) ag3 (by simp))) (by kernel_rfl) (by kernel_rfl) (by kernel_rfl) (V_g (q_gtr rfl rfl) (by kernel_rfl) (by kernel_rfl) (by kernel_rfl) (V_or (j := 19) rfl rfl rfl (by kernel_rfl) (by kernel_rfl) (V_q (q_move rfl) rfl (by kernel_rfl) ?_))))))))))); clear HC a; intro a HC
    refine nc_g HC (q_fieldAddr0 rfl fo67_4) (by kernel_rfl) (by kernel_rfl) (by kernel_rfl) (V_g (q_load rfl ((hS.blk 0 rfl).ld (v := Value.int .i64 x30.Wait) ag3 (by simp))) (by kernel_rfl) (by kernel_rfl) (by kernel_rfl) (V_g (q_lss rfl rfl) (by kernel_rfl) (by kernel_rfl) (by kernel_rfl) (V_or (j := 24) rfl rfl rfl (by kernel_rfl) (by kernel_rfl) (V_q (q_move rfl) rfl (by kernel_rfl) (V_g (q_fieldAddr0 rfl fo67_4) (by kernel_rfl) (by kernel_rfl) (by kernel_rfl) (V_g (q_load rfl ((hS.blk 0 rfl).ld (v := Value.int .i64 x30.Wait) ag3 (by simp))) (by kernel_rfl) (by kernel_rfl) (by kernel_rfl) (V_g (q_gtr rfl rfl) (by kernel_rfl) (by kernel_rfl) (by kernel_rfl) (V_or (j := 29) rfl rfl rfl (by kernel_rfl) (by kernel_rfl) ?_)))))))); clear HC a; intro a HC
    have H := HC.has; clear HC
    refine n_nil (then_normal (c_cond H rfl (fun hc37 => ?_) (fun hc37 => ?_)))
    · replace hm := condT hm hc37
      refine wp_seq (wp_region_lit (n_q H (q_assign rfl) rfl ?_)); clear H a; intro a H
      refine n_nil (then_normal (wp_ret (block_ret (then_ret (then_ret (block_ret (then_ret ?_)))))))
      obtain rfl := Option.some.inj hm; have hz : _ = q24 := hn24; subst hz; replace hm := hm24; try dsimp only at hm
      obtain rfl := Option.some.inj hm
      replace hS := hS.tk0
      refine ret1 H (.inr rfl) rfl rfl ?_
      exact ⟨rfl, hS.x⟩
    · replace hm := condF hm hc37
      refine wp_skip (block_normal (then_normal (wp_region_lit (n_q H (q_move rfl) rfl (W_q (q_incr (i := i25) (j := 1) rfl rfl (by omega)) rfl (W_q (q_assign rfl) rfl ?_)))))); clear H a; intro a H
      refine n_nil (then_normal ?_)
      obtain rfl := Option.some.inj hm
      replace hS := hS.pk1
      replace hS := hS.tk1
      exact round (m24, i25 + 1) H ⟨rfl, rfl, trivial⟩ ⟨hn24, hS⟩ (Nat.lt_succ_self _)
  · replace hm := condF hm hc28
    refine wp_exit (then_exit (then_exit (block_exit ?_)))
    obtain rfl := Option.some.inj hm; have hz : _ = q24 := hn24; subst hz; replace hm := hm24; try dsimp only at hm
    refine then_normal (wp_seq (wp_region_lit (n_q H (q_assign rfl) rfl ?_))); clear H a; intro a H
    refine n_nil (then_normal (wp_ret ?_))
    obtain rfl := Option.some.inj hm
    replace hS := hS.tk0
    refine ret1 H (.inr rfl) rfl rfl ?_
    exact ⟨rfl, hS.x⟩
theorem g_r11_rule5_w {w : World} {A : Nat → Addr} {cs0 : List Value} {a0 : GState} (h0 : RGState w cs0 a0) {r : Bool} (hm : g_r11_rule5 a0 = some r) :
    Calls Tryz.prog 81 [.agg cs0.toArray].toArray w (Ret fun u w' => u = .bool r ∧ Ext w w') := by
  obtain ⟨vp0_0, vp0_1, vp0_2, vp0_3, vp0_4, vp0_5, vp0_6, rfl, hrp0_0, hrp0_1, hrp0_2, hrp0_3, hrp0_4, hrp0_5, hrp0_6⟩ := h0
  have hS := St.begin NB w
  unfold g_r11_rule5 at hm
  refine enter Tryz.func81 rfl rfl rfl ?_; intro a H; dsimp only [enumL, Nat.zero_add, Nat.reduceAdd] at H
  refine wp_seq (wp_region_lit (n_box H rfl (cs := [.int .i64 a0.Id, .int .i64 a0.Frame, .int .i64 a0.Epoch, vp0_0, vp0_1, vp0_2, vp0_3, vp0_4, vp0_5, vp0_6]) rfl rfl ?_))
  clear H; intro b21 w22 hN hE23 hs; clear a; intro a H
  replace hS := hS.newBlk hN hE23 hs; clear hN hs
  refine n_q H (q_assign rfl) rfl ?_; clear H a; intro a H
  refine n_nil (then_normal (wp_seq (wp_seq (wp_region_lit (n_q H (q_assign rfl) rfl ?_))))); clear H a; intro a H
  refine n_nil (then_normal (wp_block ?_))
  replace hm := bindS hm; obtain ⟨q24, hm, hm24⟩ := hm; replace hm := iter_some hm; obtain ⟨n24, hm⟩ := hm
  refine c_loop (σ := Nat × Nat) (fun (m, i25) => [(1, .pointer (some ⟨b21, 0, none⟩)), (3, .int .i64 ((i25 : Nat) : Int))]) (fun (m, i25) wl => iterN (g_r11_rule5_L1 a0) m i25 = some q24 ∧ St NB w wl [blkR b21 [.int .i64 a0.Id, .int .i64 a0.Frame, .int .i64 a0.Epoch, vp0_0, vp0_1, vp0_2, vp0_3, vp0_4, vp0_5, vp0_6] 39]) (fun (m, i25) => m) (n24, 0) H ⟨rfl, rfl, trivial⟩ ⟨hm, hS⟩ ?_
  clear H hS hm a; intro xx a w26 H hR; obtain ⟨m, i25⟩ := xx; simp only [ent, List.map_cons, List.map_nil] at H; (try dsimp only at hR); obtain ⟨hm, hS⟩ := hR
  replace hm := iterN_step hm; obtain ⟨m24, o24, rfl, hm, hn24⟩ := hm; try dsimp only [g_r11_rule5_L1] at hm
  refine wp_seq (wp_seq (wp_region_lit (n_q H (q_move rfl) rfl (W_q (q_fieldAddr0 rfl fo39_3) rfl (W_q (q_load rfl ((hS.blk 0 rfl).ld ag33 rfl)) rfl ?_))))); clear H a; intro a H
  obtain ⟨A27, c27, hv27, hl27, hm27⟩ := SlR.formV (hrp0_0.ext (Flat.mono _) hS.x)
  refine n_q H (q_lenV Tryz.underlying33 rfl hv27) rfl (W_q (q_lssN (i := i25) (j := a0.Procs.length) rfl rfl) rfl ?_); clear H a; intro a H
  refine n_nil (then_normal (c_cond H rfl (fun hc28 => ?_) (fun hc28 => ?_)))
  · replace hm := condT hm hc28
    have hlt29 : i25 < a0.Procs.length := of_decide_eq_true hc28
    refine wp_skip (then_normal (wp_seq (wp_block (wp_seq (c_quiet (by kernel_rfl) (by kernel_rfl) ?_)))))
    refine qq_q H (q_fieldAddr0 rfl fo39_3) rfl ?_; clear H a; intro a H
    refine qq_q H (q_load rfl ((hS.blk 0 rfl).ld ag33 rfl)) rfl ?_; clear H a; intro a H
    refine qq_q H (q_move rfl) rfl ?_; clear H a; intro a H
    replace hm := bindS hm; obtain ⟨x30, hx30, hm⟩ := hm
    obtain ⟨adx30, hAx30⟩ := SlR.adV (hrp0_0.ext (Flat.mono _) hS.x) hv27 hx30
    refine qq_q H (q_ixV (i := i25) Tryz.underlying33 sz67 rfl hv27 hAx30 rfl (natI hx30)) rfl ?_; clear H a; intro a H
    refine qq_q H (q_fieldAddr rfl fo67_4) rfl ?_; clear H a; intro a H
    refine qq_q H (q_load rfl (SlR.ldCellV (j := 19) (u := Value.int .i64 x30.Wait) (hrp0_0.ext (Flat.mono _) hS.x) hv27 hAx30 ag3 hx30 (by simp [eGProc]))) rfl ?_; clear H a; intro a H
    refine qq_q H (q_neqD rfl rfl) rfl ?_; clear H a; intro a H
    refine qq_q H (q_fieldAddr0 rfl fo39_3) rfl ?_; clear H a; intro a H
    refine qq_q H (q_load rfl ((hS.blk 0 rfl).ld ag33 rfl)) rfl ?_; clear H a; intro a H
    refine qq_q H (q_move rfl) rfl ?_; clear H a; intro a H
    replace hm := bindS hm; obtain ⟨x31, hx31, hm⟩ := hm
    obtain ⟨adx31, hAx31⟩ := SlR.adV (hrp0_0.ext (Flat.mono _) hS.x) hv27 hx31
    refine qq_q H (q_ixV (i := i25) Tryz.underlying33 sz67 rfl hv27 hAx31 rfl (natI hx31)) rfl ?_; clear H a; intro a H
    refine qq_q H (q_fieldAddr rfl fo67_2) rfl ?_; clear H a; intro a H
    refine qq_q H (q_load rfl (SlR.ldCellV (j := 17) (u := Value.int .i64 x31.State) (hrp0_0.ext (Flat.mono _) hS.x) hv27 hAx31 ag3 hx31 (by simp [eGProc]))) rfl ?_; clear H a; intro a H
    refine qq_q H (q_eqlD rfl rfl) rfl ?_; clear H a; intro a H
    refine qq_q H (q_neqB Tryz.underlying4 rfl rfl) rfl ?_; clear H a; intro a H
    refine qq_nil ?_; intro w32 hE33
    replace hS := hS.ext hE33
    refine then_normal (c_cond H rfl (fun hc34 => ?_) (fun hc34 => ?_))
    · replace hm := condT hm hc34
      refine wp_seq (wp_region_lit (n_q H (q_assign rfl) rfl ?_)); clear H a; intro a H
      refine n_nil (then_normal (wp_ret (block_ret (then_ret (then_ret (block_ret (then_ret ?_)))))))
      obtain rfl := Option.some.inj hm; have hz : _ = q24 := hn24; subst hz; replace hm := hm24; try dsimp only at hm
      obtain rfl := Option.some.inj hm
      replace hS := hS.tk0
      refine ret1 H (.inr rfl) rfl rfl ?_
      exact ⟨rfl, hS.x⟩
    · replace hm := condF hm hc34
      refine wp_skip (block_normal (then_normal (wp_region_lit (n_q H (q_move rfl) rfl (W_q (q_incr (i := i25) (j := 1) rfl rfl (by omega)) rfl (W_q (q_assign rfl) rfl ?_)))))); clear H a; intro a H
      refine n_nil (then_normal ?_)
      obtain rfl := Option.some.inj hm
      exact round (m24, i25 + 1) H ⟨rfl, rfl, trivial⟩ ⟨hn24, hS⟩ (Nat.lt_succ_self _)
  · replace hm := condF hm hc28
    refine wp_exit (then_exit (then_exit (block_exit ?_)))
    obtain rfl := Option.some.inj hm; have hz : _ = q24 := hn24; subst hz; replace hm := hm24; try dsimp only at hm
    refine then_normal (wp_seq (wp_region_lit (n_q H (q_assign rfl) rfl ?_))); clear H a; intro a H
    refine n_nil (then_normal (wp_ret ?_))
    obtain rfl := Option.some.inj hm
    replace hS := hS.tk0
    refine ret1 H (.inr rfl) rfl rfl ?_
    exact ⟨rfl, hS.x⟩
theorem g_r11_queuing_w {w : World} {A : Nat → Addr} {cs0 : List Value} {a0 : GPlan} {a1 : Int} (h0 : RGPlan w cs0 a0) {r : Bool} (hm : g_r11_queuing a0 a1 = some r) :
    Calls Tryz.prog 98 [.agg cs0.toArray, .int .i64 a1].toArray w (Ret fun u w' => u = .bool r ∧ Ext w w') := by
  obtain ⟨vp0_0, vp0_1, vp0_2, vp0_3, rfl, hrp0_0, hrp0_1, hrp0_2, hrp0_3⟩ := h0
  have hS := St.begin NB w
  unfold g_r11_queuing at hm
  refine enter Tryz.func98 rfl rfl rfl ?_; intro a H; dsimp only [enumL, Nat.zero_add, Nat.reduceAdd] at H
  refine wp_seq (wp_region_lit (n_box H rfl (cs := [.int .i64 a0.Id, .bool a0.Mobile, vp0_0, vp0_1, vp0_2, .int .i64 a0.Events, vp0_3]) rfl rfl ?_))
  clear H; intro b21 w22 hN hE23 hs; clear a; intro a H
  replace hS := hS.newBlk hN hE23 hs; clear hN hs
  refine n_q H (q_assign rfl) rfl ?_; clear H a; intro a H
  refine n_nil (then_normal (wp_seq (wp_region_lit (n_q H (q_move rfl) rfl (W_q (q_geq rfl rfl) rfl (W_q (q_move rfl) rfl ?_)))))); clear H a; intro a H
  rcases Bool.eq_false_or_eq_true (decide (0 ≤ a1)) with hg24 | hg24
  · replace H := H.know 7 rfl hg24
    replace hm := condT hm hg24
    refine n_yes H rfl rfl (n_q H (q_move rfl) rfl (W_yes rfl rfl (W_q (q_fieldAddr0 rfl fo27_4) rfl (W_yes rfl rfl (W_q (q_load rfl ((hS.blk 0 rfl).ld ag24 rfl)) rfl (W_yes rfl rfl ?_)))))); clear H a; intro a H
    obtain ⟨A25, c25, hv25, hl25, hm25⟩ := SlR.formV (hrp0_2.ext (Flat.mono _) hS.x)
    refine n_q H (q_lenV Tryz.underlying24 rfl hv25) rfl (W_yes rfl rfl (W_q (q_lss rfl rfl) rfl (W_q (q_pickT rfl rfl) rfl (W_q (q_move rfl) rfl ?_)))); clear H a; intro a H
    rcases Bool.eq_false_or_eq_true (decide (a1 < ((a0.Ports.length : Nat) : Int))) with hg26 | hg26
    · replace H := H.know 14 rfl hg26
      replace hm := condT hm hg26
      refine n_yes H rfl rfl (n_q H (q_fieldAddr0 rfl fo27_4) rfl (W_yes rfl rfl (W_q (q_load rfl ((hS.blk 0 rfl).ld ag24 rfl)) rfl (W_yes rfl rfl (W_q (q_move rfl) rfl (W_yes rfl rfl ?_)))))); clear H a; intro a H
      replace hm := bindS hm; obtain ⟨x27, hx27, hm⟩ := hm
      obtain ⟨h0x27, h1x27, hxx27⟩ := rdI_some hx27
      obtain ⟨adx27, hAx27⟩ := SlR.adV (hrp0_2.ext (Flat.mono _) hS.x) hv25 hxx27
      refine n_q H (q_ixVI Tryz.underlying24 sz78 rfl hv25 hAx27 rfl h0x27 h1x27) rfl (W_yes rfl rfl (W_q (q_fieldAddr rfl fo78_0) rfl (W_yes rfl rfl (W_q (q_load rfl (SlR.ldCellV (j := 0) (hrp0_2.ext (Flat.mono _) hS.x) hv25 hAx27 ag3 hxx27 rfl)) rfl (W_yes rfl rfl (W_q (q_eqlD rfl rfl) rfl (W_yes rfl rfl (W_q (q_move rfl) rfl ?_)))))))); clear H a; intro a H
      rcases Bool.eq_false_or_eq_true (decide (x27.Kind = 3)) with hg28 | hg28
      · replace H := H.know 22 rfl hg28
        replace hm := condT hm hg28
        refine n_no H rfl rfl (by decide) rfl (W_no rfl rfl (by decide) rfl (W_no rfl rfl (by decide) rfl (W_no rfl rfl (by decide) rfl (W_no rfl rfl (by decide) rfl (W_no rfl rfl (by decide) rfl (W_no rfl rfl (by decide) rfl (W_yes rfl rfl (W_q (q_pickT rfl rfl) rfl (W_q (q_pickT rfl rfl) rfl (W_q (q_assign rfl) rfl ?_)))))))))); clear H a; intro a H
        refine n_nil (then_normal (wp_ret ?_))
        obtain rfl := Option.some.inj hm
        replace hS := hS.tk0
        refine ret1 H (.inr rfl) rfl rfl ?_
        exact ⟨rfl, hS.x⟩
      · replace H := H.know 22 rfl hg28
        replace hm := condF hm hg28
        refine n_yes H rfl rfl (n_q H (q_fieldAddr0 rfl fo27_4) rfl (W_yes rfl rfl (W_q (q_load rfl ((hS.blk 0 rfl).ld ag24 rfl)) rfl (W_yes rfl rfl (W_q (q_move rfl) rfl (W_yes rfl rfl ?_)))))); clear H a; intro a H
        replace hm := bindS hm; obtain ⟨x29, hx29, hm⟩ := hm
        obtain ⟨h0x29, h1x29, hxx29⟩ := rdI_some hx29
        obtain ⟨adx29, hAx29⟩ := SlR.adV (hrp0_2.ext (Flat.mono _) hS.x) hv25 hxx29
        refine n_q H (q_ixVI Tryz.underlying24 sz78 rfl hv25 hAx29 rfl h0x29 h1x29) rfl (W_yes rfl rfl (W_q (q_fieldAddr rfl fo78_0) rfl (W_yes rfl rfl (W_q (q_load rfl (SlR.ldCellV (j := 0) (hrp0_2.ext (Flat.mono _) hS.x) hv25 hAx29 ag3 hxx29 rfl)) rfl (W_yes rfl rfl (W_q (q_eqlD rfl rfl) rfl (W_yes rfl rfl (W_q (q_pickF rfl rfl) rfl (W_q (q_pickT rfl rfl) rfl (W_q (q_assign rfl) rfl ?_)))))))))); clear H a; intro a H
        refine n_nil (then_normal (wp_ret ?_))
        obtain rfl := Option.some.inj hm
        replace hS := hS.tk0
        refine ret1 H (.inr rfl) rfl rfl ?_
        exact ⟨rfl, hS.x⟩
    · replace H := H.know 14 rfl hg26
      replace hm := condF hm hg26
      refine n_no H rfl rfl (by decide) rfl (W_no rfl rfl (by decide) rfl (W_no rfl rfl (by decide) rfl (W_no rfl rfl (by decide) rfl (W_no rfl rfl (by decide) rfl (W_no rfl rfl (by decide) rfl (W_no rfl rfl (by decide) rfl (W_no rfl rfl (by decide) rfl (W_noU rfl rfl rfl (W_noU rfl rfl rfl (W_noU rfl rfl rfl (W_noU rfl rfl rfl ?_))))))))))); clear H a; intro a H
      refine n_noU H rfl rfl rfl (W_noU rfl rfl rfl (W_noU rfl rfl rfl (W_no rfl rfl (by decide) rfl (W_q (q_pickF rfl rfl) rfl (W_q (q_assign rfl) rfl ?_))))); clear H a; intro a H
      refine n_nil (then_normal (wp_ret ?_))
      obtain rfl := Option.some.inj hm
      replace hS := hS.tk0
      refine ret1 H (.inr rfl) rfl rfl ?_
      exact ⟨rfl, hS.x⟩
  · replace H := H.know 7 rfl hg24
    replace hm := condF hm hg24
    refine n_no H rfl rfl (by decide) rfl (W_no rfl rfl (by decide) rfl (W_no rfl rfl (by decide) rfl (W_no rfl rfl (by decide) rfl (W_no rfl rfl (by decide) rfl (W_q (q_pickF rfl rfl) rfl (W_q (q_move rfl) rfl (W_no rfl rfl (by decide) rfl (W_no rfl rfl (by decide) rfl (W_no rfl rfl (by decide) rfl (W_no rfl rfl (by decide) rfl (W_no rfl rfl (by decide) rfl ?_))))))))))); clear H a; intro a H
    refine n_no H rfl rfl (by decide) rfl (W_no rfl rfl (by decide) rfl (W_no rfl rfl (by decide) rfl (W_noU rfl rfl rfl (W_noU rfl rfl rfl (W_noU rfl rfl rfl (W_noU rfl rfl rfl (W_noU rfl rfl rfl (W_noU rfl rfl rfl (W_noU rfl rfl rfl (W_no rfl rfl (by decide) rfl (W_q (q_pickF rfl rfl) rfl ?_))))))))))); clear H a; intro a H
    refine n_q H (q_assign rfl) rfl ?_; clear H a; intro a H
    refine n_nil (then_normal (wp_ret ?_))
    obtain rfl := Option.some.inj hm
    replace hS := hS.tk0
    refine ret1 H (.inr rfl) rfl rfl ?_
    exact ⟨rfl, hS.x⟩
theorem g_r11_object_w {w : World} {A : Nat → Addr} {cs0 : List Value} {a0 : GPlan} {a1 : GProc} (h0 : RGPlan w cs0 a0) {r : Bool} (hm : g_r11_object a0 a1 = some r) :
    Calls Tryz.prog 89 [.agg cs0.toArray, .agg (eGProc a1).toArray].toArray w (Ret fun u w' => u = .bool r ∧ Ext w w') := by
  obtain ⟨vp0_0, vp0_1, vp0_2, vp0_3, rfl, hrp0_0, hrp0_1, hrp0_2, hrp0_3⟩ := h0
  have hS := St.begin NB w
  unfold g_r11_object at hm
  refine enter Tryz.func89 rfl rfl rfl ?_; intro a H; dsimp only [enumL, Nat.zero_add, Nat.reduceAdd] at H
  refine wp_seq (wp_region_lit (n_box H rfl (cs := [.int .i64 a0.Id, .bool a0.Mobile, vp0_0, vp0_1, vp0_2, .int .i64 a0.Events, vp0_3]) rfl rfl ?_))
  clear H; intro b21 w22 hN hE23 hs; clear a; intro a H
  replace hS := hS.newBlk hN hE23 hs; clear hN hs
  refine n_box H rfl (cs := (a1.Regs.toList.map (Value.int .u32) ++ [.int .u32 a1.Pc, .int .i64 a1.State, .int .i64 a1.Prio, .int .i64 a1.Wait, .int .i64 a1.Obj])) rfl rfl ?_
  clear H; intro b24 w25 hN hE26 hs; clear a; intro a H
  replace hS := hS.newBlk hN hE26 hs; clear hN hs
  refine n_q H (q_assign rfl) rfl ?_; clear H a; intro a H
  refine n_nil (then_normal (wp_seq (wp_seq (wp_region_lit (n_q H (q_fieldAddr0 rfl fo67_4) rfl (W_q (q_load rfl ((hS.blk 0 rfl).ld (v := Value.int .i64 a1.Wait) ag3 (by simp))) rfl ?_)))))); clear H a; intro a H
  refine n_nil (then_normal (wp_block (wp_seq (wp_region_lit (n_q H (q_eqlD rfl rfl) rfl (W_q (q_assign rfl) rfl ?_)))))); clear H a; intro a H
  refine n_nil (then_normal (c_cond H rfl (fun hc27 => ?_) (fun hc27 => ?_)))
  · replace hm := condT hm hc27
    refine wp_seq (wp_region_lit (n_c H (fun HC => ?_))); clear H
    refine nc_q HC (q_fieldAddr0 rfl fo67_5) rfl (by kernel_rfl) (V_q (q_load rfl ((hS.blk 0 rfl).ld (v := Value.int .i64 a1.Obj) ag3 (by simp))) rfl (by kernel_rfl) (V_q (q_geq rfl rfl) rfl (by kernel_rfl) (V_q (q_move rfl) rfl (by kernel_rfl) (V_g (q_fieldAddr0 rfl fo67_5) (by kernel_rfl) (by kernel_rfl) (by kernel_rfl) (V_g (q_load rfl ((hS.blk 0 rfl).ld (v := Value.int .i64 a1.Obj) ag3 (by simp))) (by kernel_rfl) (by kernel_rfl) (by kernel_rfl) (V_g (q_fieldAddr0 rfl fo27_5) (by kernel_rfl) (by kernel_rfl) (by kernel_rfl) (V_g (q_load rfl ((hS.blk 1 rfl).ld ag3 rfl)) (by kernel_rfl) (by kernel_rfl) (by kernel_rfl) (V_g (q_lss rfl rfl) (by kernel_rfl) (by kernel_rfl) (by kernel_rfl) (V_and (j := 3) rfl rfl rfl (by kernel_rfl) (by kernel_rfl) (V_q (q_assign rfl) rfl (by kernel_rfl) ?_)))))))))); clear HC a; intro a HC
    have H := HC.has; clear HC
    refine n_nil (then_normal (wp_ret (block_ret (then_ret ?_))))
    obtain rfl := Option.some.inj hm
    replace hS := hS.tk0
    refine ret1 H (.inr rfl) rfl rfl ?_
    exact ⟨rfl, hS.x⟩
  · replace hm := condF hm hc27
    refine wp_seq (wp_region_lit (n_q H (q_eqlD rfl rfl) rfl (W_q (q_assign rfl) rfl ?_))); clear H a; intro a H
    refine n_nil (then_normal (c_cond H rfl (fun hc28 => ?_) (fun hc28 => ?_)))
    · replace hm := condT hm hc28
      refine wp_seq (wp_region_lit (n_c H (fun HC => ?_))); clear H
      refine nc_q HC (q_fieldAddr0 rfl fo67_5) rfl (by kernel_rfl) (V_q (q_load rfl ((hS.blk 0 rfl).ld (v := Value.int .i64 a1.Obj) ag3 (by simp))) rfl (by kernel_rfl) (V_q (q_geq rfl rfl) rfl (by kernel_rfl) (V_q (q_move rfl) rfl (by kernel_rfl) (V_g (q_fieldAddr0 rfl fo67_5) (by kernel_rfl) (by kernel_rfl) (by kernel_rfl) (V_g (q_load rfl ((hS.blk 0 rfl).ld (v := Value.int .i64 a1.Obj) ag3 (by simp))) (by kernel_rfl) (by kernel_rfl) (by kernel_rfl) (V_g (q_fieldAddr0 rfl fo27_6) (by kernel_rfl) (by kernel_rfl) (by kernel_rfl) (V_g (q_load rfl ((hS.blk 1 rfl).ld ag25 rfl)) (by kernel_rfl) (by kernel_rfl) (by kernel_rfl) ?_))))))); clear HC a; intro a HC
      obtain ⟨A29, c29, hv29, hl29, hm29⟩ := SlR.formV (hrp0_3.ext (Flat.mono _) hS.x)
      refine nc_g HC (q_lenV Tryz.underlying25 rfl hv29) (by kernel_rfl) (by kernel_rfl) (by kernel_rfl) (V_g (q_lss rfl rfl) (by kernel_rfl) (by kernel_rfl) (by kernel_rfl) (V_and (j := 3) rfl rfl rfl (by kernel_rfl) (by kernel_rfl) (V_q (q_assign rfl) rfl (by kernel_rfl) ?_))); clear HC a; intro a HC
      have H := HC.has; clear HC
      refine n_nil (then_normal (wp_ret (block_ret (then_ret ?_))))
      obtain rfl := Option.some.inj hm
      replace hS := hS.tk0
      refine ret1 H (.inr rfl) rfl rfl ?_
      exact ⟨rfl, hS.x⟩
    · replace hm := condF hm hc28
      refine wp_seq (wp_region_lit (n_q H (q_eqlD rfl rfl) rfl (W_q (q_assign rfl) rfl ?_))); clear H a; intro a H
      refine n_nil (then_normal (c_cond H rfl (fun hc30 => ?_) (fun hc30 => ?_)))
      · replace hm := condT hm hc30
        refine wp_seq (wp_region_lit (n_q H (q_load rfl ((hS.blk 1 rfl).ldAll ag27 sz27)) rfl (W_q (q_fieldAddr0 rfl fo67_5) rfl (W_q (q_load rfl ((hS.blk 0 rfl).ld (v := Value.int .i64 a1.Obj) ag3 (by simp))) rfl ?_)))); clear H a; intro a H
        replace hm := bindS hm; obtain ⟨r31, hr31, hm⟩ := hm
        refine n_call H rfl en98 (g_r11_queuing_w (A := A) (⟨_, _, _, _, rfl, (hrp0_0.ext (Flat.mono _) hS.x), (hrp0_1.ext (Flat.mono _) hS.x), (hrp0_2.ext (Flat.mono _) hS.x), (hrp0_3.ext (Flat.mono _) hS.x)⟩ : RGPlan _ [.int .i64 a0.Id, .bool a0.Mobile, vp0_0, vp0_1, vp0_2, .int .i64 a0.Events, vp0_3] a0) hr31) rfl ?_
        clear H; intro x34 w32 hv; clear a; intro a H; obtain ⟨rfl, hE33⟩ := hv
        replace hS := hS.ext hE33
        refine n_q H (q_assign rfl) rfl ?_; clear H a; intro a H
        refine n_nil (then_normal (wp_ret (block_ret (then_ret ?_))))
        obtain rfl := Option.some.inj hm
        replace hS := hS.tk0
        refine ret1 H (.inr rfl) rfl rfl ?_
        exact ⟨rfl, hS.x⟩
      · replace hm := condF hm hc30
        refine wp_skip (block_normal (then_normal (wp_seq (wp_region_lit (n_q H (q_fieldAddr0 rfl fo67_5) rfl (W_q (q_load rfl ((hS.blk 0 rfl).ld (v := Value.int .i64 a1.Obj) ag3 (by simp))) rfl (W_q (q_eqlD rfl rfl) rfl (W_q (q_assign rfl) rfl ?_)))))))); clear H a; intro a H
        refine n_nil (then_normal (wp_ret ?_))
        obtain rfl := Option.some.inj hm
        replace hS := hS.tk0
        refine ret1 H (.inr rfl) rfl rfl ?_
        exact ⟨rfl, hS.x⟩
theorem g_r11_rule6_w {w : World} {A : Nat → Addr} {cs0 : List Value} {a0 : GPlan} {cs1 : List Value} {a1 : GState} (h0 : RGPlan w cs0 a0) (h1 : RGState w cs1 a1) {r : Bool} (hm : g_r11_rule6 a0 a1 = some r) :
    Calls Tryz.prog 82 [.agg cs0.toArray, .agg cs1.toArray].toArray w (Ret fun u w' => u = .bool r ∧ Ext w w') := by
  obtain ⟨vp0_0, vp0_1, vp0_2, vp0_3, rfl, hrp0_0, hrp0_1, hrp0_2, hrp0_3⟩ := h0
  obtain ⟨vp1_0, vp1_1, vp1_2, vp1_3, vp1_4, vp1_5, vp1_6, rfl, hrp1_0, hrp1_1, hrp1_2, hrp1_3, hrp1_4, hrp1_5, hrp1_6⟩ := h1
  have hS := St.begin NB w
  unfold g_r11_rule6 at hm
  refine enter Tryz.func82 rfl rfl rfl ?_; intro a H; dsimp only [enumL, Nat.zero_add, Nat.reduceAdd] at H
  refine wp_seq (wp_region_lit (n_box H rfl (cs := [.int .i64 a0.Id, .bool a0.Mobile, vp0_0, vp0_1, vp0_2, .int .i64 a0.Events, vp0_3]) rfl rfl ?_))
  clear H; intro b21 w22 hN hE23 hs; clear a; intro a H
  replace hS := hS.newBlk hN hE23 hs; clear hN hs
  refine n_box H rfl (cs := [.int .i64 a1.Id, .int .i64 a1.Frame, .int .i64 a1.Epoch, vp1_0, vp1_1, vp1_2, vp1_3, vp1_4, vp1_5, vp1_6]) rfl rfl ?_
  clear H; intro b24 w25 hN hE26 hs; clear a; intro a H
  replace hS := hS.newBlk hN hE26 hs; clear hN hs
  refine n_q H (q_assign rfl) rfl ?_; clear H a; intro a H
  refine n_nil (then_normal (wp_seq (wp_seq (wp_region_lit (n_q H (q_assign rfl) rfl ?_))))); clear H a; intro a H
  refine n_nil (then_normal (wp_block ?_))
  replace hS := hS.pk1
  replace hm := bindS hm; obtain ⟨q27, hm, hm27⟩ := hm; replace hm := iter_some hm; obtain ⟨n27, hm⟩ := hm
  refine c_loop (σ := Nat × Nat) (fun (m, i28) => [(2, .pointer (some ⟨b21, 0, none⟩)), (3, .pointer (some ⟨b24, 0, none⟩)), (5, .int .i64 ((i28 : Nat) : Int))]) (fun (m, i28) wl => iterN (g_r11_rule6_L1 a0 a1) m i28 = some q27 ∧ St NB w wl [blkR b21 [.int .i64 a0.Id, .bool a0.Mobile, vp0_0, vp0_1, vp0_2, .int .i64 a0.Events, vp0_3] 27, blkR b24 [.int .i64 a1.Id, .int .i64 a1.Frame, .int .i64 a1.Epoch, vp1_0, vp1_1, vp1_2, vp1_3, vp1_4, vp1_5, vp1_6] 39]) (fun (m, i28) => m) (n27, 0) H ⟨rfl, rfl, rfl, trivial⟩ ⟨hm, hS⟩ ?_
  clear H hS hm a; intro xx a w29 H hR; obtain ⟨m, i28⟩ := xx; simp only [ent, List.map_cons, List.map_nil] at H; (try dsimp only at hR); obtain ⟨hm, hS⟩ := hR
  replace hm := iterN_step hm; obtain ⟨m27, o27, rfl, hm, hn27⟩ := hm; try dsimp only [g_r11_rule6_L1] at hm
  refine wp_seq (wp_seq (wp_region_lit (n_q H (q_move rfl) rfl (W_q (q_fieldAddr0 rfl fo39_3) rfl (W_q (q_load rfl ((hS.blk 1 rfl).ld ag33 rfl)) rfl ?_))))); clear H a; intro a H
  obtain ⟨A30, c30, hv30, hl30, hm30⟩ := SlR.formV (hrp1_0.ext (Flat.mono _) hS.x)
  refine n_q H (q_lenV Tryz.underlying33 rfl hv30) rfl (W_q (q_lssN (i := i28) (j := a1.Procs.length) rfl rfl) rfl ?_); clear H a; intro a H
  refine n_nil (then_normal (c_cond H rfl (fun hc31 => ?_) (fun hc31 => ?_)))
  · replace hm := condT hm hc31
    have hlt32 : i28 < a1.Procs.length := of_decide_eq_true hc31
    refine wp_skip (then_normal (wp_seq (wp_block (wp_seq (c_quiet (by kernel_rfl) (by kernel_rfl) ?_)))))
    refine qq_q H (q_load rfl ((hS.blk 0 rfl).ldAll ag27 sz27)) rfl ?_; clear H a; intro a H
    refine qq_q H (q_fieldAddr0 rfl fo39_3) rfl ?_; clear H a; intro a H
    refine qq_q H (q_load rfl ((hS.blk 1 rfl).ld ag33 rfl)) rfl ?_; clear H a; intro a H
    refine qq_q H (q_move rfl) rfl ?_; clear H a; intro a H
    replace hm := bindS hm; obtain ⟨x33, hx33, hm⟩ := hm
    obtain ⟨adx33, hAx33⟩ := SlR.adV (hrp1_0.ext (Flat.mono _) hS.x) hv30 hx33
    refine qq_q H (q_ixV (i := i28) Tryz.underlying33 sz67 rfl hv30 hAx33 rfl (natI hx33)) rfl ?_; clear H a; intro a H
    refine qq_q H (q_load rfl (SlR.ldAggV (hrp1_0.ext (Flat.mono _) hS.x) hv30 hAx33 ag67 sz67 hx33)) rfl ?_; clear H a; intro a H
    replace hm := bindS hm; obtain ⟨r34, hr34, hm⟩ := hm
    refine qq_call H rfl en89 (fun w' hw => g_r11_object_w (A := A) (⟨_, _, _, _, rfl, ((hrp0_0.ext (Flat.mono _) hS.x).ext (Flat.mono _) hw), ((hrp0_1.ext (Flat.mono _) hS.x).ext (Flat.mono _) hw), ((hrp0_2.ext (Flat.mono _) hS.x).ext (Flat.mono _) hw), ((hrp0_3.ext (Flat.mono _) hS.x).ext (Flat.mono _) hw)⟩ : RGPlan _ [.int .i64 a0.Id, .bool a0.Mobile, vp0_0, vp0_1, vp0_2, .int .i64 a0.Events, vp0_3] a0) hr34) rfl ?_; clear H a; intro a H
    refine qq_q H (q_not rfl) rfl ?_; clear H a; intro a H
    refine qq_nil ?_; intro w35 hE36
    replace hS := hS.ext hE36
    refine then_normal (c_cond H rfl (fun hc37 => ?_) (fun hc37 => ?_))
    · replace hm := condT hm hc37
      refine wp_seq (wp_region_lit (n_q H (q_assign rfl) rfl ?_)); clear H a; intro a H
      refine n_nil (then_normal (wp_ret (block_ret (then_ret (then_ret (block_ret (then_ret ?_)))))))
      obtain rfl := Option.some.inj hm; have hz : _ = q27 := hn27; subst hz; replace hm := hm27; try dsimp only at hm
      obtain rfl := Option.some.inj hm
      replace hS := hS.tk0
      refine ret1 H (.inr rfl) rfl rfl ?_
      exact ⟨rfl, hS.x⟩
    · replace hm := condF hm hc37
      refine wp_skip (block_normal (then_normal (wp_region_lit (n_q H (q_move rfl) rfl (W_q (q_incr (i := i28) (j := 1) rfl rfl (by omega)) rfl (W_q (q_assign rfl) rfl ?_)))))); clear H a; intro a H
      refine n_nil (then_normal ?_)
      obtain rfl := Option.some.inj hm
      exact round (m27, i28 + 1) H ⟨rfl, rfl, rfl, trivial⟩ ⟨hn27, hS⟩ (Nat.lt_succ_self _)
  · replace hm := condF hm hc31
    refine wp_exit (then_exit (then_exit (block_exit ?_)))
    obtain rfl := Option.some.inj hm; have hz : _ = q27 := hn27; subst hz; replace hm := hm27; try dsimp only at hm
    refine then_normal (wp_seq (wp_region_lit (n_q H (q_assign rfl) rfl ?_))); clear H a; intro a H
    refine n_nil (then_normal (wp_ret ?_))
    obtain rfl := Option.some.inj hm
    replace hS := hS.tk0
    refine ret1 H (.inr rfl) rfl rfl ?_
    exact ⟨rfl, hS.x⟩
theorem g_r11_rule7_w {w : World} {A : Nat → Addr} {cs0 : List Value} {a0 : GState} (h0 : RGState w cs0 a0) {r : Bool} (hm : g_r11_rule7 a0 = some r) :
    Calls Tryz.prog 83 [.agg cs0.toArray].toArray w (Ret fun u w' => u = .bool r ∧ Ext w w') := by
  obtain ⟨vp0_0, vp0_1, vp0_2, vp0_3, vp0_4, vp0_5, vp0_6, rfl, hrp0_0, hrp0_1, hrp0_2, hrp0_3, hrp0_4, hrp0_5, hrp0_6⟩ := h0
  have hS := St.begin NB w
  unfold g_r11_rule7 at hm
  refine enter Tryz.func83 rfl rfl rfl ?_; intro a H; dsimp only [enumL, Nat.zero_add, Nat.reduceAdd] at H
  refine wp_seq (wp_region_lit (n_box H rfl (cs := [.int .i64 a0.Id, .int .i64 a0.Frame, .int .i64 a0.Epoch, vp0_0, vp0_1, vp0_2, vp0_3, vp0_4, vp0_5, vp0_6]) rfl rfl ?_))
  clear H; intro b21 w22 hN hE23 hs; clear a; intro a H
  replace hS := hS.newBlk hN hE23 hs; clear hN hs
  refine n_q H (q_assign rfl) rfl ?_; clear H a; intro a H
  refine n_nil (then_normal (wp_seq (wp_seq (wp_region_lit (n_q H (q_assign rfl) rfl ?_))))); clear H a; intro a H
  refine n_nil (then_normal (wp_block ?_))
  replace hm := bindS hm; obtain ⟨q24, hm, hm24⟩ := hm; replace hm := iter_some hm; obtain ⟨n24, hm⟩ := hm
  refine c_loop (σ := Nat × Nat) (fun (m, i25) => [(1, .pointer (some ⟨b21, 0, none⟩)), (3, .int .i64 ((i25 : Nat) : Int))]) (fun (m, i25) wl => iterN (g_r11_rule7_L24 a0) m i25 = some q24 ∧ St NB w wl [blkR b21 [.int .i64 a0.Id, .int .i64 a0.Frame, .int .i64 a0.Epoch, vp0_0, vp0_1, vp0_2, vp0_3, vp0_4, vp0_5, vp0_6] 39]) (fun (m, i25) => m) (n24, 0) H ⟨rfl, rfl, trivial⟩ ⟨hm, hS⟩ ?_
  clear H hS hm a; intro xx a w26 H hR; obtain ⟨m, i25⟩ := xx; simp only [ent, List.map_cons, List.map_nil] at H; (try dsimp only at hR); obtain ⟨hm, hS⟩ := hR
  replace hm := iterN_step hm; obtain ⟨m24, o24, rfl, hm, hn24⟩ := hm; try dsimp only [g_r11_rule7_L24] at hm
  refine wp_seq (wp_seq (wp_region_lit (n_q H (q_move rfl) rfl (W_q (q_fieldAddr0 rfl fo39_4) rfl (W_q (q_load rfl ((hS.blk 0 rfl).ld ag25 rfl)) rfl ?_))))); clear H a; intro a H
  obtain ⟨A27, c27, hv27, hl27, hm27⟩ := SlR.formV (hrp0_1.ext (Flat.mono _) hS.x)
  refine n_q H (q_lenV Tryz.underlying25 rfl hv27) rfl (W_q (q_lssN (i := i25) (j := a0.Ready.length) rfl rfl) rfl ?_); clear H a; intro a H
  refine n_nil (then_normal (c_cond H rfl (fun hc28 => ?_) (fun hc28 => ?_)))
  · replace hm := condT hm hc28
    have hlt29 : i25 < a0.Ready.length := of_decide_eq_true hc28
    refine wp_skip (then_normal (wp_seq (wp_block (wp_seq (wp_region_lit (n_q H (q_fieldAddr0 rfl fo39_4) rfl (W_q (q_load rfl ((hS.blk 0 rfl).ld ag25 rfl)) rfl (W_q (q_move rfl) rfl ?_)))))))); clear H a; intro a H
    replace hm := bindS hm; obtain ⟨x30, hx30, hm⟩ := hm
    obtain ⟨adx30, hAx30⟩ := SlR.adV (hrp0_1.ext (Flat.mono _) hS.x) hv27 hx30
    refine n_q H (q_ixV (i := i25) Tryz.underlying25 sz3 rfl hv27 hAx30 rfl (natI hx30)) rfl (W_q (q_load rfl (SlR.ldOneV (hrp0_1.ext (Flat.mono _) hS.x) hv27 hAx30 ag3 hx30 rfl)) rfl (W_q (q_assign rfl) rfl ?_)); clear H a; intro a H
    refine n_nil (then_normal (wp_seq ?_))
    replace hm := bindS hm; obtain ⟨j31, hm, hm31⟩ := hm
    refine c_join (σ := Bool) H (fun q532 => [(1, .pointer (some ⟨b21, 0, none⟩)), (3, .int .i64 ((i25 : Nat) : Int)), (4, .int .i64 x30), (37, .bool q532)]) (fun q532 wl => (g_r11_rule7_J18 a0 i25 x30) q532 = some o24 ∧ St NB w wl [blkR b21 [.int .i64 a0.Id, .int .i64 a0.Frame, .int .i64 a0.Epoch, vp0_0, vp0_1, vp0_2, vp0_3, vp0_4, vp0_5, vp0_6] 39]) ?_ ?_
    · skip
      refine wp_region_lit (n_q H (q_move rfl) rfl (W_q (q_lss rfl rfl) rfl (W_q (q_move rfl) rfl ?_))); clear H a; intro a H
      rcases Bool.eq_false_or_eq_true (decide (x30 < 0)) with hg533 | hg533
      · replace H := H.know 22 rfl hg533
        replace hm := condT hm hg533
        refine n_no H rfl rfl (by decide) rfl (W_no rfl rfl (by decide) rfl (W_no rfl rfl (by decide) rfl (W_no rfl rfl (by decide) rfl (W_no rfl rfl (by decide) rfl (W_q (q_pickT rfl rfl) rfl (W_q (q_move rfl) rfl (W_no rfl rfl (by decide) rfl (W_no rfl rfl (by decide) rfl (W_no rfl rfl (by decide) rfl (W_no rfl rfl (by decide) rfl (W_no rfl rfl (by decide) rfl ?_))))))))))); clear H a; intro a H
        refine n_no H rfl rfl (by decide) rfl (W_no rfl rfl (by decide) rfl (W_q (q_pickT rfl rfl) rfl ?_)); clear H a; intro a H
        refine n_nil (then_normal ?_)
        obtain rfl := Option.some.inj hm; replace hm := hm31; try dsimp only at hm
        exact join true H ⟨rfl, rfl, rfl, rfl, trivial⟩ ⟨hm, hS⟩
      · replace H := H.know 22 rfl hg533
        replace hm := condF hm hg533
        refine n_yes H rfl rfl (n_q H (q_move rfl) rfl (W_yes rfl rfl (W_q (q_fieldAddr0 rfl fo39_3) rfl (W_yes rfl rfl (W_q (q_load rfl ((hS.blk 0 rfl).ld ag33 rfl)) rfl (W_yes rfl rfl ?_)))))); clear H a; intro a H
        obtain ⟨A534, c534, hv534, hl534, hm534⟩ := SlR.formV (hrp0_0.ext (Flat.mono _) hS.x)
        refine n_q H (q_lenV Tryz.underlying33 rfl hv534) rfl (W_yes rfl rfl (W_q (q_geq rfl rfl) rfl (W_q (q_pickF rfl rfl) rfl (W_q (q_move rfl) rfl ?_)))); clear H a; intro a H
        rcases Bool.eq_false_or_eq_true (decide (((a0.Procs.length : Nat) : Int) ≤ x30)) with hg535 | hg535
        · replace H := H.know 29 rfl hg535
          replace hm := condT hm hg535
          refine n_no H rfl rfl (by decide) rfl (W_no rfl rfl (by decide) rfl (W_no rfl rfl (by decide) rfl (W_no rfl rfl (by decide) rfl (W_no rfl rfl (by decide) rfl (W_no rfl rfl (by decide) rfl (W_no rfl rfl (by decide) rfl (W_q (q_pickT rfl rfl) rfl ?_))))))); clear H a; intro a H
          refine n_nil (then_normal ?_)
          obtain rfl := Option.some.inj hm; replace hm := hm31; try dsimp only at hm
          exact join true H ⟨rfl, rfl, rfl, rfl, trivial⟩ ⟨hm, hS⟩
        · replace H := H.know 29 rfl hg535
          replace hm := condF hm hg535
          refine n_yes H rfl rfl (n_q H (q_fieldAddr0 rfl fo39_3) rfl (W_yes rfl rfl (W_q (q_load rfl ((hS.blk 0 rfl).ld ag33 rfl)) rfl (W_yes rfl rfl (W_q (q_move rfl) rfl (W_yes rfl rfl ?_)))))); clear H a; intro a H
          replace hm := bindS hm; obtain ⟨x536, hx536, hm⟩ := hm
          obtain ⟨h0x536, h1x536, hxx536⟩ := rdI_some hx536
          obtain ⟨adx536, hAx536⟩ := SlR.adV (hrp0_0.ext (Flat.mono _) hS.x) hv534 hxx536
          refine n_q H (q_ixVI Tryz.underlying33 sz67 rfl hv534 hAx536 rfl h0x536 h1x536) rfl (W_yes rfl rfl (W_q (q_fieldAddr rfl fo67_2) rfl (W_yes rfl rfl (W_q (q_load rfl (SlR.ldCellV (j := 17) (u := Value.int .i64 x536.State) (hrp0_0.ext (Flat.mono _) hS.x) hv534 hAx536 ag3 hxx536 (by simp [eGProc]))) rfl (W_yes rfl rfl (W_q (q_neqD rfl rfl) rfl (W_q (q_pickF rfl rfl) rfl ?_))))))); clear H a; intro a H
          refine n_nil (then_normal ?_)
          obtain rfl := Option.some.inj hm; replace hm := hm31; try dsimp only at hm
          exact join (!decide (x536.State = 1)) H ⟨rfl, rfl, rfl, rfl, trivial⟩ ⟨hm, hS⟩
    · clear H hS hm a; intro q532 a w537 H hR
      simp only [ent, List.map_cons, List.map_nil] at H; (try dsimp only at hR); obtain ⟨hm, hS⟩ := hR; try dsimp only [g_r11_rule7_J18] at hm
      refine c_cond H rfl (fun hc538 => ?_) (fun hc538 => ?_)
      · replace hm := condT hm hc538
        refine wp_seq (wp_region_lit (n_q H (q_assign rfl) rfl ?_)); clear H a; intro a H
        refine n_nil (then_normal (wp_ret (then_ret (block_ret (then_ret (then_ret (block_ret (then_ret ?_))))))))
        obtain rfl := Option.some.inj hm; have hz : _ = q24 := hn24; subst hz; replace hm := hm24; try dsimp only at hm
        obtain rfl := Option.some.inj hm
        replace hS := hS.tk0
        refine ret1 H (.inr rfl) rfl rfl ?_
        exact ⟨rfl, hS.x⟩
      · replace hm := condF hm hc538
        refine wp_skip (then_normal (wp_seq (wp_region_lit (n_q H (q_assign rfl) rfl ?_)))); clear H a; intro a H
        refine n_nil (then_normal (wp_block ?_))
        replace hm := bindS hm; obtain ⟨q539, hm, hm539⟩ := hm; replace hm := iter_some hm; obtain ⟨n539, hm⟩ := hm
        refine c_loop (σ := Nat × Int) (fun (m, z541) => [(1, .pointer (some ⟨b21, 0, none⟩)), (3, .int .i64 ((i25 : Nat) : Int)), (4, .int .i64 x30), (5, .int .i64 z541)]) (fun (m, z541) wl => iterN (g_r11_rule7_L17 a0 i25 x30) m z541 = some q539 ∧ St NB w wl [blkR b21 [.int .i64 a0.Id, .int .i64 a0.Frame, .int .i64 a0.Epoch, vp0_0, vp0_1, vp0_2, vp0_3, vp0_4, vp0_5, vp0_6] 39]) (fun (m, z541) => m) (n539, 0) H ⟨rfl, rfl, rfl, rfl, trivial⟩ ⟨hm, hS⟩ ?_
        clear H hS hm a; intro xx a w542 H hR; obtain ⟨m, z541⟩ := xx; simp only [ent, List.map_cons, List.map_nil] at H; (try dsimp only at hR); obtain ⟨hm, hS⟩ := hR
        replace hm := iterN_step hm; obtain ⟨m539, o539, rfl, hm, hn539⟩ := hm; try dsimp only [g_r11_rule7_L17] at hm
        refine wp_seq (wp_seq (wp_region_lit (n_q H (q_move rfl) rfl (W_q (q_move rfl) rfl (W_q (q_lss rfl rfl) rfl ?_))))); clear H a; intro a H
        refine n_nil (then_normal (c_cond H rfl (fun hc543 => ?_) (fun hc543 => ?_)))
        · replace hm := condT hm hc543
          refine wp_skip (then_normal (wp_seq (wp_block (wp_seq (wp_region_lit (n_q H (q_fieldAddr0 rfl fo39_4) rfl (W_q (q_load rfl ((hS.blk 0 rfl).ld ag25 rfl)) rfl (W_q (q_move rfl) rfl ?_)))))))); clear H a; intro a H
          replace hm := bindS hm; obtain ⟨x544, hx544, hm⟩ := hm
          obtain ⟨h0x544, h1x544, hxx544⟩ := rdI_some hx544
          obtain ⟨adx544, hAx544⟩ := SlR.adV (hrp0_1.ext (Flat.mono _) hS.x) hv27 hxx544
          refine n_q H (q_ixVI Tryz.underlying25 sz3 rfl hv27 hAx544 rfl h0x544 h1x544) rfl (W_q (q_load rfl (SlR.ldOneV (hrp0_1.ext (Flat.mono _) hS.x) hv27 hAx544 ag3 hxx544 rfl)) rfl (W_q (q_move rfl) rfl (W_q (q_eqlD rfl rfl) rfl ?_))); clear H a; intro a H
          refine n_nil (then_normal (c_cond H rfl (fun hc545 => ?_) (fun hc545 => ?_)))
          · replace hm := condT hm hc545
            refine wp_seq (wp_region_lit (n_q H (q_assign rfl) rfl ?_)); clear H a; intro a H
            refine n_nil (then_normal (wp_ret (block_ret (then_ret (then_ret (block_ret (block_ret (then_ret (then_ret (block_ret (then_ret ?_)))))))))))
            obtain rfl := Option.some.inj hm; have hz : _ = q539 := hn539; subst hz; replace hm := hm539; try dsimp only at hm
            obtain rfl := Option.some.inj hm; have hz : _ = q24 := hn24; subst hz; replace hm := hm24; try dsimp only at hm
            obtain rfl := Option.some.inj hm
            replace hS := hS.tk0
            refine ret1 H (.inr rfl) rfl rfl ?_
            exact ⟨rfl, hS.x⟩
          · replace hm := condF hm hc545
            refine wp_skip (block_normal (then_normal (wp_region_lit (n_q H (q_move rfl) rfl (W_q (q_addW rfl rfl) rfl (W_q (q_assign rfl) rfl ?_)))))); clear H a; intro a H
            refine n_nil (then_normal ?_)
            obtain rfl := Option.some.inj hm
            exact round (m539, (IntKind.i64.wrap (z541 + 1))) H ⟨rfl, rfl, rfl, rfl, trivial⟩ ⟨hn539, hS⟩ (Nat.lt_succ_self _)
        · replace hm := condF hm hc543
          refine wp_exit (then_exit (then_exit (block_exit ?_)))
          obtain rfl := Option.some.inj hm; have hz : _ = q539 := hn539; subst hz; replace hm := hm539; try dsimp only at hm
          refine block_normal (then_normal (wp_region_lit (n_q H (q_move rfl) rfl (W_q (q_incr (i := i25) (j := 1) rfl rfl (by omega)) rfl (W_q (q_assign rfl) rfl ?_))))); clear H a; intro a H
          refine n_nil (then_normal ?_)
          obtain rfl := Option.some.inj hm
          exact round (m24, i25 + 1) H ⟨rfl, rfl, trivial⟩ ⟨hn24, hS⟩ (Nat.lt_succ_self _)
  · replace hm := condF hm hc28
    refine wp_exit (then_exit (then_exit (block_exit ?_)))
    obtain rfl := Option.some.inj hm; have hz : _ = q24 := hn24; subst hz; replace hm := hm24; try dsimp only at hm
    refine then_normal (wp_seq (wp_region_lit (n_q H (q_assign rfl) rfl ?_))); clear H a; intro a H
    refine n_nil (then_normal (wp_seq (wp_seq (wp_region_lit (n_q H (q_assign rfl) rfl ?_))))); clear H a; intro a H
    refine n_nil (then_normal (wp_block ?_))
    replace hm := bindS hm; obtain ⟨q546, hm, hm546⟩ := hm; replace hm := iter_some hm; obtain ⟨n546, hm⟩ := hm
    refine c_loop (σ := Nat × Int × Nat) (fun (m, z549, i548) => [(1, .pointer (some ⟨b21, 0, none⟩)), (6, .int .i64 z549), (7, .int .i64 ((i548 : Nat) : Int))]) (fun (m, z549, i548) wl => iterN (g_r11_rule7_L23 a0) m (z549, i548) = some q546 ∧ St NB w wl [blkR b21 [.int .i64 a0.Id, .int .i64 a0.Frame, .int .i64 a0.Epoch, vp0_0, vp0_1, vp0_2, vp0_3, vp0_4, vp0_5, vp0_6] 39]) (fun (m, z549, i548) => m) (n546, 0, 0) H ⟨rfl, rfl, rfl, trivial⟩ ⟨hm, hS⟩ ?_
    clear H hS hm a; intro xx a w550 H hR; obtain ⟨m, z549, i548⟩ := xx; simp only [ent, List.map_cons, List.map_nil] at H; (try dsimp only at hR); obtain ⟨hm, hS⟩ := hR
    replace hm := iterN_step hm; obtain ⟨m546, o546, rfl, hm, hn546⟩ := hm; try dsimp only [g_r11_rule7_L23] at hm
    refine wp_seq (wp_seq (wp_region_lit (n_q H (q_move rfl) rfl (W_q (q_fieldAddr0 rfl fo39_3) rfl (W_q (q_load rfl ((hS.blk 0 rfl).ld ag33 rfl)) rfl ?_))))); clear H a; intro a H
    obtain ⟨A551, c551, hv551, hl551, hm551⟩ := SlR.formV (hrp0_0.ext (Flat.mono _) hS.x)
    refine n_q H (q_lenV Tryz.underlying33 rfl hv551) rfl (W_q (q_lssN (i := i548) (j := a0.Procs.length) rfl rfl) rfl ?_); clear H a; intro a H
    refine n_nil (then_normal (c_cond H rfl (fun hc552 => ?_) (fun hc552 => ?_)))
    · replace hm := condT hm hc552
      have hlt553 : i548 < a0.Procs.length := of_decide_eq_true hc552
      refine wp_skip (then_normal ?_)
      replace hm := bindS hm; obtain ⟨j554, hm, hm554⟩ := hm
      refine c_join (σ := Int) H (fun z1055 => [(1, .pointer (some ⟨b21, 0, none⟩)), (6, .int .i64 z1055), (7, .int .i64 ((i548 : Nat) : Int))]) (fun z1055 wl => (g_r11_rule7_J22 i548) z1055 = some o546 ∧ St NB w wl [blkR b21 [.int .i64 a0.Id, .int .i64 a0.Frame, .int .i64 a0.Epoch, vp0_0, vp0_1, vp0_2, vp0_3, vp0_4, vp0_5, vp0_6] 39]) ?_ ?_
      · skip
        refine wp_block (wp_seq (wp_region_lit (n_q H (q_fieldAddr0 rfl fo39_3) rfl (W_q (q_load rfl ((hS.blk 0 rfl).ld ag33 rfl)) rfl (W_q (q_move rfl) rfl ?_))))); clear H a; intro a H
        replace hm := bindS hm; obtain ⟨x1056, hx1056, hm⟩ := hm
        obtain ⟨adx1056, hAx1056⟩ := SlR.adV (hrp0_0.ext (Flat.mono _) hS.x) hv551 hx1056
        refine n_q H (q_ixV (i := i548) Tryz.underlying33 sz67 rfl hv551 hAx1056 rfl (natI hx1056)) rfl (W_q (q_fieldAddr rfl fo67_2) rfl (W_q (q_load rfl (SlR.ldCellV (j := 17) (u := Value.int .i64 x1056.State) (hrp0_0.ext (Flat.mono _) hS.x) hv551 hAx1056 ag3 hx1056 (by simp [eGProc]))) rfl (W_q (q_eqlD rfl rfl) rfl ?_))); clear H a; intro a H
        refine n_nil (then_normal (c_cond H rfl (fun hc1057 => ?_) (fun hc1057 => ?_)))
        · replace hm := condT hm hc1057
          refine wp_region_lit (n_q H (q_move rfl) rfl (W_q (q_addW rfl rfl) rfl (W_q (q_assign rfl) rfl ?_))); clear H a; intro a H
          refine n_nil (block_normal (then_normal ?_))
          obtain rfl := Option.some.inj hm; replace hm := hm554; try dsimp only at hm
          exact join (IntKind.i64.wrap (z549 + 1)) H ⟨rfl, rfl, rfl, trivial⟩ ⟨hm, hS⟩
        · replace hm := condF hm hc1057
          refine wp_skip (block_normal (then_normal ?_))
          obtain rfl := Option.some.inj hm; replace hm := hm554; try dsimp only at hm
          exact join z549 H ⟨rfl, rfl, rfl, trivial⟩ ⟨hm, hS⟩
      · clear H hS hm a; intro z1055 a w1058 H hR
        simp only [ent, List.map_cons, List.map_nil] at H; (try dsimp only at hR); obtain ⟨hm, hS⟩ := hR; try dsimp only [g_r11_rule7_J22] at hm
        refine wp_region_lit (n_q H (q_move rfl) rfl (W_q (q_incr (i := i548) (j := 1) rfl rfl (by omega)) rfl (W_q (q_assign rfl) rfl ?_))); clear H a; intro a H
        refine n_nil (then_normal ?_)
        obtain rfl := Option.some.inj hm
        exact round (m546, z1055, i548 + 1) H ⟨rfl, rfl, rfl, trivial⟩ ⟨hn546, hS⟩ (Nat.lt_succ_self _)
    · replace hm := condF hm hc552
      refine wp_exit (then_exit (then_exit (block_exit ?_)))
      obtain rfl := Option.some.inj hm; have hz : _ = q546 := hn546; subst hz; replace hm := hm546; try dsimp only at hm
      refine then_normal (wp_seq (wp_region_lit (n_q H (q_move rfl) rfl (W_q (q_fieldAddr0 rfl fo39_4) rfl (W_q (q_load rfl ((hS.blk 0 rfl).ld ag25 rfl)) rfl (W_q (q_lenV Tryz.underlying25 rfl hv27) rfl (W_q (q_eqlD rfl rfl) rfl (W_q (q_assign rfl) rfl ?_)))))))); clear H a; intro a H
      refine n_nil (then_normal (wp_ret ?_))
      obtain rfl := Option.some.inj hm
      replace hS := hS.tk0
      refine ret1 H (.inr rfl) rfl rfl ?_
      exact ⟨rfl, hS.x⟩
theorem g_r11_rule8_w {w : World} {A : Nat → Addr} {cs0 : List Value} {a0 : GState} (h0 : RGState w cs0 a0) {r : Bool} (hm : g_r11_rule8 a0 = some r) :
    Calls Tryz.prog 84 [.agg cs0.toArray].toArray w (Ret fun u w' => u = .bool r ∧ Ext w w') := by
  obtain ⟨vp0_0, vp0_1, vp0_2, vp0_3, vp0_4, vp0_5, vp0_6, rfl, hrp0_0, hrp0_1, hrp0_2, hrp0_3, hrp0_4, hrp0_5, hrp0_6⟩ := h0
  have hS := St.begin NB w
  unfold g_r11_rule8 at hm
  refine enter Tryz.func84 rfl rfl rfl ?_; intro a H; dsimp only [enumL, Nat.zero_add, Nat.reduceAdd] at H
  refine wp_seq (wp_region_lit (n_box H rfl (cs := [.int .i64 a0.Id, .int .i64 a0.Frame, .int .i64 a0.Epoch, vp0_0, vp0_1, vp0_2, vp0_3, vp0_4, vp0_5, vp0_6]) rfl rfl ?_))
  clear H; intro b21 w22 hN hE23 hs; clear a; intro a H
  replace hS := hS.newBlk hN hE23 hs; clear hN hs
  refine n_q H (q_assign rfl) rfl ?_; clear H a; intro a H
  refine n_nil (then_normal (wp_seq (wp_seq (wp_region_lit (n_q H (q_assign rfl) rfl ?_))))); clear H a; intro a H
  refine n_nil (then_normal (wp_block ?_))
  replace hm := bindS hm; obtain ⟨q24, hm, hm24⟩ := hm; replace hm := iter_some hm; obtain ⟨n24, hm⟩ := hm
  refine c_loop (σ := Nat × Nat) (fun (m, i25) => [(1, .pointer (some ⟨b21, 0, none⟩)), (3, .int .i64 ((i25 : Nat) : Int))]) (fun (m, i25) wl => iterN (g_r11_rule8_L11 a0) m i25 = some q24 ∧ St NB w wl [blkR b21 [.int .i64 a0.Id, .int .i64 a0.Frame, .int .i64 a0.Epoch, vp0_0, vp0_1, vp0_2, vp0_3, vp0_4, vp0_5, vp0_6] 39]) (fun (m, i25) => m) (n24, 0) H ⟨rfl, rfl, trivial⟩ ⟨hm, hS⟩ ?_
  clear H hS hm a; intro xx a w26 H hR; obtain ⟨m, i25⟩ := xx; simp only [ent, List.map_cons, List.map_nil] at H; (try dsimp only at hR); obtain ⟨hm, hS⟩ := hR
  replace hm := iterN_step hm; obtain ⟨m24, o24, rfl, hm, hn24⟩ := hm; try dsimp only [g_r11_rule8_L11] at hm
  refine wp_seq (wp_seq (wp_region_lit (n_q H (q_move rfl) rfl (W_q (q_fieldAddr0 rfl fo39_5) rfl (W_q (q_load rfl ((hS.blk 0 rfl).ld ag34 rfl)) rfl ?_))))); clear H a; intro a H
  obtain ⟨A27, c27, hv27, hl27, hm27⟩ := SlR.formV (hrp0_2.ext (Flat.mono _) hS.x)
  refine n_q H (q_lenV Tryz.underlying34 rfl hv27) rfl (W_q (q_lssN (i := i25) (j := a0.Timers.length) rfl rfl) rfl ?_); clear H a; intro a H
  refine n_nil (then_normal (c_cond H rfl (fun hc28 => ?_) (fun hc28 => ?_)))
  · replace hm := condT hm hc28
    have hlt29 : i25 < a0.Timers.length := of_decide_eq_true hc28
    refine wp_skip (then_normal ?_)
    replace hm := bindS hm; obtain ⟨j30, hm, hm30⟩ := hm
    refine c_join (σ := Unit) H (fun u_ => [(1, .pointer (some ⟨b21, 0, none⟩)), (3, .int .i64 ((i25 : Nat) : Int))]) (fun u_ wl => (g_r11_rule8_J10 i25) () = some o24 ∧ St NB w wl [blkR b21 [.int .i64 a0.Id, .int .i64 a0.Frame, .int .i64 a0.Epoch, vp0_0, vp0_1, vp0_2, vp0_3, vp0_4, vp0_5, vp0_6] 39]) ?_ ?_
    · skip
      refine wp_block (wp_seq (wp_region_lit (n_q H (q_fieldAddr0 rfl fo39_5) rfl (W_q (q_load rfl ((hS.blk 0 rfl).ld ag34 rfl)) rfl (W_q (q_move rfl) rfl ?_))))); clear H a; intro a H
      replace hm := bindS hm; obtain ⟨x531, hx531, hm⟩ := hm
      obtain ⟨adx531, hAx531⟩ := SlR.adV (hrp0_2.ext (Flat.mono _) hS.x) hv27 hx531
      refine n_q H (q_ixV (i := i25) Tryz.underlying34 sz99 rfl hv27 hAx531 rfl (natI hx531)) rfl (W_q (q_load rfl (SlR.ldAggV (hrp0_2.ext (Flat.mono _) hS.x) hv27 hAx531 ag99 sz99 hx531)) rfl ?_); clear H a; intro a H
      refine n_alloc H ze99 rfl ?_
      clear H; intro b532 w533 hN hE534 hs; clear a; intro a H
      replace hS := hS.newBlk hN hE534 hs; clear hN hs
      refine n_storeAll H rfl rfl (vs := [.int .i64 x531.Proc, .int .i64 x531.Due]) rfl sz99 (hS.blk 0 rfl) rfl (by simp) ?_
      clear H; intro w535 hN hC536 hz; clear a; intro a H; replace hS := hS.setBlk hN hC536; clear hN hz
      refine n_nil (then_normal (wp_seq (wp_seq (wp_region_lit (n_c H (fun HC => ?_)))))); clear H
      refine nc_q HC (q_fieldAddr0 rfl fo99_0) rfl (by kernel_rfl) (V_q (q_load rfl ((hS.blk 0 rfl).ld ag3 rfl)) rfl (by kernel_rfl) (V_q (q_lss rfl rfl) rfl (by kernel_rfl) (V_q (q_move rfl) rfl (by kernel_rfl) (V_g (q_fieldAddr0 rfl fo99_0) (by kernel_rfl) (by kernel_rfl) (by kernel_rfl) (V_g (q_load rfl ((hS.blk 0 rfl).ld ag3 rfl)) (by kernel_rfl) (by kernel_rfl) (by kernel_rfl) (V_g (q_fieldAddr0 rfl fo39_3) (by kernel_rfl) (by kernel_rfl) (by kernel_rfl) (V_g (q_load rfl ((hS.blk 1 rfl).ld ag33 rfl)) (by kernel_rfl) (by kernel_rfl) (by kernel_rfl) ?_))))))); clear HC a; intro a HC
      obtain ⟨A537, c537, hv537, hl537, hm537⟩ := SlR.formV (hrp0_0.ext (Flat.mono _) hS.x)
      refine nc_g HC (q_lenV Tryz.underlying33 rfl hv537) (by kernel_rfl) (by kernel_rfl) (by kernel_rfl) (V_g (q_geq rfl rfl) (by kernel_rfl) (by kernel_rfl) (by kernel_rfl) (V_or (j := 3) rfl rfl rfl (by kernel_rfl) (by kernel_rfl) (V_q (q_move rfl) rfl (by kernel_rfl) (V_g (q_fieldAddr0 rfl fo99_1) (by kernel_rfl) (by kernel_rfl) (by kernel_rfl) (V_g (q_load rfl ((hS.blk 0 rfl).ld ag3 rfl)) (by kernel_rfl) (by kernel_rfl) (by kernel_rfl) (V_g (q_lss rfl rfl) (by kernel_rfl) (by kernel_rfl) (by kernel_rfl) (V_or (j := 11) rfl rfl rfl (by kernel_rfl) (by kernel_rfl) (V_q (q_move rfl) rfl (by kernel_rfl) (V_g (q_fieldAddr0 rfl fo99_1) (by kernel_rfl) (by kernel_rfl) (by kernel_rfl) (V_g (q_load rfl ((hS.blk 0 rfl).ld ag3 rfl)) (by kernel_rfl) (by kernel_rfl) (by kernel_rfl) (V_g (q_gtr rfl rfl) (by kernel_rfl) (by kernel_rfl) (by kernel_rfl) ?_))))))))))); clear HC a; intro a HC
      refine nc_or (j := 16) HC rfl rfl rfl (by kernel_rfl) (by kernel_rfl) ?_; clear HC a; intro a HC
      have H := HC.has; clear HC
      refine n_nil (then_normal (c_cond H rfl (fun hc538 => ?_) (fun hc538 => ?_)))
      · replace hm := condT hm hc538
        refine wp_seq (wp_region_lit (n_q H (q_assign rfl) rfl ?_)); clear H a; intro a H
        refine n_nil (then_normal (wp_ret (then_ret (block_ret (then_ret (then_ret (block_ret (then_ret ?_))))))))
        obtain rfl := Option.some.inj hm; replace hm := hm30; try dsimp only at hm
        obtain rfl := Option.some.inj hm; have hz : _ = q24 := hn24; subst hz; replace hm := hm24; try dsimp only at hm
        obtain rfl := Option.some.inj hm
        replace hS := hS.tk0
        refine ret1 H (.inr rfl) rfl rfl ?_
        exact ⟨rfl, hS.x⟩
      · replace hm := condF hm hc538
        refine wp_skip (then_normal (wp_seq (wp_seq (wp_region_lit (n_q H (q_assign rfl) rfl ?_))))); clear H a; intro a H
        refine n_nil (then_normal (wp_block ?_))
        replace hS := hS.pk1
        replace hm := bindS hm; obtain ⟨q539, hm, hm539⟩ := hm; replace hm := iter_some hm; obtain ⟨n539, hm⟩ := hm
        refine c_loop (σ := Nat × Int) (fun (m, z541) => [(1, .pointer (some ⟨b21, 0, none⟩)), (3, .int .i64 ((i25 : Nat) : Int)), (4, .pointer (some ⟨b532, 0, none⟩)), (5, .int .i64 z541)]) (fun (m, z541) wl => iterN (g_r11_rule8_L9 a0 i25 x531) m z541 = some q539 ∧ St NB w wl [blkR b21 [.int .i64 a0.Id, .int .i64 a0.Frame, .int .i64 a0.Epoch, vp0_0, vp0_1, vp0_2, vp0_3, vp0_4, vp0_5, vp0_6] 39, blkR b532 [.int .i64 x531.Proc, .int .i64 x531.Due] 99]) (fun (m, z541) => m) (n539, 0) H ⟨rfl, rfl, rfl, rfl, trivial⟩ ⟨hm, hS⟩ ?_
        clear H hS hm a; intro xx a w542 H hR; obtain ⟨m, z541⟩ := xx; simp only [ent, List.map_cons, List.map_nil] at H; (try dsimp only at hR); obtain ⟨hm, hS⟩ := hR
        replace hm := iterN_step hm; obtain ⟨m539, o539, rfl, hm, hn539⟩ := hm; try dsimp only [g_r11_rule8_L9] at hm
        refine wp_seq (wp_seq (wp_region_lit (n_q H (q_move rfl) rfl (W_q (q_move rfl) rfl (W_q (q_lss rfl rfl) rfl ?_))))); clear H a; intro a H
        refine n_nil (then_normal (c_cond H rfl (fun hc543 => ?_) (fun hc543 => ?_)))
        · replace hm := condT hm hc543
          refine wp_skip (then_normal (wp_seq (wp_block (wp_seq (c_quiet (by kernel_rfl) (by kernel_rfl) ?_)))))
          refine qq_q H (q_fieldAddr0 rfl fo39_5) rfl ?_; clear H a; intro a H
          refine qq_q H (q_load rfl ((hS.blk 0 rfl).ld ag34 rfl)) rfl ?_; clear H a; intro a H
          refine qq_q H (q_move rfl) rfl ?_; clear H a; intro a H
          replace hm := bindS hm; obtain ⟨x544, hx544, hm⟩ := hm
          obtain ⟨h0x544, h1x544, hxx544⟩ := rdI_some hx544
          obtain ⟨adx544, hAx544⟩ := SlR.adV (hrp0_2.ext (Flat.mono _) hS.x) hv27 hxx544
          refine qq_q H (q_ixVI Tryz.underlying34 sz99 rfl hv27 hAx544 rfl h0x544 h1x544) rfl ?_; clear H a; intro a H
          refine qq_q H (q_fieldAddr rfl fo99_0) rfl ?_; clear H a; intro a H
          refine qq_q H (q_load rfl (SlR.ldCellV (j := 0) (hrp0_2.ext (Flat.mono _) hS.x) hv27 hAx544 ag3 hxx544 rfl)) rfl ?_; clear H a; intro a H
          refine qq_q H (q_fieldAddr0 rfl fo99_0) rfl ?_; clear H a; intro a H
          refine qq_q H (q_load rfl ((hS.blk 1 rfl).ld ag3 rfl)) rfl ?_; clear H a; intro a H
          refine qq_q H (q_eqlD rfl rfl) rfl ?_; clear H a; intro a H
          refine qq_nil ?_; intro w545 hE546
          replace hS := hS.ext hE546
          refine then_normal (c_cond H rfl (fun hc547 => ?_) (fun hc547 => ?_))
          · replace hm := condT hm hc547
            refine wp_seq (wp_region_lit (n_q H (q_assign rfl) rfl ?_)); clear H a; intro a H
            refine n_nil (then_normal (wp_ret (block_ret (then_ret (then_ret (block_ret (then_ret (block_ret (then_ret (then_ret (block_ret (then_ret ?_))))))))))))
            obtain rfl := Option.some.inj hm; have hz : _ = q539 := hn539; subst hz; replace hm := hm539; try dsimp only at hm
            obtain rfl := Option.some.inj hm; replace hm := hm30; try dsimp only at hm
            obtain rfl := Option.some.inj hm; have hz : _ = q24 := hn24; subst hz; replace hm := hm24; try dsimp only at hm
            obtain rfl := Option.some.inj hm
            replace hS := hS.tk0
            refine ret1 H (.inr rfl) rfl rfl ?_
            exact ⟨rfl, hS.x⟩
          · replace hm := condF hm hc547
            refine wp_skip (block_normal (then_normal (wp_region_lit (n_q H (q_move rfl) rfl (W_q (q_addW rfl rfl) rfl (W_q (q_assign rfl) rfl ?_)))))); clear H a; intro a H
            refine n_nil (then_normal ?_)
            obtain rfl := Option.some.inj hm
            exact round (m539, (IntKind.i64.wrap (z541 + 1))) H ⟨rfl, rfl, rfl, rfl, trivial⟩ ⟨hn539, hS⟩ (Nat.lt_succ_self _)
        · replace hm := condF hm hc543
          refine wp_exit (then_exit (then_exit (block_exit ?_)))
          obtain rfl := Option.some.inj hm; have hz : _ = q539 := hn539; subst hz; replace hm := hm539; try dsimp only at hm
          refine then_normal (wp_seq (wp_region_lit (n_q H (q_move rfl) rfl (W_q (q_gtrN (i := i25) (j := 0) rfl rfl) rfl ?_)))); clear H a; intro a H
          refine n_nil (then_normal (c_cond H rfl (fun hc548 => ?_) (fun hc548 => ?_)))
          · replace hm := condT hm hc548
            refine wp_seq (wp_region_lit (n_q H (q_fieldAddr0 rfl fo39_5) rfl (W_q (q_load rfl ((hS.blk 0 rfl).ld ag34 rfl)) rfl (W_q (q_move rfl) rfl (W_q (q_subW rfl rfl) rfl ?_))))); clear H a; intro a H
            replace hm := bindS hm; obtain ⟨x549, hx549, hm⟩ := hm
            obtain ⟨h0x549, h1x549, hxx549⟩ := rdI_some hx549
            obtain ⟨adx549, hAx549⟩ := SlR.adV (hrp0_2.ext (Flat.mono _) hS.x) hv27 hxx549
            refine n_q H (q_ixVI Tryz.underlying34 sz99 rfl hv27 hAx549 rfl h0x549 h1x549) rfl (W_q (q_load rfl (SlR.ldAggV (hrp0_2.ext (Flat.mono _) hS.x) hv27 hAx549 ag99 sz99 hxx549)) rfl ?_); clear H a; intro a H
            refine n_alloc H ze99 rfl ?_
            clear H; intro b550 w551 hN hE552 hs; clear a; intro a H
            replace hS := hS.newBlk hN hE552 hs; clear hN hs
            refine n_storeAll H rfl rfl (vs := [.int .i64 x549.Proc, .int .i64 x549.Due]) rfl sz99 (hS.blk 0 rfl) rfl (by simp) ?_
            clear H; intro w553 hN hC554 hz; clear a; intro a H; replace hS := hS.setBlk hN hC554; clear hN hz
            refine n_nil (then_normal (wp_seq (wp_region_lit (n_c H (fun HC => ?_))))); clear H
            refine nc_q HC (q_fieldAddr0 rfl fo99_1) rfl (by kernel_rfl) (V_q (q_load rfl ((hS.blk 0 rfl).ld ag3 rfl)) rfl (by kernel_rfl) (V_q (q_fieldAddr0 rfl fo99_1) rfl (by kernel_rfl) (V_q (q_load rfl ((hS.blk 2 rfl).ld ag3 rfl)) rfl (by kernel_rfl) (V_q (q_gtr rfl rfl) rfl (by kernel_rfl) (V_q (q_move rfl) rfl (by kernel_rfl) (V_g (q_fieldAddr0 rfl fo99_1) (by kernel_rfl) (by kernel_rfl) (by kernel_rfl) (V_g (q_load rfl ((hS.blk 0 rfl).ld ag3 rfl)) (by kernel_rfl) (by kernel_rfl) (by kernel_rfl) (V_g (q_fieldAddr0 rfl fo99_1) (by kernel_rfl) (by kernel_rfl) (by kernel_rfl) (V_g (q_load rfl ((hS.blk 2 rfl).ld ag3 rfl)) (by kernel_rfl) (by kernel_rfl) (by kernel_rfl) (V_g (q_eqlD rfl rfl) (by kernel_rfl) (by kernel_rfl) (by kernel_rfl) (V_g (q_move rfl) (by kernel_rfl) (by kernel_rfl) (by kernel_rfl) ?_))))))))))); clear HC a; intro a HC
            refine nc_g HC (q_fieldAddr0 rfl fo99_0) (by kernel_rfl) (by kernel_rfl) (by kernel_rfl) (V_g (q_load rfl ((hS.blk 0 rfl).ld ag3 rfl)) (by kernel_rfl) (by kernel_rfl) (by kernel_rfl) (V_g (q_fieldAddr0 rfl fo99_0) (by kernel_rfl) (by kernel_rfl) (by kernel_rfl) (V_g (q_load rfl ((hS.blk 2 rfl).ld ag3 rfl)) (by kernel_rfl) (by kernel_rfl) (by kernel_rfl) (V_g (q_geq rfl rfl) (by kernel_rfl) (by kernel_rfl) (by kernel_rfl) ?_)))); clear HC a; intro a HC
            refine nc_andg (j := 11) HC rfl rfl rfl (by kernel_rfl) (by kernel_rfl) (by kernel_rfl) ?_; clear HC a; intro a HC
            refine nc_or (j := 5) HC rfl rfl rfl (by kernel_rfl) (by kernel_rfl) ?_; clear HC a; intro a HC
            have H := HC.has; clear HC
            refine n_nil (then_normal (c_cond H rfl (fun hc555 => ?_) (fun hc555 => ?_)))
            · replace hm := condT hm hc555
              refine wp_seq (wp_region_lit (n_q H (q_assign rfl) rfl ?_)); clear H a; intro a H
              refine n_nil (then_normal (wp_ret (block_ret (then_ret (then_ret (block_ret (then_ret ?_)))))))
              obtain rfl := Option.some.inj hm; replace hm := hm30; try dsimp only at hm
              obtain rfl := Option.some.inj hm; have hz : _ = q24 := hn24; subst hz; replace hm := hm24; try dsimp only at hm
              obtain rfl := Option.some.inj hm
              replace hS := hS.tk0
              refine ret1 H (.inr rfl) rfl rfl ?_
              exact ⟨rfl, hS.x⟩
            · replace hm := condF hm hc555
              refine wp_skip (block_normal (then_normal ?_))
              obtain rfl := Option.some.inj hm; replace hm := hm30; try dsimp only at hm
              replace hS := hS.pk1
              replace hS := hS.tk1
              exact join () H ⟨rfl, rfl, trivial⟩ ⟨hm, hS⟩
          · replace hm := condF hm hc548
            refine wp_skip (block_normal (then_normal ?_))
            obtain rfl := Option.some.inj hm; replace hm := hm30; try dsimp only at hm
            replace hS := hS.tk1
            exact join () H ⟨rfl, rfl, trivial⟩ ⟨hm, hS⟩
    · clear H hS hm a; intro u_ a w556 H hR
      simp only [ent, List.map_cons, List.map_nil] at H; (try dsimp only at hR); obtain ⟨hm, hS⟩ := hR; try dsimp only [g_r11_rule8_J10] at hm
      refine wp_region_lit (n_q H (q_move rfl) rfl (W_q (q_incr (i := i25) (j := 1) rfl rfl (by omega)) rfl (W_q (q_assign rfl) rfl ?_))); clear H a; intro a H
      refine n_nil (then_normal ?_)
      obtain rfl := Option.some.inj hm
      exact round (m24, i25 + 1) H ⟨rfl, rfl, trivial⟩ ⟨hn24, hS⟩ (Nat.lt_succ_self _)
  · replace hm := condF hm hc28
    refine wp_exit (then_exit (then_exit (block_exit ?_)))
    obtain rfl := Option.some.inj hm; have hz : _ = q24 := hn24; subst hz; replace hm := hm24; try dsimp only at hm
    refine then_normal (wp_seq (wp_region_lit (n_q H (q_assign rfl) rfl ?_))); clear H a; intro a H
    refine n_nil (then_normal (wp_ret ?_))
    obtain rfl := Option.some.inj hm
    replace hS := hS.tk0
    refine ret1 H (.inr rfl) rfl rfl ?_
    exact ⟨rfl, hS.x⟩
end Go.Proofs.YtpnmaabhjgiggaaGreatDoor
