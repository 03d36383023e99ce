/- Vr (written by wip/tools) -/
import Derived.Test.YtjoihegnjjjdaaaGreatDoorVrC
set_option linter.unusedVariables false
set_option linter.unusedSimpArgs false
set_option maxRecDepth 10000
namespace Go.Proofs.YtjoihegnjjjdaaaGreatDoor
open Go Go.RowKit
theorem en10 : entersB Tryz.prog 10 = true := by kernel_rfl
theorem en100 : entersB Tryz.prog 100 = true := by kernel_rfl
theorem en101 : entersB Tryz.prog 101 = true := by kernel_rfl
theorem en102 : entersB Tryz.prog 102 = true := by kernel_rfl
theorem en103 : entersB Tryz.prog 103 = true := by kernel_rfl
theorem en104 : entersB Tryz.prog 104 = true := by kernel_rfl
theorem en105 : entersB Tryz.prog 105 = true := by kernel_rfl
theorem en106 : entersB Tryz.prog 106 = true := by kernel_rfl
theorem en179 : entersB Tryz.prog 179 = true := by kernel_rfl
theorem en180 : entersB Tryz.prog 180 = true := by kernel_rfl
theorem en181 : entersB Tryz.prog 181 = true := by kernel_rfl
theorem en182 : entersB Tryz.prog 182 = true := by kernel_rfl
theorem en183 : entersB Tryz.prog 183 = true := by kernel_rfl
theorem en184 : entersB Tryz.prog 184 = true := by kernel_rfl
theorem en185 : entersB Tryz.prog 185 = true := by kernel_rfl
theorem en48 : entersB Tryz.prog 48 = true := by kernel_rfl
theorem en49 : entersB Tryz.prog 49 = true := by kernel_rfl
theorem en50 : entersB Tryz.prog 50 = true := by kernel_rfl
theorem en7 : entersB Tryz.prog 7 = true := by kernel_rfl
theorem en8 : entersB Tryz.prog 8 = true := by kernel_rfl
theorem en9 : entersB Tryz.prog 9 = true := by kernel_rfl

theorem g_r11_rule13_w {w : World} {A : Nat → Addr} {cs0 : List Value} {a0 : GPlan} {cs1 : List Value} {a1 : GState} (h0 : RGPlan w cs0 a0) (h1 : RGState w cs1 a1) {r : Bool} (hm : g_r11_rule13 a0 a1 = some r) :
    Calls Tryz.prog 181 [.agg cs0.toArray, .agg cs1.toArray].toArray w (Ret fun u w' => u = .bool r ∧ Ext w w') := by
  obtain ⟨vp0_0, vp0_1, vp0_2, vp0_3, rfl, hrp0_0, hrp0_1, hrp0_2, hrp0_3⟩ := h0
  obtain ⟨vp1_0, vp1_1, vp1_2, vp1_3, vp1_4, vp1_5, vp1_6, rfl, hrp1_0, hrp1_1, hrp1_2, hrp1_3, hrp1_4, hrp1_5, hrp1_6⟩ := h1
  have hS := St.begin NB w
  unfold g_r11_rule13 at hm
  refine enter Tryz.func181 rfl rfl rfl ?_; intro a H; dsimp only [enumL, Nat.zero_add, Nat.reduceAdd] at H
  refine wp_seq (wp_region_lit (n_box H rfl (cs := [.int .i64 a0.Id, .bool a0.Mobile, vp0_0, vp0_1, vp0_2, .int .i64 a0.Events, vp0_3]) rfl rfl ?_))
  clear H; intro b21 w22 hN hE23 hs; clear a; intro a H
  replace hS := hS.newBlk hN hE23 hs; clear hN hs
  refine n_box H rfl (cs := [.int .i64 a1.Id, .int .i64 a1.Frame, .int .i64 a1.Epoch, vp1_0, vp1_1, vp1_2, vp1_3, vp1_4, vp1_5, vp1_6]) rfl rfl ?_
  clear H; intro b24 w25 hN hE26 hs; clear a; intro a H
  replace hS := hS.newBlk hN hE26 hs; clear hN hs
  refine n_q H (q_assign rfl) rfl ?_; clear H a; intro a H
  refine n_nil (then_normal (wp_seq (wp_seq (wp_region_lit (n_q H (q_assign rfl) rfl ?_))))); clear H a; intro a H
  refine n_nil (then_normal (wp_block ?_))
  replace hS := hS.pk1
  replace hm := bindS hm; obtain ⟨q27, hm, hm27⟩ := hm; replace hm := iter_some hm; obtain ⟨n27, hm⟩ := hm
  refine c_loop (σ := Nat × Int) (fun (m, z29) => [(2, .pointer (some ⟨b21, 0, none⟩)), (3, .pointer (some ⟨b24, 0, none⟩)), (5, .int .i64 z29)]) (fun (m, z29) wl => iterN (g_r11_rule13_L1 a0 a1) m z29 = some q27 ∧ St NB w wl [blkR b21 [.int .i64 a0.Id, .bool a0.Mobile, vp0_0, vp0_1, vp0_2, .int .i64 a0.Events, vp0_3] 27, blkR b24 [.int .i64 a1.Id, .int .i64 a1.Frame, .int .i64 a1.Epoch, vp1_0, vp1_1, vp1_2, vp1_3, vp1_4, vp1_5, vp1_6] 34]) (fun (m, z29) => m) (n27, 0) H ⟨rfl, rfl, rfl, trivial⟩ ⟨hm, hS⟩ ?_
  clear H hS hm a; intro xx a w30 H hR; obtain ⟨m, z29⟩ := xx; simp only [ent, List.map_cons, List.map_nil] at H; (try dsimp only at hR); obtain ⟨hm, hS⟩ := hR
  replace hm := iterN_step hm; obtain ⟨m27, o27, rfl, hm, hn27⟩ := hm; try dsimp only [g_r11_rule13_L1] at hm
  refine wp_seq (wp_seq (wp_region_lit (n_q H (q_move rfl) rfl (W_q (q_fieldAddr0 rfl fo34_9) rfl (W_q (q_load rfl ((hS.blk 1 rfl).ld ag32 rfl)) rfl ?_))))); clear H a; intro a H
  obtain ⟨A31, c31, hv31, hl31, hm31⟩ := SlR.formV (hrp1_6.ext (Flat.mono _) hS.x)
  refine n_q H (q_lenV Tryz.underlying32 rfl hv31) rfl (W_q (q_fieldAddr0 rfl fo27_2) rfl (W_q (q_load rfl ((hS.blk 0 rfl).ld ag22 rfl)) rfl ?_)); clear H a; intro a H
  obtain ⟨A32, c32, hv32, hl32, hm32⟩ := SlR.formV (hrp0_0.ext (Flat.mono _) hS.x)
  refine n_q H (q_lenV Tryz.underlying22 rfl hv32) rfl ?_; clear H a; intro a H
  replace hm := bindS hm; obtain ⟨r33, hr33, hm⟩ := hm
  refine n_call H rfl en207 (g_r11_both_w (A := A) hr33) rfl ?_
  clear H; intro x36 w34 hv; clear a; intro a H; obtain ⟨rfl, hE35⟩ := hv
  replace hS := hS.ext hE35
  refine n_q H (q_lss rfl rfl) rfl ?_; clear H a; intro a H
  refine n_nil (then_normal (c_cond H rfl (fun hc37 => ?_) (fun hc37 => ?_)))
  · replace hm := condT hm hc37
    refine wp_skip (then_normal (wp_seq (wp_block (wp_seq (c_quiet (by kernel_rfl) (by kernel_rfl) ?_)))))
    refine qq_q H (q_fieldAddr0 rfl fo34_9) rfl ?_; clear H a; intro a H
    refine qq_q H (q_load rfl ((hS.blk 1 rfl).ld ag32 rfl)) rfl ?_; clear H a; intro a H
    refine qq_q H (q_move rfl) rfl ?_; clear H a; intro a H
    replace hm := bindS hm; obtain ⟨x38, hx38, hm⟩ := hm
    obtain ⟨h0x38, h1x38, hxx38⟩ := rdI_some hx38
    obtain ⟨adx38, hAx38⟩ := SlR.adV (hrp1_6.ext (Flat.mono _) hS.x) hv31 hxx38
    refine qq_q H (q_ixVI Tryz.underlying32 sz163 rfl hv31 hAx38 rfl h0x38 h1x38) rfl ?_; clear H a; intro a H
    refine qq_q H (q_fieldAddr rfl fo163_0) rfl ?_; clear H a; intro a H
    refine qq_q H (q_load rfl (SlR.ldCellV (j := 0) (u := Value.int .i64 x38.Rights) (hrp1_6.ext (Flat.mono _) hS.x) hv31 hAx38 ag3 hxx38 (by simp [eGPage]))) rfl ?_; clear H a; intro a H
    refine qq_q H (q_fieldAddr0 rfl fo27_2) rfl ?_; clear H a; intro a H
    refine qq_q H (q_load rfl ((hS.blk 0 rfl).ld ag22 rfl)) rfl ?_; clear H a; intro a H
    refine qq_q H (q_move rfl) rfl ?_; clear H a; intro a H
    replace hm := bindS hm; obtain ⟨x39, hx39, hm⟩ := hm
    obtain ⟨h0x39, h1x39, hxx39⟩ := rdI_some hx39
    obtain ⟨adx39, hAx39⟩ := SlR.adV (hrp0_0.ext (Flat.mono _) hS.x) hv32 hxx39
    refine qq_q H (q_ixVI Tryz.underlying22 sz167 rfl hv32 hAx39 rfl h0x39 h1x39) rfl ?_; clear H a; intro a H
    refine qq_q H (q_fieldAddr rfl fo167_0) rfl ?_; clear H a; intro a H
    refine qq_q H (q_load rfl (SlR.ldCellV (j := 0) (hrp0_0.ext (Flat.mono _) hS.x) hv32 hAx39 ag3 hxx39 rfl)) rfl ?_; clear H a; intro a H
    refine qq_q H (q_neqD rfl rfl) rfl ?_; clear H a; intro a H
    refine qq_nil ?_; intro w40 hE41
    replace hS := hS.ext hE41
    refine then_normal (c_cond H rfl (fun hc42 => ?_) (fun hc42 => ?_))
    · replace hm := condT hm hc42
      refine wp_seq (wp_region_lit (n_q H (q_assign rfl) rfl ?_)); clear H a; intro a H
      refine n_nil (then_normal (wp_ret (block_ret (then_ret (then_ret (block_ret (then_ret ?_)))))))
      obtain rfl := Option.some.inj hm; have hz : _ = q27 := hn27; subst hz; replace hm := hm27; try dsimp only at hm
      obtain rfl := Option.some.inj hm
      replace hS := hS.tk0
      refine ret1 H (.inr rfl) rfl rfl ?_
      exact ⟨rfl, hS.x⟩
    · replace hm := condF hm hc42
      refine wp_skip (block_normal (then_normal (wp_region_lit (n_q H (q_move rfl) rfl (W_q (q_addW rfl rfl) rfl (W_q (q_assign rfl) rfl ?_)))))); clear H a; intro a H
      refine n_nil (then_normal ?_)
      obtain rfl := Option.some.inj hm
      exact round (m27, (IntKind.i64.wrap (z29 + 1))) H ⟨rfl, rfl, rfl, trivial⟩ ⟨hn27, hS⟩ (Nat.lt_succ_self _)
  · replace hm := condF hm hc37
    refine wp_exit (then_exit (then_exit (block_exit ?_)))
    obtain rfl := Option.some.inj hm; have hz : _ = q27 := hn27; subst hz; replace hm := hm27; try dsimp only at hm
    refine then_normal (wp_seq (wp_region_lit (n_q H (q_assign rfl) rfl ?_))); clear H a; intro a H
    refine n_nil (then_normal (wp_ret ?_))
    obtain rfl := Option.some.inj hm
    replace hS := hS.tk0
    refine ret1 H (.inr rfl) rfl rfl ?_
    exact ⟨rfl, hS.x⟩
theorem g_r11_rule14_w {w : World} {A : Nat → Addr} {cs0 : List Value} {a0 : GPlan} {cs1 : List Value} {a1 : GState} (h0 : RGPlan w cs0 a0) (h1 : RGState w cs1 a1) {r : Bool} (hm : g_r11_rule14 a0 a1 = some r) :
    Calls Tryz.prog 182 [.agg cs0.toArray, .agg cs1.toArray].toArray w (Ret fun u w' => u = .bool r ∧ Ext w w') := by
  obtain ⟨vp0_0, vp0_1, vp0_2, vp0_3, rfl, hrp0_0, hrp0_1, hrp0_2, hrp0_3⟩ := h0
  obtain ⟨vp1_0, vp1_1, vp1_2, vp1_3, vp1_4, vp1_5, vp1_6, rfl, hrp1_0, hrp1_1, hrp1_2, hrp1_3, hrp1_4, hrp1_5, hrp1_6⟩ := h1
  have hS := St.begin NB w
  unfold g_r11_rule14 at hm
  refine enter Tryz.func182 rfl rfl rfl ?_; intro a H; dsimp only [enumL, Nat.zero_add, Nat.reduceAdd] at H
  refine wp_seq (wp_region_lit (n_box H rfl (cs := [.int .i64 a0.Id, .bool a0.Mobile, vp0_0, vp0_1, vp0_2, .int .i64 a0.Events, vp0_3]) rfl rfl ?_))
  clear H; intro b21 w22 hN hE23 hs; clear a; intro a H
  replace hS := hS.newBlk hN hE23 hs; clear hN hs
  refine n_box H rfl (cs := [.int .i64 a1.Id, .int .i64 a1.Frame, .int .i64 a1.Epoch, vp1_0, vp1_1, vp1_2, vp1_3, vp1_4, vp1_5, vp1_6]) rfl rfl ?_
  clear H; intro b24 w25 hN hE26 hs; clear a; intro a H
  replace hS := hS.newBlk hN hE26 hs; clear hN hs
  refine n_q H (q_assign rfl) rfl ?_; clear H a; intro a H
  refine n_nil (then_normal (wp_seq (wp_seq (wp_region_lit (n_q H (q_assign rfl) rfl ?_))))); clear H a; intro a H
  refine n_nil (then_normal (wp_block ?_))
  replace hS := hS.pk1
  replace hm := bindS hm; obtain ⟨q27, hm, hm27⟩ := hm; replace hm := iter_some hm; obtain ⟨n27, hm⟩ := hm
  refine c_loop (σ := Nat × Nat) (fun (m, i28) => [(2, .pointer (some ⟨b21, 0, none⟩)), (3, .pointer (some ⟨b24, 0, none⟩)), (5, .int .i64 ((i28 : Nat) : Int))]) (fun (m, i28) wl => iterN (g_r11_rule14_L7 a0 a1) m i28 = some q27 ∧ St NB w wl [blkR b21 [.int .i64 a0.Id, .bool a0.Mobile, vp0_0, vp0_1, vp0_2, .int .i64 a0.Events, vp0_3] 27, blkR b24 [.int .i64 a1.Id, .int .i64 a1.Frame, .int .i64 a1.Epoch, vp1_0, vp1_1, vp1_2, vp1_3, vp1_4, vp1_5, vp1_6] 34]) (fun (m, i28) => m) (n27, 0) H ⟨rfl, rfl, rfl, trivial⟩ ⟨hm, hS⟩ ?_
  clear H hS hm a; intro xx a w29 H hR; obtain ⟨m, i28⟩ := xx; simp only [ent, List.map_cons, List.map_nil] at H; (try dsimp only at hR); obtain ⟨hm, hS⟩ := hR
  replace hm := iterN_step hm; obtain ⟨m27, o27, rfl, hm, hn27⟩ := hm; try dsimp only [g_r11_rule14_L7] at hm
  refine wp_seq (wp_seq (wp_region_lit (n_q H (q_move rfl) rfl (W_q (q_fieldAddr0 rfl fo34_3) rfl (W_q (q_load rfl ((hS.blk 1 rfl).ld ag28 rfl)) rfl ?_))))); clear H a; intro a H
  obtain ⟨A30, c30, hv30, hl30, hm30⟩ := SlR.formV (hrp1_0.ext (Flat.mono _) hS.x)
  refine n_q H (q_lenV Tryz.underlying28 rfl hv30) rfl (W_q (q_lssN (i := i28) (j := a1.Procs.length) rfl rfl) rfl ?_); clear H a; intro a H
  refine n_nil (then_normal (c_cond H rfl (fun hc31 => ?_) (fun hc31 => ?_)))
  · replace hm := condT hm hc31
    have hlt32 : i28 < a1.Procs.length := of_decide_eq_true hc31
    refine wp_skip (then_normal (wp_seq (wp_block (wp_seq (wp_region_lit (n_q H (q_fieldAddr0 rfl fo34_3) rfl (W_q (q_load rfl ((hS.blk 1 rfl).ld ag28 rfl)) rfl (W_q (q_move rfl) rfl ?_)))))))); clear H a; intro a H
    replace hm := bindS hm; obtain ⟨x33, hx33, hm⟩ := hm
    obtain ⟨adx33, hAx33⟩ := SlR.adV (hrp1_0.ext (Flat.mono _) hS.x) hv30 hx33
    refine n_q H (q_ixV (i := i28) Tryz.underlying28 sz158 rfl hv30 hAx33 rfl (natI hx33)) rfl (W_q (q_fieldAddr rfl fo158_5) rfl (W_q (q_load rfl (SlR.ldCellV (j := 20) (u := Value.int .i64 x33.Obj) (hrp1_0.ext (Flat.mono _) hS.x) hv30 hAx33 ag3 hx33 (by simp [eGProc]))) rfl (W_q (q_assign rfl) rfl ?_))); clear H a; intro a H
    refine n_nil (then_normal ?_)
    replace hm := bindS hm; obtain ⟨j34, hm, hm34⟩ := hm
    refine c_join (σ := Bool) H (fun q535 => [(2, .pointer (some ⟨b21, 0, none⟩)), (3, .pointer (some ⟨b24, 0, none⟩)), (5, .int .i64 ((i28 : Nat) : Int)), (47, .bool q535)]) (fun q535 wl => (g_r11_rule14_J6 i28) q535 = some o27 ∧ St NB w wl [blkR b21 [.int .i64 a0.Id, .bool a0.Mobile, vp0_0, vp0_1, vp0_2, .int .i64 a0.Events, vp0_3] 27, blkR b24 [.int .i64 a1.Id, .int .i64 a1.Frame, .int .i64 a1.Epoch, vp1_0, vp1_1, vp1_2, vp1_3, vp1_4, vp1_5, vp1_6] 34]) ?_ ?_
    · skip
      refine wp_region_lit (n_q H (q_fieldAddr0 rfl fo34_3) rfl (W_q (q_load rfl ((hS.blk 1 rfl).ld ag28 rfl)) rfl (W_q (q_move rfl) rfl ?_))); clear H a; intro a H
      replace hm := bindS hm; obtain ⟨x536, hx536, hm⟩ := hm
      obtain ⟨adx536, hAx536⟩ := SlR.adV (hrp1_0.ext (Flat.mono _) hS.x) hv30 hx536
      refine n_q H (q_ixV (i := i28) Tryz.underlying28 sz158 rfl hv30 hAx536 rfl (natI hx536)) rfl (W_q (q_fieldAddr rfl fo158_4) rfl (W_q (q_load rfl (SlR.ldCellV (j := 19) (u := Value.int .i64 x536.Wait) (hrp1_0.ext (Flat.mono _) hS.x) hv30 hAx536 ag3 hx536 (by simp [eGProc]))) rfl (W_q (q_eqlD rfl rfl) rfl (W_q (q_move rfl) rfl ?_)))); clear H a; intro a H
      rcases Bool.eq_false_or_eq_true (decide (x536.Wait = 2)) with hg537 | hg537
      · replace H := H.know 27 rfl hg537
        replace hm := condT hm hg537
        refine n_yes H rfl rfl (n_q H (q_move rfl) rfl (W_yes rfl rfl (W_q (q_geq rfl rfl) rfl (W_q (q_pickT rfl rfl) rfl (W_q (q_move rfl) rfl ?_))))); clear H a; intro a H
        rcases Bool.eq_false_or_eq_true (decide (0 ≤ x33.Obj)) with hg538 | hg538
        · replace H := H.know 31 rfl hg538
          replace hm := condT hm hg538
          refine n_yes H rfl rfl (n_q H (q_move rfl) rfl (W_yes rfl rfl (W_q (q_fieldAddr0 rfl fo34_6) rfl (W_yes rfl rfl (W_q (q_load rfl ((hS.blk 1 rfl).ld ag30 rfl)) rfl (W_yes rfl rfl ?_)))))); clear H a; intro a H
          obtain ⟨A539, c539, hv539, hl539, hm539⟩ := SlR.formV (hrp1_3.ext (Flat.mono _) hS.x)
          refine n_q H (q_lenV Tryz.underlying30 rfl hv539) rfl (W_yes rfl rfl (W_q (q_fieldAddr0 rfl fo27_5) rfl (W_yes rfl rfl (W_q (q_load rfl ((hS.blk 0 rfl).ld ag3 rfl)) rfl (W_yes rfl rfl ?_))))); clear H a; intro a H
          replace hm := bindS hm; obtain ⟨r540, hr540, hm⟩ := hm
          refine n_call H rfl en207 (g_r11_both_w (A := A) hr540) rfl ?_
          clear H; intro x543 w541 hv; clear a; intro a H; obtain ⟨rfl, hE542⟩ := hv
          replace hS := hS.ext hE542
          refine n_yes H rfl rfl (n_q H (q_lss rfl rfl) rfl (W_q (q_pickT rfl rfl) rfl (W_q (q_move rfl) rfl ?_))); clear H a; intro a H
          rcases Bool.eq_false_or_eq_true (decide (x33.Obj < r540)) with hg544 | hg544
          · replace H := H.know 41 rfl hg544
            replace hm := condT hm hg544
            refine n_yes H rfl rfl (n_q H (q_fieldAddr0 rfl fo34_6) rfl (W_yes rfl rfl (W_q (q_load rfl ((hS.blk 1 rfl).ld ag30 rfl)) rfl (W_yes rfl rfl (W_q (q_move rfl) rfl (W_yes rfl rfl ?_)))))); clear H a; intro a H
            replace hm := bindS hm; obtain ⟨x545, hx545, hm⟩ := hm
            obtain ⟨h0x545, h1x545, hxx545⟩ := rdI_some hx545
            obtain ⟨adx545, hAx545⟩ := SlR.adV (hrp1_3.ext (Flat.mono _) hS.x) hv539 hxx545
            refine n_q H (q_ixVI Tryz.underlying30 sz4 rfl hv539 hAx545 rfl h0x545 h1x545) rfl (W_yes rfl rfl (W_q (q_load rfl (SlR.ldOneV (hrp1_3.ext (Flat.mono _) hS.x) hv539 hAx545 ag4 hxx545 rfl)) rfl (W_q (q_pickT rfl rfl) rfl ?_))); clear H a; intro a H
            refine n_nil (then_normal ?_)
            obtain rfl := Option.some.inj hm; replace hm := hm34; try dsimp only at hm
            exact join x545 H ⟨rfl, rfl, rfl, rfl, trivial⟩ ⟨hm, hS⟩
          · replace H := H.know 41 rfl hg544
            replace hm := condF hm hg544
            refine n_no H rfl rfl (by decide) rfl (W_no rfl rfl (by decide) rfl (W_no rfl rfl (by decide) rfl (W_no rfl rfl (by decide) rfl (W_no rfl rfl (by decide) rfl (W_q (q_pickF rfl rfl) rfl ?_))))); clear H a; intro a H
            refine n_nil (then_normal ?_)
            obtain rfl := Option.some.inj hm; replace hm := hm34; try dsimp only at hm
            exact join false H ⟨rfl, rfl, rfl, rfl, trivial⟩ ⟨hm, hS⟩
        · replace H := H.know 31 rfl hg538
          replace hm := condF hm hg538
          refine n_no H rfl rfl (by decide) rfl (W_no rfl rfl (by decide) rfl (W_no rfl rfl (by decide) rfl (W_no rfl rfl (by decide) rfl (W_no rfl rfl (by decide) rfl (W_no rfl rfl (by decide) rfl (W_no rfl rfl (by decide) rfl (W_no rfl rfl (by decide) rfl (W_q (q_pickF rfl rfl) rfl (W_q (q_move rfl) rfl (W_no rfl rfl (by decide) rfl (W_no rfl rfl (by decide) rfl ?_))))))))))); clear H a; intro a H
          refine n_no H rfl rfl (by decide) rfl (W_no rfl rfl (by decide) rfl (W_no rfl rfl (by decide) rfl (W_q (q_pickF rfl rfl) rfl ?_))); clear H a; intro a H
          refine n_nil (then_normal ?_)
          obtain rfl := Option.some.inj hm; replace hm := hm34; try dsimp only at hm
          exact join false H ⟨rfl, rfl, rfl, rfl, trivial⟩ ⟨hm, hS⟩
      · replace H := H.know 27 rfl hg537
        replace hm := condF hm hg537
        refine n_no H rfl rfl (by decide) rfl (W_no rfl rfl (by decide) rfl (W_q (q_pickF rfl rfl) rfl (W_q (q_move rfl) rfl (W_no rfl rfl (by decide) rfl (W_no rfl rfl (by decide) rfl (W_no rfl rfl (by decide) rfl (W_no rfl rfl (by decide) rfl (W_no rfl rfl (by decide) rfl (W_no rfl rfl (by decide) rfl (W_no rfl rfl (by decide) rfl (W_no rfl rfl (by decide) rfl ?_))))))))))); clear H a; intro a H
        refine n_q H (q_pickF rfl rfl) rfl (W_q (q_move rfl) rfl (W_no rfl rfl (by decide) rfl (W_no rfl rfl (by decide) rfl (W_no rfl rfl (by decide) rfl (W_no rfl rfl (by decide) rfl (W_no rfl rfl (by decide) rfl (W_q (q_pickF rfl rfl) rfl ?_))))))); clear H a; intro a H
        refine n_nil (then_normal ?_)
        obtain rfl := Option.some.inj hm; replace hm := hm34; try dsimp only at hm
        exact join false H ⟨rfl, rfl, rfl, rfl, trivial⟩ ⟨hm, hS⟩
    · clear H hS hm a; intro q535 a w546 H hR
      simp only [ent, List.map_cons, List.map_nil] at H; (try dsimp only at hR); obtain ⟨hm, hS⟩ := hR; try dsimp only [g_r11_rule14_J6] at hm
      refine c_cond H rfl (fun hc547 => ?_) (fun hc547 => ?_)
      · replace hm := condT hm hc547
        refine wp_seq (wp_region_lit (n_q H (q_assign rfl) rfl ?_)); clear H a; intro a H
        refine n_nil (then_normal (wp_ret (block_ret (then_ret (then_ret (block_ret (then_ret ?_)))))))
        obtain rfl := Option.some.inj hm; have hz : _ = q27 := hn27; subst hz; replace hm := hm27; try dsimp only at hm
        obtain rfl := Option.some.inj hm
        replace hS := hS.tk0
        refine ret1 H (.inr rfl) rfl rfl ?_
        exact ⟨rfl, hS.x⟩
      · replace hm := condF hm hc547
        refine wp_skip (block_normal (then_normal (wp_region_lit (n_q H (q_move rfl) rfl (W_q (q_incr (i := i28) (j := 1) rfl rfl (by omega)) rfl (W_q (q_assign rfl) rfl ?_)))))); clear H a; intro a H
        refine n_nil (then_normal ?_)
        obtain rfl := Option.some.inj hm
        exact round (m27, i28 + 1) H ⟨rfl, rfl, rfl, trivial⟩ ⟨hn27, hS⟩ (Nat.lt_succ_self _)
  · replace hm := condF hm hc31
    refine wp_exit (then_exit (then_exit (block_exit ?_)))
    obtain rfl := Option.some.inj hm; have hz : _ = q27 := hn27; subst hz; replace hm := hm27; try dsimp only at hm
    refine then_normal (wp_seq (wp_region_lit (n_q H (q_assign rfl) rfl ?_))); clear H a; intro a H
    refine n_nil (then_normal (wp_ret ?_))
    obtain rfl := Option.some.inj hm
    replace hS := hS.tk0
    refine ret1 H (.inr rfl) rfl rfl ?_
    exact ⟨rfl, hS.x⟩
theorem g_r11_rule15_w {w : World} {A : Nat → Addr} {cs0 : List Value} {a0 : GPlan} {cs1 : List Value} {a1 : GState} (h0 : RGPlan w cs0 a0) (h1 : RGState w cs1 a1) {r : Bool} (hm : g_r11_rule15 a0 a1 = some r) :
    Calls Tryz.prog 183 [.agg cs0.toArray, .agg cs1.toArray].toArray w (Ret fun u w' => u = .bool r ∧ Ext w w') := by
  obtain ⟨vp0_0, vp0_1, vp0_2, vp0_3, rfl, hrp0_0, hrp0_1, hrp0_2, hrp0_3⟩ := h0
  obtain ⟨vp1_0, vp1_1, vp1_2, vp1_3, vp1_4, vp1_5, vp1_6, rfl, hrp1_0, hrp1_1, hrp1_2, hrp1_3, hrp1_4, hrp1_5, hrp1_6⟩ := h1
  have hS := St.begin NB w
  unfold g_r11_rule15 at hm
  refine enter Tryz.func183 rfl rfl rfl ?_; intro a H; dsimp only [enumL, Nat.zero_add, Nat.reduceAdd] at H
  refine wp_seq (wp_region_lit (n_box H rfl (cs := [.int .i64 a0.Id, .bool a0.Mobile, vp0_0, vp0_1, vp0_2, .int .i64 a0.Events, vp0_3]) rfl rfl ?_))
  clear H; intro b21 w22 hN hE23 hs; clear a; intro a H
  replace hS := hS.newBlk hN hE23 hs; clear hN hs
  refine n_box H rfl (cs := [.int .i64 a1.Id, .int .i64 a1.Frame, .int .i64 a1.Epoch, vp1_0, vp1_1, vp1_2, vp1_3, vp1_4, vp1_5, vp1_6]) rfl rfl ?_
  clear H; intro b24 w25 hN hE26 hs; clear a; intro a H
  replace hS := hS.newBlk hN hE26 hs; clear hN hs
  refine n_q H (q_assign rfl) rfl ?_; clear H a; intro a H
  refine n_nil (then_normal (wp_seq (wp_seq (wp_region_lit (n_q H (q_assign rfl) rfl ?_))))); clear H a; intro a H
  refine n_nil (then_normal (wp_block ?_))
  replace hS := hS.pk1
  replace hm := bindS hm; obtain ⟨q27, hm, hm27⟩ := hm; replace hm := iter_some hm; obtain ⟨n27, hm⟩ := hm
  refine c_loop (σ := Nat × Nat) (fun (m, i28) => [(2, .pointer (some ⟨b21, 0, none⟩)), (3, .pointer (some ⟨b24, 0, none⟩)), (5, .int .i64 ((i28 : Nat) : Int))]) (fun (m, i28) wl => iterN (g_r11_rule15_L7 a0 a1) m i28 = some q27 ∧ St NB w wl [blkR b21 [.int .i64 a0.Id, .bool a0.Mobile, vp0_0, vp0_1, vp0_2, .int .i64 a0.Events, vp0_3] 27, blkR b24 [.int .i64 a1.Id, .int .i64 a1.Frame, .int .i64 a1.Epoch, vp1_0, vp1_1, vp1_2, vp1_3, vp1_4, vp1_5, vp1_6] 34]) (fun (m, i28) => m) (n27, 0) H ⟨rfl, rfl, rfl, trivial⟩ ⟨hm, hS⟩ ?_
  clear H hS hm a; intro xx a w29 H hR; obtain ⟨m, i28⟩ := xx; simp only [ent, List.map_cons, List.map_nil] at H; (try dsimp only at hR); obtain ⟨hm, hS⟩ := hR
  replace hm := iterN_step hm; obtain ⟨m27, o27, rfl, hm, hn27⟩ := hm; try dsimp only [g_r11_rule15_L7] at hm
  refine wp_seq (wp_seq (wp_region_lit (n_q H (q_move rfl) rfl (W_q (q_fieldAddr0 rfl fo34_3) rfl (W_q (q_load rfl ((hS.blk 1 rfl).ld ag28 rfl)) rfl ?_))))); clear H a; intro a H
  obtain ⟨A30, c30, hv30, hl30, hm30⟩ := SlR.formV (hrp1_0.ext (Flat.mono _) hS.x)
  refine n_q H (q_lenV Tryz.underlying28 rfl hv30) rfl (W_q (q_lssN (i := i28) (j := a1.Procs.length) rfl rfl) rfl ?_); clear H a; intro a H
  refine n_nil (then_normal (c_cond H rfl (fun hc31 => ?_) (fun hc31 => ?_)))
  · replace hm := condT hm hc31
    have hlt32 : i28 < a1.Procs.length := of_decide_eq_true hc31
    refine wp_skip (then_normal (wp_seq (wp_block (wp_seq (wp_region_lit (n_q H (q_fieldAddr0 rfl fo34_3) rfl (W_q (q_load rfl ((hS.blk 1 rfl).ld ag28 rfl)) rfl (W_q (q_move rfl) rfl ?_)))))))); clear H a; intro a H
    replace hm := bindS hm; obtain ⟨x33, hx33, hm⟩ := hm
    obtain ⟨adx33, hAx33⟩ := SlR.adV (hrp1_0.ext (Flat.mono _) hS.x) hv30 hx33
    refine n_q H (q_ixV (i := i28) Tryz.underlying28 sz158 rfl hv30 hAx33 rfl (natI hx33)) rfl (W_q (q_fieldAddr rfl fo158_5) rfl (W_q (q_load rfl (SlR.ldCellV (j := 20) (u := Value.int .i64 x33.Obj) (hrp1_0.ext (Flat.mono _) hS.x) hv30 hAx33 ag3 hx33 (by simp [eGProc]))) rfl (W_q (q_assign rfl) rfl ?_))); clear H a; intro a H
    refine n_nil (then_normal ?_)
    replace hm := bindS hm; obtain ⟨j34, hm, hm34⟩ := hm
    refine c_join (σ := Bool) H (fun q535 => [(2, .pointer (some ⟨b21, 0, none⟩)), (3, .pointer (some ⟨b24, 0, none⟩)), (5, .int .i64 ((i28 : Nat) : Int)), (49, .bool q535)]) (fun q535 wl => (g_r11_rule15_J6 i28) q535 = some o27 ∧ St NB w wl [blkR b21 [.int .i64 a0.Id, .bool a0.Mobile, vp0_0, vp0_1, vp0_2, .int .i64 a0.Events, vp0_3] 27, blkR b24 [.int .i64 a1.Id, .int .i64 a1.Frame, .int .i64 a1.Epoch, vp1_0, vp1_1, vp1_2, vp1_3, vp1_4, vp1_5, vp1_6] 34]) ?_ ?_
    · skip
      refine wp_region_lit (n_q H (q_fieldAddr0 rfl fo34_3) rfl (W_q (q_load rfl ((hS.blk 1 rfl).ld ag28 rfl)) rfl (W_q (q_move rfl) rfl ?_))); clear H a; intro a H
      replace hm := bindS hm; obtain ⟨x536, hx536, hm⟩ := hm
      obtain ⟨adx536, hAx536⟩ := SlR.adV (hrp1_0.ext (Flat.mono _) hS.x) hv30 hx536
      refine n_q H (q_ixV (i := i28) Tryz.underlying28 sz158 rfl hv30 hAx536 rfl (natI hx536)) rfl (W_q (q_fieldAddr rfl fo158_4) rfl (W_q (q_load rfl (SlR.ldCellV (j := 19) (u := Value.int .i64 x536.Wait) (hrp1_0.ext (Flat.mono _) hS.x) hv30 hAx536 ag3 hx536 (by simp [eGProc]))) rfl (W_q (q_eqlD rfl rfl) rfl (W_q (q_move rfl) rfl ?_)))); clear H a; intro a H
      rcases Bool.eq_false_or_eq_true (decide (x536.Wait = 3)) with hg537 | hg537
      · replace H := H.know 27 rfl hg537
        replace hm := condT hm hg537
        refine n_yes H rfl rfl (n_q H (q_move rfl) rfl (W_yes rfl rfl (W_q (q_geq rfl rfl) rfl (W_q (q_pickT rfl rfl) rfl (W_q (q_move rfl) rfl ?_))))); clear H a; intro a H
        rcases Bool.eq_false_or_eq_true (decide (0 ≤ x33.Obj)) with hg538 | hg538
        · replace H := H.know 31 rfl hg538
          replace hm := condT hm hg538
          refine n_yes H rfl rfl (n_q H (q_move rfl) rfl (W_yes rfl rfl (W_q (q_fieldAddr0 rfl fo34_7) rfl (W_yes rfl rfl (W_q (q_load rfl ((hS.blk 1 rfl).ld ag25 rfl)) rfl (W_yes rfl rfl ?_)))))); clear H a; intro a H
          obtain ⟨A539, c539, hv539, hl539, hm539⟩ := SlR.formV (hrp1_4.ext (Flat.mono _) hS.x)
          refine n_q H (q_lenV Tryz.underlying25 rfl hv539) rfl (W_yes rfl rfl (W_q (q_fieldAddr0 rfl fo27_6) rfl (W_yes rfl rfl (W_q (q_load rfl ((hS.blk 0 rfl).ld ag25 rfl)) rfl (W_yes rfl rfl ?_))))); clear H a; intro a H
          obtain ⟨A540, c540, hv540, hl540, hm540⟩ := SlR.formV (hrp0_3.ext (Flat.mono _) hS.x)
          refine n_q H (q_lenV Tryz.underlying25 rfl hv540) rfl (W_yes rfl rfl ?_); clear H a; intro a H
          replace hm := bindS hm; obtain ⟨r541, hr541, hm⟩ := hm
          refine n_call H rfl en207 (g_r11_both_w (A := A) hr541) rfl ?_
          clear H; intro x544 w542 hv; clear a; intro a H; obtain ⟨rfl, hE543⟩ := hv
          replace hS := hS.ext hE543
          refine n_yes H rfl rfl (n_q H (q_lss rfl rfl) rfl (W_q (q_pickT rfl rfl) rfl (W_q (q_move rfl) rfl ?_))); clear H a; intro a H
          rcases Bool.eq_false_or_eq_true (decide (x33.Obj < r541)) with hg545 | hg545
          · replace H := H.know 42 rfl hg545
            replace hm := condT hm hg545
            refine n_yes H rfl rfl (n_q H (q_fieldAddr0 rfl fo34_7) rfl (W_yes rfl rfl (W_q (q_load rfl ((hS.blk 1 rfl).ld ag25 rfl)) rfl (W_yes rfl rfl (W_q (q_move rfl) rfl (W_yes rfl rfl ?_)))))); clear H a; intro a H
            replace hm := bindS hm; obtain ⟨x546, hx546, hm⟩ := hm
            obtain ⟨h0x546, h1x546, hxx546⟩ := rdI_some hx546
            obtain ⟨adx546, hAx546⟩ := SlR.adV (hrp1_4.ext (Flat.mono _) hS.x) hv539 hxx546
            refine n_q H (q_ixVI Tryz.underlying25 sz3 rfl hv539 hAx546 rfl h0x546 h1x546) rfl (W_yes rfl rfl (W_q (q_load rfl (SlR.ldOneV (hrp1_4.ext (Flat.mono _) hS.x) hv539 hAx546 ag3 hxx546 rfl)) rfl (W_yes rfl rfl (W_q (q_neqD rfl rfl) rfl (W_q (q_pickT rfl rfl) rfl ?_))))); clear H a; intro a H
            refine n_nil (then_normal ?_)
            obtain rfl := Option.some.inj hm; replace hm := hm34; try dsimp only at hm
            exact join (!decide (x546 = 0)) H ⟨rfl, rfl, rfl, rfl, trivial⟩ ⟨hm, hS⟩
          · replace H := H.know 42 rfl hg545
            replace hm := condF hm hg545
            refine n_no H rfl rfl (by decide) rfl (W_no rfl rfl (by decide) rfl (W_no rfl rfl (by decide) rfl (W_no rfl rfl (by decide) rfl (W_no rfl rfl (by decide) rfl (W_no rfl rfl (by decide) rfl (W_q (q_pickF rfl rfl) rfl ?_)))))); clear H a; intro a H
            refine n_nil (then_normal ?_)
            obtain rfl := Option.some.inj hm; replace hm := hm34; try dsimp only at hm
            exact join false H ⟨rfl, rfl, rfl, rfl, trivial⟩ ⟨hm, hS⟩
        · replace H := H.know 31 rfl hg538
          replace hm := condF hm hg538
          refine n_no H rfl rfl (by decide) rfl (W_no rfl rfl (by decide) rfl (W_no rfl rfl (by decide) rfl (W_no rfl rfl (by decide) rfl (W_no rfl rfl (by decide) rfl (W_no rfl rfl (by decide) rfl (W_no rfl rfl (by decide) rfl (W_no rfl rfl (by decide) rfl (W_no rfl rfl (by decide) rfl (W_q (q_pickF rfl rfl) rfl (W_q (q_move rfl) rfl (W_no rfl rfl (by decide) rfl ?_))))))))))); clear H a; intro a H
          refine n_no H rfl rfl (by decide) rfl (W_no rfl rfl (by decide) rfl (W_no rfl rfl (by decide) rfl (W_no rfl rfl (by decide) rfl (W_no rfl rfl (by decide) rfl (W_q (q_pickF rfl rfl) rfl ?_))))); clear H a; intro a H
          refine n_nil (then_normal ?_)
          obtain rfl := Option.some.inj hm; replace hm := hm34; try dsimp only at hm
          exact join false H ⟨rfl, rfl, rfl, rfl, trivial⟩ ⟨hm, hS⟩
      · replace H := H.know 27 rfl hg537
        replace hm := condF hm hg537
        refine n_no H rfl rfl (by decide) rfl (W_no rfl rfl (by decide) rfl (W_q (q_pickF rfl rfl) rfl (W_q (q_move rfl) rfl (W_no rfl rfl (by decide) rfl (W_no rfl rfl (by decide) rfl (W_no rfl rfl (by decide) rfl (W_no rfl rfl (by decide) rfl (W_no rfl rfl (by decide) rfl (W_no rfl rfl (by decide) rfl (W_no rfl rfl (by decide) rfl (W_no rfl rfl (by decide) rfl ?_))))))))))); clear H a; intro a H
        refine n_no H rfl rfl (by decide) rfl (W_q (q_pickF rfl rfl) rfl (W_q (q_move rfl) rfl (W_no rfl rfl (by decide) rfl (W_no rfl rfl (by decide) rfl (W_no rfl rfl (by decide) rfl (W_no rfl rfl (by decide) rfl (W_no rfl rfl (by decide) rfl (W_no rfl rfl (by decide) rfl (W_q (q_pickF rfl rfl) rfl ?_))))))))); clear H a; intro a H
        refine n_nil (then_normal ?_)
        obtain rfl := Option.some.inj hm; replace hm := hm34; try dsimp only at hm
        exact join false H ⟨rfl, rfl, rfl, rfl, trivial⟩ ⟨hm, hS⟩
    · clear H hS hm a; intro q535 a w547 H hR
      simp only [ent, List.map_cons, List.map_nil] at H; (try dsimp only at hR); obtain ⟨hm, hS⟩ := hR; try dsimp only [g_r11_rule15_J6] at hm
      refine c_cond H rfl (fun hc548 => ?_) (fun hc548 => ?_)
      · replace hm := condT hm hc548
        refine wp_seq (wp_region_lit (n_q H (q_assign rfl) rfl ?_)); clear H a; intro a H
        refine n_nil (then_normal (wp_ret (block_ret (then_ret (then_ret (block_ret (then_ret ?_)))))))
        obtain rfl := Option.some.inj hm; have hz : _ = q27 := hn27; subst hz; replace hm := hm27; try dsimp only at hm
        obtain rfl := Option.some.inj hm
        replace hS := hS.tk0
        refine ret1 H (.inr rfl) rfl rfl ?_
        exact ⟨rfl, hS.x⟩
      · replace hm := condF hm hc548
        refine wp_skip (block_normal (then_normal (wp_region_lit (n_q H (q_move rfl) rfl (W_q (q_incr (i := i28) (j := 1) rfl rfl (by omega)) rfl (W_q (q_assign rfl) rfl ?_)))))); clear H a; intro a H
        refine n_nil (then_normal ?_)
        obtain rfl := Option.some.inj hm
        exact round (m27, i28 + 1) H ⟨rfl, rfl, rfl, trivial⟩ ⟨hn27, hS⟩ (Nat.lt_succ_self _)
  · replace hm := condF hm hc31
    refine wp_exit (then_exit (then_exit (block_exit ?_)))
    obtain rfl := Option.some.inj hm; have hz : _ = q27 := hn27; subst hz; replace hm := hm27; try dsimp only at hm
    refine then_normal (wp_seq (wp_region_lit (n_q H (q_assign rfl) rfl ?_))); clear H a; intro a H
    refine n_nil (then_normal (wp_ret ?_))
    obtain rfl := Option.some.inj hm
    replace hS := hS.tk0
    refine ret1 H (.inr rfl) rfl rfl ?_
    exact ⟨rfl, hS.x⟩
theorem g_r11_rule16_w {w : World} {A : Nat → Addr} {cs0 : List Value} {a0 : GPlan} {cs1 : List Value} {a1 : GState} (h0 : RGPlan w cs0 a0) (h1 : RGState w cs1 a1) {r : Bool} (hm : g_r11_rule16 a0 a1 = some r) :
    Calls Tryz.prog 184 [.agg cs0.toArray, .agg cs1.toArray].toArray w (Ret fun u w' => u = .bool r ∧ Ext w w') := by
  obtain ⟨vp0_0, vp0_1, vp0_2, vp0_3, rfl, hrp0_0, hrp0_1, hrp0_2, hrp0_3⟩ := h0
  obtain ⟨vp1_0, vp1_1, vp1_2, vp1_3, vp1_4, vp1_5, vp1_6, rfl, hrp1_0, hrp1_1, hrp1_2, hrp1_3, hrp1_4, hrp1_5, hrp1_6⟩ := h1
  have hS := St.begin NB w
  unfold g_r11_rule16 at hm
  refine enter Tryz.func184 rfl rfl rfl ?_; intro a H; dsimp only [enumL, Nat.zero_add, Nat.reduceAdd] at H
  refine wp_seq (wp_region_lit (n_box H rfl (cs := [.int .i64 a0.Id, .bool a0.Mobile, vp0_0, vp0_1, vp0_2, .int .i64 a0.Events, vp0_3]) rfl rfl ?_))
  clear H; intro b21 w22 hN hE23 hs; clear a; intro a H
  replace hS := hS.newBlk hN hE23 hs; clear hN hs
  refine n_box H rfl (cs := [.int .i64 a1.Id, .int .i64 a1.Frame, .int .i64 a1.Epoch, vp1_0, vp1_1, vp1_2, vp1_3, vp1_4, vp1_5, vp1_6]) rfl rfl ?_
  clear H; intro b24 w25 hN hE26 hs; clear a; intro a H
  replace hS := hS.newBlk hN hE26 hs; clear hN hs
  refine n_q H (q_assign rfl) rfl ?_; clear H a; intro a H
  refine n_nil (then_normal (wp_seq (wp_seq (wp_region_lit (n_q H (q_assign rfl) rfl ?_))))); clear H a; intro a H
  refine n_nil (then_normal (wp_block ?_))
  replace hS := hS.pk1
  replace hm := bindS hm; obtain ⟨q27, hm, hm27⟩ := hm; replace hm := iter_some hm; obtain ⟨n27, hm⟩ := hm
  refine c_loop (σ := Nat × Nat) (fun (m, i28) => [(2, .pointer (some ⟨b21, 0, none⟩)), (3, .pointer (some ⟨b24, 0, none⟩)), (5, .int .i64 ((i28 : Nat) : Int))]) (fun (m, i28) wl => iterN (g_r11_rule16_L31 a0 a1) m i28 = some q27 ∧ St NB w wl [blkR b21 [.int .i64 a0.Id, .bool a0.Mobile, vp0_0, vp0_1, vp0_2, .int .i64 a0.Events, vp0_3] 27, blkR b24 [.int .i64 a1.Id, .int .i64 a1.Frame, .int .i64 a1.Epoch, vp1_0, vp1_1, vp1_2, vp1_3, vp1_4, vp1_5, vp1_6] 34]) (fun (m, i28) => m) (n27, 0) H ⟨rfl, rfl, rfl, trivial⟩ ⟨hm, hS⟩ ?_
  clear H hS hm a; intro xx a w29 H hR; obtain ⟨m, i28⟩ := xx; simp only [ent, List.map_cons, List.map_nil] at H; (try dsimp only at hR); obtain ⟨hm, hS⟩ := hR
  replace hm := iterN_step hm; obtain ⟨m27, o27, rfl, hm, hn27⟩ := hm; try dsimp only [g_r11_rule16_L31] at hm
  refine wp_seq (wp_seq (wp_region_lit (n_q H (q_move rfl) rfl (W_q (q_fieldAddr0 rfl fo34_3) rfl (W_q (q_load rfl ((hS.blk 1 rfl).ld ag28 rfl)) rfl ?_))))); clear H a; intro a H
  obtain ⟨A30, c30, hv30, hl30, hm30⟩ := SlR.formV (hrp1_0.ext (Flat.mono _) hS.x)
  refine n_q H (q_lenV Tryz.underlying28 rfl hv30) rfl (W_q (q_lssN (i := i28) (j := a1.Procs.length) rfl rfl) rfl ?_); clear H a; intro a H
  refine n_nil (then_normal (c_cond H rfl (fun hc31 => ?_) (fun hc31 => ?_)))
  · replace hm := condT hm hc31
    have hlt32 : i28 < a1.Procs.length := of_decide_eq_true hc31
    refine wp_skip (then_normal ?_)
    replace hm := bindS hm; obtain ⟨j33, hm, hm33⟩ := hm
    refine c_join (σ := Unit) H (fun u_ => [(2, .pointer (some ⟨b21, 0, none⟩)), (3, .pointer (some ⟨b24, 0, none⟩)), (5, .int .i64 ((i28 : Nat) : Int))]) (fun u_ wl => (g_r11_rule16_J30 i28) () = some o27 ∧ St NB w wl [blkR b21 [.int .i64 a0.Id, .bool a0.Mobile, vp0_0, vp0_1, vp0_2, .int .i64 a0.Events, vp0_3] 27, blkR b24 [.int .i64 a1.Id, .int .i64 a1.Frame, .int .i64 a1.Epoch, vp1_0, vp1_1, vp1_2, vp1_3, vp1_4, vp1_5, vp1_6] 34]) ?_ ?_
    · skip
      refine wp_block (wp_seq (wp_region_lit (n_q H (q_fieldAddr0 rfl fo34_3) rfl (W_q (q_load rfl ((hS.blk 1 rfl).ld ag28 rfl)) rfl (W_q (q_move rfl) rfl ?_))))); clear H a; intro a H
      replace hm := bindS hm; obtain ⟨x534, hx534, hm⟩ := hm
      obtain ⟨adx534, hAx534⟩ := SlR.adV (hrp1_0.ext (Flat.mono _) hS.x) hv30 hx534
      refine n_q H (q_ixV (i := i28) Tryz.underlying28 sz158 rfl hv30 hAx534 rfl (natI hx534)) rfl (W_q (q_fieldAddr rfl fo158_5) rfl (W_q (q_load rfl (SlR.ldCellV (j := 20) (u := Value.int .i64 x534.Obj) (hrp1_0.ext (Flat.mono _) hS.x) hv30 hAx534 ag3 hx534 (by simp [eGProc]))) rfl (W_q (q_assign rfl) rfl ?_))); clear H a; intro a H
      refine n_nil (then_normal (wp_seq ?_))
      replace hm := bindS hm; obtain ⟨j535, hm, hm535⟩ := hm
      refine c_join (σ := Bool) H (fun q1036 => [(2, .pointer (some ⟨b21, 0, none⟩)), (3, .pointer (some ⟨b24, 0, none⟩)), (5, .int .i64 ((i28 : Nat) : Int)), (6, .int .i64 x534.Obj), (42, .bool q1036)]) (fun q1036 wl => (g_r11_rule16_J29 a0 a1 x534) q1036 = some j33 ∧ St NB w wl [blkR b21 [.int .i64 a0.Id, .bool a0.Mobile, vp0_0, vp0_1, vp0_2, .int .i64 a0.Events, vp0_3] 27, blkR b24 [.int .i64 a1.Id, .int .i64 a1.Frame, .int .i64 a1.Epoch, vp1_0, vp1_1, vp1_2, vp1_3, vp1_4, vp1_5, vp1_6] 34]) ?_ ?_
      · skip
        refine wp_region_lit (n_q H (q_fieldAddr0 rfl fo34_3) rfl (W_q (q_load rfl ((hS.blk 1 rfl).ld ag28 rfl)) rfl (W_q (q_move rfl) rfl ?_))); clear H a; intro a H
        replace hm := bindS hm; obtain ⟨x1037, hx1037, hm⟩ := hm
        obtain ⟨adx1037, hAx1037⟩ := SlR.adV (hrp1_0.ext (Flat.mono _) hS.x) hv30 hx1037
        refine n_q H (q_ixV (i := i28) Tryz.underlying28 sz158 rfl hv30 hAx1037 rfl (natI hx1037)) rfl (W_q (q_fieldAddr rfl fo158_4) rfl (W_q (q_load rfl (SlR.ldCellV (j := 19) (u := Value.int .i64 x1037.Wait) (hrp1_0.ext (Flat.mono _) hS.x) hv30 hAx1037 ag3 hx1037 (by simp [eGProc]))) rfl (W_q (q_neqD rfl rfl) rfl (W_q (q_move rfl) rfl ?_)))); clear H a; intro a H
        rcases Bool.eq_false_or_eq_true (!decide (x1037.Wait = 4)) with hg1038 | hg1038
        · replace H := H.know 28 rfl hg1038
          replace hm := condT hm hg1038
          refine n_no H rfl rfl (by decide) rfl (W_no rfl rfl (by decide) rfl (W_q (q_pickT rfl rfl) rfl (W_q (q_move rfl) rfl (W_no rfl rfl (by decide) rfl (W_no rfl rfl (by decide) rfl (W_no rfl rfl (by decide) rfl (W_no rfl rfl (by decide) rfl (W_no rfl rfl (by decide) rfl (W_no rfl rfl (by decide) rfl (W_no rfl rfl (by decide) rfl (W_no rfl rfl (by decide) rfl ?_))))))))))); clear H a; intro a H
          refine n_no H rfl rfl (by decide) rfl (W_q (q_pickT rfl rfl) rfl ?_); clear H a; intro a H
          refine n_nil (then_normal ?_)
          obtain rfl := Option.some.inj hm; replace hm := hm535; try dsimp only at hm
          exact join true H ⟨rfl, rfl, rfl, rfl, rfl, trivial⟩ ⟨hm, hS⟩
        · replace H := H.know 28 rfl hg1038
          replace hm := condF hm hg1038
          refine n_yes H rfl rfl (n_q H (q_move rfl) rfl (W_yes rfl rfl (W_q (q_lss rfl rfl) rfl (W_q (q_pickF rfl rfl) rfl (W_q (q_move rfl) rfl ?_))))); clear H a; intro a H
          rcases Bool.eq_false_or_eq_true (decide (x534.Obj < 0)) with hg1039 | hg1039
          · replace H := H.know 32 rfl hg1039
            replace hm := condT hm hg1039
            refine n_no H rfl rfl (by decide) rfl (W_no rfl rfl (by decide) rfl (W_no rfl rfl (by decide) rfl (W_no rfl rfl (by decide) rfl (W_no rfl rfl (by decide) rfl (W_no rfl rfl (by decide) rfl (W_no rfl rfl (by decide) rfl (W_no rfl rfl (by decide) rfl (W_no rfl rfl (by decide) rfl (W_q (q_pickT rfl rfl) rfl ?_))))))))); clear H a; intro a H
            refine n_nil (then_normal ?_)
            obtain rfl := Option.some.inj hm; replace hm := hm535; try dsimp only at hm
            exact join true H ⟨rfl, rfl, rfl, rfl, rfl, trivial⟩ ⟨hm, hS⟩
          · replace H := H.know 32 rfl hg1039
            replace hm := condF hm hg1039
            refine n_yes H rfl rfl (n_q H (q_move rfl) rfl (W_yes rfl rfl (W_q (q_fieldAddr0 rfl fo34_8) rfl (W_yes rfl rfl (W_q (q_load rfl ((hS.blk 1 rfl).ld ag31 rfl)) rfl (W_yes rfl rfl ?_)))))); clear H a; intro a H
            obtain ⟨A1040, c1040, hv1040, hl1040, hm1040⟩ := SlR.formV (hrp1_5.ext RGPort.mono hS.x)
            refine n_q H (q_lenV Tryz.underlying31 rfl hv1040) rfl (W_yes rfl rfl (W_q (q_fieldAddr0 rfl fo27_4) rfl (W_yes rfl rfl (W_q (q_load rfl ((hS.blk 0 rfl).ld ag24 rfl)) rfl (W_yes rfl rfl ?_))))); clear H a; intro a H
            obtain ⟨A1041, c1041, hv1041, hl1041, hm1041⟩ := SlR.formV (hrp0_2.ext (Flat.mono _) hS.x)
            refine n_q H (q_lenV Tryz.underlying24 rfl hv1041) rfl (W_yes rfl rfl ?_); clear H a; intro a H
            replace hm := bindS hm; obtain ⟨r1042, hr1042, hm⟩ := hm
            refine n_call H rfl en207 (g_r11_both_w (A := A) hr1042) rfl ?_
            clear H; intro x1045 w1043 hv; clear a; intro a H; obtain ⟨rfl, hE1044⟩ := hv
            replace hS := hS.ext hE1044
            refine n_yes H rfl rfl (n_q H (q_geq rfl rfl) rfl (W_q (q_pickF rfl rfl) rfl ?_)); clear H a; intro a H
            refine n_nil (then_normal ?_)
            obtain rfl := Option.some.inj hm; replace hm := hm535; try dsimp only at hm
            exact join (decide (r1042 ≤ x534.Obj)) H ⟨rfl, rfl, rfl, rfl, rfl, trivial⟩ ⟨hm, hS⟩
      · clear H hS hm a; intro q1036 a w1046 H hR
        simp only [ent, List.map_cons, List.map_nil] at H; (try dsimp only at hR); obtain ⟨hm, hS⟩ := hR; try dsimp only [g_r11_rule16_J29] at hm
        refine c_cond H rfl (fun hc1047 => ?_) (fun hc1047 => ?_)
        · replace hm := condT hm hc1047
          refine wp_exit (then_exit (block_exit (then_normal ?_)))
          obtain rfl := Option.some.inj hm; replace hm := hm33; try dsimp only at hm
          exact join () H ⟨rfl, rfl, rfl, trivial⟩ ⟨hm, hS⟩
        · replace hm := condF hm hc1047
          refine wp_skip (then_normal (wp_seq (wp_region_lit (n_q H (q_fieldAddr0 rfl fo34_8) rfl (W_q (q_load rfl ((hS.blk 1 rfl).ld ag31 rfl)) rfl (W_q (q_move rfl) rfl ?_)))))); clear H a; intro a H
          obtain ⟨A1048, c1048, hv1048, hl1048, hm1048⟩ := SlR.formV (hrp1_5.ext RGPort.mono hS.x)
          replace hm := bindS hm; obtain ⟨x1049, hx1049, hm⟩ := hm
          obtain ⟨h0x1049, h1x1049, hxx1049⟩ := rdI_some hx1049
          obtain ⟨adx1049, hAx1049⟩ := SlR.adV (hrp1_5.ext RGPort.mono hS.x) hv1048 hxx1049
          obtain ⟨csx1049, hclx1049, ⟨vx1049_0, rfl, hrx1049_0⟩, hcx1049⟩ := SlR.elV hrp1_5 hv1048 hAx1049 hxx1049
          refine n_q H (q_ixVI Tryz.underlying31 sz154 rfl hv1048 hAx1049 rfl h0x1049 h1x1049) rfl (W_q (q_fieldAddr rfl fo154_0) rfl (W_q (q_load rfl (LdX.ext (ldElC (j := 0) ag151 hcx1049 rfl) hS.x)) rfl ?_)); clear H a; intro a H
          obtain ⟨A1050, c1050, hv1050, hl1050, hm1050⟩ := SlR.formV (hrx1049_0.ext (Flat.mono _) hS.x)
          refine n_q H (q_lenV Tryz.underlying151 rfl hv1050) rfl (W_q (q_assign rfl) rfl ?_); clear H a; intro a H
          refine n_nil (then_normal ?_)
          replace hm := bindS hm; obtain ⟨j1051, hm, hm1051⟩ := hm
          refine c_join (σ := Bool) H (fun q1552 => [(2, .pointer (some ⟨b21, 0, none⟩)), (3, .pointer (some ⟨b24, 0, none⟩)), (5, .int .i64 ((i28 : Nat) : Int)), (79, .bool q1552)]) (fun q1552 wl => g_r11_rule16_J28 q1552 = some j33 ∧ St NB w wl [blkR b21 [.int .i64 a0.Id, .bool a0.Mobile, vp0_0, vp0_1, vp0_2, .int .i64 a0.Events, vp0_3] 27, blkR b24 [.int .i64 a1.Id, .int .i64 a1.Frame, .int .i64 a1.Epoch, vp1_0, vp1_1, vp1_2, vp1_3, vp1_4, vp1_5, vp1_6] 34]) ?_ ?_
          · skip
            refine wp_region_lit (n_q H (q_fieldAddr0 rfl fo27_4) rfl (W_q (q_load rfl ((hS.blk 0 rfl).ld ag24 rfl)) rfl (W_q (q_move rfl) rfl ?_))); clear H a; intro a H
            obtain ⟨A1553, c1553, hv1553, hl1553, hm1553⟩ := SlR.formV (hrp0_2.ext (Flat.mono _) hS.x)
            replace hm := bindS hm; obtain ⟨x1554, hx1554, hm⟩ := hm
            obtain ⟨h0x1554, h1x1554, hxx1554⟩ := rdI_some hx1554
            obtain ⟨adx1554, hAx1554⟩ := SlR.adV (hrp0_2.ext (Flat.mono _) hS.x) hv1553 hxx1554
            refine n_q H (q_ixVI Tryz.underlying24 sz171 rfl hv1553 hAx1554 rfl h0x1554 h1x1554) rfl (W_q (q_fieldAddr rfl fo171_0) rfl (W_q (q_load rfl (SlR.ldCellV (j := 0) (hrp0_2.ext (Flat.mono _) hS.x) hv1553 hAx1554 ag3 hxx1554 rfl)) rfl (W_q (q_eqlD rfl rfl) rfl (W_q (q_move rfl) rfl ?_)))); clear H a; intro a H
            rcases Bool.eq_false_or_eq_true (decide (x1554.Kind = 3)) with hg1555 | hg1555
            · replace H := H.know 57 rfl hg1555
              replace hm := condT hm hg1555
              refine n_yes H rfl rfl (n_q H (q_move rfl) rfl (W_yes rfl rfl (W_q (q_neqN (i := x1049.Msgs.length) (j := 0) rfl rfl) rfl (W_q (q_pickT rfl rfl) rfl (W_q (q_move rfl) rfl ?_))))); clear H a; intro a H
              rcases Bool.eq_false_or_eq_true (!decide (x1049.Msgs.length = 0)) with hg1556 | hg1556
              · replace H := H.know 61 rfl hg1556
                replace hm := condT hm hg1556
                refine n_no H rfl rfl (by decide) rfl (W_no rfl rfl (by decide) rfl (W_no rfl rfl (by decide) rfl (W_no rfl rfl (by decide) rfl (W_no rfl rfl (by decide) rfl (W_no rfl rfl (by decide) rfl (W_no rfl rfl (by decide) rfl (W_no rfl rfl (by decide) rfl (W_noU rfl rfl rfl (W_noU rfl rfl rfl (W_noU rfl rfl rfl (W_noU rfl rfl rfl ?_))))))))))); clear H a; intro a H
                refine n_noU H rfl rfl rfl (W_noU rfl rfl rfl (W_noU rfl rfl rfl (W_noU rfl rfl rfl (W_no rfl rfl (by decide) rfl (W_q (q_pickT rfl rfl) rfl ?_))))); clear H a; intro a H
                refine n_nil (then_normal ?_)
                obtain rfl := Option.some.inj hm; replace hm := hm1051; try dsimp only at hm
                exact join true H ⟨rfl, rfl, rfl, rfl, trivial⟩ ⟨hm, hS⟩
              · replace H := H.know 61 rfl hg1556
                replace hm := condF hm hg1556
                refine n_yes H rfl rfl (n_q H (q_fieldAddr0 rfl fo27_4) rfl (W_yes rfl rfl (W_q (q_load rfl ((hS.blk 0 rfl).ld ag24 rfl)) rfl (W_yes rfl rfl (W_q (q_move rfl) rfl (W_yes rfl rfl ?_)))))); clear H a; intro a H
                replace hm := bindS hm; obtain ⟨x1557, hx1557, hm⟩ := hm
                obtain ⟨h0x1557, h1x1557, hxx1557⟩ := rdI_some hx1557
                obtain ⟨adx1557, hAx1557⟩ := SlR.adV (hrp0_2.ext (Flat.mono _) hS.x) hv1553 hxx1557
                refine n_q H (q_ixVI Tryz.underlying24 sz171 rfl hv1553 hAx1557 rfl h0x1557 h1x1557) rfl (W_yes rfl rfl (W_q (q_fieldAddr rfl fo171_0) rfl (W_yes rfl rfl (W_q (q_load rfl (SlR.ldCellV (j := 0) (hrp0_2.ext (Flat.mono _) hS.x) hv1553 hAx1557 ag3 hxx1557 rfl)) rfl (W_yes rfl rfl (W_q (q_eqlD rfl rfl) rfl (W_yes rfl rfl (W_q (q_move rfl) rfl ?_)))))))); clear H a; intro a H
                rcases Bool.eq_false_or_eq_true (decide (x1557.Kind = 4)) with hg1558 | hg1558
                · replace H := H.know 69 rfl hg1558
                  replace hm := condT hm hg1558
                  refine n_yes H rfl rfl (n_q H (q_move rfl) rfl (W_yes rfl rfl (W_q (q_fieldAddr0 rfl fo27_4) rfl (W_yes rfl rfl (W_q (q_load rfl ((hS.blk 0 rfl).ld ag24 rfl)) rfl (W_yes rfl rfl (W_q (q_move rfl) rfl (W_yes rfl rfl ?_)))))))); clear H a; intro a H
                  replace hm := bindS hm; obtain ⟨x1559, hx1559, hm⟩ := hm
                  obtain ⟨h0x1559, h1x1559, hxx1559⟩ := rdI_some hx1559
                  obtain ⟨adx1559, hAx1559⟩ := SlR.adV (hrp0_2.ext (Flat.mono _) hS.x) hv1553 hxx1559
                  refine n_q H (q_ixVI Tryz.underlying24 sz171 rfl hv1553 hAx1559 rfl h0x1559 h1x1559) rfl (W_yes rfl rfl (W_q (q_fieldAddr rfl fo171_2) rfl (W_yes rfl rfl (W_q (q_load rfl (SlR.ldCellV (j := 2) (hrp0_2.ext (Flat.mono _) hS.x) hv1553 hAx1559 ag3 hxx1559 rfl)) rfl (W_yes rfl rfl (W_q (q_neqD rfl rfl) rfl (W_yes rfl rfl (W_q (q_pickT rfl rfl) rfl (W_q (q_pickF rfl rfl) rfl ?_))))))))); clear H a; intro a H
                  refine n_nil (then_normal ?_)
                  obtain rfl := Option.some.inj hm; replace hm := hm1051; try dsimp only at hm
                  exact join (!decide (((x1049.Msgs.length : Nat) : Int) = x1559.Depth)) H ⟨rfl, rfl, rfl, rfl, trivial⟩ ⟨hm, hS⟩
                · replace H := H.know 69 rfl hg1558
                  replace hm := condF hm hg1558
                  refine n_no H rfl rfl (by decide) rfl (W_no rfl rfl (by decide) rfl (W_no rfl rfl (by decide) rfl (W_no rfl rfl (by decide) rfl (W_no rfl rfl (by decide) rfl (W_no rfl rfl (by decide) rfl (W_no rfl rfl (by decide) rfl (W_no rfl rfl (by decide) rfl (W_yes rfl rfl (W_q (q_pickF rfl rfl) rfl (W_q (q_pickF rfl rfl) rfl ?_)))))))))); clear H a; intro a H
                  refine n_nil (then_normal ?_)
                  obtain rfl := Option.some.inj hm; replace hm := hm1051; try dsimp only at hm
                  exact join false H ⟨rfl, rfl, rfl, rfl, trivial⟩ ⟨hm, hS⟩
            · replace H := H.know 57 rfl hg1555
              replace hm := condF hm hg1555
              refine n_no H rfl rfl (by decide) rfl (W_no rfl rfl (by decide) rfl (W_q (q_pickF rfl rfl) rfl (W_q (q_move rfl) rfl (W_yes rfl rfl (W_q (q_fieldAddr0 rfl fo27_4) rfl (W_yes rfl rfl (W_q (q_load rfl ((hS.blk 0 rfl).ld ag24 rfl)) rfl (W_yes rfl rfl (W_q (q_move rfl) rfl (W_yes rfl rfl ?_)))))))))); clear H a; intro a H
              replace hm := bindS hm; obtain ⟨x1560, hx1560, hm⟩ := hm
              obtain ⟨h0x1560, h1x1560, hxx1560⟩ := rdI_some hx1560
              obtain ⟨adx1560, hAx1560⟩ := SlR.adV (hrp0_2.ext (Flat.mono _) hS.x) hv1553 hxx1560
              refine n_q H (q_ixVI Tryz.underlying24 sz171 rfl hv1553 hAx1560 rfl h0x1560 h1x1560) rfl (W_yes rfl rfl (W_q (q_fieldAddr rfl fo171_0) rfl (W_yes rfl rfl (W_q (q_load rfl (SlR.ldCellV (j := 0) (hrp0_2.ext (Flat.mono _) hS.x) hv1553 hAx1560 ag3 hxx1560 rfl)) rfl (W_yes rfl rfl (W_q (q_eqlD rfl rfl) rfl (W_yes rfl rfl (W_q (q_move rfl) rfl ?_)))))))); clear H a; intro a H
              rcases Bool.eq_false_or_eq_true (decide (x1560.Kind = 4)) with hg1561 | hg1561
              · replace H := H.know 69 rfl hg1561
                replace hm := condT hm hg1561
                refine n_yes H rfl rfl (n_q H (q_move rfl) rfl (W_yes rfl rfl (W_q (q_fieldAddr0 rfl fo27_4) rfl (W_yes rfl rfl (W_q (q_load rfl ((hS.blk 0 rfl).ld ag24 rfl)) rfl (W_yes rfl rfl (W_q (q_move rfl) rfl (W_yes rfl rfl ?_)))))))); clear H a; intro a H
                replace hm := bindS hm; obtain ⟨x1562, hx1562, hm⟩ := hm
                obtain ⟨h0x1562, h1x1562, hxx1562⟩ := rdI_some hx1562
                obtain ⟨adx1562, hAx1562⟩ := SlR.adV (hrp0_2.ext (Flat.mono _) hS.x) hv1553 hxx1562
                refine n_q H (q_ixVI Tryz.underlying24 sz171 rfl hv1553 hAx1562 rfl h0x1562 h1x1562) rfl (W_yes rfl rfl (W_q (q_fieldAddr rfl fo171_2) rfl (W_yes rfl rfl (W_q (q_load rfl (SlR.ldCellV (j := 2) (hrp0_2.ext (Flat.mono _) hS.x) hv1553 hAx1562 ag3 hxx1562 rfl)) rfl (W_yes rfl rfl (W_q (q_neqD rfl rfl) rfl (W_yes rfl rfl (W_q (q_pickT rfl rfl) rfl (W_q (q_pickF rfl rfl) rfl ?_))))))))); clear H a; intro a H
                refine n_nil (then_normal ?_)
                obtain rfl := Option.some.inj hm; replace hm := hm1051; try dsimp only at hm
                exact join (!decide (((x1049.Msgs.length : Nat) : Int) = x1562.Depth)) H ⟨rfl, rfl, rfl, rfl, trivial⟩ ⟨hm, hS⟩
              · replace H := H.know 69 rfl hg1561
                replace hm := condF hm hg1561
                refine n_no H rfl rfl (by decide) rfl (W_no rfl rfl (by decide) rfl (W_no rfl rfl (by decide) rfl (W_no rfl rfl (by decide) rfl (W_no rfl rfl (by decide) rfl (W_no rfl rfl (by decide) rfl (W_no rfl rfl (by decide) rfl (W_no rfl rfl (by decide) rfl (W_yes rfl rfl (W_q (q_pickF rfl rfl) rfl (W_q (q_pickF rfl rfl) rfl ?_)))))))))); clear H a; intro a H
                refine n_nil (then_normal ?_)
                obtain rfl := Option.some.inj hm; replace hm := hm1051; try dsimp only at hm
                exact join false H ⟨rfl, rfl, rfl, rfl, trivial⟩ ⟨hm, hS⟩
          · clear H hS hm a; intro q1552 a w1563 H hR
            simp only [ent, List.map_cons, List.map_nil] at H; (try dsimp only at hR); obtain ⟨hm, hS⟩ := hR; try dsimp only [g_r11_rule16_J28] at hm
            refine c_cond H rfl (fun hc1564 => ?_) (fun hc1564 => ?_)
            · replace hm := condT hm hc1564
              refine wp_seq (wp_region_lit (n_q H (q_assign rfl) rfl ?_)); clear H a; intro a H
              refine n_nil (then_normal (wp_ret (block_ret (then_ret (then_ret (block_ret (then_ret ?_)))))))
              obtain rfl := Option.some.inj hm; replace hm := hm33; try dsimp only at hm
              obtain rfl := Option.some.inj hm; have hz : _ = q27 := hn27; subst hz; replace hm := hm27; try dsimp only at hm
              obtain rfl := Option.some.inj hm
              replace hS := hS.tk0
              refine ret1 H (.inr rfl) rfl rfl ?_
              exact ⟨rfl, hS.x⟩
            · replace hm := condF hm hc1564
              refine wp_skip (block_normal (then_normal ?_))
              obtain rfl := Option.some.inj hm; replace hm := hm33; try dsimp only at hm
              exact join () H ⟨rfl, rfl, rfl, trivial⟩ ⟨hm, hS⟩
    · clear H hS hm a; intro u_ a w1565 H hR
      simp only [ent, List.map_cons, List.map_nil] at H; (try dsimp only at hR); obtain ⟨hm, hS⟩ := hR; try dsimp only [g_r11_rule16_J30] at hm
      refine wp_region_lit (n_q H (q_move rfl) rfl (W_q (q_incr (i := i28) (j := 1) rfl rfl (by omega)) rfl (W_q (q_assign rfl) rfl ?_))); clear H a; intro a H
      refine n_nil (then_normal ?_)
      obtain rfl := Option.some.inj hm
      exact round (m27, i28 + 1) H ⟨rfl, rfl, rfl, trivial⟩ ⟨hn27, hS⟩ (Nat.lt_succ_self _)
  · replace hm := condF hm hc31
    refine wp_exit (then_exit (then_exit (block_exit ?_)))
    obtain rfl := Option.some.inj hm; have hz : _ = q27 := hn27; subst hz; replace hm := hm27; try dsimp only at hm
    refine then_normal (wp_seq (wp_region_lit (n_q H (q_assign rfl) rfl ?_))); clear H a; intro a H
    refine n_nil (then_normal (wp_ret ?_))
    obtain rfl := Option.some.inj hm
    replace hS := hS.tk0
    refine ret1 H (.inr rfl) rfl rfl ?_
    exact ⟨rfl, hS.x⟩
theorem g_r11_rule17_w {w : World} {A : Nat → Addr} {cs0 : List Value} {a0 : GPlan} {cs1 : List Value} {a1 : GState} (h0 : RGPlan w cs0 a0) (h1 : RGState w cs1 a1) {r : Bool} (hm : g_r11_rule17 a0 a1 = some r) :
    Calls Tryz.prog 185 [.agg cs0.toArray, .agg cs1.toArray].toArray w (Ret fun u w' => u = .bool r ∧ Ext w w') := by
  obtain ⟨vp0_0, vp0_1, vp0_2, vp0_3, rfl, hrp0_0, hrp0_1, hrp0_2, hrp0_3⟩ := h0
  obtain ⟨vp1_0, vp1_1, vp1_2, vp1_3, vp1_4, vp1_5, vp1_6, rfl, hrp1_0, hrp1_1, hrp1_2, hrp1_3, hrp1_4, hrp1_5, hrp1_6⟩ := h1
  have hS := St.begin NB w
  unfold g_r11_rule17 at hm
  refine enter Tryz.func185 rfl rfl rfl ?_; intro a H; dsimp only [enumL, Nat.zero_add, Nat.reduceAdd] at H
  refine wp_seq (wp_region_lit (n_box H rfl (cs := [.int .i64 a0.Id, .bool a0.Mobile, vp0_0, vp0_1, vp0_2, .int .i64 a0.Events, vp0_3]) rfl rfl ?_))
  clear H; intro b21 w22 hN hE23 hs; clear a; intro a H
  replace hS := hS.newBlk hN hE23 hs; clear hN hs
  refine n_box H rfl (cs := [.int .i64 a1.Id, .int .i64 a1.Frame, .int .i64 a1.Epoch, vp1_0, vp1_1, vp1_2, vp1_3, vp1_4, vp1_5, vp1_6]) rfl rfl ?_
  clear H; intro b24 w25 hN hE26 hs; clear a; intro a H
  replace hS := hS.newBlk hN hE26 hs; clear hN hs
  refine n_q H (q_assign rfl) rfl ?_; clear H a; intro a H
  refine n_nil (then_normal (wp_seq (wp_seq (wp_region_lit (n_q H (q_assign rfl) rfl ?_))))); clear H a; intro a H
  refine n_nil (then_normal (wp_block ?_))
  replace hS := hS.pk1
  replace hm := bindS hm; obtain ⟨q27, hm, hm27⟩ := hm; replace hm := iter_some hm; obtain ⟨n27, hm⟩ := hm
  refine c_loop (σ := Nat × Int) (fun (m, z29) => [(2, .pointer (some ⟨b21, 0, none⟩)), (3, .pointer (some ⟨b24, 0, none⟩)), (5, .int .i64 z29)]) (fun (m, z29) wl => iterN (g_r11_rule17_L9 a0 a1) m z29 = some q27 ∧ St NB w wl [blkR b21 [.int .i64 a0.Id, .bool a0.Mobile, vp0_0, vp0_1, vp0_2, .int .i64 a0.Events, vp0_3] 27, blkR b24 [.int .i64 a1.Id, .int .i64 a1.Frame, .int .i64 a1.Epoch, vp1_0, vp1_1, vp1_2, vp1_3, vp1_4, vp1_5, vp1_6] 34]) (fun (m, z29) => m) (n27, 0) H ⟨rfl, rfl, rfl, trivial⟩ ⟨hm, hS⟩ ?_
  clear H hS hm a; intro xx a w30 H hR; obtain ⟨m, z29⟩ := xx; simp only [ent, List.map_cons, List.map_nil] at H; (try dsimp only at hR); obtain ⟨hm, hS⟩ := hR
  replace hm := iterN_step hm; obtain ⟨m27, o27, rfl, hm, hn27⟩ := hm; try dsimp only [g_r11_rule17_L9] at hm
  refine wp_seq (wp_seq (wp_region_lit (n_q H (q_move rfl) rfl (W_q (q_fieldAddr0 rfl fo34_8) rfl (W_q (q_load rfl ((hS.blk 1 rfl).ld ag31 rfl)) rfl ?_))))); clear H a; intro a H
  obtain ⟨A31, c31, hv31, hl31, hm31⟩ := SlR.formV (hrp1_5.ext RGPort.mono hS.x)
  refine n_q H (q_lenV Tryz.underlying31 rfl hv31) rfl (W_q (q_fieldAddr0 rfl fo27_4) rfl (W_q (q_load rfl ((hS.blk 0 rfl).ld ag24 rfl)) rfl ?_)); clear H a; intro a H
  obtain ⟨A32, c32, hv32, hl32, hm32⟩ := SlR.formV (hrp0_2.ext (Flat.mono _) hS.x)
  refine n_q H (q_lenV Tryz.underlying24 rfl hv32) rfl ?_; clear H a; intro a H
  replace hm := bindS hm; obtain ⟨r33, hr33, hm⟩ := hm
  refine n_call H rfl en207 (g_r11_both_w (A := A) hr33) rfl ?_
  clear H; intro x36 w34 hv; clear a; intro a H; obtain ⟨rfl, hE35⟩ := hv
  replace hS := hS.ext hE35
  refine n_q H (q_lss rfl rfl) rfl ?_; clear H a; intro a H
  refine n_nil (then_normal (c_cond H rfl (fun hc37 => ?_) (fun hc37 => ?_)))
  · replace hm := condT hm hc37
    refine wp_skip (then_normal (wp_seq (wp_block ?_)))
    replace hm := bindS hm; obtain ⟨j38, hm, hm38⟩ := hm
    refine c_join (σ := Bool) H (fun q539 => [(2, .pointer (some ⟨b21, 0, none⟩)), (3, .pointer (some ⟨b24, 0, none⟩)), (5, .int .i64 z29), (42, .bool q539)]) (fun q539 wl => (g_r11_rule17_J8 z29) q539 = some o27 ∧ St NB w wl [blkR b21 [.int .i64 a0.Id, .bool a0.Mobile, vp0_0, vp0_1, vp0_2, .int .i64 a0.Events, vp0_3] 27, blkR b24 [.int .i64 a1.Id, .int .i64 a1.Frame, .int .i64 a1.Epoch, vp1_0, vp1_1, vp1_2, vp1_3, vp1_4, vp1_5, vp1_6] 34]) ?_ ?_
    · skip
      refine wp_region_lit (n_q H (q_fieldAddr0 rfl fo27_4) rfl (W_q (q_load rfl ((hS.blk 0 rfl).ld ag24 rfl)) rfl (W_q (q_move rfl) rfl ?_))); clear H a; intro a H
      replace hm := bindS hm; obtain ⟨x540, hx540, hm⟩ := hm
      obtain ⟨h0x540, h1x540, hxx540⟩ := rdI_some hx540
      obtain ⟨adx540, hAx540⟩ := SlR.adV (hrp0_2.ext (Flat.mono _) hS.x) hv32 hxx540
      refine n_q H (q_ixVI Tryz.underlying24 sz171 rfl hv32 hAx540 rfl h0x540 h1x540) rfl (W_q (q_fieldAddr rfl fo171_0) rfl (W_q (q_load rfl (SlR.ldCellV (j := 0) (hrp0_2.ext (Flat.mono _) hS.x) hv32 hAx540 ag3 hxx540 rfl)) rfl (W_q (q_eqlD rfl rfl) rfl (W_q (q_move rfl) rfl ?_)))); clear H a; intro a H
      rcases Bool.eq_false_or_eq_true (decide (x540.Kind = 2)) with hg541 | hg541
      · replace H := H.know 24 rfl hg541
        replace hm := condT hm hg541
        refine n_no H rfl rfl (by decide) rfl (W_no rfl rfl (by decide) rfl (W_no rfl rfl (by decide) rfl (W_no rfl rfl (by decide) rfl (W_no rfl rfl (by decide) rfl (W_no rfl rfl (by decide) rfl (W_no rfl rfl (by decide) rfl (W_q (q_pickT rfl rfl) rfl (W_q (q_move rfl) rfl (W_yes rfl rfl (W_q (q_fieldAddr0 rfl fo34_8) rfl (W_yes rfl rfl ?_))))))))))); clear H a; intro a H
        refine n_q H (q_load rfl ((hS.blk 1 rfl).ld ag31 rfl)) rfl (W_yes rfl rfl (W_q (q_move rfl) rfl (W_yes rfl rfl ?_))); clear H a; intro a H
        replace hm := bindS hm; obtain ⟨x542, hx542, hm⟩ := hm
        obtain ⟨h0x542, h1x542, hxx542⟩ := rdI_some hx542
        obtain ⟨adx542, hAx542⟩ := SlR.adV (hrp1_5.ext RGPort.mono hS.x) hv31 hxx542
        obtain ⟨csx542, hclx542, ⟨vx542_0, rfl, hrx542_0⟩, hcx542⟩ := SlR.elV hrp1_5 hv31 hAx542 hxx542
        refine n_q H (q_ixVI Tryz.underlying31 sz154 rfl hv31 hAx542 rfl h0x542 h1x542) rfl (W_yes rfl rfl (W_q (q_fieldAddr rfl fo154_0) rfl (W_yes rfl rfl (W_q (q_load rfl (LdX.ext (ldElC (j := 0) ag151 hcx542 rfl) hS.x)) rfl (W_yes rfl rfl ?_))))); clear H a; intro a H
        obtain ⟨A543, c543, hv543, hl543, hm543⟩ := SlR.formV (hrx542_0.ext (Flat.mono _) hS.x)
        refine n_q H (q_lenV Tryz.underlying151 rfl hv543) rfl (W_yes rfl rfl (W_q (q_gtrN (i := x542.Msgs.length) (j := 0) rfl rfl) rfl (W_q (q_pickT rfl rfl) rfl ?_))); clear H a; intro a H
        refine n_nil (then_normal ?_)
        obtain rfl := Option.some.inj hm; replace hm := hm38; try dsimp only at hm
        exact join (decide (0 < x542.Msgs.length)) H ⟨rfl, rfl, rfl, rfl, trivial⟩ ⟨hm, hS⟩
      · replace H := H.know 24 rfl hg541
        replace hm := condF hm hg541
        refine n_yes H rfl rfl (n_q H (q_fieldAddr0 rfl fo27_4) rfl (W_yes rfl rfl (W_q (q_load rfl ((hS.blk 0 rfl).ld ag24 rfl)) rfl (W_yes rfl rfl (W_q (q_move rfl) rfl (W_yes rfl rfl ?_)))))); clear H a; intro a H
        replace hm := bindS hm; obtain ⟨x544, hx544, hm⟩ := hm
        obtain ⟨h0x544, h1x544, hxx544⟩ := rdI_some hx544
        obtain ⟨adx544, hAx544⟩ := SlR.adV (hrp0_2.ext (Flat.mono _) hS.x) hv32 hxx544
        refine n_q H (q_ixVI Tryz.underlying24 sz171 rfl hv32 hAx544 rfl h0x544 h1x544) rfl (W_yes rfl rfl (W_q (q_fieldAddr rfl fo171_0) rfl (W_yes rfl rfl (W_q (q_load rfl (SlR.ldCellV (j := 0) (hrp0_2.ext (Flat.mono _) hS.x) hv32 hAx544 ag3 hxx544 rfl)) rfl (W_yes rfl rfl (W_q (q_eqlD rfl rfl) rfl (W_q (q_pickF rfl rfl) rfl (W_q (q_move rfl) rfl ?_)))))))); clear H a; intro a H
        rcases Bool.eq_false_or_eq_true (decide (x544.Kind = 4)) with hg545 | hg545
        · replace H := H.know 33 rfl hg545
          replace hm := condT hm hg545
          refine n_yes H rfl rfl (n_q H (q_fieldAddr0 rfl fo34_8) rfl (W_yes rfl rfl (W_q (q_load rfl ((hS.blk 1 rfl).ld ag31 rfl)) rfl (W_yes rfl rfl (W_q (q_move rfl) rfl (W_yes rfl rfl ?_)))))); clear H a; intro a H
          replace hm := bindS hm; obtain ⟨x546, hx546, hm⟩ := hm
          obtain ⟨h0x546, h1x546, hxx546⟩ := rdI_some hx546
          obtain ⟨adx546, hAx546⟩ := SlR.adV (hrp1_5.ext RGPort.mono hS.x) hv31 hxx546
          obtain ⟨csx546, hclx546, ⟨vx546_0, rfl, hrx546_0⟩, hcx546⟩ := SlR.elV hrp1_5 hv31 hAx546 hxx546
          refine n_q H (q_ixVI Tryz.underlying31 sz154 rfl hv31 hAx546 rfl h0x546 h1x546) rfl (W_yes rfl rfl (W_q (q_fieldAddr rfl fo154_0) rfl (W_yes rfl rfl (W_q (q_load rfl (LdX.ext (ldElC (j := 0) ag151 hcx546 rfl) hS.x)) rfl (W_yes rfl rfl ?_))))); clear H a; intro a H
          obtain ⟨A547, c547, hv547, hl547, hm547⟩ := SlR.formV (hrx546_0.ext (Flat.mono _) hS.x)
          refine n_q H (q_lenV Tryz.underlying151 rfl hv547) rfl (W_yes rfl rfl (W_q (q_gtrN (i := x546.Msgs.length) (j := 0) rfl rfl) rfl (W_q (q_pickT rfl rfl) rfl ?_))); clear H a; intro a H
          refine n_nil (then_normal ?_)
          obtain rfl := Option.some.inj hm; replace hm := hm38; try dsimp only at hm
          exact join (decide (0 < x546.Msgs.length)) H ⟨rfl, rfl, rfl, rfl, trivial⟩ ⟨hm, hS⟩
        · replace H := H.know 33 rfl hg545
          replace hm := condF hm hg545
          refine n_no H rfl rfl (by decide) rfl (W_no rfl rfl (by decide) rfl (W_no rfl rfl (by decide) rfl (W_no rfl rfl (by decide) rfl (W_no rfl rfl (by decide) rfl (W_no rfl rfl (by decide) rfl (W_no rfl rfl (by decide) rfl (W_no rfl rfl (by decide) rfl (W_q (q_pickF rfl rfl) rfl ?_)))))))); clear H a; intro a H
          refine n_nil (then_normal ?_)
          obtain rfl := Option.some.inj hm; replace hm := hm38; try dsimp only at hm
          exact join false H ⟨rfl, rfl, rfl, rfl, trivial⟩ ⟨hm, hS⟩
    · clear H hS hm a; intro q539 a w548 H hR
      simp only [ent, List.map_cons, List.map_nil] at H; (try dsimp only at hR); obtain ⟨hm, hS⟩ := hR; try dsimp only [g_r11_rule17_J8] at hm
      refine c_cond H rfl (fun hc549 => ?_) (fun hc549 => ?_)
      · replace hm := condT hm hc549
        refine wp_seq (wp_region_lit (n_q H (q_assign rfl) rfl ?_)); clear H a; intro a H
        refine n_nil (then_normal (wp_ret (block_ret (then_ret (then_ret (block_ret (then_ret ?_)))))))
        obtain rfl := Option.some.inj hm; have hz : _ = q27 := hn27; subst hz; replace hm := hm27; try dsimp only at hm
        obtain rfl := Option.some.inj hm
        replace hS := hS.tk0
        refine ret1 H (.inr rfl) rfl rfl ?_
        exact ⟨rfl, hS.x⟩
      · replace hm := condF hm hc549
        refine wp_skip (block_normal (then_normal (wp_region_lit (n_q H (q_move rfl) rfl (W_q (q_addW rfl rfl) rfl (W_q (q_assign rfl) rfl ?_)))))); clear H a; intro a H
        refine n_nil (then_normal ?_)
        obtain rfl := Option.some.inj hm
        exact round (m27, (IntKind.i64.wrap (z29 + 1))) H ⟨rfl, rfl, rfl, trivial⟩ ⟨hn27, hS⟩ (Nat.lt_succ_self _)
  · replace hm := condF hm hc37
    refine wp_exit (then_exit (then_exit (block_exit ?_)))
    obtain rfl := Option.some.inj hm; have hz : _ = q27 := hn27; subst hz; replace hm := hm27; try dsimp only at hm
    refine then_normal (wp_seq (wp_region_lit (n_q H (q_assign rfl) rfl ?_))); clear H a; intro a H
    refine n_nil (then_normal (wp_ret ?_))
    obtain rfl := Option.some.inj hm
    replace hS := hS.tk0
    refine ret1 H (.inr rfl) rfl rfl ?_
    exact ⟨rfl, hS.x⟩
theorem g_r11_keptMore_w {w : World} {A : Nat → Addr} {a0 : Int} {cs1 : List Value} {a1 : GPlan} {cs2 : List Value} {a2 : GState} (h1 : RGPlan w cs1 a1) (h2 : RGState w cs2 a2) {r : Bool} (hm : g_r11_keptMore a0 a1 a2 = some r) :
    Calls Tryz.prog 106 [.int .i64 a0, .agg cs1.toArray, .agg cs2.toArray].toArray w (Ret fun u w' => u = .bool r ∧ Ext w w') := by
  obtain ⟨vp1_0, vp1_1, vp1_2, vp1_3, rfl, hrp1_0, hrp1_1, hrp1_2, hrp1_3⟩ := h1
  obtain ⟨vp2_0, vp2_1, vp2_2, vp2_3, vp2_4, vp2_5, vp2_6, rfl, hrp2_0, hrp2_1, hrp2_2, hrp2_3, hrp2_4, hrp2_5, hrp2_6⟩ := h2
  have hS := St.begin NB w
  unfold g_r11_keptMore at hm
  refine enter Tryz.func106 rfl rfl rfl ?_; intro a H; dsimp only [enumL, Nat.zero_add, Nat.reduceAdd] at H
  refine wp_seq (wp_region_lit (n_box H rfl (cs := [.int .i64 a1.Id, .bool a1.Mobile, vp1_0, vp1_1, vp1_2, .int .i64 a1.Events, vp1_3]) rfl rfl ?_))
  clear H; intro b21 w22 hN hE23 hs; clear a; intro a H
  replace hS := hS.newBlk hN hE23 hs; clear hN hs
  refine n_box H rfl (cs := [.int .i64 a2.Id, .int .i64 a2.Frame, .int .i64 a2.Epoch, vp2_0, vp2_1, vp2_2, vp2_3, vp2_4, vp2_5, vp2_6]) rfl rfl ?_
  clear H; intro b24 w25 hN hE26 hs; clear a; intro a H
  replace hS := hS.newBlk hN hE26 hs; clear hN hs
  refine n_q H (q_assign rfl) rfl ?_; clear H a; intro a H
  refine n_nil (then_normal (wp_seq (wp_seq (wp_region_lit (n_q H (q_move rfl) rfl ?_))))); clear H a; intro a H
  refine n_nil (then_normal (wp_block (wp_seq (wp_region_lit (n_q H (q_eqlD rfl rfl) rfl (W_q (q_assign rfl) rfl ?_)))))); clear H a; intro a H
  refine n_nil (then_normal (c_cond H rfl (fun hc27 => ?_) (fun hc27 => ?_)))
  · replace hm := condT hm hc27
    refine wp_seq (wp_region_lit (n_q H (q_load rfl ((hS.blk 1 rfl).ldAll ag27 sz27)) rfl (W_q (q_load rfl ((hS.blk 0 rfl).ldAll ag34 sz34)) rfl ?_))); clear H a; intro a H
    replace hm := bindS hm; obtain ⟨r28, hr28, hm⟩ := hm
    refine n_call H rfl en179 (g_r11_rule11_w (A := A) (⟨_, _, _, _, rfl, (hrp1_0.ext (Flat.mono _) hS.x), (hrp1_1.ext (Flat.mono _) hS.x), (hrp1_2.ext (Flat.mono _) hS.x), (hrp1_3.ext (Flat.mono _) hS.x)⟩ : RGPlan _ [.int .i64 a1.Id, .bool a1.Mobile, vp1_0, vp1_1, vp1_2, .int .i64 a1.Events, vp1_3] a1) (⟨_, _, _, _, _, _, _, rfl, (hrp2_0.ext (Flat.mono _) hS.x), (hrp2_1.ext (Flat.mono _) hS.x), (hrp2_2.ext (Flat.mono _) hS.x), (hrp2_3.ext (Flat.mono _) hS.x), (hrp2_4.ext (Flat.mono _) hS.x), (hrp2_5.ext RGPort.mono hS.x), (hrp2_6.ext (Flat.mono _) hS.x)⟩ : RGState _ [.int .i64 a2.Id, .int .i64 a2.Frame, .int .i64 a2.Epoch, vp2_0, vp2_1, vp2_2, vp2_3, vp2_4, vp2_5, vp2_6] a2) hr28) rfl ?_
    clear H; intro x31 w29 hv; clear a; intro a H; obtain ⟨rfl, hE30⟩ := hv
    replace hS := hS.ext hE30
    refine n_q H (q_assign rfl) rfl ?_; clear H a; intro a H
    refine n_nil (then_normal (wp_ret (block_ret (then_ret ?_))))
    obtain rfl := Option.some.inj hm
    replace hS := hS.tk0
    refine ret1 H (.inr rfl) rfl rfl ?_
    exact ⟨rfl, hS.x⟩
  · replace hm := condF hm hc27
    refine wp_seq (wp_region_lit (n_q H (q_eqlD rfl rfl) rfl (W_q (q_assign rfl) rfl ?_))); clear H a; intro a H
    refine n_nil (then_normal (c_cond H rfl (fun hc32 => ?_) (fun hc32 => ?_)))
    · replace hm := condT hm hc32
      refine wp_seq (wp_region_lit (n_q H (q_load rfl ((hS.blk 1 rfl).ldAll ag27 sz27)) rfl (W_q (q_load rfl ((hS.blk 0 rfl).ldAll ag34 sz34)) rfl ?_))); clear H a; intro a H
      replace hm := bindS hm; obtain ⟨r33, hr33, hm⟩ := hm
      refine n_call H rfl en180 (g_r11_rule12_w (A := A) (⟨_, _, _, _, rfl, (hrp1_0.ext (Flat.mono _) hS.x), (hrp1_1.ext (Flat.mono _) hS.x), (hrp1_2.ext (Flat.mono _) hS.x), (hrp1_3.ext (Flat.mono _) hS.x)⟩ : RGPlan _ [.int .i64 a1.Id, .bool a1.Mobile, vp1_0, vp1_1, vp1_2, .int .i64 a1.Events, vp1_3] a1) (⟨_, _, _, _, _, _, _, rfl, (hrp2_0.ext (Flat.mono _) hS.x), (hrp2_1.ext (Flat.mono _) hS.x), (hrp2_2.ext (Flat.mono _) hS.x), (hrp2_3.ext (Flat.mono _) hS.x), (hrp2_4.ext (Flat.mono _) hS.x), (hrp2_5.ext RGPort.mono hS.x), (hrp2_6.ext (Flat.mono _) hS.x)⟩ : RGState _ [.int .i64 a2.Id, .int .i64 a2.Frame, .int .i64 a2.Epoch, vp2_0, vp2_1, vp2_2, vp2_3, vp2_4, vp2_5, vp2_6] a2) hr33) rfl ?_
      clear H; intro x36 w34 hv; clear a; intro a H; obtain ⟨rfl, hE35⟩ := hv
      replace hS := hS.ext hE35
      refine n_q H (q_assign rfl) rfl ?_; clear H a; intro a H
      refine n_nil (then_normal (wp_ret (block_ret (then_ret ?_))))
      obtain rfl := Option.some.inj hm
      replace hS := hS.tk0
      refine ret1 H (.inr rfl) rfl rfl ?_
      exact ⟨rfl, hS.x⟩
    · replace hm := condF hm hc32
      refine wp_seq (wp_region_lit (n_q H (q_eqlD rfl rfl) rfl (W_q (q_assign rfl) rfl ?_))); clear H a; intro a H
      refine n_nil (then_normal (c_cond H rfl (fun hc37 => ?_) (fun hc37 => ?_)))
      · replace hm := condT hm hc37
        refine wp_seq (wp_region_lit (n_q H (q_load rfl ((hS.blk 1 rfl).ldAll ag27 sz27)) rfl (W_q (q_load rfl ((hS.blk 0 rfl).ldAll ag34 sz34)) rfl ?_))); clear H a; intro a H
        replace hm := bindS hm; obtain ⟨r38, hr38, hm⟩ := hm
        refine n_call H rfl en181 (g_r11_rule13_w (A := A) (⟨_, _, _, _, rfl, (hrp1_0.ext (Flat.mono _) hS.x), (hrp1_1.ext (Flat.mono _) hS.x), (hrp1_2.ext (Flat.mono _) hS.x), (hrp1_3.ext (Flat.mono _) hS.x)⟩ : RGPlan _ [.int .i64 a1.Id, .bool a1.Mobile, vp1_0, vp1_1, vp1_2, .int .i64 a1.Events, vp1_3] a1) (⟨_, _, _, _, _, _, _, rfl, (hrp2_0.ext (Flat.mono _) hS.x), (hrp2_1.ext (Flat.mono _) hS.x), (hrp2_2.ext (Flat.mono _) hS.x), (hrp2_3.ext (Flat.mono _) hS.x), (hrp2_4.ext (Flat.mono _) hS.x), (hrp2_5.ext RGPort.mono hS.x), (hrp2_6.ext (Flat.mono _) hS.x)⟩ : RGState _ [.int .i64 a2.Id, .int .i64 a2.Frame, .int .i64 a2.Epoch, vp2_0, vp2_1, vp2_2, vp2_3, vp2_4, vp2_5, vp2_6] a2) hr38) rfl ?_
        clear H; intro x41 w39 hv; clear a; intro a H; obtain ⟨rfl, hE40⟩ := hv
        replace hS := hS.ext hE40
        refine n_q H (q_assign rfl) rfl ?_; clear H a; intro a H
        refine n_nil (then_normal (wp_ret (block_ret (then_ret ?_))))
        obtain rfl := Option.some.inj hm
        replace hS := hS.tk0
        refine ret1 H (.inr rfl) rfl rfl ?_
        exact ⟨rfl, hS.x⟩
      · replace hm := condF hm hc37
        refine wp_seq (wp_region_lit (n_q H (q_eqlD rfl rfl) rfl (W_q (q_assign rfl) rfl ?_))); clear H a; intro a H
        refine n_nil (then_normal (c_cond H rfl (fun hc42 => ?_) (fun hc42 => ?_)))
        · replace hm := condT hm hc42
          refine wp_seq (wp_region_lit (n_q H (q_load rfl ((hS.blk 1 rfl).ldAll ag27 sz27)) rfl (W_q (q_load rfl ((hS.blk 0 rfl).ldAll ag34 sz34)) rfl ?_))); clear H a; intro a H
          replace hm := bindS hm; obtain ⟨r43, hr43, hm⟩ := hm
          refine n_call H rfl en182 (g_r11_rule14_w (A := A) (⟨_, _, _, _, rfl, (hrp1_0.ext (Flat.mono _) hS.x), (hrp1_1.ext (Flat.mono _) hS.x), (hrp1_2.ext (Flat.mono _) hS.x), (hrp1_3.ext (Flat.mono _) hS.x)⟩ : RGPlan _ [.int .i64 a1.Id, .bool a1.Mobile, vp1_0, vp1_1, vp1_2, .int .i64 a1.Events, vp1_3] a1) (⟨_, _, _, _, _, _, _, rfl, (hrp2_0.ext (Flat.mono _) hS.x), (hrp2_1.ext (Flat.mono _) hS.x), (hrp2_2.ext (Flat.mono _) hS.x), (hrp2_3.ext (Flat.mono _) hS.x), (hrp2_4.ext (Flat.mono _) hS.x), (hrp2_5.ext RGPort.mono hS.x), (hrp2_6.ext (Flat.mono _) hS.x)⟩ : RGState _ [.int .i64 a2.Id, .int .i64 a2.Frame, .int .i64 a2.Epoch, vp2_0, vp2_1, vp2_2, vp2_3, vp2_4, vp2_5, vp2_6] a2) hr43) rfl ?_
          clear H; intro x46 w44 hv; clear a; intro a H; obtain ⟨rfl, hE45⟩ := hv
          replace hS := hS.ext hE45
          refine n_q H (q_assign rfl) rfl ?_; clear H a; intro a H
          refine n_nil (then_normal (wp_ret (block_ret (then_ret ?_))))
          obtain rfl := Option.some.inj hm
          replace hS := hS.tk0
          refine ret1 H (.inr rfl) rfl rfl ?_
          exact ⟨rfl, hS.x⟩
        · replace hm := condF hm hc42
          refine wp_seq (wp_region_lit (n_q H (q_eqlD rfl rfl) rfl (W_q (q_assign rfl) rfl ?_))); clear H a; intro a H
          refine n_nil (then_normal (c_cond H rfl (fun hc47 => ?_) (fun hc47 => ?_)))
          · replace hm := condT hm hc47
            refine wp_seq (wp_region_lit (n_q H (q_load rfl ((hS.blk 1 rfl).ldAll ag27 sz27)) rfl (W_q (q_load rfl ((hS.blk 0 rfl).ldAll ag34 sz34)) rfl ?_))); clear H a; intro a H
            replace hm := bindS hm; obtain ⟨r48, hr48, hm⟩ := hm
            refine n_call H rfl en183 (g_r11_rule15_w (A := A) (⟨_, _, _, _, rfl, (hrp1_0.ext (Flat.mono _) hS.x), (hrp1_1.ext (Flat.mono _) hS.x), (hrp1_2.ext (Flat.mono _) hS.x), (hrp1_3.ext (Flat.mono _) hS.x)⟩ : RGPlan _ [.int .i64 a1.Id, .bool a1.Mobile, vp1_0, vp1_1, vp1_2, .int .i64 a1.Events, vp1_3] a1) (⟨_, _, _, _, _, _, _, rfl, (hrp2_0.ext (Flat.mono _) hS.x), (hrp2_1.ext (Flat.mono _) hS.x), (hrp2_2.ext (Flat.mono _) hS.x), (hrp2_3.ext (Flat.mono _) hS.x), (hrp2_4.ext (Flat.mono _) hS.x), (hrp2_5.ext RGPort.mono hS.x), (hrp2_6.ext (Flat.mono _) hS.x)⟩ : RGState _ [.int .i64 a2.Id, .int .i64 a2.Frame, .int .i64 a2.Epoch, vp2_0, vp2_1, vp2_2, vp2_3, vp2_4, vp2_5, vp2_6] a2) hr48) rfl ?_
            clear H; intro x51 w49 hv; clear a; intro a H; obtain ⟨rfl, hE50⟩ := hv
            replace hS := hS.ext hE50
            refine n_q H (q_assign rfl) rfl ?_; clear H a; intro a H
            refine n_nil (then_normal (wp_ret (block_ret (then_ret ?_))))
            obtain rfl := Option.some.inj hm
            replace hS := hS.tk0
            refine ret1 H (.inr rfl) rfl rfl ?_
            exact ⟨rfl, hS.x⟩
          · replace hm := condF hm hc47
            refine wp_seq (wp_region_lit (n_q H (q_eqlD rfl rfl) rfl (W_q (q_assign rfl) rfl ?_))); clear H a; intro a H
            refine n_nil (then_normal (c_cond H rfl (fun hc52 => ?_) (fun hc52 => ?_)))
            · replace hm := condT hm hc52
              refine wp_seq (wp_region_lit (n_q H (q_load rfl ((hS.blk 1 rfl).ldAll ag27 sz27)) rfl (W_q (q_load rfl ((hS.blk 0 rfl).ldAll ag34 sz34)) rfl ?_))); clear H a; intro a H
              replace hm := bindS hm; obtain ⟨r53, hr53, hm⟩ := hm
              refine n_call H rfl en184 (g_r11_rule16_w (A := A) (⟨_, _, _, _, rfl, (hrp1_0.ext (Flat.mono _) hS.x), (hrp1_1.ext (Flat.mono _) hS.x), (hrp1_2.ext (Flat.mono _) hS.x), (hrp1_3.ext (Flat.mono _) hS.x)⟩ : RGPlan _ [.int .i64 a1.Id, .bool a1.Mobile, vp1_0, vp1_1, vp1_2, .int .i64 a1.Events, vp1_3] a1) (⟨_, _, _, _, _, _, _, rfl, (hrp2_0.ext (Flat.mono _) hS.x), (hrp2_1.ext (Flat.mono _) hS.x), (hrp2_2.ext (Flat.mono _) hS.x), (hrp2_3.ext (Flat.mono _) hS.x), (hrp2_4.ext (Flat.mono _) hS.x), (hrp2_5.ext RGPort.mono hS.x), (hrp2_6.ext (Flat.mono _) hS.x)⟩ : RGState _ [.int .i64 a2.Id, .int .i64 a2.Frame, .int .i64 a2.Epoch, vp2_0, vp2_1, vp2_2, vp2_3, vp2_4, vp2_5, vp2_6] a2) hr53) rfl ?_
              clear H; intro x56 w54 hv; clear a; intro a H; obtain ⟨rfl, hE55⟩ := hv
              replace hS := hS.ext hE55
              refine n_q H (q_assign rfl) rfl ?_; clear H a; intro a H
              refine n_nil (then_normal (wp_ret (block_ret (then_ret ?_))))
              obtain rfl := Option.some.inj hm
              replace hS := hS.tk0
              refine ret1 H (.inr rfl) rfl rfl ?_
              exact ⟨rfl, hS.x⟩
            · replace hm := condF hm hc52
              refine wp_skip (block_normal (then_normal (wp_seq (wp_region_lit (n_q H (q_load rfl ((hS.blk 1 rfl).ldAll ag27 sz27)) rfl (W_q (q_load rfl ((hS.blk 0 rfl).ldAll ag34 sz34)) rfl ?_)))))); clear H a; intro a H
              replace hm := bindS hm; obtain ⟨r57, hr57, hm⟩ := hm
              refine n_call H rfl en185 (g_r11_rule17_w (A := A) (⟨_, _, _, _, rfl, (hrp1_0.ext (Flat.mono _) hS.x), (hrp1_1.ext (Flat.mono _) hS.x), (hrp1_2.ext (Flat.mono _) hS.x), (hrp1_3.ext (Flat.mono _) hS.x)⟩ : RGPlan _ [.int .i64 a1.Id, .bool a1.Mobile, vp1_0, vp1_1, vp1_2, .int .i64 a1.Events, vp1_3] a1) (⟨_, _, _, _, _, _, _, rfl, (hrp2_0.ext (Flat.mono _) hS.x), (hrp2_1.ext (Flat.mono _) hS.x), (hrp2_2.ext (Flat.mono _) hS.x), (hrp2_3.ext (Flat.mono _) hS.x), (hrp2_4.ext (Flat.mono _) hS.x), (hrp2_5.ext RGPort.mono hS.x), (hrp2_6.ext (Flat.mono _) hS.x)⟩ : RGState _ [.int .i64 a2.Id, .int .i64 a2.Frame, .int .i64 a2.Epoch, vp2_0, vp2_1, vp2_2, vp2_3, vp2_4, vp2_5, vp2_6] a2) hr57) rfl ?_
              clear H; intro x60 w58 hv; clear a; intro a H; obtain ⟨rfl, hE59⟩ := hv
              replace hS := hS.ext hE59
              refine n_q H (q_assign rfl) rfl ?_; clear H a; intro a H
              refine n_nil (then_normal (wp_ret ?_))
              obtain rfl := Option.some.inj hm
              replace hS := hS.tk0
              refine ret1 H (.inr rfl) rfl rfl ?_
              exact ⟨rfl, hS.x⟩
theorem g_r11_kept_w {w : World} {A : Nat → Addr} {a0 : Int} {cs1 : List Value} {a1 : GPlan} {cs2 : List Value} {a2 : GState} (h1 : RGPlan w cs1 a1) (h2 : RGState w cs2 a2) {r : Bool} (hm : g_r11_kept a0 a1 a2 = some r) :
    Calls Tryz.prog 49 [.int .i64 a0, .agg cs1.toArray, .agg cs2.toArray].toArray w (Ret fun u w' => u = .bool r ∧ Ext w w') := by
  obtain ⟨vp1_0, vp1_1, vp1_2, vp1_3, rfl, hrp1_0, hrp1_1, hrp1_2, hrp1_3⟩ := h1
  obtain ⟨vp2_0, vp2_1, vp2_2, vp2_3, vp2_4, vp2_5, vp2_6, rfl, hrp2_0, hrp2_1, hrp2_2, hrp2_3, hrp2_4, hrp2_5, hrp2_6⟩ := h2
  have hS := St.begin NB w
  unfold g_r11_kept at hm
  refine enter Tryz.func49 rfl rfl rfl ?_; intro a H; dsimp only [enumL, Nat.zero_add, Nat.reduceAdd] at H
  refine wp_seq (wp_region_lit (n_box H rfl (cs := [.int .i64 a1.Id, .bool a1.Mobile, vp1_0, vp1_1, vp1_2, .int .i64 a1.Events, vp1_3]) rfl rfl ?_))
  clear H; intro b21 w22 hN hE23 hs; clear a; intro a H
  replace hS := hS.newBlk hN hE23 hs; clear hN hs
  refine n_box H rfl (cs := [.int .i64 a2.Id, .int .i64 a2.Frame, .int .i64 a2.Epoch, vp2_0, vp2_1, vp2_2, vp2_3, vp2_4, vp2_5, vp2_6]) rfl rfl ?_
  clear H; intro b24 w25 hN hE26 hs; clear a; intro a H
  replace hS := hS.newBlk hN hE26 hs; clear hN hs
  refine n_q H (q_assign rfl) rfl ?_; clear H a; intro a H
  refine n_nil (then_normal (wp_seq (wp_seq (wp_region_lit (n_q H (q_move rfl) rfl ?_))))); clear H a; intro a H
  refine n_nil (then_normal (wp_block (wp_seq (wp_region_lit (n_q H (q_eqlD rfl rfl) rfl (W_q (q_assign rfl) rfl ?_)))))); clear H a; intro a H
  refine n_nil (then_normal (c_cond H rfl (fun hc27 => ?_) (fun hc27 => ?_)))
  · replace hm := condT hm hc27
    refine wp_seq (wp_region_lit (n_q H (q_fieldAddr0 rfl fo34_0) rfl (W_q (q_load rfl ((hS.blk 0 rfl).ld ag3 rfl)) rfl (W_q (q_fieldAddr0 rfl fo27_0) rfl (W_q (q_load rfl ((hS.blk 1 rfl).ld ag3 rfl)) rfl (W_q (q_eqlD rfl rfl) rfl (W_q (q_assign rfl) rfl ?_))))))); clear H a; intro a H
    refine n_nil (then_normal (wp_ret (block_ret (then_ret ?_))))
    obtain rfl := Option.some.inj hm
    replace hS := hS.tk0
    refine ret1 H (.inr rfl) rfl rfl ?_
    exact ⟨rfl, hS.x⟩
  · replace hm := condF hm hc27
    refine wp_seq (wp_region_lit (n_q H (q_eqlD rfl rfl) rfl (W_q (q_assign rfl) rfl ?_))); clear H a; intro a H
    refine n_nil (then_normal (c_cond H rfl (fun hc28 => ?_) (fun hc28 => ?_)))
    · replace hm := condT hm hc28
      refine wp_seq (wp_region_lit (n_c H (fun HC => ?_))); clear H
      refine nc_q HC (q_fieldAddr0 rfl fo34_1) rfl (by kernel_rfl) (V_q (q_load rfl ((hS.blk 0 rfl).ld ag3 rfl)) rfl (by kernel_rfl) (V_q (q_geq rfl rfl) rfl (by kernel_rfl) (V_q (q_move rfl) rfl (by kernel_rfl) (V_g (q_fieldAddr0 rfl fo34_1) (by kernel_rfl) (by kernel_rfl) (by kernel_rfl) (V_g (q_load rfl ((hS.blk 0 rfl).ld ag3 rfl)) (by kernel_rfl) (by kernel_rfl) (by kernel_rfl) (V_g (q_leq rfl rfl) (by kernel_rfl) (by kernel_rfl) (by kernel_rfl) (V_and (j := 3) rfl rfl rfl (by kernel_rfl) (by kernel_rfl) (V_q (q_move rfl) rfl (by kernel_rfl) (V_g (q_fieldAddr0 rfl fo34_2) (by kernel_rfl) (by kernel_rfl) (by kernel_rfl) (V_g (q_load rfl ((hS.blk 0 rfl).ld ag3 rfl)) (by kernel_rfl) (by kernel_rfl) (by kernel_rfl) (V_g (q_geq rfl rfl) (by kernel_rfl) (by kernel_rfl) (by kernel_rfl) ?_))))))))))); clear HC a; intro a HC
      refine nc_and (j := 8) HC rfl rfl rfl (by kernel_rfl) (by kernel_rfl) (V_q (q_move rfl) rfl (by kernel_rfl) (V_g (q_fieldAddr0 rfl fo34_2) (by kernel_rfl) (by kernel_rfl) (by kernel_rfl) (V_g (q_load rfl ((hS.blk 0 rfl).ld ag3 rfl)) (by kernel_rfl) (by kernel_rfl) (by kernel_rfl) (V_g (q_leq rfl rfl) (by kernel_rfl) (by kernel_rfl) (by kernel_rfl) (V_and (j := 13) rfl rfl rfl (by kernel_rfl) (by kernel_rfl) (V_q (q_assign rfl) rfl (by kernel_rfl) ?_)))))); clear HC a; intro a HC
      have H := HC.has; clear HC
      refine n_nil (then_normal (wp_ret (block_ret (then_ret ?_))))
      obtain rfl := Option.some.inj hm
      replace hS := hS.tk0
      refine ret1 H (.inr rfl) rfl rfl ?_
      exact ⟨rfl, hS.x⟩
    · replace hm := condF hm hc28
      refine wp_seq (wp_region_lit (n_q H (q_eqlD rfl rfl) rfl (W_q (q_assign rfl) rfl ?_))); clear H a; intro a H
      refine n_nil (then_normal (c_cond H rfl (fun hc29 => ?_) (fun hc29 => ?_)))
      · replace hm := condT hm hc29
        refine wp_seq (wp_region_lit (n_c H (fun HC => ?_))); clear H
        refine nc_q HC (q_fieldAddr0 rfl fo34_3) rfl (by kernel_rfl) (V_q (q_load rfl ((hS.blk 0 rfl).ld ag28 rfl)) rfl (by kernel_rfl) ?_); clear HC a; intro a HC
        obtain ⟨A30, c30, hv30, hl30, hm30⟩ := SlR.formV (hrp2_0.ext (Flat.mono _) hS.x)
        refine nc_q HC (q_lenV Tryz.underlying28 rfl hv30) rfl (by kernel_rfl) (V_q (q_fieldAddr0 rfl fo27_3) rfl (by kernel_rfl) (V_q (q_load rfl ((hS.blk 1 rfl).ld ag23 rfl)) rfl (by kernel_rfl) ?_)); clear HC a; intro a HC
        obtain ⟨A31, c31, hv31, hl31, hm31⟩ := SlR.formV (hrp1_1.ext (Flat.mono _) hS.x)
        refine nc_q HC (q_lenV Tryz.underlying23 rfl hv31) rfl (by kernel_rfl) (V_q (q_eqlN (i := a2.Procs.length) (j := a1.Procs.length) rfl rfl) rfl (by kernel_rfl) (V_q (q_move rfl) rfl (by kernel_rfl) (V_g (q_fieldAddr0 rfl fo34_8) (by kernel_rfl) (by kernel_rfl) (by kernel_rfl) (V_g (q_load rfl ((hS.blk 0 rfl).ld ag31 rfl)) (by kernel_rfl) (by kernel_rfl) (by kernel_rfl) ?_)))); clear HC a; intro a HC
        obtain ⟨A32, c32, hv32, hl32, hm32⟩ := SlR.formV (hrp2_5.ext RGPort.mono hS.x)
        refine nc_g HC (q_lenV Tryz.underlying31 rfl hv32) (by kernel_rfl) (by kernel_rfl) (by kernel_rfl) (V_g (q_fieldAddr0 rfl fo27_4) (by kernel_rfl) (by kernel_rfl) (by kernel_rfl) (V_g (q_load rfl ((hS.blk 1 rfl).ld ag24 rfl)) (by kernel_rfl) (by kernel_rfl) (by kernel_rfl) ?_)); clear HC a; intro a HC
        obtain ⟨A33, c33, hv33, hl33, hm33⟩ := SlR.formV (hrp1_2.ext (Flat.mono _) hS.x)
        refine nc_g HC (q_lenV Tryz.underlying24 rfl hv33) (by kernel_rfl) (by kernel_rfl) (by kernel_rfl) (V_g (q_eqlN (i := a2.Ports.length) (j := a1.Ports.length) rfl rfl) (by kernel_rfl) (by kernel_rfl) (by kernel_rfl) (V_and (j := 7) rfl rfl rfl (by kernel_rfl) (by kernel_rfl) (V_q (q_move rfl) rfl (by kernel_rfl) (V_g (q_fieldAddr0 rfl fo34_9) (by kernel_rfl) (by kernel_rfl) (by kernel_rfl) (V_g (q_load rfl ((hS.blk 0 rfl).ld ag32 rfl)) (by kernel_rfl) (by kernel_rfl) (by kernel_rfl) ?_))))); clear HC a; intro a HC
        obtain ⟨A34, c34, hv34, hl34, hm34⟩ := SlR.formV (hrp2_6.ext (Flat.mono _) hS.x)
        refine nc_g HC (q_lenV Tryz.underlying32 rfl hv34) (by kernel_rfl) (by kernel_rfl) (by kernel_rfl) (V_g (q_fieldAddr0 rfl fo27_2) (by kernel_rfl) (by kernel_rfl) (by kernel_rfl) (V_g (q_load rfl ((hS.blk 1 rfl).ld ag22 rfl)) (by kernel_rfl) (by kernel_rfl) (by kernel_rfl) ?_)); clear HC a; intro a HC
        obtain ⟨A35, c35, hv35, hl35, hm35⟩ := SlR.formV (hrp1_0.ext (Flat.mono _) hS.x)
        refine nc_g HC (q_lenV Tryz.underlying22 rfl hv35) (by kernel_rfl) (by kernel_rfl) (by kernel_rfl) (V_g (q_eqlN (i := a2.Pages.length) (j := a1.Pages.length) rfl rfl) (by kernel_rfl) (by kernel_rfl) (by kernel_rfl) (V_and (j := 16) rfl rfl rfl (by kernel_rfl) (by kernel_rfl) (V_q (q_move rfl) rfl (by kernel_rfl) (V_g (q_fieldAddr0 rfl fo34_6) (by kernel_rfl) (by kernel_rfl) (by kernel_rfl) (V_g (q_load rfl ((hS.blk 0 rfl).ld ag30 rfl)) (by kernel_rfl) (by kernel_rfl) (by kernel_rfl) ?_))))); clear HC a; intro a HC
        obtain ⟨A36, c36, hv36, hl36, hm36⟩ := SlR.formV (hrp2_3.ext (Flat.mono _) hS.x)
        refine nc_g HC (q_lenV Tryz.underlying30 rfl hv36) (by kernel_rfl) (by kernel_rfl) (by kernel_rfl) (V_g (q_fieldAddr0 rfl fo27_5) (by kernel_rfl) (by kernel_rfl) (by kernel_rfl) (V_g (q_load rfl ((hS.blk 1 rfl).ld ag3 rfl)) (by kernel_rfl) (by kernel_rfl) (by kernel_rfl) (V_g (q_eqlD rfl rfl) (by kernel_rfl) (by kernel_rfl) (by kernel_rfl) (V_and (j := 25) rfl rfl rfl (by kernel_rfl) (by kernel_rfl) (V_q (q_move rfl) rfl (by kernel_rfl) (V_g (q_fieldAddr0 rfl fo34_7) (by kernel_rfl) (by kernel_rfl) (by kernel_rfl) (V_g (q_load rfl ((hS.blk 0 rfl).ld ag25 rfl)) (by kernel_rfl) (by kernel_rfl) (by kernel_rfl) ?_))))))); clear HC a; intro a HC
        obtain ⟨A37, c37, hv37, hl37, hm37⟩ := SlR.formV (hrp2_4.ext (Flat.mono _) hS.x)
        refine nc_g HC (q_lenV Tryz.underlying25 rfl hv37) (by kernel_rfl) (by kernel_rfl) (by kernel_rfl) (V_g (q_fieldAddr0 rfl fo27_6) (by kernel_rfl) (by kernel_rfl) (by kernel_rfl) (V_g (q_load rfl ((hS.blk 1 rfl).ld ag25 rfl)) (by kernel_rfl) (by kernel_rfl) (by kernel_rfl) ?_)); clear HC a; intro a HC
        obtain ⟨A38, c38, hv38, hl38, hm38⟩ := SlR.formV (hrp1_3.ext (Flat.mono _) hS.x)
        refine nc_g HC (q_lenV Tryz.underlying25 rfl hv38) (by kernel_rfl) (by kernel_rfl) (by kernel_rfl) (V_g (q_eqlN (i := a2.Sems.length) (j := a1.Sems.length) rfl rfl) (by kernel_rfl) (by kernel_rfl) (by kernel_rfl) (V_and (j := 33) rfl rfl rfl (by kernel_rfl) (by kernel_rfl) (V_q (q_assign rfl) rfl (by kernel_rfl) ?_))); clear HC a; intro a HC
        have H := HC.has; clear HC
        refine n_nil (then_normal (wp_ret (block_ret (then_ret ?_))))
        obtain rfl := Option.some.inj hm
        replace hS := hS.tk0
        refine ret1 H (.inr rfl) rfl rfl ?_
        exact ⟨rfl, hS.x⟩
      · replace hm := condF hm hc29
        refine wp_seq (wp_region_lit (n_q H (q_eqlD rfl rfl) rfl (W_q (q_assign rfl) rfl ?_))); clear H a; intro a H
        refine n_nil (then_normal (c_cond H rfl (fun hc39 => ?_) (fun hc39 => ?_)))
        · replace hm := condT hm hc39
          refine wp_seq (wp_region_lit (n_q H (q_load rfl ((hS.blk 0 rfl).ldAll ag34 sz34)) rfl ?_)); clear H a; intro a H
          replace hm := bindS hm; obtain ⟨r40, hr40, hm⟩ := hm
          refine n_call H rfl en100 (g_r11_rule4_w (A := A) (⟨_, _, _, _, _, _, _, rfl, (hrp2_0.ext (Flat.mono _) hS.x), (hrp2_1.ext (Flat.mono _) hS.x), (hrp2_2.ext (Flat.mono _) hS.x), (hrp2_3.ext (Flat.mono _) hS.x), (hrp2_4.ext (Flat.mono _) hS.x), (hrp2_5.ext RGPort.mono hS.x), (hrp2_6.ext (Flat.mono _) hS.x)⟩ : RGState _ [.int .i64 a2.Id, .int .i64 a2.Frame, .int .i64 a2.Epoch, vp2_0, vp2_1, vp2_2, vp2_3, vp2_4, vp2_5, vp2_6] a2) hr40) rfl ?_
          clear H; intro x43 w41 hv; clear a; intro a H; obtain ⟨rfl, hE42⟩ := hv
          replace hS := hS.ext hE42
          refine n_q H (q_assign rfl) rfl ?_; clear H a; intro a H
          refine n_nil (then_normal (wp_ret (block_ret (then_ret ?_))))
          obtain rfl := Option.some.inj hm
          replace hS := hS.tk0
          refine ret1 H (.inr rfl) rfl rfl ?_
          exact ⟨rfl, hS.x⟩
        · replace hm := condF hm hc39
          refine wp_seq (wp_region_lit (n_q H (q_eqlD rfl rfl) rfl (W_q (q_assign rfl) rfl ?_))); clear H a; intro a H
          refine n_nil (then_normal (c_cond H rfl (fun hc44 => ?_) (fun hc44 => ?_)))
          · replace hm := condT hm hc44
            refine wp_seq (wp_region_lit (n_q H (q_load rfl ((hS.blk 0 rfl).ldAll ag34 sz34)) rfl ?_)); clear H a; intro a H
            replace hm := bindS hm; obtain ⟨r45, hr45, hm⟩ := hm
            refine n_call H rfl en101 (g_r11_rule5_w (A := A) (⟨_, _, _, _, _, _, _, rfl, (hrp2_0.ext (Flat.mono _) hS.x), (hrp2_1.ext (Flat.mono _) hS.x), (hrp2_2.ext (Flat.mono _) hS.x), (hrp2_3.ext (Flat.mono _) hS.x), (hrp2_4.ext (Flat.mono _) hS.x), (hrp2_5.ext RGPort.mono hS.x), (hrp2_6.ext (Flat.mono _) hS.x)⟩ : RGState _ [.int .i64 a2.Id, .int .i64 a2.Frame, .int .i64 a2.Epoch, vp2_0, vp2_1, vp2_2, vp2_3, vp2_4, vp2_5, vp2_6] a2) hr45) rfl ?_
            clear H; intro x48 w46 hv; clear a; intro a H; obtain ⟨rfl, hE47⟩ := hv
            replace hS := hS.ext hE47
            refine n_q H (q_assign rfl) rfl ?_; clear H a; intro a H
            refine n_nil (then_normal (wp_ret (block_ret (then_ret ?_))))
            obtain rfl := Option.some.inj hm
            replace hS := hS.tk0
            refine ret1 H (.inr rfl) rfl rfl ?_
            exact ⟨rfl, hS.x⟩
          · replace hm := condF hm hc44
            refine wp_seq (wp_region_lit (n_q H (q_eqlD rfl rfl) rfl (W_q (q_assign rfl) rfl ?_))); clear H a; intro a H
            refine n_nil (then_normal (c_cond H rfl (fun hc49 => ?_) (fun hc49 => ?_)))
            · replace hm := condT hm hc49
              refine wp_seq (wp_region_lit (n_q H (q_load rfl ((hS.blk 1 rfl).ldAll ag27 sz27)) rfl (W_q (q_load rfl ((hS.blk 0 rfl).ldAll ag34 sz34)) rfl ?_))); clear H a; intro a H
              replace hm := bindS hm; obtain ⟨r50, hr50, hm⟩ := hm
              refine n_call H rfl en102 (g_r11_rule6_w (A := A) (⟨_, _, _, _, rfl, (hrp1_0.ext (Flat.mono _) hS.x), (hrp1_1.ext (Flat.mono _) hS.x), (hrp1_2.ext (Flat.mono _) hS.x), (hrp1_3.ext (Flat.mono _) hS.x)⟩ : RGPlan _ [.int .i64 a1.Id, .bool a1.Mobile, vp1_0, vp1_1, vp1_2, .int .i64 a1.Events, vp1_3] a1) (⟨_, _, _, _, _, _, _, rfl, (hrp2_0.ext (Flat.mono _) hS.x), (hrp2_1.ext (Flat.mono _) hS.x), (hrp2_2.ext (Flat.mono _) hS.x), (hrp2_3.ext (Flat.mono _) hS.x), (hrp2_4.ext (Flat.mono _) hS.x), (hrp2_5.ext RGPort.mono hS.x), (hrp2_6.ext (Flat.mono _) hS.x)⟩ : RGState _ [.int .i64 a2.Id, .int .i64 a2.Frame, .int .i64 a2.Epoch, vp2_0, vp2_1, vp2_2, vp2_3, vp2_4, vp2_5, vp2_6] a2) hr50) rfl ?_
              clear H; intro x53 w51 hv; clear a; intro a H; obtain ⟨rfl, hE52⟩ := hv
              replace hS := hS.ext hE52
              refine n_q H (q_assign rfl) rfl ?_; clear H a; intro a H
              refine n_nil (then_normal (wp_ret (block_ret (then_ret ?_))))
              obtain rfl := Option.some.inj hm
              replace hS := hS.tk0
              refine ret1 H (.inr rfl) rfl rfl ?_
              exact ⟨rfl, hS.x⟩
            · replace hm := condF hm hc49
              refine wp_seq (wp_region_lit (n_q H (q_eqlD rfl rfl) rfl (W_q (q_assign rfl) rfl ?_))); clear H a; intro a H
              refine n_nil (then_normal (c_cond H rfl (fun hc54 => ?_) (fun hc54 => ?_)))
              · replace hm := condT hm hc54
                refine wp_seq (wp_region_lit (n_q H (q_load rfl ((hS.blk 0 rfl).ldAll ag34 sz34)) rfl ?_)); clear H a; intro a H
                replace hm := bindS hm; obtain ⟨r55, hr55, hm⟩ := hm
                refine n_call H rfl en103 (g_r11_rule7_w (A := A) (⟨_, _, _, _, _, _, _, rfl, (hrp2_0.ext (Flat.mono _) hS.x), (hrp2_1.ext (Flat.mono _) hS.x), (hrp2_2.ext (Flat.mono _) hS.x), (hrp2_3.ext (Flat.mono _) hS.x), (hrp2_4.ext (Flat.mono _) hS.x), (hrp2_5.ext RGPort.mono hS.x), (hrp2_6.ext (Flat.mono _) hS.x)⟩ : RGState _ [.int .i64 a2.Id, .int .i64 a2.Frame, .int .i64 a2.Epoch, vp2_0, vp2_1, vp2_2, vp2_3, vp2_4, vp2_5, vp2_6] a2) hr55) rfl ?_
                clear H; intro x58 w56 hv; clear a; intro a H; obtain ⟨rfl, hE57⟩ := hv
                replace hS := hS.ext hE57
                refine n_q H (q_assign rfl) rfl ?_; clear H a; intro a H
                refine n_nil (then_normal (wp_ret (block_ret (then_ret ?_))))
                obtain rfl := Option.some.inj hm
                replace hS := hS.tk0
                refine ret1 H (.inr rfl) rfl rfl ?_
                exact ⟨rfl, hS.x⟩
              · replace hm := condF hm hc54
                refine wp_seq (wp_region_lit (n_q H (q_eqlD rfl rfl) rfl (W_q (q_assign rfl) rfl ?_))); clear H a; intro a H
                refine n_nil (then_normal (c_cond H rfl (fun hc59 => ?_) (fun hc59 => ?_)))
                · replace hm := condT hm hc59
                  refine wp_seq (wp_region_lit (n_q H (q_load rfl ((hS.blk 0 rfl).ldAll ag34 sz34)) rfl ?_)); clear H a; intro a H
                  replace hm := bindS hm; obtain ⟨r60, hr60, hm⟩ := hm
                  refine n_call H rfl en104 (g_r11_rule8_w (A := A) (⟨_, _, _, _, _, _, _, rfl, (hrp2_0.ext (Flat.mono _) hS.x), (hrp2_1.ext (Flat.mono _) hS.x), (hrp2_2.ext (Flat.mono _) hS.x), (hrp2_3.ext (Flat.mono _) hS.x), (hrp2_4.ext (Flat.mono _) hS.x), (hrp2_5.ext RGPort.mono hS.x), (hrp2_6.ext (Flat.mono _) hS.x)⟩ : RGState _ [.int .i64 a2.Id, .int .i64 a2.Frame, .int .i64 a2.Epoch, vp2_0, vp2_1, vp2_2, vp2_3, vp2_4, vp2_5, vp2_6] a2) hr60) rfl ?_
                  clear H; intro x63 w61 hv; clear a; intro a H; obtain ⟨rfl, hE62⟩ := hv
                  replace hS := hS.ext hE62
                  refine n_q H (q_assign rfl) rfl ?_; clear H a; intro a H
                  refine n_nil (then_normal (wp_ret (block_ret (then_ret ?_))))
                  obtain rfl := Option.some.inj hm
                  replace hS := hS.tk0
                  refine ret1 H (.inr rfl) rfl rfl ?_
                  exact ⟨rfl, hS.x⟩
                · replace hm := condF hm hc59
                  refine wp_seq (wp_region_lit (n_q H (q_eqlD rfl rfl) rfl (W_q (q_assign rfl) rfl ?_))); clear H a; intro a H
                  refine n_nil (then_normal (c_cond H rfl (fun hc64 => ?_) (fun hc64 => ?_)))
                  · replace hm := condT hm hc64
                    refine wp_seq (wp_region_lit (n_q H (q_load rfl ((hS.blk 0 rfl).ldAll ag34 sz34)) rfl ?_)); clear H a; intro a H
                    replace hm := bindS hm; obtain ⟨r65, hr65, hm⟩ := hm
                    refine n_call H rfl en105 (g_r11_rule9_w (A := A) (⟨_, _, _, _, _, _, _, rfl, (hrp2_0.ext (Flat.mono _) hS.x), (hrp2_1.ext (Flat.mono _) hS.x), (hrp2_2.ext (Flat.mono _) hS.x), (hrp2_3.ext (Flat.mono _) hS.x), (hrp2_4.ext (Flat.mono _) hS.x), (hrp2_5.ext RGPort.mono hS.x), (hrp2_6.ext (Flat.mono _) hS.x)⟩ : RGState _ [.int .i64 a2.Id, .int .i64 a2.Frame, .int .i64 a2.Epoch, vp2_0, vp2_1, vp2_2, vp2_3, vp2_4, vp2_5, vp2_6] a2) hr65) rfl ?_
                    clear H; intro x68 w66 hv; clear a; intro a H; obtain ⟨rfl, hE67⟩ := hv
                    replace hS := hS.ext hE67
                    refine n_q H (q_assign rfl) rfl ?_; clear H a; intro a H
                    refine n_nil (then_normal (wp_ret (block_ret (then_ret ?_))))
                    obtain rfl := Option.some.inj hm
                    replace hS := hS.tk0
                    refine ret1 H (.inr rfl) rfl rfl ?_
                    exact ⟨rfl, hS.x⟩
                  · replace hm := condF hm hc64
                    refine wp_seq (wp_region_lit (n_q H (q_eqlD rfl rfl) rfl (W_q (q_assign rfl) rfl ?_))); clear H a; intro a H
                    refine n_nil (then_normal (c_cond H rfl (fun hc69 => ?_) (fun hc69 => ?_)))
                    · replace hm := condT hm hc69
                      refine wp_seq (wp_seq (wp_region_lit (n_q H (q_assign rfl) rfl ?_))); clear H a; intro a H
                      refine n_nil (then_normal (wp_block ?_))
                      replace hS := hS.tk1
                      replace hm := bindS hm; obtain ⟨q70, hm, hm70⟩ := hm; replace hm := iter_some hm; obtain ⟨n70, hm⟩ := hm
                      refine c_loop (σ := Nat × Nat) (fun (m, i71) => [(5, .pointer (some ⟨b24, 0, none⟩)), (7, .int .i64 ((i71 : Nat) : Int))]) (fun (m, i71) wl => iterN (g_r11_kept_L7 a2) m i71 = some q70 ∧ St NB w wl [blkR b24 [.int .i64 a2.Id, .int .i64 a2.Frame, .int .i64 a2.Epoch, vp2_0, vp2_1, vp2_2, vp2_3, vp2_4, vp2_5, vp2_6] 34]) (fun (m, i71) => m) (n70, 0) H ⟨rfl, rfl, trivial⟩ ⟨hm, hS⟩ ?_
                      clear H hS hm a; intro xx a w72 H hR; obtain ⟨m, i71⟩ := xx; simp only [ent, List.map_cons, List.map_nil] at H; (try dsimp only at hR); obtain ⟨hm, hS⟩ := hR
                      replace hm := iterN_step hm; obtain ⟨m70, o70, rfl, hm, hn70⟩ := hm; try dsimp only [g_r11_kept_L7] at hm
                      refine wp_seq (wp_seq (wp_region_lit (n_q H (q_move rfl) rfl (W_q (q_fieldAddr0 rfl fo34_7) rfl (W_q (q_load rfl ((hS.blk 0 rfl).ld ag25 rfl)) rfl ?_))))); clear H a; intro a H
                      obtain ⟨A73, c73, hv73, hl73, hm73⟩ := SlR.formV (hrp2_4.ext (Flat.mono _) hS.x)
                      refine n_q H (q_lenV Tryz.underlying25 rfl hv73) rfl (W_q (q_lssN (i := i71) (j := a2.Sems.length) rfl rfl) rfl ?_); clear H a; intro a H
                      refine n_nil (then_normal (c_cond H rfl (fun hc74 => ?_) (fun hc74 => ?_)))
                      · replace hm := condT hm hc74
                        have hlt75 : i71 < a2.Sems.length := of_decide_eq_true hc74
                        refine wp_skip (then_normal (wp_seq (wp_block ?_)))
                        replace hm := bindS hm; obtain ⟨j76, hm, hm76⟩ := hm
                        refine c_join (σ := Bool) H (fun q577 => [(5, .pointer (some ⟨b24, 0, none⟩)), (7, .int .i64 ((i71 : Nat) : Int)), (127, .bool q577)]) (fun q577 wl => (g_r11_kept_J6 i71) q577 = some o70 ∧ St NB w wl [blkR b24 [.int .i64 a2.Id, .int .i64 a2.Frame, .int .i64 a2.Epoch, vp2_0, vp2_1, vp2_2, vp2_3, vp2_4, vp2_5, vp2_6] 34]) ?_ ?_
                        · skip
                          refine wp_region_lit (n_q H (q_fieldAddr0 rfl fo34_7) rfl (W_q (q_load rfl ((hS.blk 0 rfl).ld ag25 rfl)) rfl (W_q (q_move rfl) rfl ?_))); clear H a; intro a H
                          replace hm := bindS hm; obtain ⟨x578, hx578, hm⟩ := hm
                          obtain ⟨adx578, hAx578⟩ := SlR.adV (hrp2_4.ext (Flat.mono _) hS.x) hv73 hx578
                          refine n_q H (q_ixV (i := i71) Tryz.underlying25 sz3 rfl hv73 hAx578 rfl (natI hx578)) rfl (W_q (q_load rfl (SlR.ldOneV (hrp2_4.ext (Flat.mono _) hS.x) hv73 hAx578 ag3 hx578 rfl)) rfl (W_q (q_lss rfl rfl) rfl (W_q (q_move rfl) rfl ?_))); clear H a; intro a H
                          rcases Bool.eq_false_or_eq_true (decide (x578 < 0)) with hg579 | hg579
                          · replace H := H.know 120 rfl hg579
                            replace hm := condT hm hg579
                            refine n_no H rfl rfl (by decide) rfl (W_no rfl rfl (by decide) rfl (W_no rfl rfl (by decide) rfl (W_no rfl rfl (by decide) rfl (W_no rfl rfl (by decide) rfl (W_no rfl rfl (by decide) rfl (W_q (q_pickT rfl rfl) rfl ?_)))))); clear H a; intro a H
                            refine n_nil (then_normal ?_)
                            obtain rfl := Option.some.inj hm; replace hm := hm76; try dsimp only at hm
                            exact join true H ⟨rfl, rfl, rfl, trivial⟩ ⟨hm, hS⟩
                          · replace H := H.know 120 rfl hg579
                            replace hm := condF hm hg579
                            refine n_yes H rfl rfl (n_q H (q_fieldAddr0 rfl fo34_7) rfl (W_yes rfl rfl (W_q (q_load rfl ((hS.blk 0 rfl).ld ag25 rfl)) rfl (W_yes rfl rfl (W_q (q_move rfl) rfl (W_yes rfl rfl ?_)))))); clear H a; intro a H
                            replace hm := bindS hm; obtain ⟨x580, hx580, hm⟩ := hm
                            obtain ⟨adx580, hAx580⟩ := SlR.adV (hrp2_4.ext (Flat.mono _) hS.x) hv73 hx580
                            refine n_q H (q_ixV (i := i71) Tryz.underlying25 sz3 rfl hv73 hAx580 rfl (natI hx580)) rfl (W_yes rfl rfl (W_q (q_load rfl (SlR.ldOneV (hrp2_4.ext (Flat.mono _) hS.x) hv73 hAx580 ag3 hx580 rfl)) rfl (W_yes rfl rfl (W_q (q_gtr rfl rfl) rfl (W_q (q_pickF rfl rfl) rfl ?_))))); clear H a; intro a H
                            refine n_nil (then_normal ?_)
                            obtain rfl := Option.some.inj hm; replace hm := hm76; try dsimp only at hm
                            exact join (decide (255 < x580)) H ⟨rfl, rfl, rfl, trivial⟩ ⟨hm, hS⟩
                        · clear H hS hm a; intro q577 a w581 H hR
                          simp only [ent, List.map_cons, List.map_nil] at H; (try dsimp only at hR); obtain ⟨hm, hS⟩ := hR; try dsimp only [g_r11_kept_J6] at hm
                          refine c_cond H rfl (fun hc582 => ?_) (fun hc582 => ?_)
                          · replace hm := condT hm hc582
                            refine wp_seq (wp_region_lit (n_q H (q_assign rfl) rfl ?_)); clear H a; intro a H
                            refine n_nil (then_normal (wp_ret (block_ret (then_ret (then_ret (block_ret (then_ret (block_ret (then_ret ?_)))))))))
                            obtain rfl := Option.some.inj hm; have hz : _ = q70 := hn70; subst hz; replace hm := hm70; try dsimp only at hm
                            obtain rfl := Option.some.inj hm
                            replace hS := hS.tk0
                            refine ret1 H (.inr rfl) rfl rfl ?_
                            exact ⟨rfl, hS.x⟩
                          · replace hm := condF hm hc582
                            refine wp_skip (block_normal (then_normal (wp_region_lit (n_q H (q_move rfl) rfl (W_q (q_incr (i := i71) (j := 1) rfl rfl (by omega)) rfl (W_q (q_assign rfl) rfl ?_)))))); clear H a; intro a H
                            refine n_nil (then_normal ?_)
                            obtain rfl := Option.some.inj hm
                            exact round (m70, i71 + 1) H ⟨rfl, rfl, trivial⟩ ⟨hn70, hS⟩ (Nat.lt_succ_self _)
                      · replace hm := condF hm hc74
                        refine wp_exit (then_exit (then_exit (block_exit ?_)))
                        obtain rfl := Option.some.inj hm; have hz : _ = q70 := hn70; subst hz; replace hm := hm70; try dsimp only at hm
                        refine then_normal (wp_seq (wp_region_lit (n_q H (q_assign rfl) rfl ?_))); clear H a; intro a H
                        refine n_nil (then_normal (wp_ret (block_ret (then_ret ?_))))
                        obtain rfl := Option.some.inj hm
                        replace hS := hS.tk0
                        refine ret1 H (.inr rfl) rfl rfl ?_
                        exact ⟨rfl, hS.x⟩
                    · replace hm := condF hm hc69
                      refine wp_skip (block_normal (then_normal (wp_seq (wp_region_lit (n_q H (q_move rfl) rfl (W_q (q_load rfl ((hS.blk 1 rfl).ldAll ag27 sz27)) rfl (W_q (q_load rfl ((hS.blk 0 rfl).ldAll ag34 sz34)) rfl ?_))))))); clear H a; intro a H
                      replace hm := bindS hm; obtain ⟨r583, hr583, hm⟩ := hm
                      refine n_call H rfl en106 (g_r11_keptMore_w (A := A) (⟨_, _, _, _, rfl, (hrp1_0.ext (Flat.mono _) hS.x), (hrp1_1.ext (Flat.mono _) hS.x), (hrp1_2.ext (Flat.mono _) hS.x), (hrp1_3.ext (Flat.mono _) hS.x)⟩ : RGPlan _ [.int .i64 a1.Id, .bool a1.Mobile, vp1_0, vp1_1, vp1_2, .int .i64 a1.Events, vp1_3] a1) (⟨_, _, _, _, _, _, _, rfl, (hrp2_0.ext (Flat.mono _) hS.x), (hrp2_1.ext (Flat.mono _) hS.x), (hrp2_2.ext (Flat.mono _) hS.x), (hrp2_3.ext (Flat.mono _) hS.x), (hrp2_4.ext (Flat.mono _) hS.x), (hrp2_5.ext RGPort.mono hS.x), (hrp2_6.ext (Flat.mono _) hS.x)⟩ : RGState _ [.int .i64 a2.Id, .int .i64 a2.Frame, .int .i64 a2.Epoch, vp2_0, vp2_1, vp2_2, vp2_3, vp2_4, vp2_5, vp2_6] a2) hr583) rfl ?_
                      clear H; intro x586 w584 hv; clear a; intro a H; obtain ⟨rfl, hE585⟩ := hv
                      replace hS := hS.ext hE585
                      refine n_q H (q_assign rfl) rfl ?_; clear H a; intro a H
                      refine n_nil (then_normal (wp_ret ?_))
                      obtain rfl := Option.some.inj hm
                      replace hS := hS.tk0
                      refine ret1 H (.inr rfl) rfl rfl ?_
                      exact ⟨rfl, hS.x⟩
theorem g_r11_Faults_w {w : World} {A : Nat → Addr} {cs0 : List Value} {a0 : GPlan} {cs1 : List Value} {a1 : GState} (h0 : RGPlan w cs0 a0) (h1 : RGState w cs1 a1) {r : List Int} (hm : g_r11_Faults a0 a1 = some r) :
    Calls Tryz.prog 8 [.agg cs0.toArray, .agg cs1.toArray].toArray w (Ret fun u w' => ∃ h_0, u = h_0 ∧ St NB w w' [ownR 3 1 h_0 r.length (r.flatMap eI)]) := by
  obtain ⟨vp0_0, vp0_1, vp0_2, vp0_3, rfl, hrp0_0, hrp0_1, hrp0_2, hrp0_3⟩ := h0
  obtain ⟨vp1_0, vp1_1, vp1_2, vp1_3, vp1_4, vp1_5, vp1_6, rfl, hrp1_0, hrp1_1, hrp1_2, hrp1_3, hrp1_4, hrp1_5, hrp1_6⟩ := h1
  have hS := St.begin NB w
  unfold g_r11_Faults at hm
  refine enter Tryz.func8 rfl rfl rfl ?_; intro a H; dsimp only [enumL, Nat.zero_add, Nat.reduceAdd] at H
  refine wp_seq (wp_region_lit (n_box H rfl (cs := [.int .i64 a0.Id, .bool a0.Mobile, vp0_0, vp0_1, vp0_2, .int .i64 a0.Events, vp0_3]) rfl rfl ?_))
  clear H; intro b21 w22 hN hE23 hs; clear a; intro a H
  replace hS := hS.newBlk hN hE23 hs; clear hN hs
  refine n_box H rfl (cs := [.int .i64 a1.Id, .int .i64 a1.Frame, .int .i64 a1.Epoch, vp1_0, vp1_1, vp1_2, vp1_3, vp1_4, vp1_5, vp1_6]) rfl rfl ?_
  clear H; intro b24 w25 hN hE26 hs; clear a; intro a H
  replace hS := hS.newBlk hN hE26 hs; clear hN hs
  refine n_q H (q_assign rfl) rfl ?_; clear H a; intro a H
  refine n_nil (then_normal (wp_seq (wp_seq (wp_region_lit (n_q H (q_load rfl ((hS.blk 1 rfl).ldAll ag27 sz27)) rfl ?_))))); clear H a; intro a H
  replace hm := bindS hm; obtain ⟨r27, hr27, hm⟩ := hm
  refine n_call H rfl en48 (g_r10_Good_w (A := A) (⟨_, _, _, _, rfl, (hrp0_0.ext (Flat.mono _) hS.x), (hrp0_1.ext (Flat.mono _) hS.x), (hrp0_2.ext (Flat.mono _) hS.x), (hrp0_3.ext (Flat.mono _) hS.x)⟩ : RGPlan _ [.int .i64 a0.Id, .bool a0.Mobile, vp0_0, vp0_1, vp0_2, .int .i64 a0.Events, vp0_3] a0) hr27) rfl ?_
  clear H; intro x30 w28 hv; clear a; intro a H; obtain ⟨rfl, hE29⟩ := hv
  replace hS := hS.ext hE29
  refine n_q H (q_not rfl) rfl ?_; clear H a; intro a H
  refine n_nil (then_normal (c_cond H rfl (fun hc31 => ?_) (fun hc31 => ?_)))
  · replace hm := condT hm hc31
    refine wp_seq (wp_region_lit (n_buildSlice H Tryz.underlying25 sz3 ze3 rfl rfl rfl (cs := [.int .i64 0]) (by kernel_rfl) rfl ?_))
    clear H; intro b34 w32 hN hE33 hs; clear a; intro a H
    replace hS := hS.newBlk hN hE33 hs; clear hN hs
    replace hS := hS.blkOwnL (e := eI) (k := 1) [0] rfl rfl (by simp [maxLen])
    refine n_q H (q_assign rfl) rfl ?_; clear H a; intro a H
    refine n_nil (then_normal (wp_ret (then_ret ?_)))
    obtain rfl := Option.some.inj hm
    replace hS := hS.tk1
    refine ret1 H (.inr rfl) rfl rfl ?_
    exact ⟨_, rfl, hS⟩
  · replace hm := condF hm hc31
    refine wp_skip (then_normal (wp_seq (wp_region_lit (n_q H (q_assign rfl) rfl ?_)))); clear H a; intro a H
    refine n_nil (then_normal (wp_seq (wp_seq (wp_region_lit (n_q H (q_assign rfl) rfl ?_))))); clear H a; intro a H
    refine n_nil (then_normal (wp_block ?_))
    replace hS := hS.nilOwn 3 1
    replace hS := hS.pk1
    replace hS := hS.pk2
    replace hS := hS.pk2
    replace hm := bindS hm; obtain ⟨q36, hm, hm36⟩ := hm; replace hm := iter_some hm; obtain ⟨n36, hm⟩ := hm
    refine c_loop (σ := Nat × (List Int) × Int × Value) (fun (m, l37, z41, v38) => [(2, .pointer (some ⟨b21, 0, none⟩)), (3, .pointer (some ⟨b24, 0, none⟩)), (5, v38), (6, .int .i64 z41)]) (fun (m, l37, z41, v38) wl => iterN (g_r11_Faults_L5 a0 a1) m (l37, z41) = some q36 ∧ St NB w wl [ownR 3 1 v38 l37.length (l37.flatMap eI), blkR b21 [.int .i64 a0.Id, .bool a0.Mobile, vp0_0, vp0_1, vp0_2, .int .i64 a0.Events, vp0_3] 27, blkR b24 [.int .i64 a1.Id, .int .i64 a1.Frame, .int .i64 a1.Epoch, vp1_0, vp1_1, vp1_2, vp1_3, vp1_4, vp1_5, vp1_6] 34]) (fun (m, l37, z41, v38) => m) (n36, ([] : List Int), 1, .slice none 0 0) H ⟨rfl, rfl, rfl, rfl, trivial⟩ ⟨hm, hS⟩ ?_
    clear H hS hm a; intro xx a w43 H hR; obtain ⟨m, l37, z41, v38⟩ := xx; simp only [ent, List.map_cons, List.map_nil] at H; (try dsimp only at hR); obtain ⟨hm, hS⟩ := hR
    replace hm := iterN_step hm; obtain ⟨m36, o36, rfl, hm, hn36⟩ := hm; try dsimp only [g_r11_Faults_L5] at hm
    refine wp_seq (wp_seq (wp_region_lit (n_q H (q_move rfl) rfl (W_q (q_leq rfl rfl) rfl ?_)))); clear H a; intro a H
    refine n_nil (then_normal (c_cond H rfl (fun hc44 => ?_) (fun hc44 => ?_)))
    · replace hm := condT hm hc44
      refine wp_skip (then_normal ?_)
      replace hm := bindS hm; obtain ⟨j45, hm, hm45⟩ := hm
      refine c_join (σ := (List Int) × Value) H (fun (l546, v547) => [(2, .pointer (some ⟨b21, 0, none⟩)), (3, .pointer (some ⟨b24, 0, none⟩)), (5, v547), (6, .int .i64 z41)]) (fun (l546, v547) wl => (g_r11_Faults_J4 z41) l546 = some o36 ∧ St NB w wl [ownR 3 1 v547 l546.length (l546.flatMap eI), blkR b21 [.int .i64 a0.Id, .bool a0.Mobile, vp0_0, vp0_1, vp0_2, .int .i64 a0.Events, vp0_3] 27, blkR b24 [.int .i64 a1.Id, .int .i64 a1.Frame, .int .i64 a1.Epoch, vp1_0, vp1_1, vp1_2, vp1_3, vp1_4, vp1_5, vp1_6] 34]) ?_ ?_
      · skip
        refine wp_block (wp_seq (wp_region_lit (n_q H (q_move rfl) rfl (W_q (q_load rfl ((hS.blk 1 rfl).ldAll ag27 sz27)) rfl (W_q (q_load rfl ((hS.blk 2 rfl).ldAll ag34 sz34)) rfl ?_))))); clear H a; intro a H
        replace hm := bindS hm; obtain ⟨r549, hr549, hm⟩ := hm
        refine n_call H rfl en49 (g_r11_kept_w (A := A) (⟨_, _, _, _, rfl, (hrp0_0.ext (Flat.mono _) hS.x), (hrp0_1.ext (Flat.mono _) hS.x), (hrp0_2.ext (Flat.mono _) hS.x), (hrp0_3.ext (Flat.mono _) hS.x)⟩ : RGPlan _ [.int .i64 a0.Id, .bool a0.Mobile, vp0_0, vp0_1, vp0_2, .int .i64 a0.Events, vp0_3] a0) (⟨_, _, _, _, _, _, _, rfl, (hrp1_0.ext (Flat.mono _) hS.x), (hrp1_1.ext (Flat.mono _) hS.x), (hrp1_2.ext (Flat.mono _) hS.x), (hrp1_3.ext (Flat.mono _) hS.x), (hrp1_4.ext (Flat.mono _) hS.x), (hrp1_5.ext RGPort.mono hS.x), (hrp1_6.ext (Flat.mono _) hS.x)⟩ : RGState _ [.int .i64 a1.Id, .int .i64 a1.Frame, .int .i64 a1.Epoch, vp1_0, vp1_1, vp1_2, vp1_3, vp1_4, vp1_5, vp1_6] a1) hr549) rfl ?_
        clear H; intro x552 w550 hv; clear a; intro a H; obtain ⟨rfl, hE551⟩ := hv
        replace hS := hS.ext hE551
        refine n_q H (q_not rfl) rfl ?_; clear H a; intro a H
        refine n_nil (then_normal (c_cond H rfl (fun hc553 => ?_) (fun hc553 => ?_)))
        · replace hm := condT hm hc553
          refine wp_region_lit (n_q H (q_move rfl) rfl (W_q (q_move rfl) rfl ?_)); clear H a; intro a H
          refine n_buildSlice H Tryz.underlying25 sz3 ze3 rfl rfl rfl (cs := [.int .i64 z41]) (by kernel_rfl) rfl ?_
          clear H; intro b556 w554 hN hE555 hs; clear a; intro a H
          replace hS := hS.newBlk hN hE555 hs; clear hN hs
          replace hS := hS.blkOwnL (e := eI) (k := 1) [z41] rfl rfl (by simp [maxLen])
          replace hS := hS.pk1
          replace hm := chkS hm; obtain ⟨hk558, hm⟩ := hm
          refine n_app (e := eI) H rfl rfl Tryz.underlying25 Tryz.underlying25 (by simp) el3 (hS.own 0 rfl) (((hS.own 1 rfl).slr rfl (fun _ _ => rfl)).src (fun _ _ => rfl)) eI_one hk558 (by simp only [maxLen]; omega) rfl ?_
          clear H; intro v561 w559 hN hC560 hb; clear a; intro a H; replace hS := hS.setOwn hN hC560 hb; clear hN hb
          refine n_q H (q_assign rfl) rfl ?_; clear H a; intro a H
          refine n_nil (block_normal (then_normal ?_))
          obtain rfl := Option.some.inj hm; replace hm := hm45; try dsimp only at hm
          replace hS := hS.pk3
          replace hS := hS.pk3
          replace hS := hS.pk2
          replace hS := hS.tk3
          exact join ((l37 ++ [z41]), v561) H ⟨rfl, rfl, rfl, rfl, trivial⟩ ⟨hm, hS⟩
        · replace hm := condF hm hc553
          refine wp_skip (block_normal (then_normal ?_))
          obtain rfl := Option.some.inj hm; replace hm := hm45; try dsimp only at hm
          exact join (l37, v38) H ⟨rfl, rfl, rfl, rfl, trivial⟩ ⟨hm, hS⟩
      · clear H hS hm a; intro xx a w563 H hR
        obtain ⟨l546, v547⟩ := xx
        simp only [ent, List.map_cons, List.map_nil] at H; (try dsimp only at hR); obtain ⟨hm, hS⟩ := hR; try dsimp only [g_r11_Faults_J4] at hm
        refine wp_region_lit (n_q H (q_move rfl) rfl (W_q (q_addW rfl rfl) rfl (W_q (q_assign rfl) rfl ?_))); clear H a; intro a H
        refine n_nil (then_normal ?_)
        obtain rfl := Option.some.inj hm
        exact round (m36, l546, (IntKind.i64.wrap (z41 + 1)), v547) H ⟨rfl, rfl, rfl, rfl, trivial⟩ ⟨hn36, hS⟩ (Nat.lt_succ_self _)
    · replace hm := condF hm hc44
      refine wp_exit (then_exit (then_exit (block_exit ?_)))
      obtain rfl := Option.some.inj hm; have hz : _ = q36 := hn36; subst hz; replace hm := hm36; try dsimp only at hm
      refine then_normal (wp_seq (wp_region_lit (n_q H (q_move rfl) rfl (W_q (q_assign rfl) rfl ?_)))); clear H a; intro a H
      refine n_nil (then_normal (wp_ret ?_))
      obtain rfl := Option.some.inj hm
      replace hS := hS.tk1
      refine ret1 H (.inr rfl) rfl rfl ?_
      exact ⟨_, rfl, hS⟩
theorem g_r11_check_w {w : World} {A : Nat → Addr} {cs0 : List Value} {a0 : GPlan} {cs1 : List Value} {a1 : GState} {a2 : Int} (h0 : RGPlan w cs0 a0) (h1 : RGState w cs1 a1) {r : Int × Int} (hm : g_r11_check a0 a1 a2 = some r) :
    Calls Tryz.prog 50 [.agg cs0.toArray, .agg cs1.toArray, .int .i64 a2].toArray w (Ret fun u w' => u = .tuple #[.int .i64 r.1, .int .i64 r.2] ∧ Ext w w') := by
  obtain ⟨vp0_0, vp0_1, vp0_2, vp0_3, rfl, hrp0_0, hrp0_1, hrp0_2, hrp0_3⟩ := h0
  obtain ⟨vp1_0, vp1_1, vp1_2, vp1_3, vp1_4, vp1_5, vp1_6, rfl, hrp1_0, hrp1_1, hrp1_2, hrp1_3, hrp1_4, hrp1_5, hrp1_6⟩ := h1
  have hS := St.begin NB w
  unfold g_r11_check at hm
  refine enter Tryz.func50 rfl rfl rfl ?_; intro a H; dsimp only [enumL, Nat.zero_add, Nat.reduceAdd] at H
  refine wp_seq (wp_region_lit (n_box H rfl (cs := [.int .i64 a0.Id, .bool a0.Mobile, vp0_0, vp0_1, vp0_2, .int .i64 a0.Events, vp0_3]) rfl rfl ?_))
  clear H; intro b21 w22 hN hE23 hs; clear a; intro a H
  replace hS := hS.newBlk hN hE23 hs; clear hN hs
  refine n_box H rfl (cs := [.int .i64 a1.Id, .int .i64 a1.Frame, .int .i64 a1.Epoch, vp1_0, vp1_1, vp1_2, vp1_3, vp1_4, vp1_5, vp1_6]) rfl rfl ?_
  clear H; intro b24 w25 hN hE26 hs; clear a; intro a H
  replace hS := hS.newBlk hN hE26 hs; clear hN hs
  refine n_q H (q_assign rfl) rfl (W_q (q_assign rfl) rfl ?_); clear H a; intro a H
  refine n_nil (then_normal (wp_seq (wp_region_lit (n_q H (q_load rfl ((hS.blk 1 rfl).ldAll ag27 sz27)) rfl (W_q (q_load rfl ((hS.blk 0 rfl).ldAll ag34 sz34)) rfl ?_))))); clear H a; intro a H
  replace hm := bindS hm; obtain ⟨r27, hr27, hm⟩ := hm
  refine n_call H rfl en8 (g_r11_Faults_w (A := A) (⟨_, _, _, _, rfl, (hrp0_0.ext (Flat.mono _) hS.x), (hrp0_1.ext (Flat.mono _) hS.x), (hrp0_2.ext (Flat.mono _) hS.x), (hrp0_3.ext (Flat.mono _) hS.x)⟩ : RGPlan _ [.int .i64 a0.Id, .bool a0.Mobile, vp0_0, vp0_1, vp0_2, .int .i64 a0.Events, vp0_3] a0) (⟨_, _, _, _, _, _, _, rfl, (hrp1_0.ext (Flat.mono _) hS.x), (hrp1_1.ext (Flat.mono _) hS.x), (hrp1_2.ext (Flat.mono _) hS.x), (hrp1_3.ext (Flat.mono _) hS.x), (hrp1_4.ext (Flat.mono _) hS.x), (hrp1_5.ext RGPort.mono hS.x), (hrp1_6.ext (Flat.mono _) hS.x)⟩ : RGState _ [.int .i64 a1.Id, .int .i64 a1.Frame, .int .i64 a1.Epoch, vp1_0, vp1_1, vp1_2, vp1_3, vp1_4, vp1_5, vp1_6] a1) hr27) rfl ?_
  clear H; intro u28 w30 hv; clear a; intro a H; obtain ⟨_, rfl, hE31⟩ := hv
  replace hS := hS.new hE31; simp only [List.cons_append, List.nil_append] at hS
  refine n_q H (q_assign rfl) rfl ?_; clear H a; intro a H
  refine n_nil (then_normal (wp_seq ?_))
  replace hm := bindS hm; obtain ⟨j33, hm, hm33⟩ := hm
  refine c_join (σ := Bool) H (fun q534 => [(8, u28), (21, .bool q534)]) (fun q534 wl => (g_r11_check_J2 r27) q534 = some r ∧ St NB w wl [ownR 3 1 u28 r27.length (r27.flatMap eI)]) ?_ ?_
  · skip
    refine wp_region_lit (n_q H (q_move rfl) rfl ?_); clear H a; intro a H
    obtain ⟨A535, c535, hv535, hl535, hm535⟩ := SlR.formV ((hS.own 0 rfl).slr rfl (fun _ _ => rfl))
    refine n_q H (q_lenV Tryz.underlying25 rfl hv535) rfl (W_q (q_eqlN (i := r27.length) (j := 0) rfl rfl) rfl (W_q (q_move rfl) rfl ?_)); clear H a; intro a H
    rcases Bool.eq_false_or_eq_true (decide (r27.length = 0)) with hg536 | hg536
    · replace H := H.know 15 rfl hg536
      replace hm := condT hm hg536
      refine n_no H rfl rfl (by decide) rfl (W_no rfl rfl (by decide) rfl (W_no rfl rfl (by decide) rfl (W_no rfl rfl (by decide) rfl (W_no rfl rfl (by decide) rfl (W_q (q_pickT rfl rfl) rfl ?_))))); clear H a; intro a H
      refine n_nil (then_normal ?_)
      obtain rfl := Option.some.inj hm; replace hm := hm33; try dsimp only at hm
      replace hS := hS.tk1
      exact join true H ⟨rfl, rfl, trivial⟩ ⟨hm, hS⟩
    · replace H := H.know 15 rfl hg536
      replace hm := condF hm hg536
      refine n_yes H rfl rfl (n_q H (q_move rfl) rfl (W_yes rfl rfl ?_)); clear H a; intro a H
      replace hm := bindS hm; obtain ⟨x537, hx537, hm⟩ := hm
      obtain ⟨adx537, hAx537⟩ := SlR.adV ((hS.own 0 rfl).slr rfl (fun _ _ => rfl)) hv535 hx537
      refine n_q H (q_ixV (i := 0) Tryz.underlying25 sz3 rfl hv535 hAx537 rfl (natI hx537)) rfl (W_yes rfl rfl (W_q (q_load rfl (SlR.ldOneV ((hS.own 0 rfl).slr rfl (fun _ _ => rfl)) hv535 hAx537 ag3 hx537 rfl)) rfl (W_yes rfl rfl (W_q (q_move rfl) rfl (W_yes rfl rfl (W_q (q_gtr rfl rfl) rfl (W_q (q_pickF rfl rfl) rfl ?_))))))); clear H a; intro a H
      refine n_nil (then_normal ?_)
      obtain rfl := Option.some.inj hm; replace hm := hm33; try dsimp only at hm
      replace hS := hS.tk1
      exact join (decide (a2 < x537)) H ⟨rfl, rfl, trivial⟩ ⟨hm, hS⟩
  · clear H hS hm a; intro q534 a w538 H hR
    simp only [ent, List.map_cons, List.map_nil] at H; (try dsimp only at hR); obtain ⟨hm, hS⟩ := hR; try dsimp only [g_r11_check_J2] at hm
    refine c_cond H rfl (fun hc539 => ?_) (fun hc539 => ?_)
    · replace hm := condT hm hc539
      refine wp_seq (wp_region_lit (n_q H (q_assign rfl) rfl (W_q (q_assign rfl) rfl ?_))); clear H a; intro a H
      refine n_nil (then_normal (wp_ret (then_ret ?_)))
      obtain rfl := Option.some.inj hm
      replace hS := hS.tk0
      refine ret2 H (.inr rfl) rfl rfl rfl ?_
      exact ⟨rfl, hS.x⟩
    · replace hm := condF hm hc539
      refine wp_skip (then_normal (wp_seq (wp_seq (wp_region_lit (n_q H (q_move rfl) rfl ?_))))); clear H a; intro a H
      obtain ⟨A540, c540, hv540, hl540, hm540⟩ := SlR.formV ((hS.own 0 rfl).slr rfl (fun _ _ => rfl))
      replace hm := bindS hm; obtain ⟨x541, hx541, hm⟩ := hm
      obtain ⟨adx541, hAx541⟩ := SlR.adV ((hS.own 0 rfl).slr rfl (fun _ _ => rfl)) hv540 hx541
      refine n_q H (q_ixV (i := 0) Tryz.underlying25 sz3 rfl hv540 hAx541 rfl (natI hx541)) rfl (W_q (q_load rfl (SlR.ldOneV ((hS.own 0 rfl).slr rfl (fun _ _ => rfl)) hv540 hAx541 ag3 hx541 rfl)) rfl (W_q (q_eqlD rfl rfl) rfl ?_)); clear H a; intro a H
      refine n_nil (then_normal (c_cond H rfl (fun hc542 => ?_) (fun hc542 => ?_)))
      · replace hm := condT hm hc542
        refine wp_seq (wp_region_lit (n_q H (q_assign rfl) rfl (W_q (q_assign rfl) rfl ?_))); clear H a; intro a H
        refine n_nil (then_normal (wp_ret (then_ret ?_)))
        obtain rfl := Option.some.inj hm
        replace hS := hS.tk0
        refine ret2 H (.inr rfl) rfl rfl rfl ?_
        exact ⟨rfl, hS.x⟩
      · replace hm := condF hm hc542
        refine wp_skip (then_normal (wp_seq (c_quiet (by kernel_rfl) (by kernel_rfl) ?_)))
        refine qq_q H (q_move rfl) rfl ?_; clear H a; intro a H
        replace hm := bindS hm; obtain ⟨x543, hx543, hm⟩ := hm
        obtain ⟨adx543, hAx543⟩ := SlR.adV ((hS.own 0 rfl).slr rfl (fun _ _ => rfl)) hv540 hx543
        refine qq_q H (q_ixV (i := 0) Tryz.underlying25 sz3 rfl hv540 hAx543 rfl (natI hx543)) rfl ?_; clear H a; intro a H
        refine qq_q H (q_load rfl (SlR.ldOneV ((hS.own 0 rfl).slr rfl (fun _ _ => rfl)) hv540 hAx543 ag3 hx543 rfl)) rfl ?_; clear H a; intro a H
        refine qq_q H (q_assign rfl) rfl ?_; clear H a; intro a H
        refine qq_q H (q_assign rfl) rfl ?_; clear H a; intro a H
        refine qq_nil ?_; intro w544 hE545
        replace hS := hS.ext hE545
        refine then_normal (wp_ret ?_)
        obtain rfl := Option.some.inj hm
        replace hS := hS.tk0
        refine ret2 H (.inr rfl) rfl rfl rfl ?_
        exact ⟨rfl, hS.x⟩
theorem g_r11_Check_w {w : World} {A : Nat → Addr} {cs0 : List Value} {a0 : GPlan} {cs1 : List Value} {a1 : GState} (h0 : RGPlan w cs0 a0) (h1 : RGState w cs1 a1) {r : Int × Int} (hm : g_r11_Check a0 a1 = some r) :
    Calls Tryz.prog 9 [.agg cs0.toArray, .agg cs1.toArray].toArray w (Ret fun u w' => u = .tuple #[.int .i64 r.1, .int .i64 r.2] ∧ Ext w w') := by
  obtain ⟨vp0_0, vp0_1, vp0_2, vp0_3, rfl, hrp0_0, hrp0_1, hrp0_2, hrp0_3⟩ := h0
  obtain ⟨vp1_0, vp1_1, vp1_2, vp1_3, vp1_4, vp1_5, vp1_6, rfl, hrp1_0, hrp1_1, hrp1_2, hrp1_3, hrp1_4, hrp1_5, hrp1_6⟩ := h1
  have hS := St.begin NB w
  unfold g_r11_Check at hm
  refine enter Tryz.func9 rfl rfl rfl ?_; intro a H; dsimp only [enumL, Nat.zero_add, Nat.reduceAdd] at H
  refine wp_seq (wp_region_lit (n_box H rfl (cs := [.int .i64 a0.Id, .bool a0.Mobile, vp0_0, vp0_1, vp0_2, .int .i64 a0.Events, vp0_3]) rfl rfl ?_))
  clear H; intro b21 w22 hN hE23 hs; clear a; intro a H
  replace hS := hS.newBlk hN hE23 hs; clear hN hs
  refine n_box H rfl (cs := [.int .i64 a1.Id, .int .i64 a1.Frame, .int .i64 a1.Epoch, vp1_0, vp1_1, vp1_2, vp1_3, vp1_4, vp1_5, vp1_6]) rfl rfl ?_
  clear H; intro b24 w25 hN hE26 hs; clear a; intro a H
  replace hS := hS.newBlk hN hE26 hs; clear hN hs
  refine n_q H (q_assign rfl) rfl (W_q (q_assign rfl) rfl ?_); clear H a; intro a H
  refine n_nil (then_normal (wp_seq (wp_region_lit (n_q H (q_load rfl ((hS.blk 1 rfl).ldAll ag27 sz27)) rfl (W_q (q_load rfl ((hS.blk 0 rfl).ldAll ag34 sz34)) rfl ?_))))); clear H a; intro a H
  replace hm := bindS hm; obtain ⟨r27, hr27, hm⟩ := hm
  refine n_call H rfl en50 (g_r11_check_w (A := A) (⟨_, _, _, _, rfl, (hrp0_0.ext (Flat.mono _) hS.x), (hrp0_1.ext (Flat.mono _) hS.x), (hrp0_2.ext (Flat.mono _) hS.x), (hrp0_3.ext (Flat.mono _) hS.x)⟩ : RGPlan _ [.int .i64 a0.Id, .bool a0.Mobile, vp0_0, vp0_1, vp0_2, .int .i64 a0.Events, vp0_3] a0) (⟨_, _, _, _, _, _, _, rfl, (hrp1_0.ext (Flat.mono _) hS.x), (hrp1_1.ext (Flat.mono _) hS.x), (hrp1_2.ext (Flat.mono _) hS.x), (hrp1_3.ext (Flat.mono _) hS.x), (hrp1_4.ext (Flat.mono _) hS.x), (hrp1_5.ext RGPort.mono hS.x), (hrp1_6.ext (Flat.mono _) hS.x)⟩ : RGState _ [.int .i64 a1.Id, .int .i64 a1.Frame, .int .i64 a1.Epoch, vp1_0, vp1_1, vp1_2, vp1_3, vp1_4, vp1_5, vp1_6] a1) hr27) rfl ?_
  clear H; intro x30 w28 hv; clear a; intro a H; obtain ⟨rfl, hE29⟩ := hv
  replace hS := hS.ext hE29
  refine n_q H (q_extract rfl rfl) rfl (W_q (q_extract rfl rfl) rfl (W_q (q_assign rfl) rfl (W_q (q_assign rfl) rfl ?_))); clear H a; intro a H
  refine n_nil (then_normal (wp_ret ?_))
  obtain rfl := Option.some.inj hm
  replace hS := hS.tk0
  refine ret2 H (.inr rfl) rfl rfl rfl ?_
  exact ⟨rfl, hS.x⟩
theorem g_r11_Rest_w {w : World} {A : Nat → Addr} {cs0 : List Value} {a0 : GPlan} {cs1 : List Value} {a1 : GState} (h0 : RGPlan w cs0 a0) (h1 : RGState w cs1 a1) {r : Int × Int} (hm : g_r11_Rest a0 a1 = some r) :
    Calls Tryz.prog 10 [.agg cs0.toArray, .agg cs1.toArray].toArray w (Ret fun u w' => u = .tuple #[.int .i64 r.1, .int .i64 r.2] ∧ Ext w w') := by
  obtain ⟨vp0_0, vp0_1, vp0_2, vp0_3, rfl, hrp0_0, hrp0_1, hrp0_2, hrp0_3⟩ := h0
  obtain ⟨vp1_0, vp1_1, vp1_2, vp1_3, vp1_4, vp1_5, vp1_6, rfl, hrp1_0, hrp1_1, hrp1_2, hrp1_3, hrp1_4, hrp1_5, hrp1_6⟩ := h1
  have hS := St.begin NB w
  unfold g_r11_Rest at hm
  refine enter Tryz.func10 rfl rfl rfl ?_; intro a H; dsimp only [enumL, Nat.zero_add, Nat.reduceAdd] at H
  refine wp_seq (wp_region_lit (n_box H rfl (cs := [.int .i64 a0.Id, .bool a0.Mobile, vp0_0, vp0_1, vp0_2, .int .i64 a0.Events, vp0_3]) rfl rfl ?_))
  clear H; intro b21 w22 hN hE23 hs; clear a; intro a H
  replace hS := hS.newBlk hN hE23 hs; clear hN hs
  refine n_box H rfl (cs := [.int .i64 a1.Id, .int .i64 a1.Frame, .int .i64 a1.Epoch, vp1_0, vp1_1, vp1_2, vp1_3, vp1_4, vp1_5, vp1_6]) rfl rfl ?_
  clear H; intro b24 w25 hN hE26 hs; clear a; intro a H
  replace hS := hS.newBlk hN hE26 hs; clear hN hs
  refine n_q H (q_assign rfl) rfl (W_q (q_assign rfl) rfl ?_); clear H a; intro a H
  refine n_nil (then_normal (wp_seq (wp_region_lit (n_q H (q_load rfl ((hS.blk 1 rfl).ldAll ag27 sz27)) rfl (W_q (q_load rfl ((hS.blk 0 rfl).ldAll ag34 sz34)) rfl ?_))))); clear H a; intro a H
  replace hm := bindS hm; obtain ⟨r27, hr27, hm⟩ := hm
  refine n_call H rfl en50 (g_r11_check_w (A := A) (⟨_, _, _, _, rfl, (hrp0_0.ext (Flat.mono _) hS.x), (hrp0_1.ext (Flat.mono _) hS.x), (hrp0_2.ext (Flat.mono _) hS.x), (hrp0_3.ext (Flat.mono _) hS.x)⟩ : RGPlan _ [.int .i64 a0.Id, .bool a0.Mobile, vp0_0, vp0_1, vp0_2, .int .i64 a0.Events, vp0_3] a0) (⟨_, _, _, _, _, _, _, rfl, (hrp1_0.ext (Flat.mono _) hS.x), (hrp1_1.ext (Flat.mono _) hS.x), (hrp1_2.ext (Flat.mono _) hS.x), (hrp1_3.ext (Flat.mono _) hS.x), (hrp1_4.ext (Flat.mono _) hS.x), (hrp1_5.ext RGPort.mono hS.x), (hrp1_6.ext (Flat.mono _) hS.x)⟩ : RGState _ [.int .i64 a1.Id, .int .i64 a1.Frame, .int .i64 a1.Epoch, vp1_0, vp1_1, vp1_2, vp1_3, vp1_4, vp1_5, vp1_6] a1) hr27) rfl ?_
  clear H; intro x30 w28 hv; clear a; intro a H; obtain ⟨rfl, hE29⟩ := hv
  replace hS := hS.ext hE29
  refine n_q H (q_extract rfl rfl) rfl (W_q (q_extract rfl rfl) rfl (W_q (q_assign rfl) rfl (W_q (q_assign rfl) rfl ?_))); clear H a; intro a H
  refine n_nil (then_normal (wp_ret ?_))
  obtain rfl := Option.some.inj hm
  replace hS := hS.tk0
  refine ret2 H (.inr rfl) rfl rfl rfl ?_
  exact ⟨rfl, hS.x⟩
theorem g_law11_ValidRules_w {w : World} {A : Nat → Addr} {cs0 : List Value} {a0 : GPlan} {cs1 : List Value} {a1 : GState} (hG : EV A w) (hH : HE w) (h0 : RGPlan w cs0 a0) (h1 : RGState w cs1 a1) {r : Bool} (hm : g_law11_ValidRules a0 a1 = some r) :
    Calls Tryz.prog 3 [.agg cs0.toArray, .agg cs1.toArray].toArray w (Ret fun u w' => u = .bool r ∧ Ext w w') := by
  obtain ⟨vp0_0, vp0_1, vp0_2, vp0_3, rfl, hrp0_0, hrp0_1, hrp0_2, hrp0_3⟩ := h0
  obtain ⟨vp1_0, vp1_1, vp1_2, vp1_3, vp1_4, vp1_5, vp1_6, rfl, hrp1_0, hrp1_1, hrp1_2, hrp1_3, hrp1_4, hrp1_5, hrp1_6⟩ := h1
  have hS := St.begin NB w
  unfold g_law11_ValidRules at hm
  refine enter Tryz.func3 rfl rfl rfl ?_; intro a H; dsimp only [enumL, Nat.zero_add, Nat.reduceAdd] at H
  refine wp_seq (wp_region_lit (n_box H rfl (cs := [.int .i64 a0.Id, .bool a0.Mobile, vp0_0, vp0_1, vp0_2, .int .i64 a0.Events, vp0_3]) rfl rfl ?_))
  clear H; intro b21 w22 hN hE23 hs; clear a; intro a H
  replace hS := hS.newBlk hN hE23 hs; clear hN hs
  refine n_box H rfl (cs := [.int .i64 a1.Id, .int .i64 a1.Frame, .int .i64 a1.Epoch, vp1_0, vp1_1, vp1_2, vp1_3, vp1_4, vp1_5, vp1_6]) rfl rfl ?_
  clear H; intro b24 w25 hN hE26 hs; clear a; intro a H
  replace hS := hS.newBlk hN hE26 hs; clear hN hs
  refine n_q H (q_assign rfl) rfl ?_; clear H a; intro a H
  refine n_nil (then_normal (wp_seq (wp_seq (wp_region_lit ?_))))
  replace hm := bindS hm; obtain ⟨r27, hr27, hm⟩ := hm
  refine n_call H rfl en7 (g_law11_awake_w (A := A) (hG.ext hS.x) (hH.ext hS.x) hr27) rfl ?_
  clear H; intro x30 w28 hv; clear a; intro a H; obtain ⟨rfl, hE29⟩ := hv
  replace hS := hS.ext hE29
  refine n_q H (q_not rfl) rfl ?_; clear H a; intro a H
  refine n_nil (then_normal (c_cond H rfl (fun hc31 => ?_) (fun hc31 => ?_)))
  · replace hm := condT hm hc31
    refine wp_seq (wp_region_lit (n_q H (q_assign rfl) rfl ?_)); clear H a; intro a H
    refine n_nil (then_normal (wp_ret (then_ret ?_)))
    obtain rfl := Option.some.inj hm
    replace hS := hS.tk0
    refine ret1 H (.inr rfl) rfl rfl ?_
    exact ⟨rfl, hS.x⟩
  · replace hm := condF hm hc31
    refine wp_skip (then_normal (wp_seq (wp_region_lit (n_q H (q_load rfl ((hS.blk 1 rfl).ldAll ag27 sz27)) rfl (W_q (q_load rfl ((hS.blk 0 rfl).ldAll ag34 sz34)) rfl ?_))))); clear H a; intro a H
    replace hm := bindS hm; obtain ⟨r32, hr32, hm⟩ := hm
    refine n_call H rfl en8 (g_r11_Faults_w (A := A) (⟨_, _, _, _, rfl, (hrp0_0.ext (Flat.mono _) hS.x), (hrp0_1.ext (Flat.mono _) hS.x), (hrp0_2.ext (Flat.mono _) hS.x), (hrp0_3.ext (Flat.mono _) hS.x)⟩ : RGPlan _ [.int .i64 a0.Id, .bool a0.Mobile, vp0_0, vp0_1, vp0_2, .int .i64 a0.Events, vp0_3] a0) (⟨_, _, _, _, _, _, _, rfl, (hrp1_0.ext (Flat.mono _) hS.x), (hrp1_1.ext (Flat.mono _) hS.x), (hrp1_2.ext (Flat.mono _) hS.x), (hrp1_3.ext (Flat.mono _) hS.x), (hrp1_4.ext (Flat.mono _) hS.x), (hrp1_5.ext RGPort.mono hS.x), (hrp1_6.ext (Flat.mono _) hS.x)⟩ : RGState _ [.int .i64 a1.Id, .int .i64 a1.Frame, .int .i64 a1.Epoch, vp1_0, vp1_1, vp1_2, vp1_3, vp1_4, vp1_5, vp1_6] a1) hr32) rfl ?_
    clear H; intro u33 w35 hv; clear a; intro a H; obtain ⟨_, rfl, hE36⟩ := hv
    replace hS := hS.new hE36; simp only [List.cons_append, List.nil_append] at hS
    refine n_q H (q_assign rfl) rfl ?_; clear H a; intro a H
    refine n_nil (then_normal (wp_seq (wp_region_lit (n_q H (q_load rfl ((hS.blk 2 rfl).ldAll ag27 sz27)) rfl (W_q (q_load rfl ((hS.blk 1 rfl).ldAll ag34 sz34)) rfl ?_))))); clear H a; intro a H
    replace hm := bindS hm; obtain ⟨r38, hr38, hm⟩ := hm
    refine n_call H rfl en9 (g_r11_Check_w (A := A) (⟨_, _, _, _, rfl, (hrp0_0.ext (Flat.mono _) hS.x), (hrp0_1.ext (Flat.mono _) hS.x), (hrp0_2.ext (Flat.mono _) hS.x), (hrp0_3.ext (Flat.mono _) hS.x)⟩ : RGPlan _ [.int .i64 a0.Id, .bool a0.Mobile, vp0_0, vp0_1, vp0_2, .int .i64 a0.Events, vp0_3] a0) (⟨_, _, _, _, _, _, _, rfl, (hrp1_0.ext (Flat.mono _) hS.x), (hrp1_1.ext (Flat.mono _) hS.x), (hrp1_2.ext (Flat.mono _) hS.x), (hrp1_3.ext (Flat.mono _) hS.x), (hrp1_4.ext (Flat.mono _) hS.x), (hrp1_5.ext RGPort.mono hS.x), (hrp1_6.ext (Flat.mono _) hS.x)⟩ : RGState _ [.int .i64 a1.Id, .int .i64 a1.Frame, .int .i64 a1.Epoch, vp1_0, vp1_1, vp1_2, vp1_3, vp1_4, vp1_5, vp1_6] a1) hr38) rfl ?_
    clear H; intro x41 w39 hv; clear a; intro a H; obtain ⟨rfl, hE40⟩ := hv
    replace hS := hS.ext hE40
    refine n_q H (q_move rfl) rfl (W_q (q_extract rfl rfl) rfl (W_q (q_extract rfl rfl) rfl (W_q (q_assign rfl) rfl (W_q (q_assign rfl) rfl ?_)))); clear H a; intro a H
    refine n_nil (then_normal (wp_seq (wp_region_lit (n_q H (q_load rfl ((hS.blk 2 rfl).ldAll ag27 sz27)) rfl (W_q (q_load rfl ((hS.blk 1 rfl).ldAll ag34 sz34)) rfl ?_))))); clear H a; intro a H
    replace hm := bindS hm; obtain ⟨r42, hr42, hm⟩ := hm
    refine n_call H rfl en10 (g_r11_Rest_w (A := A) (⟨_, _, _, _, rfl, (hrp0_0.ext (Flat.mono _) hS.x), (hrp0_1.ext (Flat.mono _) hS.x), (hrp0_2.ext (Flat.mono _) hS.x), (hrp0_3.ext (Flat.mono _) hS.x)⟩ : RGPlan _ [.int .i64 a0.Id, .bool a0.Mobile, vp0_0, vp0_1, vp0_2, .int .i64 a0.Events, vp0_3] a0) (⟨_, _, _, _, _, _, _, rfl, (hrp1_0.ext (Flat.mono _) hS.x), (hrp1_1.ext (Flat.mono _) hS.x), (hrp1_2.ext (Flat.mono _) hS.x), (hrp1_3.ext (Flat.mono _) hS.x), (hrp1_4.ext (Flat.mono _) hS.x), (hrp1_5.ext RGPort.mono hS.x), (hrp1_6.ext (Flat.mono _) hS.x)⟩ : RGState _ [.int .i64 a1.Id, .int .i64 a1.Frame, .int .i64 a1.Epoch, vp1_0, vp1_1, vp1_2, vp1_3, vp1_4, vp1_5, vp1_6] a1) hr42) rfl ?_
    clear H; intro x45 w43 hv; clear a; intro a H; obtain ⟨rfl, hE44⟩ := hv
    replace hS := hS.ext hE44
    refine n_q H (q_move rfl) rfl (W_q (q_extract rfl rfl) rfl (W_q (q_extract rfl rfl) rfl (W_q (q_assign rfl) rfl (W_q (q_assign rfl) rfl ?_)))); clear H a; intro a H
    refine n_nil (then_normal (wp_seq (wp_seq (wp_region_lit (n_q H (q_load rfl ((hS.blk 2 rfl).ldAll ag27 sz27)) rfl (W_q (q_load rfl ((hS.blk 1 rfl).ldAll ag34 sz34)) rfl ?_)))))); clear H a; intro a H
    replace hm := bindS hm; obtain ⟨r46, hr46, hm⟩ := hm
    refine n_call H rfl en12 (g_valid_Faults_w (A := A) (hG.ext hS.x) (⟨_, _, _, _, rfl, (hrp0_0.ext (Flat.mono _) hS.x), (hrp0_1.ext (Flat.mono _) hS.x), (hrp0_2.ext (Flat.mono _) hS.x), (hrp0_3.ext (Flat.mono _) hS.x)⟩ : RGPlan _ [.int .i64 a0.Id, .bool a0.Mobile, vp0_0, vp0_1, vp0_2, .int .i64 a0.Events, vp0_3] a0) (⟨_, _, _, _, _, _, _, rfl, (hrp1_0.ext (Flat.mono _) hS.x), (hrp1_1.ext (Flat.mono _) hS.x), (hrp1_2.ext (Flat.mono _) hS.x), (hrp1_3.ext (Flat.mono _) hS.x), (hrp1_4.ext (Flat.mono _) hS.x), (hrp1_5.ext RGPort.mono hS.x), (hrp1_6.ext (Flat.mono _) hS.x)⟩ : RGState _ [.int .i64 a1.Id, .int .i64 a1.Frame, .int .i64 a1.Epoch, vp1_0, vp1_1, vp1_2, vp1_3, vp1_4, vp1_5, vp1_6] a1) hr46) rfl ?_
    clear H; intro u47 w49 hv; clear a; intro a H; obtain ⟨_, rfl, hE50⟩ := hv
    replace hS := hS.new hE50; simp only [List.cons_append, List.nil_append] at hS
    refine n_q H (q_move rfl) rfl ?_; clear H a; intro a H
    replace hm := bindS hm; obtain ⟨r52, hr52, hm⟩ := hm
    refine n_call H rfl en11 (g_law11_ints_w (A := A) ((hS.own 0 rfl).slr rfl (fun _ _ => rfl)) ((hS.own 1 rfl).slr rfl (fun _ _ => rfl)) hr52) rfl ?_
    clear H; intro x55 w53 hv; clear a; intro a H; obtain ⟨rfl, hE54⟩ := hv
    replace hS := hS.ext hE54
    refine n_q H (q_not rfl) rfl ?_; clear H a; intro a H
    refine n_nil (then_normal (c_cond H rfl (fun hc56 => ?_) (fun hc56 => ?_)))
    · replace hm := condT hm hc56
      refine wp_seq (wp_region_lit (n_q H (q_assign rfl) rfl ?_)); clear H a; intro a H
      refine n_nil (then_normal (wp_ret (then_ret ?_)))
      obtain rfl := Option.some.inj hm
      replace hS := hS.tk0
      refine ret1 H (.inr rfl) rfl rfl ?_
      exact ⟨rfl, hS.x⟩
    · replace hm := condF hm hc56
      refine wp_skip (then_normal (wp_seq (wp_region_lit (n_q H (q_load rfl ((hS.blk 3 rfl).ldAll ag27 sz27)) rfl (W_q (q_load rfl ((hS.blk 2 rfl).ldAll ag34 sz34)) rfl ?_))))); clear H a; intro a H
      replace hm := bindS hm; obtain ⟨r57, hr57, hm⟩ := hm
      refine n_call H rfl en13 (g_valid_Check_w (A := A) (hG.ext hS.x) (⟨_, _, _, _, rfl, (hrp0_0.ext (Flat.mono _) hS.x), (hrp0_1.ext (Flat.mono _) hS.x), (hrp0_2.ext (Flat.mono _) hS.x), (hrp0_3.ext (Flat.mono _) hS.x)⟩ : RGPlan _ [.int .i64 a0.Id, .bool a0.Mobile, vp0_0, vp0_1, vp0_2, .int .i64 a0.Events, vp0_3] a0) (⟨_, _, _, _, _, _, _, rfl, (hrp1_0.ext (Flat.mono _) hS.x), (hrp1_1.ext (Flat.mono _) hS.x), (hrp1_2.ext (Flat.mono _) hS.x), (hrp1_3.ext (Flat.mono _) hS.x), (hrp1_4.ext (Flat.mono _) hS.x), (hrp1_5.ext RGPort.mono hS.x), (hrp1_6.ext (Flat.mono _) hS.x)⟩ : RGState _ [.int .i64 a1.Id, .int .i64 a1.Frame, .int .i64 a1.Epoch, vp1_0, vp1_1, vp1_2, vp1_3, vp1_4, vp1_5, vp1_6] a1) hr57) rfl ?_
      clear H; intro u58 w60 hv; clear a; intro a H; obtain ⟨_, rfl, hE61⟩ := hv
      replace hS := hS.new hE61; simp only [List.cons_append, List.nil_append] at hS
      refine n_q H (q_assign rfl) rfl ?_; clear H a; intro a H
      refine n_nil (then_normal (wp_seq ?_))
      replace hm := bindS hm; obtain ⟨j63, hm, hm63⟩ := hm
      refine c_join (σ := Bool) H (fun q564 => [(2, .pointer (some ⟨b21, 0, none⟩)), (3, .pointer (some ⟨b24, 0, none⟩)), (8, .int .i64 r42.1), (9, .int .i64 r42.2), (46, .bool q564)]) (fun q564 wl => (g_law11_ValidRules_J2 a0 a1 r42) q564 = some r ∧ St NB w wl [blkR b21 [.int .i64 a0.Id, .bool a0.Mobile, vp0_0, vp0_1, vp0_2, .int .i64 a0.Events, vp0_3] 27, blkR b24 [.int .i64 a1.Id, .int .i64 a1.Frame, .int .i64 a1.Epoch, vp1_0, vp1_1, vp1_2, vp1_3, vp1_4, vp1_5, vp1_6] 34]) ?_ ?_
      · skip
        refine wp_region_lit (n_q H (q_move rfl) rfl ?_); clear H a; intro a H
        refine n_call H rfl en14 (code_w (hG.ext hS.x) (hS.any 0 rfl : IsE A w60 u58 r57)) rfl ?_
        clear H; intro x567 w565 hv; clear a; intro a H; obtain ⟨rfl, hE566⟩ := hv; replace hS := hS.ext hE566
        refine n_q H (q_move rfl) rfl (W_q (q_neqD rfl rfl) rfl (W_q (q_move rfl) rfl ?_)); clear H a; intro a H
        rcases Bool.eq_false_or_eq_true (!decide ((ErrM.code r57) = r38.1)) with hg568 | hg568
        · replace H := H.know 41 rfl hg568
          replace hm := condT hm hg568
          refine n_no H rfl rfl (by decide) rfl (W_no rfl rfl (by decide) rfl (W_no rfl rfl (by decide) rfl (W_no rfl rfl (by decide) rfl (W_q (q_pickT rfl rfl) rfl ?_)))); clear H a; intro a H
          refine n_nil (then_normal ?_)
          obtain rfl := Option.some.inj hm; replace hm := hm63; try dsimp only at hm
          replace hS := hS.pk3
          replace hS := hS.pk4
          replace hS := hS.tk2
          exact join true H ⟨rfl, rfl, rfl, rfl, rfl, trivial⟩ ⟨hm, hS⟩
        · replace H := H.know 41 rfl hg568
          replace hm := condF hm hg568
          refine n_yes H rfl rfl (n_q H (q_move rfl) rfl (W_yes rfl rfl ?_)); clear H a; intro a H
          refine n_call H rfl en15 (place_w (hH.ext hS.x) (hS.any 0 rfl : IsE A w565 u58 r57)) rfl ?_
          clear H; intro x571 w569 hv; clear a; intro a H; obtain ⟨rfl, hE570⟩ := hv; replace hS := hS.ext hE570
          refine n_yes H rfl rfl (n_q H (q_move rfl) rfl (W_yes rfl rfl (W_q (q_neqD rfl rfl) rfl (W_q (q_pickF rfl rfl) rfl ?_)))); clear H a; intro a H
          refine n_nil (then_normal ?_)
          obtain rfl := Option.some.inj hm; replace hm := hm63; try dsimp only at hm
          replace hS := hS.pk3
          replace hS := hS.pk4
          replace hS := hS.tk2
          exact join (!decide ((ErrM.place r57) = r38.2)) H ⟨rfl, rfl, rfl, rfl, rfl, trivial⟩ ⟨hm, hS⟩
      · clear H hS hm a; intro q564 a w572 H hR
        simp only [ent, List.map_cons, List.map_nil] at H; (try dsimp only at hR); obtain ⟨hm, hS⟩ := hR; try dsimp only [g_law11_ValidRules_J2] at hm
        refine c_cond H rfl (fun hc573 => ?_) (fun hc573 => ?_)
        · replace hm := condT hm hc573
          refine wp_seq (wp_region_lit (n_q H (q_assign rfl) rfl ?_)); clear H a; intro a H
          refine n_nil (then_normal (wp_ret (then_ret ?_)))
          obtain rfl := Option.some.inj hm
          replace hS := hS.tk0
          refine ret1 H (.inr rfl) rfl rfl ?_
          exact ⟨rfl, hS.x⟩
        · replace hm := condF hm hc573
          refine wp_skip (then_normal (wp_seq (wp_region_lit (n_q H (q_load rfl ((hS.blk 0 rfl).ldAll ag27 sz27)) rfl (W_q (q_load rfl ((hS.blk 1 rfl).ldAll ag34 sz34)) rfl ?_))))); clear H a; intro a H
          replace hm := bindS hm; obtain ⟨r574, hr574, hm⟩ := hm
          refine n_call H rfl en16 (g_valid_Rest_w (A := A) (hG.ext hS.x) (⟨_, _, _, _, rfl, (hrp0_0.ext (Flat.mono _) hS.x), (hrp0_1.ext (Flat.mono _) hS.x), (hrp0_2.ext (Flat.mono _) hS.x), (hrp0_3.ext (Flat.mono _) hS.x)⟩ : RGPlan _ [.int .i64 a0.Id, .bool a0.Mobile, vp0_0, vp0_1, vp0_2, .int .i64 a0.Events, vp0_3] a0) (⟨_, _, _, _, _, _, _, rfl, (hrp1_0.ext (Flat.mono _) hS.x), (hrp1_1.ext (Flat.mono _) hS.x), (hrp1_2.ext (Flat.mono _) hS.x), (hrp1_3.ext (Flat.mono _) hS.x), (hrp1_4.ext (Flat.mono _) hS.x), (hrp1_5.ext RGPort.mono hS.x), (hrp1_6.ext (Flat.mono _) hS.x)⟩ : RGState _ [.int .i64 a1.Id, .int .i64 a1.Frame, .int .i64 a1.Epoch, vp1_0, vp1_1, vp1_2, vp1_3, vp1_4, vp1_5, vp1_6] a1) hr574) rfl ?_
          clear H; intro u575 w577 hv; clear a; intro a H; obtain ⟨_, rfl, hE578⟩ := hv
          replace hS := hS.new hE578; simp only [List.cons_append, List.nil_append] at hS
          refine n_q H (q_assign rfl) rfl ?_; clear H a; intro a H
          refine n_nil (then_normal (wp_seq (wp_region_lit (n_q H (q_move rfl) rfl ?_)))); clear H a; intro a H
          refine n_call H rfl en14 (code_w (hG.ext hS.x) (hS.any 0 rfl : IsE A w577 u575 r574)) rfl ?_
          clear H; intro x582 w580 hv; clear a; intro a H; obtain ⟨rfl, hE581⟩ := hv; replace hS := hS.ext hE581
          refine n_q H (q_move rfl) rfl (W_q (q_eqlD rfl rfl) rfl (W_q (q_move rfl) rfl ?_)); clear H a; intro a H
          rcases Bool.eq_false_or_eq_true (decide ((ErrM.code r574) = r42.1)) with hg583 | hg583
          · replace H := H.know 54 rfl hg583
            replace hm := condT hm hg583
            refine n_yes H rfl rfl (n_q H (q_move rfl) rfl (W_yes rfl rfl ?_)); clear H a; intro a H
            refine n_call H rfl en15 (place_w (hH.ext hS.x) (hS.any 0 rfl : IsE A w580 u575 r574)) rfl ?_
            clear H; intro x586 w584 hv; clear a; intro a H; obtain ⟨rfl, hE585⟩ := hv; replace hS := hS.ext hE585
            refine n_yes H rfl rfl (n_q H (q_move rfl) rfl (W_yes rfl rfl (W_q (q_eqlD rfl rfl) rfl (W_q (q_pickT rfl rfl) rfl (W_q (q_assign rfl) rfl ?_))))); clear H a; intro a H
            refine n_nil (then_normal (wp_ret ?_))
            obtain rfl := Option.some.inj hm
            replace hS := hS.tk0
            refine ret1 H (.inr rfl) rfl rfl ?_
            exact ⟨rfl, hS.x⟩
          · replace H := H.know 54 rfl hg583
            replace hm := condF hm hg583
            refine n_no H rfl rfl (by decide) rfl (W_no rfl rfl (by decide) rfl (W_no rfl rfl (by decide) rfl (W_no rfl rfl (by decide) rfl (W_q (q_pickF rfl rfl) rfl (W_q (q_assign rfl) rfl ?_))))); clear H a; intro a H
            refine n_nil (then_normal (wp_ret ?_))
            obtain rfl := Option.some.inj hm
            replace hS := hS.tk0
            refine ret1 H (.inr rfl) rfl rfl ?_
            exact ⟨rfl, hS.x⟩
end Go.Proofs.YtjoihegnjjjdaaaGreatDoor
