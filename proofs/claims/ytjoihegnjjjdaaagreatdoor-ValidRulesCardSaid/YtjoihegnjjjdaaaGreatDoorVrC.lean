/- Vr (written by wip/tools) -/
import Derived.Test.YtjoihegnjjjdaaaGreatDoorVrB
set_option linter.unusedVariables false
set_option linter.unusedSimpArgs false
set_option maxRecDepth 10000
namespace Go.Proofs.YtjoihegnjjjdaaaGreatDoor
open Go Go.RowKit
theorem ag172 : aggB Tryz.prog 172 = some true := by kernel_rfl
theorem bd172 : bdB Tryz.prog 172 = true := by kernel_rfl
theorem pl172 : placesB Tryz.prog 172 = some #[(0, 1), (1, 1)] := by kernel_rfl
theorem en171 : entersB Tryz.prog 171 = true := by kernel_rfl
theorem en172 : entersB Tryz.prog 172 = true := by kernel_rfl
theorem en173 : entersB Tryz.prog 173 = true := by kernel_rfl
theorem en174 : entersB Tryz.prog 174 = true := by kernel_rfl
theorem en175 : entersB Tryz.prog 175 = true := by kernel_rfl
theorem en176 : entersB Tryz.prog 176 = true := by kernel_rfl
theorem en177 : entersB Tryz.prog 177 = true := by kernel_rfl
theorem en178 : entersB Tryz.prog 178 = true := by kernel_rfl
theorem en204 : entersB Tryz.prog 204 = true := by kernel_rfl
theorem en205 : entersB Tryz.prog 205 = true := by kernel_rfl
theorem en206 : entersB Tryz.prog 206 = true := by kernel_rfl
theorem en207 : entersB Tryz.prog 207 = true := by kernel_rfl
theorem en99 : entersB Tryz.prog 99 = true := by kernel_rfl
theorem fd172_0 : fdB Tryz.prog 172 0 = some (false, 0, 1) := by kernel_rfl
theorem fo172_0 : fOff Tryz.prog 172 0 = some 0 := by kernel_rfl
theorem sz172 : sizeB Tryz.prog 172 = some 2 := by kernel_rfl
theorem ze172 : zeroB Tryz.prog 172 = some [.int .i64 0, .int .i64 0] := by kernel_rfl

theorem g_r10_bad_w {w : World} {A : Nat → Addr} {a0 : Int} {r : GR10Err} (hm : g_r10_bad a0 = some r) :
    Calls Tryz.prog 171 [.int .i64 a0].toArray w (Ret fun u w' => u = .agg (eGR10Err r).toArray ∧ Ext w w') := by
  have hS := St.begin NB w
  unfold g_r10_bad at hm
  refine enter Tryz.func171 rfl rfl rfl ?_; intro a H; dsimp only [enumL, Nat.zero_add, Nat.reduceAdd] at H
  refine wp_seq (wp_region_lit (n_alloc H ze172 rfl ?_))
  clear H; intro b21 w22 hN hE23 hs; clear a; intro a H
  replace hS := hS.newBlk hN hE23 hs; clear hN hs
  refine n_nil (then_normal (wp_seq (wp_region_lit (n_q H (q_move rfl) rfl (W_q (q_build (cs := [.int .i64 a0, .int .i64 (-1)]) ze172 bd172 pl172 rfl (by kernel_rfl)) rfl ?_))))); clear H a; intro a H
  refine n_storeAll H rfl rfl (vs := [.int .i64 a0, .int .i64 (-1)]) rfl sz172 (hS.blk 0 rfl) rfl (by simp) ?_
  clear H; intro w24 hN hC25 hz; clear a; intro a H; replace hS := hS.setBlk hN hC25; clear hN hz
  refine n_nil (then_normal (wp_ret ?_))
  obtain rfl := Option.some.inj hm
  refine retL H (.inr rfl) rfl (vs := [.agg #[.int .i64 a0, .int .i64 (-1)]]) (resCell rfl ((hS.blk 0 rfl).ldAll ag172 sz172) resNil) ?_
  replace hS := hS.tk0
  exact ⟨rfl, hS.x⟩
theorem g_r10_none_w {w : World} {A : Nat → Addr} {r : GR10Err} (hm : g_r10_none = some r) :
    Calls Tryz.prog 177 [].toArray w (Ret fun u w' => u = .agg (eGR10Err r).toArray ∧ Ext w w') := by
  have hS := St.begin NB w
  unfold g_r10_none at hm
  refine enter Tryz.func177 rfl rfl rfl ?_; intro a H; dsimp only [enumL, Nat.zero_add, Nat.reduceAdd] at H
  refine wp_seq (wp_region_lit (n_alloc H ze172 rfl ?_))
  clear H; intro b21 w22 hN hE23 hs; clear a; intro a H
  replace hS := hS.newBlk hN hE23 hs; clear hN hs
  refine n_nil (then_normal (wp_seq (wp_region_lit (n_q H (q_build (cs := [.int .i64 0, .int .i64 (-1)]) ze172 bd172 pl172 rfl (by kernel_rfl)) rfl ?_)))); clear H a; intro a H
  refine n_storeAll H rfl rfl (vs := [.int .i64 0, .int .i64 (-1)]) rfl sz172 (hS.blk 0 rfl) rfl (by simp) ?_
  clear H; intro w24 hN hC25 hz; clear a; intro a H; replace hS := hS.setBlk hN hC25; clear hN hz
  refine n_nil (then_normal (wp_ret ?_))
  obtain rfl := Option.some.inj hm
  refine retL H (.inr rfl) rfl (vs := [.agg #[.int .i64 0, .int .i64 (-1)]]) (resCell rfl ((hS.blk 0 rfl).ldAll ag172 sz172) resNil) ?_
  replace hS := hS.tk0
  exact ⟨rfl, hS.x⟩
theorem g_r10_pages_w {w : World} {A : Nat → Addr} {cs0 : List Value} {a0 : GPlan} (h0 : RGPlan w cs0 a0) {r : GR10Err} (hm : g_r10_pages a0 = some r) :
    Calls Tryz.prog 172 [.agg cs0.toArray].toArray w (Ret fun u w' => u = .agg (eGR10Err r).toArray ∧ Ext w w') := by
  obtain ⟨vp0_0, vp0_1, vp0_2, vp0_3, rfl, hrp0_0, hrp0_1, hrp0_2, hrp0_3⟩ := h0
  have hS := St.begin NB w
  unfold g_r10_pages at hm
  refine enter Tryz.func172 rfl rfl rfl ?_; intro a H; dsimp only [enumL, Nat.zero_add, Nat.reduceAdd] at H
  refine wp_seq (wp_region_lit (n_box H rfl (cs := [.int .i64 a0.Id, .bool a0.Mobile, vp0_0, vp0_1, vp0_2, .int .i64 a0.Events, vp0_3]) rfl rfl ?_))
  clear H; intro b21 w22 hN hE23 hs; clear a; intro a H
  replace hS := hS.newBlk hN hE23 hs; clear hN hs
  refine n_alloc H ze172 rfl ?_
  clear H; intro b24 w25 hN hE26 hs; clear a; intro a H
  replace hS := hS.newBlk hN hE26 hs; clear hN hs
  refine n_nil (then_normal (wp_seq (wp_seq (wp_region_lit (n_c H (fun HC => ?_)))))); clear H
  refine nc_q HC (q_fieldAddr0 rfl fo27_2) rfl (by kernel_rfl) (V_q (q_load rfl ((hS.blk 1 rfl).ld ag22 rfl)) rfl (by kernel_rfl) ?_); clear HC a; intro a HC
  obtain ⟨A27, c27, hv27, hl27, hm27⟩ := SlR.formV (hrp0_0.ext (Flat.mono _) hS.x)
  refine nc_q HC (q_lenV Tryz.underlying22 rfl hv27) rfl (by kernel_rfl) (V_q (q_lssN (i := a0.Pages.length) (j := 1) rfl rfl) rfl (by kernel_rfl) (V_q (q_move rfl) rfl (by kernel_rfl) (V_g (q_fieldAddr0 rfl fo27_2) (by kernel_rfl) (by kernel_rfl) (by kernel_rfl) (V_g (q_load rfl ((hS.blk 1 rfl).ld ag22 rfl)) (by kernel_rfl) (by kernel_rfl) (by kernel_rfl) (V_g (q_lenV Tryz.underlying22 rfl hv27) (by kernel_rfl) (by kernel_rfl) (by kernel_rfl) (V_g (q_gtrN (i := a0.Pages.length) (j := 32) rfl rfl) (by kernel_rfl) (by kernel_rfl) (by kernel_rfl) (V_or (j := 4) rfl rfl rfl (by kernel_rfl) (by kernel_rfl) ?_))))))); clear HC a; intro a HC
  have H := HC.has; clear HC
  refine n_nil (then_normal (c_cond H rfl (fun hc28 => ?_) (fun hc28 => ?_)))
  · replace hm := condT hm hc28
    refine wp_seq (wp_region_lit ?_)
    replace hm := bindS hm; obtain ⟨r29, hr29, hm⟩ := hm
    refine n_call H rfl en171 (g_r10_bad_w (A := A) hr29) rfl ?_
    clear H; intro x32 w30 hv; clear a; intro a H; obtain ⟨rfl, hE31⟩ := hv
    replace hS := hS.ext hE31
    refine n_storeAll H rfl rfl (vs := [.int .i64 r29.Code, .int .i64 r29.Place]) rfl sz172 (hS.blk 0 rfl) rfl (by simp) ?_
    clear H; intro w33 hN hC34 hz; clear a; intro a H; replace hS := hS.setBlk hN hC34; clear hN hz
    refine n_nil (then_normal (wp_ret (then_ret ?_)))
    obtain rfl := Option.some.inj hm
    replace hS := hS.tk1
    refine retL H (.inr rfl) rfl (vs := [.agg #[.int .i64 r29.Code, .int .i64 r29.Place]]) (resCell rfl ((hS.blk 0 rfl).ldAll ag172 sz172) resNil) ?_
    replace hS := hS.tk0
    exact ⟨rfl, hS.x⟩
  · replace hm := condF hm hc28
    refine wp_skip (then_normal (wp_seq (wp_seq (wp_region_lit (n_q H (q_assign rfl) rfl ?_))))); clear H a; intro a H
    refine n_nil (then_normal (wp_block ?_))
    replace hS := hS.pk1
    replace hm := bindS hm; obtain ⟨q35, hm, hm35⟩ := hm; replace hm := iter_some hm; obtain ⟨n35, hm⟩ := hm
    refine c_loop (σ := Nat × Nat) (fun (m, i36) => [(1, .pointer (some ⟨b21, 0, none⟩)), (2, .pointer (some ⟨b24, 0, none⟩)), (3, .int .i64 ((i36 : Nat) : Int))]) (fun (m, i36) wl => iterN (g_r10_pages_L13 a0) m i36 = some q35 ∧ St NB w wl [blkR b21 [.int .i64 a0.Id, .bool a0.Mobile, vp0_0, vp0_1, vp0_2, .int .i64 a0.Events, vp0_3] 27, blkR b24 [.int .i64 0, .int .i64 0] 172]) (fun (m, i36) => m) (n35, 0) H ⟨rfl, rfl, rfl, trivial⟩ ⟨hm, hS⟩ ?_
    clear H hS hm a; intro xx a w37 H hR; obtain ⟨m, i36⟩ := xx; simp only [ent, List.map_cons, List.map_nil] at H; (try dsimp only at hR); obtain ⟨hm, hS⟩ := hR
    replace hm := iterN_step hm; obtain ⟨m35, o35, rfl, hm, hn35⟩ := hm; try dsimp only [g_r10_pages_L13] at hm
    refine wp_seq (wp_seq (wp_region_lit (n_q H (q_move rfl) rfl (W_q (q_fieldAddr0 rfl fo27_2) rfl (W_q (q_load rfl ((hS.blk 0 rfl).ld ag22 rfl)) rfl (W_q (q_lenV Tryz.underlying22 rfl hv27) rfl (W_q (q_lssN (i := i36) (j := a0.Pages.length) rfl rfl) rfl ?_))))))); clear H a; intro a H
    refine n_nil (then_normal (c_cond H rfl (fun hc38 => ?_) (fun hc38 => ?_)))
    · replace hm := condT hm hc38
      have hlt39 : i36 < a0.Pages.length := of_decide_eq_true hc38
      refine wp_skip (then_normal (wp_seq (wp_block (wp_seq ?_))))
      replace hm := bindS hm; obtain ⟨j40, hm, hm40⟩ := hm
      refine c_join (σ := Bool) H (fun q541 => [(1, .pointer (some ⟨b21, 0, none⟩)), (2, .pointer (some ⟨b24, 0, none⟩)), (3, .int .i64 ((i36 : Nat) : Int)), (37, .bool q541)]) (fun q541 wl => (g_r10_pages_J12 a0 i36) q541 = some o35 ∧ St NB w wl [blkR b21 [.int .i64 a0.Id, .bool a0.Mobile, vp0_0, vp0_1, vp0_2, .int .i64 a0.Events, vp0_3] 27, blkR b24 [.int .i64 0, .int .i64 0] 172]) ?_ ?_
      · skip
        refine wp_region_lit (n_q H (q_fieldAddr0 rfl fo27_2) rfl (W_q (q_load rfl ((hS.blk 0 rfl).ld ag22 rfl)) rfl (W_q (q_move rfl) rfl ?_))); clear H a; intro a H
        replace hm := bindS hm; obtain ⟨x542, hx542, hm⟩ := hm
        obtain ⟨adx542, hAx542⟩ := SlR.adV (hrp0_0.ext (Flat.mono _) hS.x) hv27 hx542
        refine n_q H (q_ixV (i := i36) Tryz.underlying22 sz167 rfl hv27 hAx542 rfl (natI hx542)) rfl (W_q (q_fieldAddr rfl fo167_0) rfl (W_q (q_load rfl (SlR.ldCellV (j := 0) (hrp0_0.ext (Flat.mono _) hS.x) hv27 hAx542 ag3 hx542 rfl)) rfl (W_q (q_lss rfl rfl) rfl (W_q (q_move rfl) rfl ?_)))); clear H a; intro a H
        rcases Bool.eq_false_or_eq_true (decide (x542.Rights < 0)) with hg543 | hg543
        · replace H := H.know 29 rfl hg543
          replace hm := condT hm hg543
          refine n_no H rfl rfl (by decide) rfl (W_no rfl rfl (by decide) rfl (W_no rfl rfl (by decide) rfl (W_no rfl rfl (by decide) rfl (W_no rfl rfl (by decide) rfl (W_no rfl rfl (by decide) rfl (W_no rfl rfl (by decide) rfl (W_q (q_pickT rfl rfl) rfl ?_))))))); clear H a; intro a H
          refine n_nil (then_normal ?_)
          obtain rfl := Option.some.inj hm; replace hm := hm40; try dsimp only at hm
          exact join true H ⟨rfl, rfl, rfl, rfl, trivial⟩ ⟨hm, hS⟩
        · replace H := H.know 29 rfl hg543
          replace hm := condF hm hg543
          refine n_yes H rfl rfl (n_q H (q_fieldAddr0 rfl fo27_2) rfl (W_yes rfl rfl (W_q (q_load rfl ((hS.blk 0 rfl).ld ag22 rfl)) rfl (W_yes rfl rfl (W_q (q_move rfl) rfl (W_yes rfl rfl ?_)))))); clear H a; intro a H
          replace hm := bindS hm; obtain ⟨x544, hx544, hm⟩ := hm
          obtain ⟨adx544, hAx544⟩ := SlR.adV (hrp0_0.ext (Flat.mono _) hS.x) hv27 hx544
          refine n_q H (q_ixV (i := i36) Tryz.underlying22 sz167 rfl hv27 hAx544 rfl (natI hx544)) rfl (W_yes rfl rfl (W_q (q_fieldAddr rfl fo167_0) rfl (W_yes rfl rfl (W_q (q_load rfl (SlR.ldCellV (j := 0) (hrp0_0.ext (Flat.mono _) hS.x) hv27 hAx544 ag3 hx544 rfl)) rfl (W_yes rfl rfl (W_q (q_gtr rfl rfl) rfl (W_q (q_pickF rfl rfl) rfl ?_))))))); clear H a; intro a H
          refine n_nil (then_normal ?_)
          obtain rfl := Option.some.inj hm; replace hm := hm40; try dsimp only at hm
          exact join (decide (7 < x544.Rights)) H ⟨rfl, rfl, rfl, rfl, trivial⟩ ⟨hm, hS⟩
      · clear H hS hm a; intro q541 a w545 H hR
        simp only [ent, List.map_cons, List.map_nil] at H; (try dsimp only at hR); obtain ⟨hm, hS⟩ := hR; try dsimp only [g_r10_pages_J12] at hm
        refine c_cond H rfl (fun hc546 => ?_) (fun hc546 => ?_)
        · replace hm := condT hm hc546
          refine wp_seq (wp_region_lit (n_q H (q_move rfl) rfl (W_q (q_build (cs := [.int .i64 4, .int .i64 ((i36 : Nat) : Int)]) ze172 bd172 pl172 rfl (by kernel_rfl)) rfl ?_))); clear H a; intro a H
          replace hS := hS.pk1
          refine n_storeAll H rfl rfl (vs := [.int .i64 4, .int .i64 ((i36 : Nat) : Int)]) rfl sz172 (hS.blk 0 rfl) rfl (by simp) ?_
          clear H; intro w547 hN hC548 hz; clear a; intro a H; replace hS := hS.setBlk hN hC548; clear hN hz
          refine n_nil (then_normal (wp_ret (then_ret (block_ret (then_ret (then_ret (block_ret (then_ret ?_))))))))
          obtain rfl := Option.some.inj hm; have hz : _ = q35 := hn35; subst hz; replace hm := hm35; try dsimp only at hm
          obtain rfl := Option.some.inj hm
          replace hS := hS.tk1
          refine retL H (.inr rfl) rfl (vs := [.agg #[.int .i64 4, .int .i64 ((i36 : Nat) : Int)]]) (resCell rfl ((hS.blk 0 rfl).ldAll ag172 sz172) resNil) ?_
          replace hS := hS.tk0
          exact ⟨rfl, hS.x⟩
        · replace hm := condF hm hc546
          refine wp_skip (then_normal (wp_seq (wp_region_lit (n_q H (q_fieldAddr0 rfl fo27_2) rfl (W_q (q_load rfl ((hS.blk 0 rfl).ld ag22 rfl)) rfl (W_q (q_move rfl) rfl ?_)))))); clear H a; intro a H
          replace hm := bindS hm; obtain ⟨x549, hx549, hm⟩ := hm
          obtain ⟨adx549, hAx549⟩ := SlR.adV (hrp0_0.ext (Flat.mono _) hS.x) hv27 hx549
          refine n_q H (q_ixV (i := i36) Tryz.underlying22 sz167 rfl hv27 hAx549 rfl (natI hx549)) rfl (W_q (q_fieldAddr rfl fo167_1) rfl (W_q (q_load rfl (SlR.ldCellV (j := 1) (hrp0_0.ext (Flat.mono _) hS.x) hv27 hAx549 ag9 hx549 rfl)) rfl (W_q (q_lenS Tryz.underlying9 rfl) rfl (W_q (q_gtrN (i := x549.Init.size) (j := 64) rfl rfl) rfl ?_)))); clear H a; intro a H
          refine n_nil (then_normal (c_cond H rfl (fun hc550 => ?_) (fun hc550 => ?_)))
          · replace hm := condT hm hc550
            refine wp_seq (wp_region_lit (n_q H (q_move rfl) rfl (W_q (q_build (cs := [.int .i64 5, .int .i64 ((i36 : Nat) : Int)]) ze172 bd172 pl172 rfl (by kernel_rfl)) rfl ?_))); clear H a; intro a H
            replace hS := hS.pk1
            refine n_storeAll H rfl rfl (vs := [.int .i64 5, .int .i64 ((i36 : Nat) : Int)]) rfl sz172 (hS.blk 0 rfl) rfl (by simp) ?_
            clear H; intro w551 hN hC552 hz; clear a; intro a H; replace hS := hS.setBlk hN hC552; clear hN hz
            refine n_nil (then_normal (wp_ret (block_ret (then_ret (then_ret (block_ret (then_ret ?_)))))))
            obtain rfl := Option.some.inj hm; have hz : _ = q35 := hn35; subst hz; replace hm := hm35; try dsimp only at hm
            obtain rfl := Option.some.inj hm
            replace hS := hS.tk1
            refine retL H (.inr rfl) rfl (vs := [.agg #[.int .i64 5, .int .i64 ((i36 : Nat) : Int)]]) (resCell rfl ((hS.blk 0 rfl).ldAll ag172 sz172) resNil) ?_
            replace hS := hS.tk0
            exact ⟨rfl, hS.x⟩
          · replace hm := condF hm hc550
            refine wp_skip (block_normal (then_normal (wp_region_lit (n_q H (q_move rfl) rfl (W_q (q_incr (i := i36) (j := 1) rfl rfl (by omega)) rfl (W_q (q_assign rfl) rfl ?_)))))); clear H a; intro a H
            refine n_nil (then_normal ?_)
            obtain rfl := Option.some.inj hm
            exact round (m35, i36 + 1) H ⟨rfl, rfl, rfl, trivial⟩ ⟨hn35, hS⟩ (Nat.lt_succ_self _)
    · replace hm := condF hm hc38
      refine wp_exit (then_exit (then_exit (block_exit ?_)))
      obtain rfl := Option.some.inj hm; have hz : _ = q35 := hn35; subst hz; replace hm := hm35; try dsimp only at hm
      refine then_normal (wp_seq (wp_region_lit ?_))
      replace hm := bindS hm; obtain ⟨r553, hr553, hm⟩ := hm
      refine n_call H rfl en177 (g_r10_none_w (A := A) hr553) rfl ?_
      clear H; intro x556 w554 hv; clear a; intro a H; obtain ⟨rfl, hE555⟩ := hv
      replace hS := hS.ext hE555
      replace hS := hS.pk1
      refine n_storeAll H rfl rfl (vs := [.int .i64 r553.Code, .int .i64 r553.Place]) rfl sz172 (hS.blk 0 rfl) rfl (by simp) ?_
      clear H; intro w557 hN hC558 hz; clear a; intro a H; replace hS := hS.setBlk hN hC558; clear hN hz
      refine n_nil (then_normal (wp_ret ?_))
      obtain rfl := Option.some.inj hm
      replace hS := hS.tk1
      refine retL H (.inr rfl) rfl (vs := [.agg #[.int .i64 r553.Code, .int .i64 r553.Place]]) (resCell rfl ((hS.blk 0 rfl).ldAll ag172 sz172) resNil) ?_
      replace hS := hS.tk0
      exact ⟨rfl, hS.x⟩
theorem g_r10_procs_w {w : World} {A : Nat → Addr} {cs0 : List Value} {a0 : GPlan} (h0 : RGPlan w cs0 a0) {r : GR10Err} (hm : g_r10_procs a0 = some r) :
    Calls Tryz.prog 173 [.agg cs0.toArray].toArray w (Ret fun u w' => u = .agg (eGR10Err r).toArray ∧ Ext w w') := by
  obtain ⟨vp0_0, vp0_1, vp0_2, vp0_3, rfl, hrp0_0, hrp0_1, hrp0_2, hrp0_3⟩ := h0
  have hS := St.begin NB w
  unfold g_r10_procs at hm
  refine enter Tryz.func173 rfl rfl rfl ?_; intro a H; dsimp only [enumL, Nat.zero_add, Nat.reduceAdd] at H
  refine wp_seq (wp_region_lit (n_box H rfl (cs := [.int .i64 a0.Id, .bool a0.Mobile, vp0_0, vp0_1, vp0_2, .int .i64 a0.Events, vp0_3]) rfl rfl ?_))
  clear H; intro b21 w22 hN hE23 hs; clear a; intro a H
  replace hS := hS.newBlk hN hE23 hs; clear hN hs
  refine n_alloc H ze172 rfl ?_
  clear H; intro b24 w25 hN hE26 hs; clear a; intro a H
  replace hS := hS.newBlk hN hE26 hs; clear hN hs
  refine n_nil (then_normal (wp_seq (wp_seq (wp_region_lit (n_c H (fun HC => ?_)))))); clear H
  refine nc_q HC (q_fieldAddr0 rfl fo27_3) rfl (by kernel_rfl) (V_q (q_load rfl ((hS.blk 1 rfl).ld ag23 rfl)) rfl (by kernel_rfl) ?_); clear HC a; intro a HC
  obtain ⟨A27, c27, hv27, hl27, hm27⟩ := SlR.formV (hrp0_1.ext (Flat.mono _) hS.x)
  refine nc_q HC (q_lenV Tryz.underlying23 rfl hv27) rfl (by kernel_rfl) (V_q (q_lssN (i := a0.Procs.length) (j := 1) rfl rfl) rfl (by kernel_rfl) (V_q (q_move rfl) rfl (by kernel_rfl) (V_g (q_fieldAddr0 rfl fo27_3) (by kernel_rfl) (by kernel_rfl) (by kernel_rfl) (V_g (q_load rfl ((hS.blk 1 rfl).ld ag23 rfl)) (by kernel_rfl) (by kernel_rfl) (by kernel_rfl) (V_g (q_lenV Tryz.underlying23 rfl hv27) (by kernel_rfl) (by kernel_rfl) (by kernel_rfl) (V_g (q_gtrN (i := a0.Procs.length) (j := 8) rfl rfl) (by kernel_rfl) (by kernel_rfl) (by kernel_rfl) (V_or (j := 4) rfl rfl rfl (by kernel_rfl) (by kernel_rfl) ?_))))))); clear HC a; intro a HC
  have H := HC.has; clear HC
  refine n_nil (then_normal (c_cond H rfl (fun hc28 => ?_) (fun hc28 => ?_)))
  · replace hm := condT hm hc28
    refine wp_seq (wp_region_lit ?_)
    replace hm := bindS hm; obtain ⟨r29, hr29, hm⟩ := hm
    refine n_call H rfl en171 (g_r10_bad_w (A := A) hr29) rfl ?_
    clear H; intro x32 w30 hv; clear a; intro a H; obtain ⟨rfl, hE31⟩ := hv
    replace hS := hS.ext hE31
    refine n_storeAll H rfl rfl (vs := [.int .i64 r29.Code, .int .i64 r29.Place]) rfl sz172 (hS.blk 0 rfl) rfl (by simp) ?_
    clear H; intro w33 hN hC34 hz; clear a; intro a H; replace hS := hS.setBlk hN hC34; clear hN hz
    refine n_nil (then_normal (wp_ret (then_ret ?_)))
    obtain rfl := Option.some.inj hm
    replace hS := hS.tk1
    refine retL H (.inr rfl) rfl (vs := [.agg #[.int .i64 r29.Code, .int .i64 r29.Place]]) (resCell rfl ((hS.blk 0 rfl).ldAll ag172 sz172) resNil) ?_
    replace hS := hS.tk0
    exact ⟨rfl, hS.x⟩
  · replace hm := condF hm hc28
    refine wp_skip (then_normal (wp_seq (wp_seq (wp_region_lit (n_q H (q_assign rfl) rfl ?_))))); clear H a; intro a H
    refine n_nil (then_normal (wp_block ?_))
    replace hS := hS.pk1
    replace hm := bindS hm; obtain ⟨q35, hm, hm35⟩ := hm; replace hm := iter_some hm; obtain ⟨n35, hm⟩ := hm
    refine c_loop (σ := Nat × Nat) (fun (m, i36) => [(1, .pointer (some ⟨b21, 0, none⟩)), (2, .pointer (some ⟨b24, 0, none⟩)), (3, .int .i64 ((i36 : Nat) : Int))]) (fun (m, i36) wl => iterN (g_r10_procs_L7 a0) m i36 = some q35 ∧ St NB w wl [blkR b21 [.int .i64 a0.Id, .bool a0.Mobile, vp0_0, vp0_1, vp0_2, .int .i64 a0.Events, vp0_3] 27, blkR b24 [.int .i64 0, .int .i64 0] 172]) (fun (m, i36) => m) (n35, 0) H ⟨rfl, rfl, rfl, trivial⟩ ⟨hm, hS⟩ ?_
    clear H hS hm a; intro xx a w37 H hR; obtain ⟨m, i36⟩ := xx; simp only [ent, List.map_cons, List.map_nil] at H; (try dsimp only at hR); obtain ⟨hm, hS⟩ := hR
    replace hm := iterN_step hm; obtain ⟨m35, o35, rfl, hm, hn35⟩ := hm; try dsimp only [g_r10_procs_L7] at hm
    refine wp_seq (wp_seq (wp_region_lit (n_q H (q_move rfl) rfl (W_q (q_fieldAddr0 rfl fo27_3) rfl (W_q (q_load rfl ((hS.blk 0 rfl).ld ag23 rfl)) rfl (W_q (q_lenV Tryz.underlying23 rfl hv27) rfl (W_q (q_lssN (i := i36) (j := a0.Procs.length) rfl rfl) rfl ?_))))))); clear H a; intro a H
    refine n_nil (then_normal (c_cond H rfl (fun hc38 => ?_) (fun hc38 => ?_)))
    · replace hm := condT hm hc38
      have hlt39 : i36 < a0.Procs.length := of_decide_eq_true hc38
      refine wp_skip (then_normal (wp_seq (wp_block (wp_seq (wp_region_lit (n_q H (q_fieldAddr0 rfl fo27_3) rfl (W_q (q_load rfl ((hS.blk 0 rfl).ld ag23 rfl)) rfl (W_q (q_move rfl) rfl ?_)))))))); clear H a; intro a H
      replace hm := bindS hm; obtain ⟨x40, hx40, hm⟩ := hm
      obtain ⟨adx40, hAx40⟩ := SlR.adV (hrp0_1.ext (Flat.mono _) hS.x) hv27 hx40
      refine n_q H (q_ixV (i := i36) Tryz.underlying23 sz169 rfl hv27 hAx40 rfl (natI hx40)) rfl (W_q (q_load rfl (SlR.ldAggV (hrp0_1.ext (Flat.mono _) hS.x) hv27 hAx40 ag169 sz169 hx40)) rfl ?_); clear H a; intro a H
      refine n_alloc H ze169 rfl ?_
      clear H; intro b41 w42 hN hE43 hs; clear a; intro a H
      replace hS := hS.newBlk hN hE43 hs; clear hN hs
      refine n_storeAll H rfl rfl (vs := [.int .i64 x40.Entry, .int .i64 x40.Prio, .bool x40.Auto]) rfl sz169 (hS.blk 0 rfl) rfl (by simp) ?_
      clear H; intro w44 hN hC45 hz; clear a; intro a H; replace hS := hS.setBlk hN hC45; clear hN hz
      refine n_nil (then_normal ?_)
      replace hm := bindS hm; obtain ⟨j46, hm, hm46⟩ := hm
      refine c_join (σ := Bool) H (fun q547 => [(1, .pointer (some ⟨b21, 0, none⟩)), (2, .pointer (some ⟨b24, 0, none⟩)), (3, .int .i64 ((i36 : Nat) : Int)), (55, .bool q547)]) (fun q547 wl => (g_r10_procs_J6 i36) q547 = some o35 ∧ St NB w wl [blkR b21 [.int .i64 a0.Id, .bool a0.Mobile, vp0_0, vp0_1, vp0_2, .int .i64 a0.Events, vp0_3] 27, blkR b24 [.int .i64 0, .int .i64 0] 172]) ?_ ?_
      · skip
        refine wp_region_lit (n_q H (q_fieldAddr0 rfl fo169_0) rfl (W_q (q_load rfl ((hS.blk 0 rfl).ld ag3 rfl)) rfl (W_q (q_lss rfl rfl) rfl (W_q (q_move rfl) rfl ?_)))); clear H a; intro a H
        rcases Bool.eq_false_or_eq_true (decide (x40.Entry < 0)) with hg548 | hg548
        · replace H := H.know 31 rfl hg548
          replace hm := condT hm hg548
          refine n_no H rfl rfl (by decide) rfl (W_no rfl rfl (by decide) rfl (W_no rfl rfl (by decide) rfl (W_no rfl rfl (by decide) rfl (W_q (q_pickT rfl rfl) rfl (W_q (q_move rfl) rfl (W_no rfl rfl (by decide) rfl (W_no rfl rfl (by decide) rfl (W_no rfl rfl (by decide) rfl (W_no rfl rfl (by decide) rfl (W_no rfl rfl (by decide) rfl (W_no rfl rfl (by decide) rfl ?_))))))))))); clear H a; intro a H
          refine n_no H rfl rfl (by decide) rfl (W_q (q_pickT rfl rfl) rfl (W_q (q_move rfl) rfl (W_no rfl rfl (by decide) rfl (W_no rfl rfl (by decide) rfl (W_no rfl rfl (by decide) rfl (W_q (q_pickT rfl rfl) rfl (W_q (q_move rfl) rfl (W_no rfl rfl (by decide) rfl (W_no rfl rfl (by decide) rfl (W_no rfl rfl (by decide) rfl (W_q (q_pickT rfl rfl) rfl ?_))))))))))); clear H a; intro a H
          refine n_nil (then_normal ?_)
          obtain rfl := Option.some.inj hm; replace hm := hm46; try dsimp only at hm
          replace hS := hS.pk2
          replace hS := hS.pk2
          replace hS := hS.tk2
          exact join true H ⟨rfl, rfl, rfl, rfl, trivial⟩ ⟨hm, hS⟩
        · replace H := H.know 31 rfl hg548
          replace hm := condF hm hg548
          refine n_yes H rfl rfl (n_q H (q_fieldAddr0 rfl fo169_0) rfl (W_yes rfl rfl (W_q (q_load rfl ((hS.blk 0 rfl).ld ag3 rfl)) rfl (W_yes rfl rfl (W_q (q_remW rfl rfl (by decide)) rfl (W_yes rfl rfl (W_q (q_neqD rfl rfl) rfl (W_q (q_pickF rfl rfl) rfl (W_q (q_move rfl) rfl ?_))))))))); clear H a; intro a H
          rcases Bool.eq_false_or_eq_true (!decide ((Int.tmod x40.Entry 4) = 0)) with hg549 | hg549
          · replace H := H.know 37 rfl hg549
            replace hm := condT hm hg549
            refine n_no H rfl rfl (by decide) rfl (W_no rfl rfl (by decide) rfl (W_no rfl rfl (by decide) rfl (W_no rfl rfl (by decide) rfl (W_no rfl rfl (by decide) rfl (W_no rfl rfl (by decide) rfl (W_no rfl rfl (by decide) rfl (W_q (q_pickT rfl rfl) rfl (W_q (q_move rfl) rfl (W_no rfl rfl (by decide) rfl (W_no rfl rfl (by decide) rfl (W_no rfl rfl (by decide) rfl ?_))))))))))); clear H a; intro a H
            refine n_q H (q_pickT rfl rfl) rfl (W_q (q_move rfl) rfl (W_no rfl rfl (by decide) rfl (W_no rfl rfl (by decide) rfl (W_no rfl rfl (by decide) rfl (W_q (q_pickT rfl rfl) rfl ?_))))); clear H a; intro a H
            refine n_nil (then_normal ?_)
            obtain rfl := Option.some.inj hm; replace hm := hm46; try dsimp only at hm
            replace hS := hS.pk2
            replace hS := hS.pk2
            replace hS := hS.tk2
            exact join true H ⟨rfl, rfl, rfl, rfl, trivial⟩ ⟨hm, hS⟩
          · replace H := H.know 37 rfl hg549
            replace hm := condF hm hg549
            refine n_yes H rfl rfl (n_q H (q_fieldAddr0 rfl fo169_0) rfl (W_yes rfl rfl (W_q (q_load rfl ((hS.blk 0 rfl).ld ag3 rfl)) rfl (W_yes rfl rfl (W_q (q_fieldAddr0 rfl fo27_2) rfl (W_yes rfl rfl (W_q (q_load rfl ((hS.blk 1 rfl).ld ag22 rfl)) rfl (W_yes rfl rfl ?_)))))))); clear H a; intro a H
            obtain ⟨A550, c550, hv550, hl550, hm550⟩ := SlR.formV (hrp0_0.ext (Flat.mono _) hS.x)
            refine n_q H (q_lenV Tryz.underlying22 rfl hv550) rfl (W_yes rfl rfl (W_q (q_mulW rfl rfl) rfl (W_yes rfl rfl (W_q (q_geq rfl rfl) rfl (W_q (q_pickF rfl rfl) rfl (W_q (q_move rfl) rfl ?_)))))); clear H a; intro a H
            rcases Bool.eq_false_or_eq_true (decide ((IntKind.i64.wrap (64 * ((a0.Pages.length : Nat) : Int))) ≤ x40.Entry)) with hg551 | hg551
            · replace H := H.know 46 rfl hg551
              replace hm := condT hm hg551
              refine n_no H rfl rfl (by decide) rfl (W_no rfl rfl (by decide) rfl (W_no rfl rfl (by decide) rfl (W_q (q_pickT rfl rfl) rfl (W_q (q_move rfl) rfl (W_no rfl rfl (by decide) rfl (W_no rfl rfl (by decide) rfl (W_no rfl rfl (by decide) rfl (W_q (q_pickT rfl rfl) rfl ?_)))))))); clear H a; intro a H
              refine n_nil (then_normal ?_)
              obtain rfl := Option.some.inj hm; replace hm := hm46; try dsimp only at hm
              replace hS := hS.pk2
              replace hS := hS.pk2
              replace hS := hS.tk2
              exact join true H ⟨rfl, rfl, rfl, rfl, trivial⟩ ⟨hm, hS⟩
            · replace H := H.know 46 rfl hg551
              replace hm := condF hm hg551
              refine n_yes H rfl rfl (n_q H (q_fieldAddr0 rfl fo169_1) rfl (W_yes rfl rfl (W_q (q_load rfl ((hS.blk 0 rfl).ld ag3 rfl)) rfl (W_yes rfl rfl (W_q (q_lss rfl rfl) rfl (W_q (q_pickF rfl rfl) rfl (W_q (q_move rfl) rfl ?_))))))); clear H a; intro a H
              rcases Bool.eq_false_or_eq_true (decide (x40.Prio < 0)) with hg552 | hg552
              · replace H := H.know 51 rfl hg552
                replace hm := condT hm hg552
                refine n_no H rfl rfl (by decide) rfl (W_no rfl rfl (by decide) rfl (W_no rfl rfl (by decide) rfl (W_q (q_pickT rfl rfl) rfl ?_))); clear H a; intro a H
                refine n_nil (then_normal ?_)
                obtain rfl := Option.some.inj hm; replace hm := hm46; try dsimp only at hm
                replace hS := hS.pk2
                replace hS := hS.pk2
                replace hS := hS.tk2
                exact join true H ⟨rfl, rfl, rfl, rfl, trivial⟩ ⟨hm, hS⟩
              · replace H := H.know 51 rfl hg552
                replace hm := condF hm hg552
                refine n_yes H rfl rfl (n_q H (q_fieldAddr0 rfl fo169_1) rfl (W_yes rfl rfl (W_q (q_load rfl ((hS.blk 0 rfl).ld ag3 rfl)) rfl (W_yes rfl rfl (W_q (q_gtr rfl rfl) rfl (W_q (q_pickF rfl rfl) rfl ?_)))))); clear H a; intro a H
                refine n_nil (then_normal ?_)
                obtain rfl := Option.some.inj hm; replace hm := hm46; try dsimp only at hm
                replace hS := hS.pk2
                replace hS := hS.pk2
                replace hS := hS.tk2
                exact join (decide (255 < x40.Prio)) H ⟨rfl, rfl, rfl, rfl, trivial⟩ ⟨hm, hS⟩
      · clear H hS hm a; intro q547 a w553 H hR
        simp only [ent, List.map_cons, List.map_nil] at H; (try dsimp only at hR); obtain ⟨hm, hS⟩ := hR; try dsimp only [g_r10_procs_J6] at hm
        refine c_cond H rfl (fun hc554 => ?_) (fun hc554 => ?_)
        · replace hm := condT hm hc554
          refine wp_seq (wp_region_lit (n_q H (q_move rfl) rfl (W_q (q_build (cs := [.int .i64 4, .int .i64 ((i36 : Nat) : Int)]) ze172 bd172 pl172 rfl (by kernel_rfl)) rfl ?_))); clear H a; intro a H
          replace hS := hS.pk1
          refine n_storeAll H rfl rfl (vs := [.int .i64 4, .int .i64 ((i36 : Nat) : Int)]) rfl sz172 (hS.blk 0 rfl) rfl (by simp) ?_
          clear H; intro w555 hN hC556 hz; clear a; intro a H; replace hS := hS.setBlk hN hC556; clear hN hz
          refine n_nil (then_normal (wp_ret (block_ret (then_ret (then_ret (block_ret (then_ret ?_)))))))
          obtain rfl := Option.some.inj hm; have hz : _ = q35 := hn35; subst hz; replace hm := hm35; try dsimp only at hm
          obtain rfl := Option.some.inj hm
          replace hS := hS.tk1
          refine retL H (.inr rfl) rfl (vs := [.agg #[.int .i64 4, .int .i64 ((i36 : Nat) : Int)]]) (resCell rfl ((hS.blk 0 rfl).ldAll ag172 sz172) resNil) ?_
          replace hS := hS.tk0
          exact ⟨rfl, hS.x⟩
        · replace hm := condF hm hc554
          refine wp_skip (block_normal (then_normal (wp_region_lit (n_q H (q_move rfl) rfl (W_q (q_incr (i := i36) (j := 1) rfl rfl (by omega)) rfl (W_q (q_assign rfl) rfl ?_)))))); clear H a; intro a H
          refine n_nil (then_normal ?_)
          obtain rfl := Option.some.inj hm
          exact round (m35, i36 + 1) H ⟨rfl, rfl, rfl, trivial⟩ ⟨hn35, hS⟩ (Nat.lt_succ_self _)
    · replace hm := condF hm hc38
      refine wp_exit (then_exit (then_exit (block_exit ?_)))
      obtain rfl := Option.some.inj hm; have hz : _ = q35 := hn35; subst hz; replace hm := hm35; try dsimp only at hm
      refine then_normal (wp_seq (wp_region_lit ?_))
      replace hm := bindS hm; obtain ⟨r557, hr557, hm⟩ := hm
      refine n_call H rfl en177 (g_r10_none_w (A := A) hr557) rfl ?_
      clear H; intro x560 w558 hv; clear a; intro a H; obtain ⟨rfl, hE559⟩ := hv
      replace hS := hS.ext hE559
      replace hS := hS.pk1
      refine n_storeAll H rfl rfl (vs := [.int .i64 r557.Code, .int .i64 r557.Place]) rfl sz172 (hS.blk 0 rfl) rfl (by simp) ?_
      clear H; intro w561 hN hC562 hz; clear a; intro a H; replace hS := hS.setBlk hN hC562; clear hN hz
      refine n_nil (then_normal (wp_ret ?_))
      obtain rfl := Option.some.inj hm
      replace hS := hS.tk1
      refine retL H (.inr rfl) rfl (vs := [.agg #[.int .i64 r557.Code, .int .i64 r557.Place]]) (resCell rfl ((hS.blk 0 rfl).ldAll ag172 sz172) resNil) ?_
      replace hS := hS.tk0
      exact ⟨rfl, hS.x⟩
theorem g_r07_CheckPlan_w {w : World} {A : Nat → Addr} {a0 : GPortPlan} {r : Int} (hm : g_r07_CheckPlan a0 = some r) :
    Calls Tryz.prog 204 [.agg (eGPortPlan a0).toArray].toArray w (Ret fun u w' => u = .int .i64 r ∧ Ext w w') := by
  have hS := St.begin NB w
  unfold g_r07_CheckPlan at hm
  refine enter Tryz.func204 rfl rfl rfl ?_; intro a H; dsimp only [enumL, Nat.zero_add, Nat.reduceAdd] at H
  refine wp_seq (wp_region_lit (n_box H rfl (cs := [.int .i64 a0.Kind, .int .i64 a0.Size, .int .i64 a0.Depth, .int .i64 a0.Refresh]) rfl rfl ?_))
  clear H; intro b21 w22 hN hE23 hs; clear a; intro a H
  replace hS := hS.newBlk hN hE23 hs; clear hN hs
  refine n_q H (q_assign rfl) rfl ?_; clear H a; intro a H
  refine n_nil (then_normal (wp_seq (wp_seq (wp_region_lit (n_c H (fun HC => ?_)))))); clear H
  refine nc_q HC (q_fieldAddr0 rfl fo171_0) rfl (by kernel_rfl) (V_q (q_load rfl ((hS.blk 0 rfl).ld ag3 rfl)) rfl (by kernel_rfl) (V_q (q_lss rfl rfl) rfl (by kernel_rfl) (V_q (q_move rfl) rfl (by kernel_rfl) (V_g (q_fieldAddr0 rfl fo171_0) (by kernel_rfl) (by kernel_rfl) (by kernel_rfl) (V_g (q_load rfl ((hS.blk 0 rfl).ld ag3 rfl)) (by kernel_rfl) (by kernel_rfl) (by kernel_rfl) (V_g (q_gtr rfl rfl) (by kernel_rfl) (by kernel_rfl) (by kernel_rfl) (V_or (j := 3) rfl rfl rfl (by kernel_rfl) (by kernel_rfl) ?_))))))); clear HC a; intro a HC
  have H := HC.has; clear HC
  refine n_nil (then_normal (c_cond H rfl (fun hc24 => ?_) (fun hc24 => ?_)))
  · replace hm := condT hm hc24
    refine wp_seq (wp_region_lit (n_q H (q_assign rfl) rfl ?_)); clear H a; intro a H
    refine n_nil (then_normal (wp_ret (then_ret ?_)))
    obtain rfl := Option.some.inj hm
    replace hS := hS.tk0
    refine ret1 H (.inr rfl) rfl rfl ?_
    exact ⟨rfl, hS.x⟩
  · replace hm := condF hm hc24
    refine wp_skip (then_normal (wp_seq (wp_seq (wp_region_lit (n_c H (fun HC => ?_)))))); clear H
    refine nc_q HC (q_fieldAddr0 rfl fo171_1) rfl (by kernel_rfl) (V_q (q_load rfl ((hS.blk 0 rfl).ld ag3 rfl)) rfl (by kernel_rfl) (V_q (q_lss rfl rfl) rfl (by kernel_rfl) (V_q (q_move rfl) rfl (by kernel_rfl) (V_g (q_fieldAddr0 rfl fo171_1) (by kernel_rfl) (by kernel_rfl) (by kernel_rfl) (V_g (q_load rfl ((hS.blk 0 rfl).ld ag3 rfl)) (by kernel_rfl) (by kernel_rfl) (by kernel_rfl) (V_g (q_gtr rfl rfl) (by kernel_rfl) (by kernel_rfl) (by kernel_rfl) (V_or (j := 3) rfl rfl rfl (by kernel_rfl) (by kernel_rfl) ?_))))))); clear HC a; intro a HC
    have H := HC.has; clear HC
    refine n_nil (then_normal (c_cond H rfl (fun hc25 => ?_) (fun hc25 => ?_)))
    · replace hm := condT hm hc25
      refine wp_seq (wp_region_lit (n_q H (q_assign rfl) rfl ?_)); clear H a; intro a H
      refine n_nil (then_normal (wp_ret (then_ret ?_)))
      obtain rfl := Option.some.inj hm
      replace hS := hS.tk0
      refine ret1 H (.inr rfl) rfl rfl ?_
      exact ⟨rfl, hS.x⟩
    · replace hm := condF hm hc25
      refine wp_skip (then_normal (wp_seq (wp_region_lit (n_q H (q_fieldAddr0 rfl fo171_0) rfl (W_q (q_load rfl ((hS.blk 0 rfl).ld ag3 rfl)) rfl (W_q (q_geq rfl rfl) rfl (W_q (q_assign rfl) rfl ?_))))))); clear H a; intro a H
      refine n_nil (then_normal (wp_seq (wp_seq (wp_region_lit (n_c H (fun HC => ?_)))))); clear H
      refine nc_q HC (q_fieldAddr0 rfl fo171_2) rfl (by kernel_rfl) (V_q (q_load rfl ((hS.blk 0 rfl).ld ag3 rfl)) rfl (by kernel_rfl) (V_q (q_lss rfl rfl) rfl (by kernel_rfl) (V_q (q_move rfl) rfl (by kernel_rfl) (V_g (q_fieldAddr0 rfl fo171_2) (by kernel_rfl) (by kernel_rfl) (by kernel_rfl) (V_g (q_load rfl ((hS.blk 0 rfl).ld ag3 rfl)) (by kernel_rfl) (by kernel_rfl) (by kernel_rfl) (V_g (q_gtr rfl rfl) (by kernel_rfl) (by kernel_rfl) (by kernel_rfl) (V_or (j := 3) rfl rfl rfl (by kernel_rfl) (by kernel_rfl) (V_q (q_move rfl) rfl (by kernel_rfl) (V_g (q_move rfl) (by kernel_rfl) (by kernel_rfl) (by kernel_rfl) (V_g (q_not rfl) (by kernel_rfl) (by kernel_rfl) (by kernel_rfl) (V_g (q_move rfl) (by kernel_rfl) (by kernel_rfl) (by kernel_rfl) ?_))))))))))); clear HC a; intro a HC
      refine nc_g HC (q_fieldAddr0 rfl fo171_2) (by kernel_rfl) (by kernel_rfl) (by kernel_rfl) (V_g (q_load rfl ((hS.blk 0 rfl).ld ag3 rfl)) (by kernel_rfl) (by kernel_rfl) (by kernel_rfl) (V_g (q_neqD rfl rfl) (by kernel_rfl) (by kernel_rfl) (by kernel_rfl) ?_)); clear HC a; intro a HC
      refine nc_andg (j := 11) HC rfl rfl rfl (by kernel_rfl) (by kernel_rfl) (by kernel_rfl) ?_; clear HC a; intro a HC
      refine nc_or (j := 8) HC rfl rfl rfl (by kernel_rfl) (by kernel_rfl) ?_; clear HC a; intro a HC
      have H := HC.has; clear HC
      refine n_nil (then_normal (c_cond H rfl (fun hc26 => ?_) (fun hc26 => ?_)))
      · replace hm := condT hm hc26
        refine wp_seq (wp_region_lit (n_q H (q_assign rfl) rfl ?_)); clear H a; intro a H
        refine n_nil (then_normal (wp_ret (then_ret ?_)))
        obtain rfl := Option.some.inj hm
        replace hS := hS.tk0
        refine ret1 H (.inr rfl) rfl rfl ?_
        exact ⟨rfl, hS.x⟩
      · replace hm := condF hm hc26
        refine wp_skip (then_normal (wp_seq (wp_seq (wp_region_lit (n_c H (fun HC => ?_)))))); clear H
        refine nc_q HC (q_fieldAddr0 rfl fo171_3) rfl (by kernel_rfl) (V_q (q_load rfl ((hS.blk 0 rfl).ld ag3 rfl)) rfl (by kernel_rfl) (V_q (q_lss rfl rfl) rfl (by kernel_rfl) (V_q (q_move rfl) rfl (by kernel_rfl) (V_g (q_fieldAddr0 rfl fo171_3) (by kernel_rfl) (by kernel_rfl) (by kernel_rfl) (V_g (q_load rfl ((hS.blk 0 rfl).ld ag3 rfl)) (by kernel_rfl) (by kernel_rfl) (by kernel_rfl) (V_g (q_gtr rfl rfl) (by kernel_rfl) (by kernel_rfl) (by kernel_rfl) (V_or (j := 3) rfl rfl rfl (by kernel_rfl) (by kernel_rfl) (V_q (q_move rfl) rfl (by kernel_rfl) (V_g (q_fieldAddr0 rfl fo171_0) (by kernel_rfl) (by kernel_rfl) (by kernel_rfl) (V_g (q_load rfl ((hS.blk 0 rfl).ld ag3 rfl)) (by kernel_rfl) (by kernel_rfl) (by kernel_rfl) (V_g (q_neqD rfl rfl) (by kernel_rfl) (by kernel_rfl) (by kernel_rfl) ?_))))))))))); clear HC a; intro a HC
        refine nc_g HC (q_move rfl) (by kernel_rfl) (by kernel_rfl) (by kernel_rfl) (V_g (q_fieldAddr0 rfl fo171_3) (by kernel_rfl) (by kernel_rfl) (by kernel_rfl) (V_g (q_load rfl ((hS.blk 0 rfl).ld ag3 rfl)) (by kernel_rfl) (by kernel_rfl) (by kernel_rfl) (V_g (q_neqD rfl rfl) (by kernel_rfl) (by kernel_rfl) (by kernel_rfl) ?_))); clear HC a; intro a HC
        refine nc_andg (j := 12) HC rfl rfl rfl (by kernel_rfl) (by kernel_rfl) (by kernel_rfl) ?_; clear HC a; intro a HC
        refine nc_or (j := 8) HC rfl rfl rfl (by kernel_rfl) (by kernel_rfl) ?_; clear HC a; intro a HC
        have H := HC.has; clear HC
        refine n_nil (then_normal (c_cond H rfl (fun hc27 => ?_) (fun hc27 => ?_)))
        · replace hm := condT hm hc27
          refine wp_seq (wp_region_lit (n_q H (q_assign rfl) rfl ?_)); clear H a; intro a H
          refine n_nil (then_normal (wp_ret (then_ret ?_)))
          obtain rfl := Option.some.inj hm
          replace hS := hS.tk0
          refine ret1 H (.inr rfl) rfl rfl ?_
          exact ⟨rfl, hS.x⟩
        · replace hm := condF hm hc27
          refine wp_skip (then_normal (wp_seq (wp_region_lit (n_q H (q_assign rfl) rfl ?_)))); clear H a; intro a H
          refine n_nil (then_normal (wp_ret ?_))
          obtain rfl := Option.some.inj hm
          replace hS := hS.tk0
          refine ret1 H (.inr rfl) rfl rfl ?_
          exact ⟨rfl, hS.x⟩
theorem g_r10_ports_w {w : World} {A : Nat → Addr} {cs0 : List Value} {a0 : GPlan} (h0 : RGPlan w cs0 a0) {r : GR10Err} (hm : g_r10_ports a0 = some r) :
    Calls Tryz.prog 174 [.agg cs0.toArray].toArray w (Ret fun u w' => u = .agg (eGR10Err r).toArray ∧ Ext w w') := by
  obtain ⟨vp0_0, vp0_1, vp0_2, vp0_3, rfl, hrp0_0, hrp0_1, hrp0_2, hrp0_3⟩ := h0
  have hS := St.begin NB w
  unfold g_r10_ports at hm
  refine enter Tryz.func174 rfl rfl rfl ?_; intro a H; dsimp only [enumL, Nat.zero_add, Nat.reduceAdd] at H
  refine wp_seq (wp_region_lit (n_box H rfl (cs := [.int .i64 a0.Id, .bool a0.Mobile, vp0_0, vp0_1, vp0_2, .int .i64 a0.Events, vp0_3]) rfl rfl ?_))
  clear H; intro b21 w22 hN hE23 hs; clear a; intro a H
  replace hS := hS.newBlk hN hE23 hs; clear hN hs
  refine n_alloc H ze172 rfl ?_
  clear H; intro b24 w25 hN hE26 hs; clear a; intro a H
  replace hS := hS.newBlk hN hE26 hs; clear hN hs
  refine n_nil (then_normal (wp_seq (wp_seq (wp_region_lit (n_q H (q_fieldAddr0 rfl fo27_4) rfl (W_q (q_load rfl ((hS.blk 1 rfl).ld ag24 rfl)) rfl ?_)))))); clear H a; intro a H
  obtain ⟨A27, c27, hv27, hl27, hm27⟩ := SlR.formV (hrp0_2.ext (Flat.mono _) hS.x)
  refine n_q H (q_lenV Tryz.underlying24 rfl hv27) rfl (W_q (q_gtrN (i := a0.Ports.length) (j := 8) rfl rfl) rfl ?_); clear H a; intro a H
  refine n_nil (then_normal (c_cond H rfl (fun hc28 => ?_) (fun hc28 => ?_)))
  · replace hm := condT hm hc28
    refine wp_seq (wp_region_lit ?_)
    replace hm := bindS hm; obtain ⟨r29, hr29, hm⟩ := hm
    refine n_call H rfl en171 (g_r10_bad_w (A := A) hr29) rfl ?_
    clear H; intro x32 w30 hv; clear a; intro a H; obtain ⟨rfl, hE31⟩ := hv
    replace hS := hS.ext hE31
    refine n_storeAll H rfl rfl (vs := [.int .i64 r29.Code, .int .i64 r29.Place]) rfl sz172 (hS.blk 0 rfl) rfl (by simp) ?_
    clear H; intro w33 hN hC34 hz; clear a; intro a H; replace hS := hS.setBlk hN hC34; clear hN hz
    refine n_nil (then_normal (wp_ret (then_ret ?_)))
    obtain rfl := Option.some.inj hm
    replace hS := hS.tk1
    refine retL H (.inr rfl) rfl (vs := [.agg #[.int .i64 r29.Code, .int .i64 r29.Place]]) (resCell rfl ((hS.blk 0 rfl).ldAll ag172 sz172) resNil) ?_
    replace hS := hS.tk0
    exact ⟨rfl, hS.x⟩
  · replace hm := condF hm hc28
    refine wp_skip (then_normal (wp_seq (wp_seq (wp_region_lit (n_q H (q_assign rfl) rfl ?_))))); clear H a; intro a H
    refine n_nil (then_normal (wp_block ?_))
    replace hS := hS.pk1
    replace hm := bindS hm; obtain ⟨q35, hm, hm35⟩ := hm; replace hm := iter_some hm; obtain ⟨n35, hm⟩ := hm
    refine c_loop (σ := Nat × Nat) (fun (m, i36) => [(1, .pointer (some ⟨b21, 0, none⟩)), (2, .pointer (some ⟨b24, 0, none⟩)), (3, .int .i64 ((i36 : Nat) : Int))]) (fun (m, i36) wl => iterN (g_r10_ports_L1 a0) m i36 = some q35 ∧ St NB w wl [blkR b21 [.int .i64 a0.Id, .bool a0.Mobile, vp0_0, vp0_1, vp0_2, .int .i64 a0.Events, vp0_3] 27, blkR b24 [.int .i64 0, .int .i64 0] 172]) (fun (m, i36) => m) (n35, 0) H ⟨rfl, rfl, rfl, trivial⟩ ⟨hm, hS⟩ ?_
    clear H hS hm a; intro xx a w37 H hR; obtain ⟨m, i36⟩ := xx; simp only [ent, List.map_cons, List.map_nil] at H; (try dsimp only at hR); obtain ⟨hm, hS⟩ := hR
    replace hm := iterN_step hm; obtain ⟨m35, o35, rfl, hm, hn35⟩ := hm; try dsimp only [g_r10_ports_L1] at hm
    refine wp_seq (wp_seq (wp_region_lit (n_q H (q_move rfl) rfl (W_q (q_fieldAddr0 rfl fo27_4) rfl (W_q (q_load rfl ((hS.blk 0 rfl).ld ag24 rfl)) rfl (W_q (q_lenV Tryz.underlying24 rfl hv27) rfl (W_q (q_lssN (i := i36) (j := a0.Ports.length) rfl rfl) rfl ?_))))))); clear H a; intro a H
    refine n_nil (then_normal (c_cond H rfl (fun hc38 => ?_) (fun hc38 => ?_)))
    · replace hm := condT hm hc38
      have hlt39 : i36 < a0.Ports.length := of_decide_eq_true hc38
      refine wp_skip (then_normal (wp_seq (wp_block (wp_seq (wp_region_lit (n_q H (q_fieldAddr0 rfl fo27_4) rfl (W_q (q_load rfl ((hS.blk 0 rfl).ld ag24 rfl)) rfl (W_q (q_move rfl) rfl ?_)))))))); clear H a; intro a H
      replace hm := bindS hm; obtain ⟨x40, hx40, hm⟩ := hm
      obtain ⟨adx40, hAx40⟩ := SlR.adV (hrp0_2.ext (Flat.mono _) hS.x) hv27 hx40
      refine n_q H (q_ixV (i := i36) Tryz.underlying24 sz171 rfl hv27 hAx40 rfl (natI hx40)) rfl (W_q (q_load rfl (SlR.ldAggV (hrp0_2.ext (Flat.mono _) hS.x) hv27 hAx40 ag171 sz171 hx40)) rfl ?_); clear H a; intro a H
      replace hm := bindS hm; obtain ⟨r41, hr41, hm⟩ := hm
      refine n_call H rfl en204 (g_r07_CheckPlan_w (A := A) hr41) rfl ?_
      clear H; intro x44 w42 hv; clear a; intro a H; obtain ⟨rfl, hE43⟩ := hv
      replace hS := hS.ext hE43
      refine n_q H (q_assign rfl) rfl ?_; clear H a; intro a H
      refine n_nil (then_normal (wp_seq (wp_region_lit (n_q H (q_move rfl) rfl (W_q (q_neqD rfl rfl) rfl ?_))))); clear H a; intro a H
      refine n_nil (then_normal (c_cond H rfl (fun hc45 => ?_) (fun hc45 => ?_)))
      · replace hm := condT hm hc45
        refine wp_seq (wp_region_lit (n_q H (q_move rfl) rfl (W_q (q_move rfl) rfl (W_q (q_build (cs := [.int .i64 r41, .int .i64 ((i36 : Nat) : Int)]) ze172 bd172 pl172 rfl (by kernel_rfl)) rfl ?_)))); clear H a; intro a H
        replace hS := hS.pk1
        refine n_storeAll H rfl rfl (vs := [.int .i64 r41, .int .i64 ((i36 : Nat) : Int)]) rfl sz172 (hS.blk 0 rfl) rfl (by simp) ?_
        clear H; intro w46 hN hC47 hz; clear a; intro a H; replace hS := hS.setBlk hN hC47; clear hN hz
        refine n_nil (then_normal (wp_ret (block_ret (then_ret (then_ret (block_ret (then_ret ?_)))))))
        obtain rfl := Option.some.inj hm; have hz : _ = q35 := hn35; subst hz; replace hm := hm35; try dsimp only at hm
        obtain rfl := Option.some.inj hm
        replace hS := hS.tk1
        refine retL H (.inr rfl) rfl (vs := [.agg #[.int .i64 r41, .int .i64 ((i36 : Nat) : Int)]]) (resCell rfl ((hS.blk 0 rfl).ldAll ag172 sz172) resNil) ?_
        replace hS := hS.tk0
        exact ⟨rfl, hS.x⟩
      · replace hm := condF hm hc45
        refine wp_skip (block_normal (then_normal (wp_region_lit (n_q H (q_move rfl) rfl (W_q (q_incr (i := i36) (j := 1) rfl rfl (by omega)) rfl (W_q (q_assign rfl) rfl ?_)))))); clear H a; intro a H
        refine n_nil (then_normal ?_)
        obtain rfl := Option.some.inj hm
        exact round (m35, i36 + 1) H ⟨rfl, rfl, rfl, trivial⟩ ⟨hn35, hS⟩ (Nat.lt_succ_self _)
    · replace hm := condF hm hc38
      refine wp_exit (then_exit (then_exit (block_exit ?_)))
      obtain rfl := Option.some.inj hm; have hz : _ = q35 := hn35; subst hz; replace hm := hm35; try dsimp only at hm
      refine then_normal (wp_seq (wp_region_lit ?_))
      replace hm := bindS hm; obtain ⟨r48, hr48, hm⟩ := hm
      refine n_call H rfl en177 (g_r10_none_w (A := A) hr48) rfl ?_
      clear H; intro x51 w49 hv; clear a; intro a H; obtain ⟨rfl, hE50⟩ := hv
      replace hS := hS.ext hE50
      replace hS := hS.pk1
      refine n_storeAll H rfl rfl (vs := [.int .i64 r48.Code, .int .i64 r48.Place]) rfl sz172 (hS.blk 0 rfl) rfl (by simp) ?_
      clear H; intro w52 hN hC53 hz; clear a; intro a H; replace hS := hS.setBlk hN hC53; clear hN hz
      refine n_nil (then_normal (wp_ret ?_))
      obtain rfl := Option.some.inj hm
      replace hS := hS.tk1
      refine retL H (.inr rfl) rfl (vs := [.agg #[.int .i64 r48.Code, .int .i64 r48.Place]]) (resCell rfl ((hS.blk 0 rfl).ldAll ag172 sz172) resNil) ?_
      replace hS := hS.tk0
      exact ⟨rfl, hS.x⟩
theorem g_r10_things_w {w : World} {A : Nat → Addr} {cs0 : List Value} {a0 : GPlan} (h0 : RGPlan w cs0 a0) {r : GR10Err} (hm : g_r10_things a0 = some r) :
    Calls Tryz.prog 175 [.agg cs0.toArray].toArray w (Ret fun u w' => u = .agg (eGR10Err r).toArray ∧ Ext w w') := by
  obtain ⟨vp0_0, vp0_1, vp0_2, vp0_3, rfl, hrp0_0, hrp0_1, hrp0_2, hrp0_3⟩ := h0
  have hS := St.begin NB w
  unfold g_r10_things at hm
  refine enter Tryz.func175 rfl rfl rfl ?_; intro a H; dsimp only [enumL, Nat.zero_add, Nat.reduceAdd] at H
  refine wp_seq (wp_region_lit (n_box H rfl (cs := [.int .i64 a0.Id, .bool a0.Mobile, vp0_0, vp0_1, vp0_2, .int .i64 a0.Events, vp0_3]) rfl rfl ?_))
  clear H; intro b21 w22 hN hE23 hs; clear a; intro a H
  replace hS := hS.newBlk hN hE23 hs; clear hN hs
  refine n_alloc H ze172 rfl ?_
  clear H; intro b24 w25 hN hE26 hs; clear a; intro a H
  replace hS := hS.newBlk hN hE26 hs; clear hN hs
  refine n_nil (then_normal (wp_seq (wp_seq (wp_region_lit (n_c H (fun HC => ?_)))))); clear H
  refine nc_q HC (q_fieldAddr0 rfl fo27_5) rfl (by kernel_rfl) (V_q (q_load rfl ((hS.blk 1 rfl).ld ag3 rfl)) rfl (by kernel_rfl) (V_q (q_lss rfl rfl) rfl (by kernel_rfl) (V_q (q_move rfl) rfl (by kernel_rfl) (V_g (q_fieldAddr0 rfl fo27_5) (by kernel_rfl) (by kernel_rfl) (by kernel_rfl) (V_g (q_load rfl ((hS.blk 1 rfl).ld ag3 rfl)) (by kernel_rfl) (by kernel_rfl) (by kernel_rfl) (V_g (q_gtr rfl rfl) (by kernel_rfl) (by kernel_rfl) (by kernel_rfl) (V_or (j := 3) rfl rfl rfl (by kernel_rfl) (by kernel_rfl) ?_))))))); clear HC a; intro a HC
  have H := HC.has; clear HC
  refine n_nil (then_normal (c_cond H rfl (fun hc27 => ?_) (fun hc27 => ?_)))
  · replace hm := condT hm hc27
    refine wp_seq (wp_region_lit ?_)
    replace hm := bindS hm; obtain ⟨r28, hr28, hm⟩ := hm
    refine n_call H rfl en171 (g_r10_bad_w (A := A) hr28) rfl ?_
    clear H; intro x31 w29 hv; clear a; intro a H; obtain ⟨rfl, hE30⟩ := hv
    replace hS := hS.ext hE30
    refine n_storeAll H rfl rfl (vs := [.int .i64 r28.Code, .int .i64 r28.Place]) rfl sz172 (hS.blk 0 rfl) rfl (by simp) ?_
    clear H; intro w32 hN hC33 hz; clear a; intro a H; replace hS := hS.setBlk hN hC33; clear hN hz
    refine n_nil (then_normal (wp_ret (then_ret ?_)))
    obtain rfl := Option.some.inj hm
    replace hS := hS.tk1
    refine retL H (.inr rfl) rfl (vs := [.agg #[.int .i64 r28.Code, .int .i64 r28.Place]]) (resCell rfl ((hS.blk 0 rfl).ldAll ag172 sz172) resNil) ?_
    replace hS := hS.tk0
    exact ⟨rfl, hS.x⟩
  · replace hm := condF hm hc27
    refine wp_skip (then_normal (wp_seq (wp_seq (wp_region_lit (n_q H (q_fieldAddr0 rfl fo27_6) rfl (W_q (q_load rfl ((hS.blk 1 rfl).ld ag25 rfl)) rfl ?_)))))); clear H a; intro a H
    obtain ⟨A34, c34, hv34, hl34, hm34⟩ := SlR.formV (hrp0_3.ext (Flat.mono _) hS.x)
    refine n_q H (q_lenV Tryz.underlying25 rfl hv34) rfl (W_q (q_gtrN (i := a0.Sems.length) (j := 8) rfl rfl) rfl ?_); clear H a; intro a H
    refine n_nil (then_normal (c_cond H rfl (fun hc35 => ?_) (fun hc35 => ?_)))
    · replace hm := condT hm hc35
      refine wp_seq (wp_region_lit ?_)
      replace hm := bindS hm; obtain ⟨r36, hr36, hm⟩ := hm
      refine n_call H rfl en171 (g_r10_bad_w (A := A) hr36) rfl ?_
      clear H; intro x39 w37 hv; clear a; intro a H; obtain ⟨rfl, hE38⟩ := hv
      replace hS := hS.ext hE38
      refine n_storeAll H rfl rfl (vs := [.int .i64 r36.Code, .int .i64 r36.Place]) rfl sz172 (hS.blk 0 rfl) rfl (by simp) ?_
      clear H; intro w40 hN hC41 hz; clear a; intro a H; replace hS := hS.setBlk hN hC41; clear hN hz
      refine n_nil (then_normal (wp_ret (then_ret ?_)))
      obtain rfl := Option.some.inj hm
      replace hS := hS.tk1
      refine retL H (.inr rfl) rfl (vs := [.agg #[.int .i64 r36.Code, .int .i64 r36.Place]]) (resCell rfl ((hS.blk 0 rfl).ldAll ag172 sz172) resNil) ?_
      replace hS := hS.tk0
      exact ⟨rfl, hS.x⟩
    · replace hm := condF hm hc35
      refine wp_skip (then_normal (wp_seq (wp_seq (wp_region_lit (n_q H (q_assign rfl) rfl ?_))))); clear H a; intro a H
      refine n_nil (then_normal (wp_block ?_))
      replace hS := hS.pk1
      replace hm := bindS hm; obtain ⟨q42, hm, hm42⟩ := hm; replace hm := iter_some hm; obtain ⟨n42, hm⟩ := hm
      refine c_loop (σ := Nat × Nat) (fun (m, i43) => [(1, .pointer (some ⟨b21, 0, none⟩)), (2, .pointer (some ⟨b24, 0, none⟩)), (3, .int .i64 ((i43 : Nat) : Int))]) (fun (m, i43) wl => iterN (g_r10_things_L7 a0) m i43 = some q42 ∧ St NB w wl [blkR b21 [.int .i64 a0.Id, .bool a0.Mobile, vp0_0, vp0_1, vp0_2, .int .i64 a0.Events, vp0_3] 27, blkR b24 [.int .i64 0, .int .i64 0] 172]) (fun (m, i43) => m) (n42, 0) H ⟨rfl, rfl, rfl, trivial⟩ ⟨hm, hS⟩ ?_
      clear H hS hm a; intro xx a w44 H hR; obtain ⟨m, i43⟩ := xx; simp only [ent, List.map_cons, List.map_nil] at H; (try dsimp only at hR); obtain ⟨hm, hS⟩ := hR
      replace hm := iterN_step hm; obtain ⟨m42, o42, rfl, hm, hn42⟩ := hm; try dsimp only [g_r10_things_L7] at hm
      refine wp_seq (wp_seq (wp_region_lit (n_q H (q_move rfl) rfl (W_q (q_fieldAddr0 rfl fo27_6) rfl (W_q (q_load rfl ((hS.blk 0 rfl).ld ag25 rfl)) rfl (W_q (q_lenV Tryz.underlying25 rfl hv34) rfl (W_q (q_lssN (i := i43) (j := a0.Sems.length) rfl rfl) rfl ?_))))))); clear H a; intro a H
      refine n_nil (then_normal (c_cond H rfl (fun hc45 => ?_) (fun hc45 => ?_)))
      · replace hm := condT hm hc45
        have hlt46 : i43 < a0.Sems.length := of_decide_eq_true hc45
        refine wp_skip (then_normal (wp_seq (wp_block ?_)))
        replace hm := bindS hm; obtain ⟨j47, hm, hm47⟩ := hm
        refine c_join (σ := Bool) H (fun q548 => [(1, .pointer (some ⟨b21, 0, none⟩)), (2, .pointer (some ⟨b24, 0, none⟩)), (3, .int .i64 ((i43 : Nat) : Int)), (38, .bool q548)]) (fun q548 wl => (g_r10_things_J6 i43) q548 = some o42 ∧ St NB w wl [blkR b21 [.int .i64 a0.Id, .bool a0.Mobile, vp0_0, vp0_1, vp0_2, .int .i64 a0.Events, vp0_3] 27, blkR b24 [.int .i64 0, .int .i64 0] 172]) ?_ ?_
        · skip
          refine wp_region_lit (n_q H (q_fieldAddr0 rfl fo27_6) rfl (W_q (q_load rfl ((hS.blk 0 rfl).ld ag25 rfl)) rfl (W_q (q_move rfl) rfl ?_))); clear H a; intro a H
          replace hm := bindS hm; obtain ⟨x549, hx549, hm⟩ := hm
          obtain ⟨adx549, hAx549⟩ := SlR.adV (hrp0_3.ext (Flat.mono _) hS.x) hv34 hx549
          refine n_q H (q_ixV (i := i43) Tryz.underlying25 sz3 rfl hv34 hAx549 rfl (natI hx549)) rfl (W_q (q_load rfl (SlR.ldOneV (hrp0_3.ext (Flat.mono _) hS.x) hv34 hAx549 ag3 hx549 rfl)) rfl (W_q (q_lss rfl rfl) rfl (W_q (q_move rfl) rfl ?_))); clear H a; intro a H
          rcases Bool.eq_false_or_eq_true (decide (x549 < 0)) with hg550 | hg550
          · replace H := H.know 31 rfl hg550
            replace hm := condT hm hg550
            refine n_no H rfl rfl (by decide) rfl (W_no rfl rfl (by decide) rfl (W_no rfl rfl (by decide) rfl (W_no rfl rfl (by decide) rfl (W_no rfl rfl (by decide) rfl (W_no rfl rfl (by decide) rfl (W_q (q_pickT rfl rfl) rfl ?_)))))); clear H a; intro a H
            refine n_nil (then_normal ?_)
            obtain rfl := Option.some.inj hm; replace hm := hm47; try dsimp only at hm
            exact join true H ⟨rfl, rfl, rfl, rfl, trivial⟩ ⟨hm, hS⟩
          · replace H := H.know 31 rfl hg550
            replace hm := condF hm hg550
            refine n_yes H rfl rfl (n_q H (q_fieldAddr0 rfl fo27_6) rfl (W_yes rfl rfl (W_q (q_load rfl ((hS.blk 0 rfl).ld ag25 rfl)) rfl (W_yes rfl rfl (W_q (q_move rfl) rfl (W_yes rfl rfl ?_)))))); clear H a; intro a H
            replace hm := bindS hm; obtain ⟨x551, hx551, hm⟩ := hm
            obtain ⟨adx551, hAx551⟩ := SlR.adV (hrp0_3.ext (Flat.mono _) hS.x) hv34 hx551
            refine n_q H (q_ixV (i := i43) Tryz.underlying25 sz3 rfl hv34 hAx551 rfl (natI hx551)) rfl (W_yes rfl rfl (W_q (q_load rfl (SlR.ldOneV (hrp0_3.ext (Flat.mono _) hS.x) hv34 hAx551 ag3 hx551 rfl)) rfl (W_yes rfl rfl (W_q (q_gtr rfl rfl) rfl (W_q (q_pickF rfl rfl) rfl ?_))))); clear H a; intro a H
            refine n_nil (then_normal ?_)
            obtain rfl := Option.some.inj hm; replace hm := hm47; try dsimp only at hm
            exact join (decide (255 < x551)) H ⟨rfl, rfl, rfl, rfl, trivial⟩ ⟨hm, hS⟩
        · clear H hS hm a; intro q548 a w552 H hR
          simp only [ent, List.map_cons, List.map_nil] at H; (try dsimp only at hR); obtain ⟨hm, hS⟩ := hR; try dsimp only [g_r10_things_J6] at hm
          refine c_cond H rfl (fun hc553 => ?_) (fun hc553 => ?_)
          · replace hm := condT hm hc553
            refine wp_seq (wp_region_lit (n_q H (q_move rfl) rfl (W_q (q_build (cs := [.int .i64 4, .int .i64 ((i43 : Nat) : Int)]) ze172 bd172 pl172 rfl (by kernel_rfl)) rfl ?_))); clear H a; intro a H
            replace hS := hS.pk1
            refine n_storeAll H rfl rfl (vs := [.int .i64 4, .int .i64 ((i43 : Nat) : Int)]) rfl sz172 (hS.blk 0 rfl) rfl (by simp) ?_
            clear H; intro w554 hN hC555 hz; clear a; intro a H; replace hS := hS.setBlk hN hC555; clear hN hz
            refine n_nil (then_normal (wp_ret (block_ret (then_ret (then_ret (block_ret (then_ret ?_)))))))
            obtain rfl := Option.some.inj hm; have hz : _ = q42 := hn42; subst hz; replace hm := hm42; try dsimp only at hm
            obtain rfl := Option.some.inj hm
            replace hS := hS.tk1
            refine retL H (.inr rfl) rfl (vs := [.agg #[.int .i64 4, .int .i64 ((i43 : Nat) : Int)]]) (resCell rfl ((hS.blk 0 rfl).ldAll ag172 sz172) resNil) ?_
            replace hS := hS.tk0
            exact ⟨rfl, hS.x⟩
          · replace hm := condF hm hc553
            refine wp_skip (block_normal (then_normal (wp_region_lit (n_q H (q_move rfl) rfl (W_q (q_incr (i := i43) (j := 1) rfl rfl (by omega)) rfl (W_q (q_assign rfl) rfl ?_)))))); clear H a; intro a H
            refine n_nil (then_normal ?_)
            obtain rfl := Option.some.inj hm
            exact round (m42, i43 + 1) H ⟨rfl, rfl, rfl, trivial⟩ ⟨hn42, hS⟩ (Nat.lt_succ_self _)
      · replace hm := condF hm hc45
        refine wp_exit (then_exit (then_exit (block_exit ?_)))
        obtain rfl := Option.some.inj hm; have hz : _ = q42 := hn42; subst hz; replace hm := hm42; try dsimp only at hm
        refine then_normal (wp_seq (wp_region_lit ?_))
        replace hm := bindS hm; obtain ⟨r556, hr556, hm⟩ := hm
        refine n_call H rfl en177 (g_r10_none_w (A := A) hr556) rfl ?_
        clear H; intro x559 w557 hv; clear a; intro a H; obtain ⟨rfl, hE558⟩ := hv
        replace hS := hS.ext hE558
        replace hS := hS.pk1
        refine n_storeAll H rfl rfl (vs := [.int .i64 r556.Code, .int .i64 r556.Place]) rfl sz172 (hS.blk 0 rfl) rfl (by simp) ?_
        clear H; intro w560 hN hC561 hz; clear a; intro a H; replace hS := hS.setBlk hN hC561; clear hN hz
        refine n_nil (then_normal (wp_ret ?_))
        obtain rfl := Option.some.inj hm
        replace hS := hS.tk1
        refine retL H (.inr rfl) rfl (vs := [.agg #[.int .i64 r556.Code, .int .i64 r556.Place]]) (resCell rfl ((hS.blk 0 rfl).ldAll ag172 sz172) resNil) ?_
        replace hS := hS.tk0
        exact ⟨rfl, hS.x⟩
theorem g_r07_Most_w {w : World} {A : Nat → Addr} {a0 : GPortPlan} {r : Int × Int} (hm : g_r07_Most a0 = some r) :
    Calls Tryz.prog 205 [.agg (eGPortPlan a0).toArray].toArray w (Ret fun u w' => u = .tuple #[.int .i64 r.1, .int .i64 r.2] ∧ Ext w w') := by
  have hS := St.begin NB w
  unfold g_r07_Most at hm
  refine enter Tryz.func205 rfl rfl rfl ?_; intro a H; dsimp only [enumL, Nat.zero_add, Nat.reduceAdd] at H
  refine wp_seq (wp_region_lit (n_box H rfl (cs := [.int .i64 a0.Kind, .int .i64 a0.Size, .int .i64 a0.Depth, .int .i64 a0.Refresh]) rfl rfl ?_))
  clear H; intro b21 w22 hN hE23 hs; clear a; intro a H
  replace hS := hS.newBlk hN hE23 hs; clear hN hs
  refine n_q H (q_assign rfl) rfl (W_q (q_assign rfl) rfl ?_); clear H a; intro a H
  refine n_nil (then_normal (wp_seq (wp_seq (wp_region_lit (n_q H (q_load rfl ((hS.blk 0 rfl).ldAll ag171 sz171)) rfl ?_))))); clear H a; intro a H
  replace hm := bindS hm; obtain ⟨r24, hr24, hm⟩ := hm
  refine n_call H rfl en204 (g_r07_CheckPlan_w (A := A) hr24) rfl ?_
  clear H; intro x27 w25 hv; clear a; intro a H; obtain ⟨rfl, hE26⟩ := hv
  replace hS := hS.ext hE26
  refine n_q H (q_neqD rfl rfl) rfl ?_; clear H a; intro a H
  refine n_nil (then_normal (c_cond H rfl (fun hc28 => ?_) (fun hc28 => ?_)))
  · replace hm := condT hm hc28
    refine wp_seq (wp_region_lit (n_q H (q_assign rfl) rfl (W_q (q_assign rfl) rfl ?_))); clear H a; intro a H
    refine n_nil (then_normal (wp_ret (then_ret ?_)))
    obtain rfl := Option.some.inj hm
    replace hS := hS.tk0
    refine ret2 H (.inr rfl) rfl rfl rfl ?_
    exact ⟨rfl, hS.x⟩
  · replace hm := condF hm hc28
    refine wp_skip (then_normal (wp_seq (wp_seq (wp_region_lit (n_q H (q_fieldAddr0 rfl fo171_0) rfl (W_q (q_load rfl ((hS.blk 0 rfl).ld ag3 rfl)) rfl ?_)))))); clear H a; intro a H
    refine n_nil (then_normal (wp_block (wp_seq (wp_region_lit (n_q H (q_eqlD rfl rfl) rfl (W_q (q_assign rfl) rfl ?_)))))); clear H a; intro a H
    refine n_nil (then_normal (c_cond H rfl (fun hc29 => ?_) (fun hc29 => ?_)))
    · replace hm := condT hm hc29
      refine wp_seq (wp_region_lit (n_q H (q_fieldAddr0 rfl fo171_1) rfl (W_q (q_load rfl ((hS.blk 0 rfl).ld ag3 rfl)) rfl (W_q (q_addW rfl rfl) rfl (W_q (q_assign rfl) rfl (W_q (q_assign rfl) rfl ?_)))))); clear H a; intro a H
      refine n_nil (then_normal (wp_ret (block_ret (then_ret ?_))))
      obtain rfl := Option.some.inj hm
      replace hS := hS.tk0
      refine ret2 H (.inr rfl) rfl rfl rfl ?_
      exact ⟨rfl, hS.x⟩
    · replace hm := condF hm hc29
      refine wp_seq (wp_region_lit (n_q H (q_eqlD rfl rfl) rfl (W_q (q_assign rfl) rfl ?_))); clear H a; intro a H
      refine n_nil (then_normal (c_cond H rfl (fun hc30 => ?_) (fun hc30 => ?_)))
      · replace hm := condT hm hc30
        refine wp_seq (wp_region_lit (n_q H (q_fieldAddr0 rfl fo171_2) rfl (W_q (q_load rfl ((hS.blk 0 rfl).ld ag3 rfl)) rfl (W_q (q_fieldAddr0 rfl fo171_1) rfl (W_q (q_load rfl ((hS.blk 0 rfl).ld ag3 rfl)) rfl (W_q (q_addW rfl rfl) rfl (W_q (q_mulW rfl rfl) rfl (W_q (q_addW rfl rfl) rfl (W_q (q_assign rfl) rfl (W_q (q_assign rfl) rfl ?_)))))))))); clear H a; intro a H
        refine n_nil (then_normal (wp_ret (block_ret (then_ret ?_))))
        obtain rfl := Option.some.inj hm
        replace hS := hS.tk0
        refine ret2 H (.inr rfl) rfl rfl rfl ?_
        exact ⟨rfl, hS.x⟩
      · replace hm := condF hm hc30
        refine wp_skip (block_normal (then_normal (wp_seq (wp_region_lit (n_q H (q_assign rfl) rfl (W_q (q_assign rfl) rfl ?_)))))); clear H a; intro a H
        refine n_nil (then_normal (wp_ret ?_))
        obtain rfl := Option.some.inj hm
        replace hS := hS.tk0
        refine ret2 H (.inr rfl) rfl rfl rfl ?_
        exact ⟨rfl, hS.x⟩
theorem g_r10_bound_w {w : World} {A : Nat → Addr} {cs0 : List Value} {a0 : GPlan} (h0 : RGPlan w cs0 a0) {r : Int} (hm : g_r10_bound a0 = some r) :
    Calls Tryz.prog 176 [.agg cs0.toArray].toArray w (Ret fun u w' => u = .int .i64 r ∧ Ext w w') := by
  obtain ⟨vp0_0, vp0_1, vp0_2, vp0_3, rfl, hrp0_0, hrp0_1, hrp0_2, hrp0_3⟩ := h0
  have hS := St.begin NB w
  unfold g_r10_bound at hm
  refine enter Tryz.func176 rfl rfl rfl ?_; intro a H; dsimp only [enumL, Nat.zero_add, Nat.reduceAdd] at H
  refine wp_seq (wp_region_lit (n_box H rfl (cs := [.int .i64 a0.Id, .bool a0.Mobile, vp0_0, vp0_1, vp0_2, .int .i64 a0.Events, vp0_3]) rfl rfl ?_))
  clear H; intro b21 w22 hN hE23 hs; clear a; intro a H
  replace hS := hS.newBlk hN hE23 hs; clear hN hs
  refine n_q H (q_assign rfl) rfl ?_; clear H a; intro a H
  refine n_nil (then_normal (wp_seq (wp_region_lit (n_q H (q_fieldAddr0 rfl fo27_3) rfl (W_q (q_load rfl ((hS.blk 0 rfl).ld ag23 rfl)) rfl ?_))))); clear H a; intro a H
  obtain ⟨A24, c24, hv24, hl24, hm24⟩ := SlR.formV (hrp0_1.ext (Flat.mono _) hS.x)
  refine n_q H (q_lenV Tryz.underlying23 rfl hv24) rfl (W_q (q_mulW rfl rfl) rfl (W_q (q_addW rfl rfl) rfl (W_q (q_fieldAddr0 rfl fo27_2) rfl (W_q (q_load rfl ((hS.blk 0 rfl).ld ag22 rfl)) rfl ?_)))); clear H a; intro a H
  obtain ⟨A25, c25, hv25, hl25, hm25⟩ := SlR.formV (hrp0_0.ext (Flat.mono _) hS.x)
  refine n_q H (q_lenV Tryz.underlying22 rfl hv25) rfl (W_q (q_mulW rfl rfl) rfl (W_q (q_addW rfl rfl) rfl (W_q (q_fieldAddr0 rfl fo27_5) rfl (W_q (q_load rfl ((hS.blk 0 rfl).ld ag3 rfl)) rfl (W_q (q_addW rfl rfl) rfl (W_q (q_fieldAddr0 rfl fo27_6) rfl (W_q (q_load rfl ((hS.blk 0 rfl).ld ag25 rfl)) rfl ?_))))))); clear H a; intro a H
  obtain ⟨A26, c26, hv26, hl26, hm26⟩ := SlR.formV (hrp0_3.ext (Flat.mono _) hS.x)
  refine n_q H (q_lenV Tryz.underlying25 rfl hv26) rfl (W_q (q_addW rfl rfl) rfl (W_q (q_assign rfl) rfl ?_)); clear H a; intro a H
  refine n_nil (then_normal (wp_seq (wp_seq (wp_region_lit (n_q H (q_assign rfl) rfl ?_))))); clear H a; intro a H
  refine n_nil (then_normal (wp_block ?_))
  replace hm := bindS hm; obtain ⟨q27, hm, hm27⟩ := hm; replace hm := iter_some hm; obtain ⟨n27, hm⟩ := hm
  refine c_loop (σ := Nat × Int × Nat) (fun (m, z28, i29) => [(1, .pointer (some ⟨b21, 0, none⟩)), (3, .int .i64 z28), (4, .int .i64 ((i29 : Nat) : Int))]) (fun (m, z28, i29) wl => iterN (g_r10_bound_L1 a0) m (z28, i29) = some q27 ∧ St NB w wl [blkR b21 [.int .i64 a0.Id, .bool a0.Mobile, vp0_0, vp0_1, vp0_2, .int .i64 a0.Events, vp0_3] 27]) (fun (m, z28, i29) => m) (n27, (IntKind.i64.wrap ((IntKind.i64.wrap ((IntKind.i64.wrap ((IntKind.i64.wrap (58 + (IntKind.i64.wrap (76 * ((a0.Procs.length : Nat) : Int))))) + (IntKind.i64.wrap (68 * ((a0.Pages.length : Nat) : Int))))) + a0.Events)) + ((a0.Sems.length : Nat) : Int))), 0) H ⟨rfl, rfl, rfl, trivial⟩ ⟨hm, hS⟩ ?_
  clear H hS hm a; intro xx a w30 H hR; obtain ⟨m, z28, i29⟩ := xx; simp only [ent, List.map_cons, List.map_nil] at H; (try dsimp only at hR); obtain ⟨hm, hS⟩ := hR
  replace hm := iterN_step hm; obtain ⟨m27, o27, rfl, hm, hn27⟩ := hm; try dsimp only [g_r10_bound_L1] at hm
  refine wp_seq (wp_seq (wp_region_lit (n_q H (q_move rfl) rfl (W_q (q_fieldAddr0 rfl fo27_4) rfl (W_q (q_load rfl ((hS.blk 0 rfl).ld ag24 rfl)) rfl ?_))))); clear H a; intro a H
  obtain ⟨A31, c31, hv31, hl31, hm31⟩ := SlR.formV (hrp0_2.ext (Flat.mono _) hS.x)
  refine n_q H (q_lenV Tryz.underlying24 rfl hv31) rfl (W_q (q_lssN (i := i29) (j := a0.Ports.length) rfl rfl) rfl ?_); clear H a; intro a H
  refine n_nil (then_normal (c_cond H rfl (fun hc32 => ?_) (fun hc32 => ?_)))
  · replace hm := condT hm hc32
    have hlt33 : i29 < a0.Ports.length := of_decide_eq_true hc32
    refine wp_skip (then_normal (wp_seq (wp_block (wp_seq (wp_region_lit (n_q H (q_fieldAddr0 rfl fo27_4) rfl (W_q (q_load rfl ((hS.blk 0 rfl).ld ag24 rfl)) rfl (W_q (q_move rfl) rfl ?_)))))))); clear H a; intro a H
    replace hm := bindS hm; obtain ⟨x34, hx34, hm⟩ := hm
    obtain ⟨adx34, hAx34⟩ := SlR.adV (hrp0_2.ext (Flat.mono _) hS.x) hv31 hx34
    refine n_q H (q_ixV (i := i29) Tryz.underlying24 sz171 rfl hv31 hAx34 rfl (natI hx34)) rfl (W_q (q_load rfl (SlR.ldAggV (hrp0_2.ext (Flat.mono _) hS.x) hv31 hAx34 ag171 sz171 hx34)) rfl ?_); clear H a; intro a H
    replace hm := bindS hm; obtain ⟨r35, hr35, hm⟩ := hm
    refine n_call H rfl en205 (g_r07_Most_w (A := A) hr35) rfl ?_
    clear H; intro x38 w36 hv; clear a; intro a H; obtain ⟨rfl, hE37⟩ := hv
    replace hS := hS.ext hE37
    refine n_q H (q_move rfl) rfl (W_q (q_extract rfl rfl) rfl (W_q (q_extract rfl rfl) rfl (W_q (q_assign rfl) rfl (W_q (q_assign rfl) rfl ?_)))); clear H a; intro a H
    refine n_nil (then_normal (wp_region_lit (n_q H (q_move rfl) rfl (W_q (q_move rfl) rfl (W_q (q_addW rfl rfl) rfl (W_q (q_addW rfl rfl) rfl (W_q (q_assign rfl) rfl ?_))))))); clear H a; intro a H
    refine n_nil (block_normal (then_normal (wp_region_lit (n_q H (q_move rfl) rfl (W_q (q_incr (i := i29) (j := 1) rfl rfl (by omega)) rfl (W_q (q_assign rfl) rfl ?_)))))); clear H a; intro a H
    refine n_nil (then_normal ?_)
    obtain rfl := Option.some.inj hm
    exact round (m27, (IntKind.i64.wrap (z28 + (IntKind.i64.wrap (3 + r35.1)))), i29 + 1) H ⟨rfl, rfl, rfl, trivial⟩ ⟨hn27, hS⟩ (Nat.lt_succ_self _)
  · replace hm := condF hm hc32
    refine wp_exit (then_exit (then_exit (block_exit ?_)))
    obtain rfl := Option.some.inj hm; have hz : _ = q27 := hn27; subst hz; replace hm := hm27; try dsimp only at hm
    refine then_normal (wp_seq (wp_region_lit (n_q H (q_move rfl) rfl (W_q (q_assign rfl) rfl ?_)))); clear H a; intro a H
    refine n_nil (then_normal (wp_ret ?_))
    obtain rfl := Option.some.inj hm
    replace hS := hS.tk0
    refine ret1 H (.inr rfl) rfl rfl ?_
    exact ⟨rfl, hS.x⟩
theorem g_r10_Check_w {w : World} {A : Nat → Addr} {cs0 : List Value} {a0 : GPlan} (h0 : RGPlan w cs0 a0) {r : GR10Err} (hm : g_r10_Check a0 = some r) :
    Calls Tryz.prog 99 [.agg cs0.toArray].toArray w (Ret fun u w' => u = .agg (eGR10Err r).toArray ∧ Ext w w') := by
  obtain ⟨vp0_0, vp0_1, vp0_2, vp0_3, rfl, hrp0_0, hrp0_1, hrp0_2, hrp0_3⟩ := h0
  have hS := St.begin NB w
  unfold g_r10_Check at hm
  refine enter Tryz.func99 rfl rfl rfl ?_; intro a H; dsimp only [enumL, Nat.zero_add, Nat.reduceAdd] at H
  refine wp_seq (wp_region_lit (n_box H rfl (cs := [.int .i64 a0.Id, .bool a0.Mobile, vp0_0, vp0_1, vp0_2, .int .i64 a0.Events, vp0_3]) rfl rfl ?_))
  clear H; intro b21 w22 hN hE23 hs; clear a; intro a H
  replace hS := hS.newBlk hN hE23 hs; clear hN hs
  refine n_alloc H ze172 rfl ?_
  clear H; intro b24 w25 hN hE26 hs; clear a; intro a H
  replace hS := hS.newBlk hN hE26 hs; clear hN hs
  refine n_nil (then_normal (wp_seq (wp_seq (wp_region_lit (n_c H (fun HC => ?_)))))); clear H
  refine nc_q HC (q_fieldAddr0 rfl fo27_0) rfl (by kernel_rfl) (V_q (q_load rfl ((hS.blk 1 rfl).ld ag3 rfl)) rfl (by kernel_rfl) (V_q (q_lss rfl rfl) rfl (by kernel_rfl) (V_q (q_move rfl) rfl (by kernel_rfl) (V_g (q_fieldAddr0 rfl fo27_0) (by kernel_rfl) (by kernel_rfl) (by kernel_rfl) (V_g (q_load rfl ((hS.blk 1 rfl).ld ag3 rfl)) (by kernel_rfl) (by kernel_rfl) (by kernel_rfl) (V_g (q_gtr rfl rfl) (by kernel_rfl) (by kernel_rfl) (by kernel_rfl) (V_or (j := 3) rfl rfl rfl (by kernel_rfl) (by kernel_rfl) ?_))))))); clear HC a; intro a HC
  have H := HC.has; clear HC
  refine n_nil (then_normal (c_cond H rfl (fun hc27 => ?_) (fun hc27 => ?_)))
  · replace hm := condT hm hc27
    refine wp_seq (wp_region_lit ?_)
    replace hm := bindS hm; obtain ⟨r28, hr28, hm⟩ := hm
    refine n_call H rfl en171 (g_r10_bad_w (A := A) hr28) rfl ?_
    clear H; intro x31 w29 hv; clear a; intro a H; obtain ⟨rfl, hE30⟩ := hv
    replace hS := hS.ext hE30
    refine n_storeAll H rfl rfl (vs := [.int .i64 r28.Code, .int .i64 r28.Place]) rfl sz172 (hS.blk 0 rfl) rfl (by simp) ?_
    clear H; intro w32 hN hC33 hz; clear a; intro a H; replace hS := hS.setBlk hN hC33; clear hN hz
    refine n_nil (then_normal (wp_ret (then_ret ?_)))
    obtain rfl := Option.some.inj hm
    replace hS := hS.tk1
    refine retL H (.inr rfl) rfl (vs := [.agg #[.int .i64 r28.Code, .int .i64 r28.Place]]) (resCell rfl ((hS.blk 0 rfl).ldAll ag172 sz172) resNil) ?_
    replace hS := hS.tk0
    exact ⟨rfl, hS.x⟩
  · replace hm := condF hm hc27
    refine wp_skip (then_normal (wp_seq (c_ord [] 10 (by kernel_rfl) ?_)))
    obtain ⟨w34, hw34⟩ : ∃ x, x = w25.drew := ⟨_, rfl⟩; rw [← hw34]; have hE35 : Ext w25 w34 := by rw [hw34]; exact Ext.drew' _
    clear hw34
    replace hS := hS.ext hE35
    have hS36 := hS
    have hW := Nat.le_refl w34.heap.size
    refine k_take 0 H rfl (q_load rfl (LdC.old ((hS36.blk 1 rfl).ldAll ag27 sz27) Ext.rfl' (Nat.le_refl _) (by simp))) rfl (by kernel_rfl) (by kernel_rfl) (by kernel_rfl) (by kernel_rfl) (fun _ _ _ h => h) ?_; clear H a; intro a H
    refine k_take 2 H rfl (q_load rfl (LdC.old ((hS36.blk 1 rfl).ldAll ag27 sz27) Ext.rfl' (Nat.le_refl _) (by simp))) rfl (by kernel_rfl) (by kernel_rfl) (by kernel_rfl) (by kernel_rfl) (fun _ _ _ h => h) ?_; clear H a; intro a H
    refine k_take 4 H rfl (q_load rfl (LdC.old ((hS36.blk 1 rfl).ldAll ag27 sz27) Ext.rfl' (Nat.le_refl _) (by simp))) rfl (by kernel_rfl) (by kernel_rfl) (by kernel_rfl) (by kernel_rfl) (fun _ _ _ h => h) ?_; clear H a; intro a H
    refine k_take 6 H rfl (q_load rfl (LdC.old ((hS36.blk 1 rfl).ldAll ag27 sz27) Ext.rfl' (Nat.le_refl _) (by simp))) rfl (by kernel_rfl) (by kernel_rfl) (by kernel_rfl) (by kernel_rfl) (fun _ _ _ h => h) ?_; clear H a; intro a H
    replace hm := bindS hm; obtain ⟨r37, hr37, hm⟩ := hm
    refine k_of_kk 1 (by kernel_rfl) ?_
    refine kk_call 1 H rfl rfl en172 (g_r10_pages_w (A := A) (⟨_, _, _, _, rfl, (hrp0_0.ext (Flat.mono _) hS.x), (hrp0_1.ext (Flat.mono _) hS.x), (hrp0_2.ext (Flat.mono _) hS.x), (hrp0_3.ext (Flat.mono _) hS.x)⟩ : RGPlan _ [.int .i64 a0.Id, .bool a0.Mobile, vp0_0, vp0_1, vp0_2, .int .i64 a0.Events, vp0_3] a0) hr37) rfl (fun v w hv => .inl (ChgF.of_ext (by obtain ⟨_, hE0⟩ := hv; exact hE0))) ?_
    clear H; intro x40 w38 hv; clear a; intro a H; obtain ⟨rfl, hE39⟩ := hv
    replace hS := hS.ext hE39
    replace hW := Nat.le_trans hW hE39.size
    replace hm := bindS hm; obtain ⟨r41, hr41, hm⟩ := hm
    refine k_of_kk 3 (by kernel_rfl) ?_
    refine kk_call 3 H rfl rfl en173 (g_r10_procs_w (A := A) (⟨_, _, _, _, rfl, (hrp0_0.ext (Flat.mono _) hS.x), (hrp0_1.ext (Flat.mono _) hS.x), (hrp0_2.ext (Flat.mono _) hS.x), (hrp0_3.ext (Flat.mono _) hS.x)⟩ : RGPlan _ [.int .i64 a0.Id, .bool a0.Mobile, vp0_0, vp0_1, vp0_2, .int .i64 a0.Events, vp0_3] a0) hr41) rfl (fun v w hv => .inl (ChgF.of_ext (by obtain ⟨_, hE0⟩ := hv; exact hE0))) ?_
    clear H; intro x44 w42 hv; clear a; intro a H; obtain ⟨rfl, hE43⟩ := hv
    replace hS := hS.ext hE43
    replace hW := Nat.le_trans hW hE43.size
    replace hm := bindS hm; obtain ⟨r45, hr45, hm⟩ := hm
    refine k_of_kk 5 (by kernel_rfl) ?_
    refine kk_call 5 H rfl rfl en174 (g_r10_ports_w (A := A) (⟨_, _, _, _, rfl, (hrp0_0.ext (Flat.mono _) hS.x), (hrp0_1.ext (Flat.mono _) hS.x), (hrp0_2.ext (Flat.mono _) hS.x), (hrp0_3.ext (Flat.mono _) hS.x)⟩ : RGPlan _ [.int .i64 a0.Id, .bool a0.Mobile, vp0_0, vp0_1, vp0_2, .int .i64 a0.Events, vp0_3] a0) hr45) rfl (fun v w hv => .inl (ChgF.of_ext (by obtain ⟨_, hE0⟩ := hv; exact hE0))) ?_
    clear H; intro x48 w46 hv; clear a; intro a H; obtain ⟨rfl, hE47⟩ := hv
    replace hS := hS.ext hE47
    replace hW := Nat.le_trans hW hE47.size
    replace hm := bindS hm; obtain ⟨r49, hr49, hm⟩ := hm
    refine k_of_kk 7 (by kernel_rfl) ?_
    refine kk_call 7 H rfl rfl en175 (g_r10_things_w (A := A) (⟨_, _, _, _, rfl, (hrp0_0.ext (Flat.mono _) hS.x), (hrp0_1.ext (Flat.mono _) hS.x), (hrp0_2.ext (Flat.mono _) hS.x), (hrp0_3.ext (Flat.mono _) hS.x)⟩ : RGPlan _ [.int .i64 a0.Id, .bool a0.Mobile, vp0_0, vp0_1, vp0_2, .int .i64 a0.Events, vp0_3] a0) hr49) rfl (fun v w hv => .inl (ChgF.of_ext (by obtain ⟨_, hE0⟩ := hv; exact hE0))) ?_
    clear H; intro x52 w50 hv; clear a; intro a H; obtain ⟨rfl, hE51⟩ := hv
    replace hS := hS.ext hE51
    replace hW := Nat.le_trans hW hE51.size
    refine k_buildSlice 8 H rfl Tryz.underlying231 sz172 ze172 rfl rfl rfl (cs := [.int .i64 r37.Code, .int .i64 r37.Place, .int .i64 r41.Code, .int .i64 r41.Place, .int .i64 r45.Code, .int .i64 r45.Place, .int .i64 r49.Code, .int .i64 r49.Place]) (by kernel_rfl) rfl (by kernel_rfl) ?_
    clear H; intro b55 w53 hN hE54 hs; clear a; intro a H
    have hge_b55 : w34.heap.size ≤ b55 := hs ▸ hW
    replace hS := hS.newBlk hN hE54 hs; clear hN hs
    replace hW := Nat.le_trans hW hE54.size
    replace hS := hS.blkOwnL (e := eGR10Err) (k := 2) [r37, r41, r45, r49] rfl rfl (by simp [maxLen])
    refine k_takeT 9 H rfl (q_assign rfl) rfl (by kernel_rfl) (by kernel_rfl) (by kernel_rfl) (by kernel_rfl) (fun _ _ _ h => h) ?_; clear H a; intro a H
    refine k_done (by kernel_rfl) ?_
    refine then_normal (wp_seq (wp_seq (wp_region_lit (n_q H (q_assign rfl) rfl ?_)))); clear H a; intro a H
    refine n_nil (then_normal (wp_block ?_))
    replace hS := hS.pk1
    replace hS := hS.pk2
    replace hS := hS.pk2
    replace hm := bindS hm; obtain ⟨q57, hm, hm57⟩ := hm; replace hm := iter_some hm; obtain ⟨n57, hm⟩ := hm
    refine c_loop (σ := Nat × Nat) (fun (m, i58) => [(1, .pointer (some ⟨b21, 0, none⟩)), (2, .pointer (some ⟨b24, 0, none⟩)), (3, .slice (some ⟨b55, 0, none⟩) 4 4), (4, .int .i64 ((i58 : Nat) : Int))]) (fun (m, i58) wl => iterN (g_r10_Check_L1 r37 r41 r45 r49) m i58 = some q57 ∧ St NB w wl [ownR 172 2 (.slice (some ⟨b55, 0, none⟩) 4 4) [r37, r41, r45, r49].length ([r37, r41, r45, r49].flatMap eGR10Err), blkR b21 [.int .i64 a0.Id, .bool a0.Mobile, vp0_0, vp0_1, vp0_2, .int .i64 a0.Events, vp0_3] 27, blkR b24 [.int .i64 0, .int .i64 0] 172]) (fun (m, i58) => m) (n57, 0) H ⟨rfl, rfl, rfl, rfl, trivial⟩ ⟨hm, hS⟩ ?_
    clear H hS hm a; intro xx a w59 H hR; obtain ⟨m, i58⟩ := xx; simp only [ent, List.map_cons, List.map_nil] at H; (try dsimp only at hR); obtain ⟨hm, hS⟩ := hR
    replace hm := iterN_step hm; obtain ⟨m57, o57, rfl, hm, hn57⟩ := hm; try dsimp only [g_r10_Check_L1] at hm
    refine wp_seq (wp_seq (wp_region_lit (n_q H (q_move rfl) rfl (W_q (q_move rfl) rfl ?_)))); clear H a; intro a H
    obtain ⟨A60, c60, hv60, hl60, hm60⟩ := SlR.formV ((hS.own 0 rfl).slr rfl (fun _ _ => rfl))
    refine n_q H (q_lenV Tryz.underlying231 rfl hv60) rfl (W_q (q_lssN (i := i58) (j := ([r37, r41, r45, r49].length)) rfl rfl) rfl ?_); clear H a; intro a H
    refine n_nil (then_normal (c_cond H rfl (fun hc61 => ?_) (fun hc61 => ?_)))
    · replace hm := condT hm hc61
      have hlt62 : i58 < [r37, r41, r45, r49].length := of_decide_eq_true hc61
      refine wp_skip (then_normal (wp_seq (wp_block (wp_seq (wp_region_lit (n_q H (q_move rfl) rfl (W_q (q_move rfl) rfl ?_))))))); clear H a; intro a H
      replace hm := bindS hm; obtain ⟨x63, hx63, hm⟩ := hm
      obtain ⟨adx63, hAx63⟩ := SlR.adV ((hS.own 0 rfl).slr rfl (fun _ _ => rfl)) hv60 hx63
      refine n_q H (q_ixV (i := i58) Tryz.underlying231 sz172 rfl hv60 hAx63 rfl (natI hx63)) rfl (W_q (q_fieldAddr rfl fo172_0) rfl (W_q (q_load rfl (SlR.ldCellV (j := 0) ((hS.own 0 rfl).slr rfl (fun _ _ => rfl)) hv60 hAx63 ag3 hx63 rfl)) rfl (W_q (q_neqD rfl rfl) rfl ?_))); clear H a; intro a H
      refine n_nil (then_normal (c_cond H rfl (fun hc64 => ?_) (fun hc64 => ?_)))
      · replace hm := condT hm hc64
        refine wp_seq (wp_region_lit (n_q H (q_move rfl) rfl (W_q (q_move rfl) rfl ?_))); clear H a; intro a H
        replace hm := bindS hm; obtain ⟨x65, hx65, hm⟩ := hm
        obtain ⟨adx65, hAx65⟩ := SlR.adV ((hS.own 0 rfl).slr rfl (fun _ _ => rfl)) hv60 hx65
        refine n_q H (q_ixV (i := i58) Tryz.underlying231 sz172 rfl hv60 hAx65 rfl (natI hx65)) rfl (W_q (q_load rfl (SlR.ldAggV ((hS.own 0 rfl).slr rfl (fun _ _ => rfl)) hv60 hAx65 ag172 sz172 hx65)) rfl ?_); clear H a; intro a H
        replace hS := hS.pk2
        refine n_storeAll H rfl rfl (vs := [.int .i64 x65.Code, .int .i64 x65.Place]) rfl sz172 (hS.blk 0 rfl) rfl (by simp) ?_
        clear H; intro w66 hN hC67 hz; clear a; intro a H; replace hS := hS.setBlk hN hC67; clear hN hz
        refine n_nil (then_normal (wp_ret (block_ret (then_ret (then_ret (block_ret (then_ret ?_)))))))
        obtain rfl := Option.some.inj hm; have hz : _ = q57 := hn57; subst hz; replace hm := hm57; try dsimp only at hm
        obtain rfl := Option.some.inj hm
        replace hS := hS.tk1
        refine retL H (.inr rfl) rfl (vs := [.agg #[.int .i64 x65.Code, .int .i64 x65.Place]]) (resCell rfl ((hS.blk 0 rfl).ldAll ag172 sz172) resNil) ?_
        replace hS := hS.tk0
        exact ⟨rfl, hS.x⟩
      · replace hm := condF hm hc64
        refine wp_skip (block_normal (then_normal (wp_region_lit (n_q H (q_move rfl) rfl (W_q (q_incr (i := i58) (j := 1) rfl rfl (by omega)) rfl (W_q (q_assign rfl) rfl ?_)))))); clear H a; intro a H
        refine n_nil (then_normal ?_)
        obtain rfl := Option.some.inj hm
        exact round (m57, i58 + 1) H ⟨rfl, rfl, rfl, rfl, trivial⟩ ⟨hn57, hS⟩ (Nat.lt_succ_self _)
    · replace hm := condF hm hc61
      refine wp_exit (then_exit (then_exit (block_exit ?_)))
      obtain rfl := Option.some.inj hm; have hz : _ = q57 := hn57; subst hz; replace hm := hm57; try dsimp only at hm
      refine then_normal (wp_seq (wp_seq (wp_region_lit (n_q H (q_load rfl ((hS.blk 1 rfl).ldAll ag27 sz27)) rfl ?_)))); clear H a; intro a H
      replace hm := bindS hm; obtain ⟨r68, hr68, hm⟩ := hm
      refine n_call H rfl en176 (g_r10_bound_w (A := A) (⟨_, _, _, _, rfl, (hrp0_0.ext (Flat.mono _) hS.x), (hrp0_1.ext (Flat.mono _) hS.x), (hrp0_2.ext (Flat.mono _) hS.x), (hrp0_3.ext (Flat.mono _) hS.x)⟩ : RGPlan _ [.int .i64 a0.Id, .bool a0.Mobile, vp0_0, vp0_1, vp0_2, .int .i64 a0.Events, vp0_3] a0) hr68) rfl ?_
      clear H; intro x71 w69 hv; clear a; intro a H; obtain ⟨rfl, hE70⟩ := hv
      replace hS := hS.ext hE70
      refine n_q H (q_gtr rfl rfl) rfl ?_; clear H a; intro a H
      refine n_nil (then_normal (c_cond H rfl (fun hc72 => ?_) (fun hc72 => ?_)))
      · replace hm := condT hm hc72
        refine wp_seq (wp_region_lit ?_)
        replace hm := bindS hm; obtain ⟨r73, hr73, hm⟩ := hm
        refine n_call H rfl en171 (g_r10_bad_w (A := A) hr73) rfl ?_
        clear H; intro x76 w74 hv; clear a; intro a H; obtain ⟨rfl, hE75⟩ := hv
        replace hS := hS.ext hE75
        replace hS := hS.pk2
        refine n_storeAll H rfl rfl (vs := [.int .i64 r73.Code, .int .i64 r73.Place]) rfl sz172 (hS.blk 0 rfl) rfl (by simp) ?_
        clear H; intro w77 hN hC78 hz; clear a; intro a H; replace hS := hS.setBlk hN hC78; clear hN hz
        refine n_nil (then_normal (wp_ret (then_ret ?_)))
        obtain rfl := Option.some.inj hm
        replace hS := hS.tk1
        refine retL H (.inr rfl) rfl (vs := [.agg #[.int .i64 r73.Code, .int .i64 r73.Place]]) (resCell rfl ((hS.blk 0 rfl).ldAll ag172 sz172) resNil) ?_
        replace hS := hS.tk0
        exact ⟨rfl, hS.x⟩
      · replace hm := condF hm hc72
        refine wp_skip (then_normal (wp_seq (wp_region_lit ?_)))
        replace hm := bindS hm; obtain ⟨r79, hr79, hm⟩ := hm
        refine n_call H rfl en177 (g_r10_none_w (A := A) hr79) rfl ?_
        clear H; intro x82 w80 hv; clear a; intro a H; obtain ⟨rfl, hE81⟩ := hv
        replace hS := hS.ext hE81
        replace hS := hS.pk2
        refine n_storeAll H rfl rfl (vs := [.int .i64 r79.Code, .int .i64 r79.Place]) rfl sz172 (hS.blk 0 rfl) rfl (by simp) ?_
        clear H; intro w83 hN hC84 hz; clear a; intro a H; replace hS := hS.setBlk hN hC84; clear hN hz
        refine n_nil (then_normal (wp_ret ?_))
        obtain rfl := Option.some.inj hm
        replace hS := hS.tk1
        refine retL H (.inr rfl) rfl (vs := [.agg #[.int .i64 r79.Code, .int .i64 r79.Place]]) (resCell rfl ((hS.blk 0 rfl).ldAll ag172 sz172) resNil) ?_
        replace hS := hS.tk0
        exact ⟨rfl, hS.x⟩
theorem g_r10_Good_w {w : World} {A : Nat → Addr} {cs0 : List Value} {a0 : GPlan} (h0 : RGPlan w cs0 a0) {r : Bool} (hm : g_r10_Good a0 = some r) :
    Calls Tryz.prog 48 [.agg cs0.toArray].toArray w (Ret fun u w' => u = .bool r ∧ Ext w w') := by
  obtain ⟨vp0_0, vp0_1, vp0_2, vp0_3, rfl, hrp0_0, hrp0_1, hrp0_2, hrp0_3⟩ := h0
  have hS := St.begin NB w
  unfold g_r10_Good at hm
  refine enter Tryz.func48 rfl rfl rfl ?_; intro a H; dsimp only [enumL, Nat.zero_add, Nat.reduceAdd] at H
  refine wp_seq (wp_region_lit (n_box H rfl (cs := [.int .i64 a0.Id, .bool a0.Mobile, vp0_0, vp0_1, vp0_2, .int .i64 a0.Events, vp0_3]) rfl rfl ?_))
  clear H; intro b21 w22 hN hE23 hs; clear a; intro a H
  replace hS := hS.newBlk hN hE23 hs; clear hN hs
  refine n_q H (q_assign rfl) rfl ?_; clear H a; intro a H
  refine n_nil (then_normal (wp_seq (wp_region_lit (n_q H (q_load rfl ((hS.blk 0 rfl).ldAll ag27 sz27)) rfl ?_)))); clear H a; intro a H
  replace hm := bindS hm; obtain ⟨r24, hr24, hm⟩ := hm
  refine n_call H rfl en99 (g_r10_Check_w (A := A) (⟨_, _, _, _, rfl, (hrp0_0.ext (Flat.mono _) hS.x), (hrp0_1.ext (Flat.mono _) hS.x), (hrp0_2.ext (Flat.mono _) hS.x), (hrp0_3.ext (Flat.mono _) hS.x)⟩ : RGPlan _ [.int .i64 a0.Id, .bool a0.Mobile, vp0_0, vp0_1, vp0_2, .int .i64 a0.Events, vp0_3] a0) hr24) rfl ?_
  clear H; intro x27 w25 hv; clear a; intro a H; obtain ⟨rfl, hE26⟩ := hv
  replace hS := hS.ext hE26
  refine n_q H (q_fieldV fd172_0 rfl rfl) rfl (W_q (q_eqlD rfl rfl) rfl (W_q (q_assign rfl) rfl ?_)); clear H a; intro a H
  refine n_nil (then_normal (wp_ret ?_))
  obtain rfl := Option.some.inj hm
  replace hS := hS.tk0
  refine ret1 H (.inr rfl) rfl rfl ?_
  exact ⟨rfl, hS.x⟩
theorem g_r11_rule4_w {w : World} {A : Nat → Addr} {cs0 : List Value} {a0 : GState} (h0 : RGState w cs0 a0) {r : Bool} (hm : g_r11_rule4 a0 = some r) :
    Calls Tryz.prog 100 [.agg cs0.toArray].toArray w (Ret fun u w' => u = .bool r ∧ Ext w w') := by
  obtain ⟨vp0_0, vp0_1, vp0_2, vp0_3, vp0_4, vp0_5, vp0_6, rfl, hrp0_0, hrp0_1, hrp0_2, hrp0_3, hrp0_4, hrp0_5, hrp0_6⟩ := h0
  have hS := St.begin NB w
  unfold g_r11_rule4 at hm
  refine enter Tryz.func100 rfl rfl rfl ?_; intro a H; dsimp only [enumL, Nat.zero_add, Nat.reduceAdd] at H
  refine wp_seq (wp_region_lit (n_box H rfl (cs := [.int .i64 a0.Id, .int .i64 a0.Frame, .int .i64 a0.Epoch, vp0_0, vp0_1, vp0_2, vp0_3, vp0_4, vp0_5, vp0_6]) rfl rfl ?_))
  clear H; intro b21 w22 hN hE23 hs; clear a; intro a H
  replace hS := hS.newBlk hN hE23 hs; clear hN hs
  refine n_q H (q_assign rfl) rfl ?_; clear H a; intro a H
  refine n_nil (then_normal (wp_seq (wp_seq (wp_region_lit (n_q H (q_assign rfl) rfl ?_))))); clear H a; intro a H
  refine n_nil (then_normal (wp_block ?_))
  replace hm := bindS hm; obtain ⟨q24, hm, hm24⟩ := hm; replace hm := iter_some hm; obtain ⟨n24, hm⟩ := hm
  refine c_loop (σ := Nat × Nat) (fun (m, i25) => [(1, .pointer (some ⟨b21, 0, none⟩)), (3, .int .i64 ((i25 : Nat) : Int))]) (fun (m, i25) wl => iterN (g_r11_rule4_L1 a0) m i25 = some q24 ∧ St NB w wl [blkR b21 [.int .i64 a0.Id, .int .i64 a0.Frame, .int .i64 a0.Epoch, vp0_0, vp0_1, vp0_2, vp0_3, vp0_4, vp0_5, vp0_6] 34]) (fun (m, i25) => m) (n24, 0) H ⟨rfl, rfl, trivial⟩ ⟨hm, hS⟩ ?_
  clear H hS hm a; intro xx a w26 H hR; obtain ⟨m, i25⟩ := xx; simp only [ent, List.map_cons, List.map_nil] at H; (try dsimp only at hR); obtain ⟨hm, hS⟩ := hR
  replace hm := iterN_step hm; obtain ⟨m24, o24, rfl, hm, hn24⟩ := hm; try dsimp only [g_r11_rule4_L1] at hm
  refine wp_seq (wp_seq (wp_region_lit (n_q H (q_move rfl) rfl (W_q (q_fieldAddr0 rfl fo34_3) rfl (W_q (q_load rfl ((hS.blk 0 rfl).ld ag28 rfl)) rfl ?_))))); clear H a; intro a H
  obtain ⟨A27, c27, hv27, hl27, hm27⟩ := SlR.formV (hrp0_0.ext (Flat.mono _) hS.x)
  refine n_q H (q_lenV Tryz.underlying28 rfl hv27) rfl (W_q (q_lssN (i := i25) (j := a0.Procs.length) rfl rfl) rfl ?_); clear H a; intro a H
  refine n_nil (then_normal (c_cond H rfl (fun hc28 => ?_) (fun hc28 => ?_)))
  · replace hm := condT hm hc28
    have hlt29 : i25 < a0.Procs.length := of_decide_eq_true hc28
    refine wp_skip (then_normal (wp_seq (wp_block (wp_seq (wp_region_lit (n_q H (q_fieldAddr0 rfl fo34_3) rfl (W_q (q_load rfl ((hS.blk 0 rfl).ld ag28 rfl)) rfl (W_q (q_move rfl) rfl ?_)))))))); clear H a; intro a H
    replace hm := bindS hm; obtain ⟨x30, hx30, hm⟩ := hm
    obtain ⟨adx30, hAx30⟩ := SlR.adV (hrp0_0.ext (Flat.mono _) hS.x) hv27 hx30
    refine n_q H (q_ixV (i := i25) Tryz.underlying28 sz158 rfl hv27 hAx30 rfl (natI hx30)) rfl (W_q (q_load rfl (SlR.ldAggV (hrp0_0.ext (Flat.mono _) hS.x) hv27 hAx30 ag158 sz158 hx30)) rfl ?_); clear H a; intro a H
    refine n_alloc H ze158 rfl ?_
    clear H; intro b31 w32 hN hE33 hs; clear a; intro a H
    replace hS := hS.newBlk hN hE33 hs; clear hN hs
    refine n_storeAll H rfl rfl (vs := (x30.Regs.toList.map (Value.int .u32) ++ [.int .u32 x30.Pc, .int .i64 x30.State, .int .i64 x30.Prio, .int .i64 x30.Wait, .int .i64 x30.Obj])) rfl (sz158.trans (by simp)) (hS.blk 0 rfl) (by simp) (eGProc_one _) ?_
    clear H; intro w34 hN hC35 hz; clear a; intro a H; replace hS := hS.setBlk hN hC35; clear hN hz
    refine n_nil (then_normal (wp_seq (wp_region_lit (n_c H (fun HC => ?_))))); clear H
    refine nc_q HC (q_fieldAddr0 rfl fo158_0) rfl (by kernel_rfl) ?_; clear HC a; intro a HC
    replace hm := bindS hm; obtain ⟨x36, hx36, hm⟩ := hm
    obtain ⟨h0x36, h1x36, hxx36⟩ := rdV_some hx36
    refine nc_q HC (q_ixArrB Tryz.underlying156 sz155 rfl rfl h0x36 h1x36) rfl (by kernel_rfl) (V_q (q_load rfl ((hS.blk 0 rfl).ld ag155 (arr_at0 (f := (Value.int .u32)) hxx36))) rfl (by kernel_rfl) (V_q (q_neqD rfl rfl) rfl (by kernel_rfl) (V_q (q_move rfl) rfl (by kernel_rfl) (V_g (q_fieldAddr0 rfl fo158_2) (by kernel_rfl) (by kernel_rfl) (by kernel_rfl) (V_g (q_load rfl ((hS.blk 0 rfl).ld (v := Value.int .i64 x30.State) ag3 (by simp))) (by kernel_rfl) (by kernel_rfl) (by kernel_rfl) (V_g (q_lss rfl rfl) (by kernel_rfl) (by kernel_rfl) (by kernel_rfl) (V_or (j := 4) rfl rfl rfl (by kernel_rfl) (by kernel_rfl) (V_q (q_move rfl) rfl (by kernel_rfl) (V_g (q_fieldAddr0 rfl fo158_2) (by kernel_rfl) (by kernel_rfl) (by kernel_rfl) (V_g (q_load rfl ((hS.blk 0 rfl).ld (v := Value.int .i64 x30.State) ag3 (by simp))) (by kernel_rfl) (by kernel_rfl) (by kernel_rfl) (V_g (q_gtr rfl rfl) (by kernel_rfl) (by kernel_rfl) (by kernel_rfl) ?_))))))))))); clear HC a; intro a HC
    refine nc_or (j := 9) HC rfl rfl rfl (by kernel_rfl) (by kernel_rfl) (V_q (q_move rfl) rfl (by kernel_rfl) (V_g (q_fieldAddr0 rfl fo158_3) (by kernel_rfl) (by kernel_rfl) (by kernel_rfl) (V_g (q_load rfl ((hS.blk 0 rfl).ld (v := Value.int .i64 x30.Prio) ag3 (by simp))) (by kernel_rfl) (by kernel_rfl) (by kernel_rfl) (V_g (q_lss rfl rfl) (by kernel_rfl) (by kernel_rfl) (by kernel_rfl) (V_or (j := 14) rfl rfl rfl (by kernel_rfl) (by kernel_rfl) (V_q (q_move rfl) rfl (by kernel_rfl) (V_g (q_fieldAddr0 rfl fo158_3) (by kernel_rfl) (by kernel_rfl) (by kernel_rfl) (V_g (q_load rfl ((hS.blk 0 rfl).ld (v := Value.int .i64 x30.Prio) ag3 (by simp))) (by kernel_rfl) (by kernel_rfl) (by kernel_rfl) (V_g (q_gtr rfl rfl) (by kernel_rfl) (by kernel_rfl) (by kernel_rfl) (V_or (j := 19) rfl rfl rfl (by kernel_rfl) (by kernel_rfl) (V_q (q_move rfl) rfl (by kernel_rfl) ?_))))))))))); clear HC a; intro a HC
    refine nc_g HC (q_fieldAddr0 rfl fo158_4) (by kernel_rfl) (by kernel_rfl) (by kernel_rfl) (V_g (q_load rfl ((hS.blk 0 rfl).ld (v := Value.int .i64 x30.Wait) ag3 (by simp))) (by kernel_rfl) (by kernel_rfl) (by kernel_rfl) (V_g (q_lss rfl rfl) (by kernel_rfl) (by kernel_rfl) (by kernel_rfl) (V_or (j := 24) rfl rfl rfl (by kernel_rfl) (by kernel_rfl) (V_q (q_move rfl) rfl (by kernel_rfl) (V_g (q_fieldAddr0 rfl fo158_4) (by kernel_rfl) (by kernel_rfl) (by kernel_rfl) (V_g (q_load rfl ((hS.blk 0 rfl).ld (v := Value.int .i64 x30.Wait) ag3 (by simp))) (by kernel_rfl) (by kernel_rfl) (by kernel_rfl) (V_g (q_gtr rfl rfl) (by kernel_rfl) (by kernel_rfl) (by kernel_rfl) (V_or (j := 29) rfl rfl rfl (by kernel_rfl) (by kernel_rfl) ?_)))))))); clear HC a; intro a HC
    have H := HC.has; clear HC
    refine n_nil (then_normal (c_cond H rfl (fun hc37 => ?_) (fun hc37 => ?_)))
    · replace hm := condT hm hc37
      refine wp_seq (wp_region_lit (n_q H (q_assign rfl) rfl ?_)); clear H a; intro a H
      refine n_nil (then_normal (wp_ret (block_ret (then_ret (then_ret (block_ret (then_ret ?_)))))))
      obtain rfl := Option.some.inj hm; have hz : _ = q24 := hn24; subst hz; replace hm := hm24; try dsimp only at hm
      obtain rfl := Option.some.inj hm
      replace hS := hS.tk0
      refine ret1 H (.inr rfl) rfl rfl ?_
      exact ⟨rfl, hS.x⟩
    · replace hm := condF hm hc37
      refine wp_skip (block_normal (then_normal (wp_region_lit (n_q H (q_move rfl) rfl (W_q (q_incr (i := i25) (j := 1) rfl rfl (by omega)) rfl (W_q (q_assign rfl) rfl ?_)))))); clear H a; intro a H
      refine n_nil (then_normal ?_)
      obtain rfl := Option.some.inj hm
      replace hS := hS.pk1
      replace hS := hS.tk1
      exact round (m24, i25 + 1) H ⟨rfl, rfl, trivial⟩ ⟨hn24, hS⟩ (Nat.lt_succ_self _)
  · replace hm := condF hm hc28
    refine wp_exit (then_exit (then_exit (block_exit ?_)))
    obtain rfl := Option.some.inj hm; have hz : _ = q24 := hn24; subst hz; replace hm := hm24; try dsimp only at hm
    refine then_normal (wp_seq (wp_region_lit (n_q H (q_assign rfl) rfl ?_))); clear H a; intro a H
    refine n_nil (then_normal (wp_ret ?_))
    obtain rfl := Option.some.inj hm
    replace hS := hS.tk0
    refine ret1 H (.inr rfl) rfl rfl ?_
    exact ⟨rfl, hS.x⟩
theorem g_r11_rule5_w {w : World} {A : Nat → Addr} {cs0 : List Value} {a0 : GState} (h0 : RGState w cs0 a0) {r : Bool} (hm : g_r11_rule5 a0 = some r) :
    Calls Tryz.prog 101 [.agg cs0.toArray].toArray w (Ret fun u w' => u = .bool r ∧ Ext w w') := by
  obtain ⟨vp0_0, vp0_1, vp0_2, vp0_3, vp0_4, vp0_5, vp0_6, rfl, hrp0_0, hrp0_1, hrp0_2, hrp0_3, hrp0_4, hrp0_5, hrp0_6⟩ := h0
  have hS := St.begin NB w
  unfold g_r11_rule5 at hm
  refine enter Tryz.func101 rfl rfl rfl ?_; intro a H; dsimp only [enumL, Nat.zero_add, Nat.reduceAdd] at H
  refine wp_seq (wp_region_lit (n_box H rfl (cs := [.int .i64 a0.Id, .int .i64 a0.Frame, .int .i64 a0.Epoch, vp0_0, vp0_1, vp0_2, vp0_3, vp0_4, vp0_5, vp0_6]) rfl rfl ?_))
  clear H; intro b21 w22 hN hE23 hs; clear a; intro a H
  replace hS := hS.newBlk hN hE23 hs; clear hN hs
  refine n_q H (q_assign rfl) rfl ?_; clear H a; intro a H
  refine n_nil (then_normal (wp_seq (wp_seq (wp_region_lit (n_q H (q_assign rfl) rfl ?_))))); clear H a; intro a H
  refine n_nil (then_normal (wp_block ?_))
  replace hm := bindS hm; obtain ⟨q24, hm, hm24⟩ := hm; replace hm := iter_some hm; obtain ⟨n24, hm⟩ := hm
  refine c_loop (σ := Nat × Nat) (fun (m, i25) => [(1, .pointer (some ⟨b21, 0, none⟩)), (3, .int .i64 ((i25 : Nat) : Int))]) (fun (m, i25) wl => iterN (g_r11_rule5_L1 a0) m i25 = some q24 ∧ St NB w wl [blkR b21 [.int .i64 a0.Id, .int .i64 a0.Frame, .int .i64 a0.Epoch, vp0_0, vp0_1, vp0_2, vp0_3, vp0_4, vp0_5, vp0_6] 34]) (fun (m, i25) => m) (n24, 0) H ⟨rfl, rfl, trivial⟩ ⟨hm, hS⟩ ?_
  clear H hS hm a; intro xx a w26 H hR; obtain ⟨m, i25⟩ := xx; simp only [ent, List.map_cons, List.map_nil] at H; (try dsimp only at hR); obtain ⟨hm, hS⟩ := hR
  replace hm := iterN_step hm; obtain ⟨m24, o24, rfl, hm, hn24⟩ := hm; try dsimp only [g_r11_rule5_L1] at hm
  refine wp_seq (wp_seq (wp_region_lit (n_q H (q_move rfl) rfl (W_q (q_fieldAddr0 rfl fo34_3) rfl (W_q (q_load rfl ((hS.blk 0 rfl).ld ag28 rfl)) rfl ?_))))); clear H a; intro a H
  obtain ⟨A27, c27, hv27, hl27, hm27⟩ := SlR.formV (hrp0_0.ext (Flat.mono _) hS.x)
  refine n_q H (q_lenV Tryz.underlying28 rfl hv27) rfl (W_q (q_lssN (i := i25) (j := a0.Procs.length) rfl rfl) rfl ?_); clear H a; intro a H
  refine n_nil (then_normal (c_cond H rfl (fun hc28 => ?_) (fun hc28 => ?_)))
  · replace hm := condT hm hc28
    have hlt29 : i25 < a0.Procs.length := of_decide_eq_true hc28
    refine wp_skip (then_normal (wp_seq (wp_block (wp_seq (c_quiet (by kernel_rfl) (by kernel_rfl) ?_)))))
    refine qq_q H (q_fieldAddr0 rfl fo34_3) rfl ?_; clear H a; intro a H
    refine qq_q H (q_load rfl ((hS.blk 0 rfl).ld ag28 rfl)) rfl ?_; clear H a; intro a H
    refine qq_q H (q_move rfl) rfl ?_; clear H a; intro a H
    replace hm := bindS hm; obtain ⟨x30, hx30, hm⟩ := hm
    obtain ⟨adx30, hAx30⟩ := SlR.adV (hrp0_0.ext (Flat.mono _) hS.x) hv27 hx30
    refine qq_q H (q_ixV (i := i25) Tryz.underlying28 sz158 rfl hv27 hAx30 rfl (natI hx30)) rfl ?_; clear H a; intro a H
    refine qq_q H (q_fieldAddr rfl fo158_4) rfl ?_; clear H a; intro a H
    refine qq_q H (q_load rfl (SlR.ldCellV (j := 19) (u := Value.int .i64 x30.Wait) (hrp0_0.ext (Flat.mono _) hS.x) hv27 hAx30 ag3 hx30 (by simp [eGProc]))) rfl ?_; clear H a; intro a H
    refine qq_q H (q_neqD rfl rfl) rfl ?_; clear H a; intro a H
    refine qq_q H (q_fieldAddr0 rfl fo34_3) rfl ?_; clear H a; intro a H
    refine qq_q H (q_load rfl ((hS.blk 0 rfl).ld ag28 rfl)) rfl ?_; clear H a; intro a H
    refine qq_q H (q_move rfl) rfl ?_; clear H a; intro a H
    replace hm := bindS hm; obtain ⟨x31, hx31, hm⟩ := hm
    obtain ⟨adx31, hAx31⟩ := SlR.adV (hrp0_0.ext (Flat.mono _) hS.x) hv27 hx31
    refine qq_q H (q_ixV (i := i25) Tryz.underlying28 sz158 rfl hv27 hAx31 rfl (natI hx31)) rfl ?_; clear H a; intro a H
    refine qq_q H (q_fieldAddr rfl fo158_2) rfl ?_; clear H a; intro a H
    refine qq_q H (q_load rfl (SlR.ldCellV (j := 17) (u := Value.int .i64 x31.State) (hrp0_0.ext (Flat.mono _) hS.x) hv27 hAx31 ag3 hx31 (by simp [eGProc]))) rfl ?_; clear H a; intro a H
    refine qq_q H (q_eqlD rfl rfl) rfl ?_; clear H a; intro a H
    refine qq_q H (q_neqB Tryz.underlying4 rfl rfl) rfl ?_; clear H a; intro a H
    refine qq_nil ?_; intro w32 hE33
    replace hS := hS.ext hE33
    refine then_normal (c_cond H rfl (fun hc34 => ?_) (fun hc34 => ?_))
    · replace hm := condT hm hc34
      refine wp_seq (wp_region_lit (n_q H (q_assign rfl) rfl ?_)); clear H a; intro a H
      refine n_nil (then_normal (wp_ret (block_ret (then_ret (then_ret (block_ret (then_ret ?_)))))))
      obtain rfl := Option.some.inj hm; have hz : _ = q24 := hn24; subst hz; replace hm := hm24; try dsimp only at hm
      obtain rfl := Option.some.inj hm
      replace hS := hS.tk0
      refine ret1 H (.inr rfl) rfl rfl ?_
      exact ⟨rfl, hS.x⟩
    · replace hm := condF hm hc34
      refine wp_skip (block_normal (then_normal (wp_region_lit (n_q H (q_move rfl) rfl (W_q (q_incr (i := i25) (j := 1) rfl rfl (by omega)) rfl (W_q (q_assign rfl) rfl ?_)))))); clear H a; intro a H
      refine n_nil (then_normal ?_)
      obtain rfl := Option.some.inj hm
      exact round (m24, i25 + 1) H ⟨rfl, rfl, trivial⟩ ⟨hn24, hS⟩ (Nat.lt_succ_self _)
  · replace hm := condF hm hc28
    refine wp_exit (then_exit (then_exit (block_exit ?_)))
    obtain rfl := Option.some.inj hm; have hz : _ = q24 := hn24; subst hz; replace hm := hm24; try dsimp only at hm
    refine then_normal (wp_seq (wp_region_lit (n_q H (q_assign rfl) rfl ?_))); clear H a; intro a H
    refine n_nil (then_normal (wp_ret ?_))
    obtain rfl := Option.some.inj hm
    replace hS := hS.tk0
    refine ret1 H (.inr rfl) rfl rfl ?_
    exact ⟨rfl, hS.x⟩
theorem g_r11_queuing_w {w : World} {A : Nat → Addr} {cs0 : List Value} {a0 : GPlan} {a1 : Int} (h0 : RGPlan w cs0 a0) {r : Bool} (hm : g_r11_queuing a0 a1 = some r) :
    Calls Tryz.prog 206 [.agg cs0.toArray, .int .i64 a1].toArray w (Ret fun u w' => u = .bool r ∧ Ext w w') := by
  obtain ⟨vp0_0, vp0_1, vp0_2, vp0_3, rfl, hrp0_0, hrp0_1, hrp0_2, hrp0_3⟩ := h0
  have hS := St.begin NB w
  unfold g_r11_queuing at hm
  refine enter Tryz.func206 rfl rfl rfl ?_; intro a H; dsimp only [enumL, Nat.zero_add, Nat.reduceAdd] at H
  refine wp_seq (wp_region_lit (n_box H rfl (cs := [.int .i64 a0.Id, .bool a0.Mobile, vp0_0, vp0_1, vp0_2, .int .i64 a0.Events, vp0_3]) rfl rfl ?_))
  clear H; intro b21 w22 hN hE23 hs; clear a; intro a H
  replace hS := hS.newBlk hN hE23 hs; clear hN hs
  refine n_q H (q_assign rfl) rfl ?_; clear H a; intro a H
  refine n_nil (then_normal (wp_seq (wp_region_lit (n_q H (q_move rfl) rfl (W_q (q_geq rfl rfl) rfl (W_q (q_move rfl) rfl ?_)))))); clear H a; intro a H
  rcases Bool.eq_false_or_eq_true (decide (0 ≤ a1)) with hg24 | hg24
  · replace H := H.know 7 rfl hg24
    replace hm := condT hm hg24
    refine n_yes H rfl rfl (n_q H (q_move rfl) rfl (W_yes rfl rfl (W_q (q_fieldAddr0 rfl fo27_4) rfl (W_yes rfl rfl (W_q (q_load rfl ((hS.blk 0 rfl).ld ag24 rfl)) rfl (W_yes rfl rfl ?_)))))); clear H a; intro a H
    obtain ⟨A25, c25, hv25, hl25, hm25⟩ := SlR.formV (hrp0_2.ext (Flat.mono _) hS.x)
    refine n_q H (q_lenV Tryz.underlying24 rfl hv25) rfl (W_yes rfl rfl (W_q (q_lss rfl rfl) rfl (W_q (q_pickT rfl rfl) rfl (W_q (q_move rfl) rfl ?_)))); clear H a; intro a H
    rcases Bool.eq_false_or_eq_true (decide (a1 < ((a0.Ports.length : Nat) : Int))) with hg26 | hg26
    · replace H := H.know 14 rfl hg26
      replace hm := condT hm hg26
      refine n_yes H rfl rfl (n_q H (q_fieldAddr0 rfl fo27_4) rfl (W_yes rfl rfl (W_q (q_load rfl ((hS.blk 0 rfl).ld ag24 rfl)) rfl (W_yes rfl rfl (W_q (q_move rfl) rfl (W_yes rfl rfl ?_)))))); clear H a; intro a H
      replace hm := bindS hm; obtain ⟨x27, hx27, hm⟩ := hm
      obtain ⟨h0x27, h1x27, hxx27⟩ := rdI_some hx27
      obtain ⟨adx27, hAx27⟩ := SlR.adV (hrp0_2.ext (Flat.mono _) hS.x) hv25 hxx27
      refine n_q H (q_ixVI Tryz.underlying24 sz171 rfl hv25 hAx27 rfl h0x27 h1x27) rfl (W_yes rfl rfl (W_q (q_fieldAddr rfl fo171_0) rfl (W_yes rfl rfl (W_q (q_load rfl (SlR.ldCellV (j := 0) (hrp0_2.ext (Flat.mono _) hS.x) hv25 hAx27 ag3 hxx27 rfl)) rfl (W_yes rfl rfl (W_q (q_eqlD rfl rfl) rfl (W_yes rfl rfl (W_q (q_move rfl) rfl ?_)))))))); clear H a; intro a H
      rcases Bool.eq_false_or_eq_true (decide (x27.Kind = 3)) with hg28 | hg28
      · replace H := H.know 22 rfl hg28
        replace hm := condT hm hg28
        refine n_no H rfl rfl (by decide) rfl (W_no rfl rfl (by decide) rfl (W_no rfl rfl (by decide) rfl (W_no rfl rfl (by decide) rfl (W_no rfl rfl (by decide) rfl (W_no rfl rfl (by decide) rfl (W_no rfl rfl (by decide) rfl (W_yes rfl rfl (W_q (q_pickT rfl rfl) rfl (W_q (q_pickT rfl rfl) rfl (W_q (q_assign rfl) rfl ?_)))))))))); clear H a; intro a H
        refine n_nil (then_normal (wp_ret ?_))
        obtain rfl := Option.some.inj hm
        replace hS := hS.tk0
        refine ret1 H (.inr rfl) rfl rfl ?_
        exact ⟨rfl, hS.x⟩
      · replace H := H.know 22 rfl hg28
        replace hm := condF hm hg28
        refine n_yes H rfl rfl (n_q H (q_fieldAddr0 rfl fo27_4) rfl (W_yes rfl rfl (W_q (q_load rfl ((hS.blk 0 rfl).ld ag24 rfl)) rfl (W_yes rfl rfl (W_q (q_move rfl) rfl (W_yes rfl rfl ?_)))))); clear H a; intro a H
        replace hm := bindS hm; obtain ⟨x29, hx29, hm⟩ := hm
        obtain ⟨h0x29, h1x29, hxx29⟩ := rdI_some hx29
        obtain ⟨adx29, hAx29⟩ := SlR.adV (hrp0_2.ext (Flat.mono _) hS.x) hv25 hxx29
        refine n_q H (q_ixVI Tryz.underlying24 sz171 rfl hv25 hAx29 rfl h0x29 h1x29) rfl (W_yes rfl rfl (W_q (q_fieldAddr rfl fo171_0) rfl (W_yes rfl rfl (W_q (q_load rfl (SlR.ldCellV (j := 0) (hrp0_2.ext (Flat.mono _) hS.x) hv25 hAx29 ag3 hxx29 rfl)) rfl (W_yes rfl rfl (W_q (q_eqlD rfl rfl) rfl (W_yes rfl rfl (W_q (q_pickF rfl rfl) rfl (W_q (q_pickT rfl rfl) rfl (W_q (q_assign rfl) rfl ?_)))))))))); clear H a; intro a H
        refine n_nil (then_normal (wp_ret ?_))
        obtain rfl := Option.some.inj hm
        replace hS := hS.tk0
        refine ret1 H (.inr rfl) rfl rfl ?_
        exact ⟨rfl, hS.x⟩
    · replace H := H.know 14 rfl hg26
      replace hm := condF hm hg26
      refine n_no H rfl rfl (by decide) rfl (W_no rfl rfl (by decide) rfl (W_no rfl rfl (by decide) rfl (W_no rfl rfl (by decide) rfl (W_no rfl rfl (by decide) rfl (W_no rfl rfl (by decide) rfl (W_no rfl rfl (by decide) rfl (W_no rfl rfl (by decide) rfl (W_noU rfl rfl rfl (W_noU rfl rfl rfl (W_noU rfl rfl rfl (W_noU rfl rfl rfl ?_))))))))))); clear H a; intro a H
      refine n_noU H rfl rfl rfl (W_noU rfl rfl rfl (W_noU rfl rfl rfl (W_no rfl rfl (by decide) rfl (W_q (q_pickF rfl rfl) rfl (W_q (q_assign rfl) rfl ?_))))); clear H a; intro a H
      refine n_nil (then_normal (wp_ret ?_))
      obtain rfl := Option.some.inj hm
      replace hS := hS.tk0
      refine ret1 H (.inr rfl) rfl rfl ?_
      exact ⟨rfl, hS.x⟩
  · replace H := H.know 7 rfl hg24
    replace hm := condF hm hg24
    refine n_no H rfl rfl (by decide) rfl (W_no rfl rfl (by decide) rfl (W_no rfl rfl (by decide) rfl (W_no rfl rfl (by decide) rfl (W_no rfl rfl (by decide) rfl (W_q (q_pickF rfl rfl) rfl (W_q (q_move rfl) rfl (W_no rfl rfl (by decide) rfl (W_no rfl rfl (by decide) rfl (W_no rfl rfl (by decide) rfl (W_no rfl rfl (by decide) rfl (W_no rfl rfl (by decide) rfl ?_))))))))))); clear H a; intro a H
    refine n_no H rfl rfl (by decide) rfl (W_no rfl rfl (by decide) rfl (W_no rfl rfl (by decide) rfl (W_noU rfl rfl rfl (W_noU rfl rfl rfl (W_noU rfl rfl rfl (W_noU rfl rfl rfl (W_noU rfl rfl rfl (W_noU rfl rfl rfl (W_noU rfl rfl rfl (W_no rfl rfl (by decide) rfl (W_q (q_pickF rfl rfl) rfl ?_))))))))))); clear H a; intro a H
    refine n_q H (q_assign rfl) rfl ?_; clear H a; intro a H
    refine n_nil (then_normal (wp_ret ?_))
    obtain rfl := Option.some.inj hm
    replace hS := hS.tk0
    refine ret1 H (.inr rfl) rfl rfl ?_
    exact ⟨rfl, hS.x⟩
theorem g_r11_object_w {w : World} {A : Nat → Addr} {cs0 : List Value} {a0 : GPlan} {a1 : GProc} (h0 : RGPlan w cs0 a0) {r : Bool} (hm : g_r11_object a0 a1 = some r) :
    Calls Tryz.prog 178 [.agg cs0.toArray, .agg (eGProc a1).toArray].toArray w (Ret fun u w' => u = .bool r ∧ Ext w w') := by
  obtain ⟨vp0_0, vp0_1, vp0_2, vp0_3, rfl, hrp0_0, hrp0_1, hrp0_2, hrp0_3⟩ := h0
  have hS := St.begin NB w
  unfold g_r11_object at hm
  refine enter Tryz.func178 rfl rfl rfl ?_; intro a H; dsimp only [enumL, Nat.zero_add, Nat.reduceAdd] at H
  refine wp_seq (wp_region_lit (n_box H rfl (cs := [.int .i64 a0.Id, .bool a0.Mobile, vp0_0, vp0_1, vp0_2, .int .i64 a0.Events, vp0_3]) rfl rfl ?_))
  clear H; intro b21 w22 hN hE23 hs; clear a; intro a H
  replace hS := hS.newBlk hN hE23 hs; clear hN hs
  refine n_box H rfl (cs := (a1.Regs.toList.map (Value.int .u32) ++ [.int .u32 a1.Pc, .int .i64 a1.State, .int .i64 a1.Prio, .int .i64 a1.Wait, .int .i64 a1.Obj])) rfl rfl ?_
  clear H; intro b24 w25 hN hE26 hs; clear a; intro a H
  replace hS := hS.newBlk hN hE26 hs; clear hN hs
  refine n_q H (q_assign rfl) rfl ?_; clear H a; intro a H
  refine n_nil (then_normal (wp_seq (wp_seq (wp_region_lit (n_q H (q_fieldAddr0 rfl fo158_4) rfl (W_q (q_load rfl ((hS.blk 0 rfl).ld (v := Value.int .i64 a1.Wait) ag3 (by simp))) rfl ?_)))))); clear H a; intro a H
  refine n_nil (then_normal (wp_block (wp_seq (wp_region_lit (n_q H (q_eqlD rfl rfl) rfl (W_q (q_assign rfl) rfl ?_)))))); clear H a; intro a H
  refine n_nil (then_normal (c_cond H rfl (fun hc27 => ?_) (fun hc27 => ?_)))
  · replace hm := condT hm hc27
    refine wp_seq (wp_region_lit (n_c H (fun HC => ?_))); clear H
    refine nc_q HC (q_fieldAddr0 rfl fo158_5) rfl (by kernel_rfl) (V_q (q_load rfl ((hS.blk 0 rfl).ld (v := Value.int .i64 a1.Obj) ag3 (by simp))) rfl (by kernel_rfl) (V_q (q_geq rfl rfl) rfl (by kernel_rfl) (V_q (q_move rfl) rfl (by kernel_rfl) (V_g (q_fieldAddr0 rfl fo158_5) (by kernel_rfl) (by kernel_rfl) (by kernel_rfl) (V_g (q_load rfl ((hS.blk 0 rfl).ld (v := Value.int .i64 a1.Obj) ag3 (by simp))) (by kernel_rfl) (by kernel_rfl) (by kernel_rfl) (V_g (q_fieldAddr0 rfl fo27_5) (by kernel_rfl) (by kernel_rfl) (by kernel_rfl) (V_g (q_load rfl ((hS.blk 1 rfl).ld ag3 rfl)) (by kernel_rfl) (by kernel_rfl) (by kernel_rfl) (V_g (q_lss rfl rfl) (by kernel_rfl) (by kernel_rfl) (by kernel_rfl) (V_and (j := 3) rfl rfl rfl (by kernel_rfl) (by kernel_rfl) (V_q (q_assign rfl) rfl (by kernel_rfl) ?_)))))))))); clear HC a; intro a HC
    have H := HC.has; clear HC
    refine n_nil (then_normal (wp_ret (block_ret (then_ret ?_))))
    obtain rfl := Option.some.inj hm
    replace hS := hS.tk0
    refine ret1 H (.inr rfl) rfl rfl ?_
    exact ⟨rfl, hS.x⟩
  · replace hm := condF hm hc27
    refine wp_seq (wp_region_lit (n_q H (q_eqlD rfl rfl) rfl (W_q (q_assign rfl) rfl ?_))); clear H a; intro a H
    refine n_nil (then_normal (c_cond H rfl (fun hc28 => ?_) (fun hc28 => ?_)))
    · replace hm := condT hm hc28
      refine wp_seq (wp_region_lit (n_c H (fun HC => ?_))); clear H
      refine nc_q HC (q_fieldAddr0 rfl fo158_5) rfl (by kernel_rfl) (V_q (q_load rfl ((hS.blk 0 rfl).ld (v := Value.int .i64 a1.Obj) ag3 (by simp))) rfl (by kernel_rfl) (V_q (q_geq rfl rfl) rfl (by kernel_rfl) (V_q (q_move rfl) rfl (by kernel_rfl) (V_g (q_fieldAddr0 rfl fo158_5) (by kernel_rfl) (by kernel_rfl) (by kernel_rfl) (V_g (q_load rfl ((hS.blk 0 rfl).ld (v := Value.int .i64 a1.Obj) ag3 (by simp))) (by kernel_rfl) (by kernel_rfl) (by kernel_rfl) (V_g (q_fieldAddr0 rfl fo27_6) (by kernel_rfl) (by kernel_rfl) (by kernel_rfl) (V_g (q_load rfl ((hS.blk 1 rfl).ld ag25 rfl)) (by kernel_rfl) (by kernel_rfl) (by kernel_rfl) ?_))))))); clear HC a; intro a HC
      obtain ⟨A29, c29, hv29, hl29, hm29⟩ := SlR.formV (hrp0_3.ext (Flat.mono _) hS.x)
      refine nc_g HC (q_lenV Tryz.underlying25 rfl hv29) (by kernel_rfl) (by kernel_rfl) (by kernel_rfl) (V_g (q_lss rfl rfl) (by kernel_rfl) (by kernel_rfl) (by kernel_rfl) (V_and (j := 3) rfl rfl rfl (by kernel_rfl) (by kernel_rfl) (V_q (q_assign rfl) rfl (by kernel_rfl) ?_))); clear HC a; intro a HC
      have H := HC.has; clear HC
      refine n_nil (then_normal (wp_ret (block_ret (then_ret ?_))))
      obtain rfl := Option.some.inj hm
      replace hS := hS.tk0
      refine ret1 H (.inr rfl) rfl rfl ?_
      exact ⟨rfl, hS.x⟩
    · replace hm := condF hm hc28
      refine wp_seq (wp_region_lit (n_q H (q_eqlD rfl rfl) rfl (W_q (q_assign rfl) rfl ?_))); clear H a; intro a H
      refine n_nil (then_normal (c_cond H rfl (fun hc30 => ?_) (fun hc30 => ?_)))
      · replace hm := condT hm hc30
        refine wp_seq (wp_region_lit (n_q H (q_load rfl ((hS.blk 1 rfl).ldAll ag27 sz27)) rfl (W_q (q_fieldAddr0 rfl fo158_5) rfl (W_q (q_load rfl ((hS.blk 0 rfl).ld (v := Value.int .i64 a1.Obj) ag3 (by simp))) rfl ?_)))); clear H a; intro a H
        replace hm := bindS hm; obtain ⟨r31, hr31, hm⟩ := hm
        refine n_call H rfl en206 (g_r11_queuing_w (A := A) (⟨_, _, _, _, rfl, (hrp0_0.ext (Flat.mono _) hS.x), (hrp0_1.ext (Flat.mono _) hS.x), (hrp0_2.ext (Flat.mono _) hS.x), (hrp0_3.ext (Flat.mono _) hS.x)⟩ : RGPlan _ [.int .i64 a0.Id, .bool a0.Mobile, vp0_0, vp0_1, vp0_2, .int .i64 a0.Events, vp0_3] a0) hr31) rfl ?_
        clear H; intro x34 w32 hv; clear a; intro a H; obtain ⟨rfl, hE33⟩ := hv
        replace hS := hS.ext hE33
        refine n_q H (q_assign rfl) rfl ?_; clear H a; intro a H
        refine n_nil (then_normal (wp_ret (block_ret (then_ret ?_))))
        obtain rfl := Option.some.inj hm
        replace hS := hS.tk0
        refine ret1 H (.inr rfl) rfl rfl ?_
        exact ⟨rfl, hS.x⟩
      · replace hm := condF hm hc30
        refine wp_skip (block_normal (then_normal (wp_seq (wp_region_lit (n_q H (q_fieldAddr0 rfl fo158_5) rfl (W_q (q_load rfl ((hS.blk 0 rfl).ld (v := Value.int .i64 a1.Obj) ag3 (by simp))) rfl (W_q (q_eqlD rfl rfl) rfl (W_q (q_assign rfl) rfl ?_)))))))); clear H a; intro a H
        refine n_nil (then_normal (wp_ret ?_))
        obtain rfl := Option.some.inj hm
        replace hS := hS.tk0
        refine ret1 H (.inr rfl) rfl rfl ?_
        exact ⟨rfl, hS.x⟩
theorem g_r11_rule6_w {w : World} {A : Nat → Addr} {cs0 : List Value} {a0 : GPlan} {cs1 : List Value} {a1 : GState} (h0 : RGPlan w cs0 a0) (h1 : RGState w cs1 a1) {r : Bool} (hm : g_r11_rule6 a0 a1 = some r) :
    Calls Tryz.prog 102 [.agg cs0.toArray, .agg cs1.toArray].toArray w (Ret fun u w' => u = .bool r ∧ Ext w w') := by
  obtain ⟨vp0_0, vp0_1, vp0_2, vp0_3, rfl, hrp0_0, hrp0_1, hrp0_2, hrp0_3⟩ := h0
  obtain ⟨vp1_0, vp1_1, vp1_2, vp1_3, vp1_4, vp1_5, vp1_6, rfl, hrp1_0, hrp1_1, hrp1_2, hrp1_3, hrp1_4, hrp1_5, hrp1_6⟩ := h1
  have hS := St.begin NB w
  unfold g_r11_rule6 at hm
  refine enter Tryz.func102 rfl rfl rfl ?_; intro a H; dsimp only [enumL, Nat.zero_add, Nat.reduceAdd] at H
  refine wp_seq (wp_region_lit (n_box H rfl (cs := [.int .i64 a0.Id, .bool a0.Mobile, vp0_0, vp0_1, vp0_2, .int .i64 a0.Events, vp0_3]) rfl rfl ?_))
  clear H; intro b21 w22 hN hE23 hs; clear a; intro a H
  replace hS := hS.newBlk hN hE23 hs; clear hN hs
  refine n_box H rfl (cs := [.int .i64 a1.Id, .int .i64 a1.Frame, .int .i64 a1.Epoch, vp1_0, vp1_1, vp1_2, vp1_3, vp1_4, vp1_5, vp1_6]) rfl rfl ?_
  clear H; intro b24 w25 hN hE26 hs; clear a; intro a H
  replace hS := hS.newBlk hN hE26 hs; clear hN hs
  refine n_q H (q_assign rfl) rfl ?_; clear H a; intro a H
  refine n_nil (then_normal (wp_seq (wp_seq (wp_region_lit (n_q H (q_assign rfl) rfl ?_))))); clear H a; intro a H
  refine n_nil (then_normal (wp_block ?_))
  replace hS := hS.pk1
  replace hm := bindS hm; obtain ⟨q27, hm, hm27⟩ := hm; replace hm := iter_some hm; obtain ⟨n27, hm⟩ := hm
  refine c_loop (σ := Nat × Nat) (fun (m, i28) => [(2, .pointer (some ⟨b21, 0, none⟩)), (3, .pointer (some ⟨b24, 0, none⟩)), (5, .int .i64 ((i28 : Nat) : Int))]) (fun (m, i28) wl => iterN (g_r11_rule6_L1 a0 a1) m i28 = some q27 ∧ St NB w wl [blkR b21 [.int .i64 a0.Id, .bool a0.Mobile, vp0_0, vp0_1, vp0_2, .int .i64 a0.Events, vp0_3] 27, blkR b24 [.int .i64 a1.Id, .int .i64 a1.Frame, .int .i64 a1.Epoch, vp1_0, vp1_1, vp1_2, vp1_3, vp1_4, vp1_5, vp1_6] 34]) (fun (m, i28) => m) (n27, 0) H ⟨rfl, rfl, rfl, trivial⟩ ⟨hm, hS⟩ ?_
  clear H hS hm a; intro xx a w29 H hR; obtain ⟨m, i28⟩ := xx; simp only [ent, List.map_cons, List.map_nil] at H; (try dsimp only at hR); obtain ⟨hm, hS⟩ := hR
  replace hm := iterN_step hm; obtain ⟨m27, o27, rfl, hm, hn27⟩ := hm; try dsimp only [g_r11_rule6_L1] at hm
  refine wp_seq (wp_seq (wp_region_lit (n_q H (q_move rfl) rfl (W_q (q_fieldAddr0 rfl fo34_3) rfl (W_q (q_load rfl ((hS.blk 1 rfl).ld ag28 rfl)) rfl ?_))))); clear H a; intro a H
  obtain ⟨A30, c30, hv30, hl30, hm30⟩ := SlR.formV (hrp1_0.ext (Flat.mono _) hS.x)
  refine n_q H (q_lenV Tryz.underlying28 rfl hv30) rfl (W_q (q_lssN (i := i28) (j := a1.Procs.length) rfl rfl) rfl ?_); clear H a; intro a H
  refine n_nil (then_normal (c_cond H rfl (fun hc31 => ?_) (fun hc31 => ?_)))
  · replace hm := condT hm hc31
    have hlt32 : i28 < a1.Procs.length := of_decide_eq_true hc31
    refine wp_skip (then_normal (wp_seq (wp_block (wp_seq (c_quiet (by kernel_rfl) (by kernel_rfl) ?_)))))
    refine qq_q H (q_load rfl ((hS.blk 0 rfl).ldAll ag27 sz27)) rfl ?_; clear H a; intro a H
    refine qq_q H (q_fieldAddr0 rfl fo34_3) rfl ?_; clear H a; intro a H
    refine qq_q H (q_load rfl ((hS.blk 1 rfl).ld ag28 rfl)) rfl ?_; clear H a; intro a H
    refine qq_q H (q_move rfl) rfl ?_; clear H a; intro a H
    replace hm := bindS hm; obtain ⟨x33, hx33, hm⟩ := hm
    obtain ⟨adx33, hAx33⟩ := SlR.adV (hrp1_0.ext (Flat.mono _) hS.x) hv30 hx33
    refine qq_q H (q_ixV (i := i28) Tryz.underlying28 sz158 rfl hv30 hAx33 rfl (natI hx33)) rfl ?_; clear H a; intro a H
    refine qq_q H (q_load rfl (SlR.ldAggV (hrp1_0.ext (Flat.mono _) hS.x) hv30 hAx33 ag158 sz158 hx33)) rfl ?_; clear H a; intro a H
    replace hm := bindS hm; obtain ⟨r34, hr34, hm⟩ := hm
    refine qq_call H rfl en178 (fun w' hw => g_r11_object_w (A := A) (⟨_, _, _, _, rfl, ((hrp0_0.ext (Flat.mono _) hS.x).ext (Flat.mono _) hw), ((hrp0_1.ext (Flat.mono _) hS.x).ext (Flat.mono _) hw), ((hrp0_2.ext (Flat.mono _) hS.x).ext (Flat.mono _) hw), ((hrp0_3.ext (Flat.mono _) hS.x).ext (Flat.mono _) hw)⟩ : RGPlan _ [.int .i64 a0.Id, .bool a0.Mobile, vp0_0, vp0_1, vp0_2, .int .i64 a0.Events, vp0_3] a0) hr34) rfl ?_; clear H a; intro a H
    refine qq_q H (q_not rfl) rfl ?_; clear H a; intro a H
    refine qq_nil ?_; intro w35 hE36
    replace hS := hS.ext hE36
    refine then_normal (c_cond H rfl (fun hc37 => ?_) (fun hc37 => ?_))
    · replace hm := condT hm hc37
      refine wp_seq (wp_region_lit (n_q H (q_assign rfl) rfl ?_)); clear H a; intro a H
      refine n_nil (then_normal (wp_ret (block_ret (then_ret (then_ret (block_ret (then_ret ?_)))))))
      obtain rfl := Option.some.inj hm; have hz : _ = q27 := hn27; subst hz; replace hm := hm27; try dsimp only at hm
      obtain rfl := Option.some.inj hm
      replace hS := hS.tk0
      refine ret1 H (.inr rfl) rfl rfl ?_
      exact ⟨rfl, hS.x⟩
    · replace hm := condF hm hc37
      refine wp_skip (block_normal (then_normal (wp_region_lit (n_q H (q_move rfl) rfl (W_q (q_incr (i := i28) (j := 1) rfl rfl (by omega)) rfl (W_q (q_assign rfl) rfl ?_)))))); clear H a; intro a H
      refine n_nil (then_normal ?_)
      obtain rfl := Option.some.inj hm
      exact round (m27, i28 + 1) H ⟨rfl, rfl, rfl, trivial⟩ ⟨hn27, hS⟩ (Nat.lt_succ_self _)
  · replace hm := condF hm hc31
    refine wp_exit (then_exit (then_exit (block_exit ?_)))
    obtain rfl := Option.some.inj hm; have hz : _ = q27 := hn27; subst hz; replace hm := hm27; try dsimp only at hm
    refine then_normal (wp_seq (wp_region_lit (n_q H (q_assign rfl) rfl ?_))); clear H a; intro a H
    refine n_nil (then_normal (wp_ret ?_))
    obtain rfl := Option.some.inj hm
    replace hS := hS.tk0
    refine ret1 H (.inr rfl) rfl rfl ?_
    exact ⟨rfl, hS.x⟩
theorem g_r11_rule7_w {w : World} {A : Nat → Addr} {cs0 : List Value} {a0 : GState} (h0 : RGState w cs0 a0) {r : Bool} (hm : g_r11_rule7 a0 = some r) :
    Calls Tryz.prog 103 [.agg cs0.toArray].toArray w (Ret fun u w' => u = .bool r ∧ Ext w w') := by
  obtain ⟨vp0_0, vp0_1, vp0_2, vp0_3, vp0_4, vp0_5, vp0_6, rfl, hrp0_0, hrp0_1, hrp0_2, hrp0_3, hrp0_4, hrp0_5, hrp0_6⟩ := h0
  have hS := St.begin NB w
  unfold g_r11_rule7 at hm
  refine enter Tryz.func103 rfl rfl rfl ?_; intro a H; dsimp only [enumL, Nat.zero_add, Nat.reduceAdd] at H
  refine wp_seq (wp_region_lit (n_box H rfl (cs := [.int .i64 a0.Id, .int .i64 a0.Frame, .int .i64 a0.Epoch, vp0_0, vp0_1, vp0_2, vp0_3, vp0_4, vp0_5, vp0_6]) rfl rfl ?_))
  clear H; intro b21 w22 hN hE23 hs; clear a; intro a H
  replace hS := hS.newBlk hN hE23 hs; clear hN hs
  refine n_q H (q_assign rfl) rfl ?_; clear H a; intro a H
  refine n_nil (then_normal (wp_seq (wp_seq (wp_region_lit (n_q H (q_assign rfl) rfl ?_))))); clear H a; intro a H
  refine n_nil (then_normal (wp_block ?_))
  replace hm := bindS hm; obtain ⟨q24, hm, hm24⟩ := hm; replace hm := iter_some hm; obtain ⟨n24, hm⟩ := hm
  refine c_loop (σ := Nat × Nat) (fun (m, i25) => [(1, .pointer (some ⟨b21, 0, none⟩)), (3, .int .i64 ((i25 : Nat) : Int))]) (fun (m, i25) wl => iterN (g_r11_rule7_L24 a0) m i25 = some q24 ∧ St NB w wl [blkR b21 [.int .i64 a0.Id, .int .i64 a0.Frame, .int .i64 a0.Epoch, vp0_0, vp0_1, vp0_2, vp0_3, vp0_4, vp0_5, vp0_6] 34]) (fun (m, i25) => m) (n24, 0) H ⟨rfl, rfl, trivial⟩ ⟨hm, hS⟩ ?_
  clear H hS hm a; intro xx a w26 H hR; obtain ⟨m, i25⟩ := xx; simp only [ent, List.map_cons, List.map_nil] at H; (try dsimp only at hR); obtain ⟨hm, hS⟩ := hR
  replace hm := iterN_step hm; obtain ⟨m24, o24, rfl, hm, hn24⟩ := hm; try dsimp only [g_r11_rule7_L24] at hm
  refine wp_seq (wp_seq (wp_region_lit (n_q H (q_move rfl) rfl (W_q (q_fieldAddr0 rfl fo34_4) rfl (W_q (q_load rfl ((hS.blk 0 rfl).ld ag25 rfl)) rfl ?_))))); clear H a; intro a H
  obtain ⟨A27, c27, hv27, hl27, hm27⟩ := SlR.formV (hrp0_1.ext (Flat.mono _) hS.x)
  refine n_q H (q_lenV Tryz.underlying25 rfl hv27) rfl (W_q (q_lssN (i := i25) (j := a0.Ready.length) rfl rfl) rfl ?_); clear H a; intro a H
  refine n_nil (then_normal (c_cond H rfl (fun hc28 => ?_) (fun hc28 => ?_)))
  · replace hm := condT hm hc28
    have hlt29 : i25 < a0.Ready.length := of_decide_eq_true hc28
    refine wp_skip (then_normal (wp_seq (wp_block (wp_seq (wp_region_lit (n_q H (q_fieldAddr0 rfl fo34_4) rfl (W_q (q_load rfl ((hS.blk 0 rfl).ld ag25 rfl)) rfl (W_q (q_move rfl) rfl ?_)))))))); clear H a; intro a H
    replace hm := bindS hm; obtain ⟨x30, hx30, hm⟩ := hm
    obtain ⟨adx30, hAx30⟩ := SlR.adV (hrp0_1.ext (Flat.mono _) hS.x) hv27 hx30
    refine n_q H (q_ixV (i := i25) Tryz.underlying25 sz3 rfl hv27 hAx30 rfl (natI hx30)) rfl (W_q (q_load rfl (SlR.ldOneV (hrp0_1.ext (Flat.mono _) hS.x) hv27 hAx30 ag3 hx30 rfl)) rfl (W_q (q_assign rfl) rfl ?_)); clear H a; intro a H
    refine n_nil (then_normal (wp_seq ?_))
    replace hm := bindS hm; obtain ⟨j31, hm, hm31⟩ := hm
    refine c_join (σ := Bool) H (fun q532 => [(1, .pointer (some ⟨b21, 0, none⟩)), (3, .int .i64 ((i25 : Nat) : Int)), (4, .int .i64 x30), (37, .bool q532)]) (fun q532 wl => (g_r11_rule7_J18 a0 i25 x30) q532 = some o24 ∧ St NB w wl [blkR b21 [.int .i64 a0.Id, .int .i64 a0.Frame, .int .i64 a0.Epoch, vp0_0, vp0_1, vp0_2, vp0_3, vp0_4, vp0_5, vp0_6] 34]) ?_ ?_
    · skip
      refine wp_region_lit (n_q H (q_move rfl) rfl (W_q (q_lss rfl rfl) rfl (W_q (q_move rfl) rfl ?_))); clear H a; intro a H
      rcases Bool.eq_false_or_eq_true (decide (x30 < 0)) with hg533 | hg533
      · replace H := H.know 22 rfl hg533
        replace hm := condT hm hg533
        refine n_no H rfl rfl (by decide) rfl (W_no rfl rfl (by decide) rfl (W_no rfl rfl (by decide) rfl (W_no rfl rfl (by decide) rfl (W_no rfl rfl (by decide) rfl (W_q (q_pickT rfl rfl) rfl (W_q (q_move rfl) rfl (W_no rfl rfl (by decide) rfl (W_no rfl rfl (by decide) rfl (W_no rfl rfl (by decide) rfl (W_no rfl rfl (by decide) rfl (W_no rfl rfl (by decide) rfl ?_))))))))))); clear H a; intro a H
        refine n_no H rfl rfl (by decide) rfl (W_no rfl rfl (by decide) rfl (W_q (q_pickT rfl rfl) rfl ?_)); clear H a; intro a H
        refine n_nil (then_normal ?_)
        obtain rfl := Option.some.inj hm; replace hm := hm31; try dsimp only at hm
        exact join true H ⟨rfl, rfl, rfl, rfl, trivial⟩ ⟨hm, hS⟩
      · replace H := H.know 22 rfl hg533
        replace hm := condF hm hg533
        refine n_yes H rfl rfl (n_q H (q_move rfl) rfl (W_yes rfl rfl (W_q (q_fieldAddr0 rfl fo34_3) rfl (W_yes rfl rfl (W_q (q_load rfl ((hS.blk 0 rfl).ld ag28 rfl)) rfl (W_yes rfl rfl ?_)))))); clear H a; intro a H
        obtain ⟨A534, c534, hv534, hl534, hm534⟩ := SlR.formV (hrp0_0.ext (Flat.mono _) hS.x)
        refine n_q H (q_lenV Tryz.underlying28 rfl hv534) rfl (W_yes rfl rfl (W_q (q_geq rfl rfl) rfl (W_q (q_pickF rfl rfl) rfl (W_q (q_move rfl) rfl ?_)))); clear H a; intro a H
        rcases Bool.eq_false_or_eq_true (decide (((a0.Procs.length : Nat) : Int) ≤ x30)) with hg535 | hg535
        · replace H := H.know 29 rfl hg535
          replace hm := condT hm hg535
          refine n_no H rfl rfl (by decide) rfl (W_no rfl rfl (by decide) rfl (W_no rfl rfl (by decide) rfl (W_no rfl rfl (by decide) rfl (W_no rfl rfl (by decide) rfl (W_no rfl rfl (by decide) rfl (W_no rfl rfl (by decide) rfl (W_q (q_pickT rfl rfl) rfl ?_))))))); clear H a; intro a H
          refine n_nil (then_normal ?_)
          obtain rfl := Option.some.inj hm; replace hm := hm31; try dsimp only at hm
          exact join true H ⟨rfl, rfl, rfl, rfl, trivial⟩ ⟨hm, hS⟩
        · replace H := H.know 29 rfl hg535
          replace hm := condF hm hg535
          refine n_yes H rfl rfl (n_q H (q_fieldAddr0 rfl fo34_3) rfl (W_yes rfl rfl (W_q (q_load rfl ((hS.blk 0 rfl).ld ag28 rfl)) rfl (W_yes rfl rfl (W_q (q_move rfl) rfl (W_yes rfl rfl ?_)))))); clear H a; intro a H
          replace hm := bindS hm; obtain ⟨x536, hx536, hm⟩ := hm
          obtain ⟨h0x536, h1x536, hxx536⟩ := rdI_some hx536
          obtain ⟨adx536, hAx536⟩ := SlR.adV (hrp0_0.ext (Flat.mono _) hS.x) hv534 hxx536
          refine n_q H (q_ixVI Tryz.underlying28 sz158 rfl hv534 hAx536 rfl h0x536 h1x536) rfl (W_yes rfl rfl (W_q (q_fieldAddr rfl fo158_2) rfl (W_yes rfl rfl (W_q (q_load rfl (SlR.ldCellV (j := 17) (u := Value.int .i64 x536.State) (hrp0_0.ext (Flat.mono _) hS.x) hv534 hAx536 ag3 hxx536 (by simp [eGProc]))) rfl (W_yes rfl rfl (W_q (q_neqD rfl rfl) rfl (W_q (q_pickF rfl rfl) rfl ?_))))))); clear H a; intro a H
          refine n_nil (then_normal ?_)
          obtain rfl := Option.some.inj hm; replace hm := hm31; try dsimp only at hm
          exact join (!decide (x536.State = 1)) H ⟨rfl, rfl, rfl, rfl, trivial⟩ ⟨hm, hS⟩
    · clear H hS hm a; intro q532 a w537 H hR
      simp only [ent, List.map_cons, List.map_nil] at H; (try dsimp only at hR); obtain ⟨hm, hS⟩ := hR; try dsimp only [g_r11_rule7_J18] at hm
      refine c_cond H rfl (fun hc538 => ?_) (fun hc538 => ?_)
      · replace hm := condT hm hc538
        refine wp_seq (wp_region_lit (n_q H (q_assign rfl) rfl ?_)); clear H a; intro a H
        refine n_nil (then_normal (wp_ret (then_ret (block_ret (then_ret (then_ret (block_ret (then_ret ?_))))))))
        obtain rfl := Option.some.inj hm; have hz : _ = q24 := hn24; subst hz; replace hm := hm24; try dsimp only at hm
        obtain rfl := Option.some.inj hm
        replace hS := hS.tk0
        refine ret1 H (.inr rfl) rfl rfl ?_
        exact ⟨rfl, hS.x⟩
      · replace hm := condF hm hc538
        refine wp_skip (then_normal (wp_seq (wp_region_lit (n_q H (q_assign rfl) rfl ?_)))); clear H a; intro a H
        refine n_nil (then_normal (wp_block ?_))
        replace hm := bindS hm; obtain ⟨q539, hm, hm539⟩ := hm; replace hm := iter_some hm; obtain ⟨n539, hm⟩ := hm
        refine c_loop (σ := Nat × Int) (fun (m, z541) => [(1, .pointer (some ⟨b21, 0, none⟩)), (3, .int .i64 ((i25 : Nat) : Int)), (4, .int .i64 x30), (5, .int .i64 z541)]) (fun (m, z541) wl => iterN (g_r11_rule7_L17 a0 i25 x30) m z541 = some q539 ∧ St NB w wl [blkR b21 [.int .i64 a0.Id, .int .i64 a0.Frame, .int .i64 a0.Epoch, vp0_0, vp0_1, vp0_2, vp0_3, vp0_4, vp0_5, vp0_6] 34]) (fun (m, z541) => m) (n539, 0) H ⟨rfl, rfl, rfl, rfl, trivial⟩ ⟨hm, hS⟩ ?_
        clear H hS hm a; intro xx a w542 H hR; obtain ⟨m, z541⟩ := xx; simp only [ent, List.map_cons, List.map_nil] at H; (try dsimp only at hR); obtain ⟨hm, hS⟩ := hR
        replace hm := iterN_step hm; obtain ⟨m539, o539, rfl, hm, hn539⟩ := hm; try dsimp only [g_r11_rule7_L17] at hm
        refine wp_seq (wp_seq (wp_region_lit (n_q H (q_move rfl) rfl (W_q (q_move rfl) rfl (W_q (q_lss rfl rfl) rfl ?_))))); clear H a; intro a H
        refine n_nil (then_normal (c_cond H rfl (fun hc543 => ?_) (fun hc543 => ?_)))
        · replace hm := condT hm hc543
          refine wp_skip (then_normal (wp_seq (wp_block (wp_seq (wp_region_lit (n_q H (q_fieldAddr0 rfl fo34_4) rfl (W_q (q_load rfl ((hS.blk 0 rfl).ld ag25 rfl)) rfl (W_q (q_move rfl) rfl ?_)))))))); clear H a; intro a H
          replace hm := bindS hm; obtain ⟨x544, hx544, hm⟩ := hm
          obtain ⟨h0x544, h1x544, hxx544⟩ := rdI_some hx544
          obtain ⟨adx544, hAx544⟩ := SlR.adV (hrp0_1.ext (Flat.mono _) hS.x) hv27 hxx544
          refine n_q H (q_ixVI Tryz.underlying25 sz3 rfl hv27 hAx544 rfl h0x544 h1x544) rfl (W_q (q_load rfl (SlR.ldOneV (hrp0_1.ext (Flat.mono _) hS.x) hv27 hAx544 ag3 hxx544 rfl)) rfl (W_q (q_move rfl) rfl (W_q (q_eqlD rfl rfl) rfl ?_))); clear H a; intro a H
          refine n_nil (then_normal (c_cond H rfl (fun hc545 => ?_) (fun hc545 => ?_)))
          · replace hm := condT hm hc545
            refine wp_seq (wp_region_lit (n_q H (q_assign rfl) rfl ?_)); clear H a; intro a H
            refine n_nil (then_normal (wp_ret (block_ret (then_ret (then_ret (block_ret (block_ret (then_ret (then_ret (block_ret (then_ret ?_)))))))))))
            obtain rfl := Option.some.inj hm; have hz : _ = q539 := hn539; subst hz; replace hm := hm539; try dsimp only at hm
            obtain rfl := Option.some.inj hm; have hz : _ = q24 := hn24; subst hz; replace hm := hm24; try dsimp only at hm
            obtain rfl := Option.some.inj hm
            replace hS := hS.tk0
            refine ret1 H (.inr rfl) rfl rfl ?_
            exact ⟨rfl, hS.x⟩
          · replace hm := condF hm hc545
            refine wp_skip (block_normal (then_normal (wp_region_lit (n_q H (q_move rfl) rfl (W_q (q_addW rfl rfl) rfl (W_q (q_assign rfl) rfl ?_)))))); clear H a; intro a H
            refine n_nil (then_normal ?_)
            obtain rfl := Option.some.inj hm
            exact round (m539, (IntKind.i64.wrap (z541 + 1))) H ⟨rfl, rfl, rfl, rfl, trivial⟩ ⟨hn539, hS⟩ (Nat.lt_succ_self _)
        · replace hm := condF hm hc543
          refine wp_exit (then_exit (then_exit (block_exit ?_)))
          obtain rfl := Option.some.inj hm; have hz : _ = q539 := hn539; subst hz; replace hm := hm539; try dsimp only at hm
          refine block_normal (then_normal (wp_region_lit (n_q H (q_move rfl) rfl (W_q (q_incr (i := i25) (j := 1) rfl rfl (by omega)) rfl (W_q (q_assign rfl) rfl ?_))))); clear H a; intro a H
          refine n_nil (then_normal ?_)
          obtain rfl := Option.some.inj hm
          exact round (m24, i25 + 1) H ⟨rfl, rfl, trivial⟩ ⟨hn24, hS⟩ (Nat.lt_succ_self _)
  · replace hm := condF hm hc28
    refine wp_exit (then_exit (then_exit (block_exit ?_)))
    obtain rfl := Option.some.inj hm; have hz : _ = q24 := hn24; subst hz; replace hm := hm24; try dsimp only at hm
    refine then_normal (wp_seq (wp_region_lit (n_q H (q_assign rfl) rfl ?_))); clear H a; intro a H
    refine n_nil (then_normal (wp_seq (wp_seq (wp_region_lit (n_q H (q_assign rfl) rfl ?_))))); clear H a; intro a H
    refine n_nil (then_normal (wp_block ?_))
    replace hm := bindS hm; obtain ⟨q546, hm, hm546⟩ := hm; replace hm := iter_some hm; obtain ⟨n546, hm⟩ := hm
    refine c_loop (σ := Nat × Int × Nat) (fun (m, z549, i548) => [(1, .pointer (some ⟨b21, 0, none⟩)), (6, .int .i64 z549), (7, .int .i64 ((i548 : Nat) : Int))]) (fun (m, z549, i548) wl => iterN (g_r11_rule7_L23 a0) m (z549, i548) = some q546 ∧ St NB w wl [blkR b21 [.int .i64 a0.Id, .int .i64 a0.Frame, .int .i64 a0.Epoch, vp0_0, vp0_1, vp0_2, vp0_3, vp0_4, vp0_5, vp0_6] 34]) (fun (m, z549, i548) => m) (n546, 0, 0) H ⟨rfl, rfl, rfl, trivial⟩ ⟨hm, hS⟩ ?_
    clear H hS hm a; intro xx a w550 H hR; obtain ⟨m, z549, i548⟩ := xx; simp only [ent, List.map_cons, List.map_nil] at H; (try dsimp only at hR); obtain ⟨hm, hS⟩ := hR
    replace hm := iterN_step hm; obtain ⟨m546, o546, rfl, hm, hn546⟩ := hm; try dsimp only [g_r11_rule7_L23] at hm
    refine wp_seq (wp_seq (wp_region_lit (n_q H (q_move rfl) rfl (W_q (q_fieldAddr0 rfl fo34_3) rfl (W_q (q_load rfl ((hS.blk 0 rfl).ld ag28 rfl)) rfl ?_))))); clear H a; intro a H
    obtain ⟨A551, c551, hv551, hl551, hm551⟩ := SlR.formV (hrp0_0.ext (Flat.mono _) hS.x)
    refine n_q H (q_lenV Tryz.underlying28 rfl hv551) rfl (W_q (q_lssN (i := i548) (j := a0.Procs.length) rfl rfl) rfl ?_); clear H a; intro a H
    refine n_nil (then_normal (c_cond H rfl (fun hc552 => ?_) (fun hc552 => ?_)))
    · replace hm := condT hm hc552
      have hlt553 : i548 < a0.Procs.length := of_decide_eq_true hc552
      refine wp_skip (then_normal ?_)
      replace hm := bindS hm; obtain ⟨j554, hm, hm554⟩ := hm
      refine c_join (σ := Int) H (fun z1055 => [(1, .pointer (some ⟨b21, 0, none⟩)), (6, .int .i64 z1055), (7, .int .i64 ((i548 : Nat) : Int))]) (fun z1055 wl => (g_r11_rule7_J22 i548) z1055 = some o546 ∧ St NB w wl [blkR b21 [.int .i64 a0.Id, .int .i64 a0.Frame, .int .i64 a0.Epoch, vp0_0, vp0_1, vp0_2, vp0_3, vp0_4, vp0_5, vp0_6] 34]) ?_ ?_
      · skip
        refine wp_block (wp_seq (wp_region_lit (n_q H (q_fieldAddr0 rfl fo34_3) rfl (W_q (q_load rfl ((hS.blk 0 rfl).ld ag28 rfl)) rfl (W_q (q_move rfl) rfl ?_))))); clear H a; intro a H
        replace hm := bindS hm; obtain ⟨x1056, hx1056, hm⟩ := hm
        obtain ⟨adx1056, hAx1056⟩ := SlR.adV (hrp0_0.ext (Flat.mono _) hS.x) hv551 hx1056
        refine n_q H (q_ixV (i := i548) Tryz.underlying28 sz158 rfl hv551 hAx1056 rfl (natI hx1056)) rfl (W_q (q_fieldAddr rfl fo158_2) rfl (W_q (q_load rfl (SlR.ldCellV (j := 17) (u := Value.int .i64 x1056.State) (hrp0_0.ext (Flat.mono _) hS.x) hv551 hAx1056 ag3 hx1056 (by simp [eGProc]))) rfl (W_q (q_eqlD rfl rfl) rfl ?_))); clear H a; intro a H
        refine n_nil (then_normal (c_cond H rfl (fun hc1057 => ?_) (fun hc1057 => ?_)))
        · replace hm := condT hm hc1057
          refine wp_region_lit (n_q H (q_move rfl) rfl (W_q (q_addW rfl rfl) rfl (W_q (q_assign rfl) rfl ?_))); clear H a; intro a H
          refine n_nil (block_normal (then_normal ?_))
          obtain rfl := Option.some.inj hm; replace hm := hm554; try dsimp only at hm
          exact join (IntKind.i64.wrap (z549 + 1)) H ⟨rfl, rfl, rfl, trivial⟩ ⟨hm, hS⟩
        · replace hm := condF hm hc1057
          refine wp_skip (block_normal (then_normal ?_))
          obtain rfl := Option.some.inj hm; replace hm := hm554; try dsimp only at hm
          exact join z549 H ⟨rfl, rfl, rfl, trivial⟩ ⟨hm, hS⟩
      · clear H hS hm a; intro z1055 a w1058 H hR
        simp only [ent, List.map_cons, List.map_nil] at H; (try dsimp only at hR); obtain ⟨hm, hS⟩ := hR; try dsimp only [g_r11_rule7_J22] at hm
        refine wp_region_lit (n_q H (q_move rfl) rfl (W_q (q_incr (i := i548) (j := 1) rfl rfl (by omega)) rfl (W_q (q_assign rfl) rfl ?_))); clear H a; intro a H
        refine n_nil (then_normal ?_)
        obtain rfl := Option.some.inj hm
        exact round (m546, z1055, i548 + 1) H ⟨rfl, rfl, rfl, trivial⟩ ⟨hn546, hS⟩ (Nat.lt_succ_self _)
    · replace hm := condF hm hc552
      refine wp_exit (then_exit (then_exit (block_exit ?_)))
      obtain rfl := Option.some.inj hm; have hz : _ = q546 := hn546; subst hz; replace hm := hm546; try dsimp only at hm
      refine then_normal (wp_seq (wp_region_lit (n_q H (q_move rfl) rfl (W_q (q_fieldAddr0 rfl fo34_4) rfl (W_q (q_load rfl ((hS.blk 0 rfl).ld ag25 rfl)) rfl (W_q (q_lenV Tryz.underlying25 rfl hv27) rfl (W_q (q_eqlD rfl rfl) rfl (W_q (q_assign rfl) rfl ?_)))))))); clear H a; intro a H
      refine n_nil (then_normal (wp_ret ?_))
      obtain rfl := Option.some.inj hm
      replace hS := hS.tk0
      refine ret1 H (.inr rfl) rfl rfl ?_
      exact ⟨rfl, hS.x⟩
theorem g_r11_rule8_w {w : World} {A : Nat → Addr} {cs0 : List Value} {a0 : GState} (h0 : RGState w cs0 a0) {r : Bool} (hm : g_r11_rule8 a0 = some r) :
    Calls Tryz.prog 104 [.agg cs0.toArray].toArray w (Ret fun u w' => u = .bool r ∧ Ext w w') := by
  obtain ⟨vp0_0, vp0_1, vp0_2, vp0_3, vp0_4, vp0_5, vp0_6, rfl, hrp0_0, hrp0_1, hrp0_2, hrp0_3, hrp0_4, hrp0_5, hrp0_6⟩ := h0
  have hS := St.begin NB w
  unfold g_r11_rule8 at hm
  refine enter Tryz.func104 rfl rfl rfl ?_; intro a H; dsimp only [enumL, Nat.zero_add, Nat.reduceAdd] at H
  refine wp_seq (wp_region_lit (n_box H rfl (cs := [.int .i64 a0.Id, .int .i64 a0.Frame, .int .i64 a0.Epoch, vp0_0, vp0_1, vp0_2, vp0_3, vp0_4, vp0_5, vp0_6]) rfl rfl ?_))
  clear H; intro b21 w22 hN hE23 hs; clear a; intro a H
  replace hS := hS.newBlk hN hE23 hs; clear hN hs
  refine n_q H (q_assign rfl) rfl ?_; clear H a; intro a H
  refine n_nil (then_normal (wp_seq (wp_seq (wp_region_lit (n_q H (q_assign rfl) rfl ?_))))); clear H a; intro a H
  refine n_nil (then_normal (wp_block ?_))
  replace hm := bindS hm; obtain ⟨q24, hm, hm24⟩ := hm; replace hm := iter_some hm; obtain ⟨n24, hm⟩ := hm
  refine c_loop (σ := Nat × Nat) (fun (m, i25) => [(1, .pointer (some ⟨b21, 0, none⟩)), (3, .int .i64 ((i25 : Nat) : Int))]) (fun (m, i25) wl => iterN (g_r11_rule8_L11 a0) m i25 = some q24 ∧ St NB w wl [blkR b21 [.int .i64 a0.Id, .int .i64 a0.Frame, .int .i64 a0.Epoch, vp0_0, vp0_1, vp0_2, vp0_3, vp0_4, vp0_5, vp0_6] 34]) (fun (m, i25) => m) (n24, 0) H ⟨rfl, rfl, trivial⟩ ⟨hm, hS⟩ ?_
  clear H hS hm a; intro xx a w26 H hR; obtain ⟨m, i25⟩ := xx; simp only [ent, List.map_cons, List.map_nil] at H; (try dsimp only at hR); obtain ⟨hm, hS⟩ := hR
  replace hm := iterN_step hm; obtain ⟨m24, o24, rfl, hm, hn24⟩ := hm; try dsimp only [g_r11_rule8_L11] at hm
  refine wp_seq (wp_seq (wp_region_lit (n_q H (q_move rfl) rfl (W_q (q_fieldAddr0 rfl fo34_5) rfl (W_q (q_load rfl ((hS.blk 0 rfl).ld ag29 rfl)) rfl ?_))))); clear H a; intro a H
  obtain ⟨A27, c27, hv27, hl27, hm27⟩ := SlR.formV (hrp0_2.ext (Flat.mono _) hS.x)
  refine n_q H (q_lenV Tryz.underlying29 rfl hv27) rfl (W_q (q_lssN (i := i25) (j := a0.Timers.length) rfl rfl) rfl ?_); clear H a; intro a H
  refine n_nil (then_normal (c_cond H rfl (fun hc28 => ?_) (fun hc28 => ?_)))
  · replace hm := condT hm hc28
    have hlt29 : i25 < a0.Timers.length := of_decide_eq_true hc28
    refine wp_skip (then_normal ?_)
    replace hm := bindS hm; obtain ⟨j30, hm, hm30⟩ := hm
    refine c_join (σ := Unit) H (fun u_ => [(1, .pointer (some ⟨b21, 0, none⟩)), (3, .int .i64 ((i25 : Nat) : Int))]) (fun u_ wl => (g_r11_rule8_J10 i25) () = some o24 ∧ St NB w wl [blkR b21 [.int .i64 a0.Id, .int .i64 a0.Frame, .int .i64 a0.Epoch, vp0_0, vp0_1, vp0_2, vp0_3, vp0_4, vp0_5, vp0_6] 34]) ?_ ?_
    · skip
      refine wp_block (wp_seq (wp_region_lit (n_q H (q_fieldAddr0 rfl fo34_5) rfl (W_q (q_load rfl ((hS.blk 0 rfl).ld ag29 rfl)) rfl (W_q (q_move rfl) rfl ?_))))); clear H a; intro a H
      replace hm := bindS hm; obtain ⟨x531, hx531, hm⟩ := hm
      obtain ⟨adx531, hAx531⟩ := SlR.adV (hrp0_2.ext (Flat.mono _) hS.x) hv27 hx531
      refine n_q H (q_ixV (i := i25) Tryz.underlying29 sz160 rfl hv27 hAx531 rfl (natI hx531)) rfl (W_q (q_load rfl (SlR.ldAggV (hrp0_2.ext (Flat.mono _) hS.x) hv27 hAx531 ag160 sz160 hx531)) rfl ?_); clear H a; intro a H
      refine n_alloc H ze160 rfl ?_
      clear H; intro b532 w533 hN hE534 hs; clear a; intro a H
      replace hS := hS.newBlk hN hE534 hs; clear hN hs
      refine n_storeAll H rfl rfl (vs := [.int .i64 x531.Proc, .int .i64 x531.Due]) rfl sz160 (hS.blk 0 rfl) rfl (by simp) ?_
      clear H; intro w535 hN hC536 hz; clear a; intro a H; replace hS := hS.setBlk hN hC536; clear hN hz
      refine n_nil (then_normal (wp_seq (wp_seq (wp_region_lit (n_c H (fun HC => ?_)))))); clear H
      refine nc_q HC (q_fieldAddr0 rfl fo160_0) rfl (by kernel_rfl) (V_q (q_load rfl ((hS.blk 0 rfl).ld ag3 rfl)) rfl (by kernel_rfl) (V_q (q_lss rfl rfl) rfl (by kernel_rfl) (V_q (q_move rfl) rfl (by kernel_rfl) (V_g (q_fieldAddr0 rfl fo160_0) (by kernel_rfl) (by kernel_rfl) (by kernel_rfl) (V_g (q_load rfl ((hS.blk 0 rfl).ld ag3 rfl)) (by kernel_rfl) (by kernel_rfl) (by kernel_rfl) (V_g (q_fieldAddr0 rfl fo34_3) (by kernel_rfl) (by kernel_rfl) (by kernel_rfl) (V_g (q_load rfl ((hS.blk 1 rfl).ld ag28 rfl)) (by kernel_rfl) (by kernel_rfl) (by kernel_rfl) ?_))))))); clear HC a; intro a HC
      obtain ⟨A537, c537, hv537, hl537, hm537⟩ := SlR.formV (hrp0_0.ext (Flat.mono _) hS.x)
      refine nc_g HC (q_lenV Tryz.underlying28 rfl hv537) (by kernel_rfl) (by kernel_rfl) (by kernel_rfl) (V_g (q_geq rfl rfl) (by kernel_rfl) (by kernel_rfl) (by kernel_rfl) (V_or (j := 3) rfl rfl rfl (by kernel_rfl) (by kernel_rfl) (V_q (q_move rfl) rfl (by kernel_rfl) (V_g (q_fieldAddr0 rfl fo160_1) (by kernel_rfl) (by kernel_rfl) (by kernel_rfl) (V_g (q_load rfl ((hS.blk 0 rfl).ld ag3 rfl)) (by kernel_rfl) (by kernel_rfl) (by kernel_rfl) (V_g (q_lss rfl rfl) (by kernel_rfl) (by kernel_rfl) (by kernel_rfl) (V_or (j := 11) rfl rfl rfl (by kernel_rfl) (by kernel_rfl) (V_q (q_move rfl) rfl (by kernel_rfl) (V_g (q_fieldAddr0 rfl fo160_1) (by kernel_rfl) (by kernel_rfl) (by kernel_rfl) (V_g (q_load rfl ((hS.blk 0 rfl).ld ag3 rfl)) (by kernel_rfl) (by kernel_rfl) (by kernel_rfl) (V_g (q_gtr rfl rfl) (by kernel_rfl) (by kernel_rfl) (by kernel_rfl) ?_))))))))))); clear HC a; intro a HC
      refine nc_or (j := 16) HC rfl rfl rfl (by kernel_rfl) (by kernel_rfl) ?_; clear HC a; intro a HC
      have H := HC.has; clear HC
      refine n_nil (then_normal (c_cond H rfl (fun hc538 => ?_) (fun hc538 => ?_)))
      · replace hm := condT hm hc538
        refine wp_seq (wp_region_lit (n_q H (q_assign rfl) rfl ?_)); clear H a; intro a H
        refine n_nil (then_normal (wp_ret (then_ret (block_ret (then_ret (then_ret (block_ret (then_ret ?_))))))))
        obtain rfl := Option.some.inj hm; replace hm := hm30; try dsimp only at hm
        obtain rfl := Option.some.inj hm; have hz : _ = q24 := hn24; subst hz; replace hm := hm24; try dsimp only at hm
        obtain rfl := Option.some.inj hm
        replace hS := hS.tk0
        refine ret1 H (.inr rfl) rfl rfl ?_
        exact ⟨rfl, hS.x⟩
      · replace hm := condF hm hc538
        refine wp_skip (then_normal (wp_seq (wp_seq (wp_region_lit (n_q H (q_assign rfl) rfl ?_))))); clear H a; intro a H
        refine n_nil (then_normal (wp_block ?_))
        replace hS := hS.pk1
        replace hm := bindS hm; obtain ⟨q539, hm, hm539⟩ := hm; replace hm := iter_some hm; obtain ⟨n539, hm⟩ := hm
        refine c_loop (σ := Nat × Int) (fun (m, z541) => [(1, .pointer (some ⟨b21, 0, none⟩)), (3, .int .i64 ((i25 : Nat) : Int)), (4, .pointer (some ⟨b532, 0, none⟩)), (5, .int .i64 z541)]) (fun (m, z541) wl => iterN (g_r11_rule8_L9 a0 i25 x531) m z541 = some q539 ∧ St NB w wl [blkR b21 [.int .i64 a0.Id, .int .i64 a0.Frame, .int .i64 a0.Epoch, vp0_0, vp0_1, vp0_2, vp0_3, vp0_4, vp0_5, vp0_6] 34, blkR b532 [.int .i64 x531.Proc, .int .i64 x531.Due] 160]) (fun (m, z541) => m) (n539, 0) H ⟨rfl, rfl, rfl, rfl, trivial⟩ ⟨hm, hS⟩ ?_
        clear H hS hm a; intro xx a w542 H hR; obtain ⟨m, z541⟩ := xx; simp only [ent, List.map_cons, List.map_nil] at H; (try dsimp only at hR); obtain ⟨hm, hS⟩ := hR
        replace hm := iterN_step hm; obtain ⟨m539, o539, rfl, hm, hn539⟩ := hm; try dsimp only [g_r11_rule8_L9] at hm
        refine wp_seq (wp_seq (wp_region_lit (n_q H (q_move rfl) rfl (W_q (q_move rfl) rfl (W_q (q_lss rfl rfl) rfl ?_))))); clear H a; intro a H
        refine n_nil (then_normal (c_cond H rfl (fun hc543 => ?_) (fun hc543 => ?_)))
        · replace hm := condT hm hc543
          refine wp_skip (then_normal (wp_seq (wp_block (wp_seq (c_quiet (by kernel_rfl) (by kernel_rfl) ?_)))))
          refine qq_q H (q_fieldAddr0 rfl fo34_5) rfl ?_; clear H a; intro a H
          refine qq_q H (q_load rfl ((hS.blk 0 rfl).ld ag29 rfl)) rfl ?_; clear H a; intro a H
          refine qq_q H (q_move rfl) rfl ?_; clear H a; intro a H
          replace hm := bindS hm; obtain ⟨x544, hx544, hm⟩ := hm
          obtain ⟨h0x544, h1x544, hxx544⟩ := rdI_some hx544
          obtain ⟨adx544, hAx544⟩ := SlR.adV (hrp0_2.ext (Flat.mono _) hS.x) hv27 hxx544
          refine qq_q H (q_ixVI Tryz.underlying29 sz160 rfl hv27 hAx544 rfl h0x544 h1x544) rfl ?_; clear H a; intro a H
          refine qq_q H (q_fieldAddr rfl fo160_0) rfl ?_; clear H a; intro a H
          refine qq_q H (q_load rfl (SlR.ldCellV (j := 0) (hrp0_2.ext (Flat.mono _) hS.x) hv27 hAx544 ag3 hxx544 rfl)) rfl ?_; clear H a; intro a H
          refine qq_q H (q_fieldAddr0 rfl fo160_0) rfl ?_; clear H a; intro a H
          refine qq_q H (q_load rfl ((hS.blk 1 rfl).ld ag3 rfl)) rfl ?_; clear H a; intro a H
          refine qq_q H (q_eqlD rfl rfl) rfl ?_; clear H a; intro a H
          refine qq_nil ?_; intro w545 hE546
          replace hS := hS.ext hE546
          refine then_normal (c_cond H rfl (fun hc547 => ?_) (fun hc547 => ?_))
          · replace hm := condT hm hc547
            refine wp_seq (wp_region_lit (n_q H (q_assign rfl) rfl ?_)); clear H a; intro a H
            refine n_nil (then_normal (wp_ret (block_ret (then_ret (then_ret (block_ret (then_ret (block_ret (then_ret (then_ret (block_ret (then_ret ?_))))))))))))
            obtain rfl := Option.some.inj hm; have hz : _ = q539 := hn539; subst hz; replace hm := hm539; try dsimp only at hm
            obtain rfl := Option.some.inj hm; replace hm := hm30; try dsimp only at hm
            obtain rfl := Option.some.inj hm; have hz : _ = q24 := hn24; subst hz; replace hm := hm24; try dsimp only at hm
            obtain rfl := Option.some.inj hm
            replace hS := hS.tk0
            refine ret1 H (.inr rfl) rfl rfl ?_
            exact ⟨rfl, hS.x⟩
          · replace hm := condF hm hc547
            refine wp_skip (block_normal (then_normal (wp_region_lit (n_q H (q_move rfl) rfl (W_q (q_addW rfl rfl) rfl (W_q (q_assign rfl) rfl ?_)))))); clear H a; intro a H
            refine n_nil (then_normal ?_)
            obtain rfl := Option.some.inj hm
            exact round (m539, (IntKind.i64.wrap (z541 + 1))) H ⟨rfl, rfl, rfl, rfl, trivial⟩ ⟨hn539, hS⟩ (Nat.lt_succ_self _)
        · replace hm := condF hm hc543
          refine wp_exit (then_exit (then_exit (block_exit ?_)))
          obtain rfl := Option.some.inj hm; have hz : _ = q539 := hn539; subst hz; replace hm := hm539; try dsimp only at hm
          refine then_normal (wp_seq (wp_region_lit (n_q H (q_move rfl) rfl (W_q (q_gtrN (i := i25) (j := 0) rfl rfl) rfl ?_)))); clear H a; intro a H
          refine n_nil (then_normal (c_cond H rfl (fun hc548 => ?_) (fun hc548 => ?_)))
          · replace hm := condT hm hc548
            refine wp_seq (wp_region_lit (n_q H (q_fieldAddr0 rfl fo34_5) rfl (W_q (q_load rfl ((hS.blk 0 rfl).ld ag29 rfl)) rfl (W_q (q_move rfl) rfl (W_q (q_subW rfl rfl) rfl ?_))))); clear H a; intro a H
            replace hm := bindS hm; obtain ⟨x549, hx549, hm⟩ := hm
            obtain ⟨h0x549, h1x549, hxx549⟩ := rdI_some hx549
            obtain ⟨adx549, hAx549⟩ := SlR.adV (hrp0_2.ext (Flat.mono _) hS.x) hv27 hxx549
            refine n_q H (q_ixVI Tryz.underlying29 sz160 rfl hv27 hAx549 rfl h0x549 h1x549) rfl (W_q (q_load rfl (SlR.ldAggV (hrp0_2.ext (Flat.mono _) hS.x) hv27 hAx549 ag160 sz160 hxx549)) rfl ?_); clear H a; intro a H
            refine n_alloc H ze160 rfl ?_
            clear H; intro b550 w551 hN hE552 hs; clear a; intro a H
            replace hS := hS.newBlk hN hE552 hs; clear hN hs
            refine n_storeAll H rfl rfl (vs := [.int .i64 x549.Proc, .int .i64 x549.Due]) rfl sz160 (hS.blk 0 rfl) rfl (by simp) ?_
            clear H; intro w553 hN hC554 hz; clear a; intro a H; replace hS := hS.setBlk hN hC554; clear hN hz
            refine n_nil (then_normal (wp_seq (wp_region_lit (n_c H (fun HC => ?_))))); clear H
            refine nc_q HC (q_fieldAddr0 rfl fo160_1) rfl (by kernel_rfl) (V_q (q_load rfl ((hS.blk 0 rfl).ld ag3 rfl)) rfl (by kernel_rfl) (V_q (q_fieldAddr0 rfl fo160_1) rfl (by kernel_rfl) (V_q (q_load rfl ((hS.blk 2 rfl).ld ag3 rfl)) rfl (by kernel_rfl) (V_q (q_gtr rfl rfl) rfl (by kernel_rfl) (V_q (q_move rfl) rfl (by kernel_rfl) (V_g (q_fieldAddr0 rfl fo160_1) (by kernel_rfl) (by kernel_rfl) (by kernel_rfl) (V_g (q_load rfl ((hS.blk 0 rfl).ld ag3 rfl)) (by kernel_rfl) (by kernel_rfl) (by kernel_rfl) (V_g (q_fieldAddr0 rfl fo160_1) (by kernel_rfl) (by kernel_rfl) (by kernel_rfl) (V_g (q_load rfl ((hS.blk 2 rfl).ld ag3 rfl)) (by kernel_rfl) (by kernel_rfl) (by kernel_rfl) (V_g (q_eqlD rfl rfl) (by kernel_rfl) (by kernel_rfl) (by kernel_rfl) (V_g (q_move rfl) (by kernel_rfl) (by kernel_rfl) (by kernel_rfl) ?_))))))))))); clear HC a; intro a HC
            refine nc_g HC (q_fieldAddr0 rfl fo160_0) (by kernel_rfl) (by kernel_rfl) (by kernel_rfl) (V_g (q_load rfl ((hS.blk 0 rfl).ld ag3 rfl)) (by kernel_rfl) (by kernel_rfl) (by kernel_rfl) (V_g (q_fieldAddr0 rfl fo160_0) (by kernel_rfl) (by kernel_rfl) (by kernel_rfl) (V_g (q_load rfl ((hS.blk 2 rfl).ld ag3 rfl)) (by kernel_rfl) (by kernel_rfl) (by kernel_rfl) (V_g (q_geq rfl rfl) (by kernel_rfl) (by kernel_rfl) (by kernel_rfl) ?_)))); clear HC a; intro a HC
            refine nc_andg (j := 11) HC rfl rfl rfl (by kernel_rfl) (by kernel_rfl) (by kernel_rfl) ?_; clear HC a; intro a HC
            refine nc_or (j := 5) HC rfl rfl rfl (by kernel_rfl) (by kernel_rfl) ?_; clear HC a; intro a HC
            have H := HC.has; clear HC
            refine n_nil (then_normal (c_cond H rfl (fun hc555 => ?_) (fun hc555 => ?_)))
            · replace hm := condT hm hc555
              refine wp_seq (wp_region_lit (n_q H (q_assign rfl) rfl ?_)); clear H a; intro a H
              refine n_nil (then_normal (wp_ret (block_ret (then_ret (then_ret (block_ret (then_ret ?_)))))))
              obtain rfl := Option.some.inj hm; replace hm := hm30; try dsimp only at hm
              obtain rfl := Option.some.inj hm; have hz : _ = q24 := hn24; subst hz; replace hm := hm24; try dsimp only at hm
              obtain rfl := Option.some.inj hm
              replace hS := hS.tk0
              refine ret1 H (.inr rfl) rfl rfl ?_
              exact ⟨rfl, hS.x⟩
            · replace hm := condF hm hc555
              refine wp_skip (block_normal (then_normal ?_))
              obtain rfl := Option.some.inj hm; replace hm := hm30; try dsimp only at hm
              replace hS := hS.pk1
              replace hS := hS.tk1
              exact join () H ⟨rfl, rfl, trivial⟩ ⟨hm, hS⟩
          · replace hm := condF hm hc548
            refine wp_skip (block_normal (then_normal ?_))
            obtain rfl := Option.some.inj hm; replace hm := hm30; try dsimp only at hm
            replace hS := hS.tk1
            exact join () H ⟨rfl, rfl, trivial⟩ ⟨hm, hS⟩
    · clear H hS hm a; intro u_ a w556 H hR
      simp only [ent, List.map_cons, List.map_nil] at H; (try dsimp only at hR); obtain ⟨hm, hS⟩ := hR; try dsimp only [g_r11_rule8_J10] at hm
      refine wp_region_lit (n_q H (q_move rfl) rfl (W_q (q_incr (i := i25) (j := 1) rfl rfl (by omega)) rfl (W_q (q_assign rfl) rfl ?_))); clear H a; intro a H
      refine n_nil (then_normal ?_)
      obtain rfl := Option.some.inj hm
      exact round (m24, i25 + 1) H ⟨rfl, rfl, trivial⟩ ⟨hn24, hS⟩ (Nat.lt_succ_self _)
  · replace hm := condF hm hc28
    refine wp_exit (then_exit (then_exit (block_exit ?_)))
    obtain rfl := Option.some.inj hm; have hz : _ = q24 := hn24; subst hz; replace hm := hm24; try dsimp only at hm
    refine then_normal (wp_seq (wp_region_lit (n_q H (q_assign rfl) rfl ?_))); clear H a; intro a H
    refine n_nil (then_normal (wp_ret ?_))
    obtain rfl := Option.some.inj hm
    replace hS := hS.tk0
    refine ret1 H (.inr rfl) rfl rfl ?_
    exact ⟨rfl, hS.x⟩
theorem g_r11_rule9_w {w : World} {A : Nat → Addr} {cs0 : List Value} {a0 : GState} (h0 : RGState w cs0 a0) {r : Bool} (hm : g_r11_rule9 a0 = some r) :
    Calls Tryz.prog 105 [.agg cs0.toArray].toArray w (Ret fun u w' => u = .bool r ∧ Ext w w') := by
  obtain ⟨vp0_0, vp0_1, vp0_2, vp0_3, vp0_4, vp0_5, vp0_6, rfl, hrp0_0, hrp0_1, hrp0_2, hrp0_3, hrp0_4, hrp0_5, hrp0_6⟩ := h0
  have hS := St.begin NB w
  unfold g_r11_rule9 at hm
  refine enter Tryz.func105 rfl rfl rfl ?_; intro a H; dsimp only [enumL, Nat.zero_add, Nat.reduceAdd] at H
  refine wp_seq (wp_region_lit (n_box H rfl (cs := [.int .i64 a0.Id, .int .i64 a0.Frame, .int .i64 a0.Epoch, vp0_0, vp0_1, vp0_2, vp0_3, vp0_4, vp0_5, vp0_6]) rfl rfl ?_))
  clear H; intro b21 w22 hN hE23 hs; clear a; intro a H
  replace hS := hS.newBlk hN hE23 hs; clear hN hs
  refine n_q H (q_assign rfl) rfl ?_; clear H a; intro a H
  refine n_nil (then_normal (wp_seq (wp_seq (wp_region_lit (n_q H (q_assign rfl) rfl ?_))))); clear H a; intro a H
  refine n_nil (then_normal (wp_block ?_))
  replace hm := bindS hm; obtain ⟨q24, hm, hm24⟩ := hm; replace hm := iter_some hm; obtain ⟨n24, hm⟩ := hm
  refine c_loop (σ := Nat × Nat) (fun (m, i25) => [(1, .pointer (some ⟨b21, 0, none⟩)), (3, .int .i64 ((i25 : Nat) : Int))]) (fun (m, i25) wl => iterN (g_r11_rule9_L47 a0) m i25 = some q24 ∧ St NB w wl [blkR b21 [.int .i64 a0.Id, .int .i64 a0.Frame, .int .i64 a0.Epoch, vp0_0, vp0_1, vp0_2, vp0_3, vp0_4, vp0_5, vp0_6] 34]) (fun (m, i25) => m) (n24, 0) H ⟨rfl, rfl, trivial⟩ ⟨hm, hS⟩ ?_
  clear H hS hm a; intro xx a w26 H hR; obtain ⟨m, i25⟩ := xx; simp only [ent, List.map_cons, List.map_nil] at H; (try dsimp only at hR); obtain ⟨hm, hS⟩ := hR
  replace hm := iterN_step hm; obtain ⟨m24, o24, rfl, hm, hn24⟩ := hm; try dsimp only [g_r11_rule9_L47] at hm
  refine wp_seq (wp_seq (wp_region_lit (n_q H (q_move rfl) rfl (W_q (q_fieldAddr0 rfl fo34_5) rfl (W_q (q_load rfl ((hS.blk 0 rfl).ld ag29 rfl)) rfl ?_))))); clear H a; intro a H
  obtain ⟨A27, c27, hv27, hl27, hm27⟩ := SlR.formV (hrp0_2.ext (Flat.mono _) hS.x)
  refine n_q H (q_lenV Tryz.underlying29 rfl hv27) rfl (W_q (q_lssN (i := i25) (j := a0.Timers.length) rfl rfl) rfl ?_); clear H a; intro a H
  refine n_nil (then_normal (c_cond H rfl (fun hc28 => ?_) (fun hc28 => ?_)))
  · replace hm := condT hm hc28
    have hlt29 : i25 < a0.Timers.length := of_decide_eq_true hc28
    refine wp_skip (then_normal (wp_seq (wp_block (wp_seq (wp_region_lit (n_q H (q_fieldAddr0 rfl fo34_5) rfl (W_q (q_load rfl ((hS.blk 0 rfl).ld ag29 rfl)) rfl (W_q (q_move rfl) rfl ?_)))))))); clear H a; intro a H
    replace hm := bindS hm; obtain ⟨x30, hx30, hm⟩ := hm
    obtain ⟨adx30, hAx30⟩ := SlR.adV (hrp0_2.ext (Flat.mono _) hS.x) hv27 hx30
    refine n_q H (q_ixV (i := i25) Tryz.underlying29 sz160 rfl hv27 hAx30 rfl (natI hx30)) rfl (W_q (q_fieldAddr rfl fo160_0) rfl (W_q (q_load rfl (SlR.ldCellV (j := 0) (hrp0_2.ext (Flat.mono _) hS.x) hv27 hAx30 ag3 hx30 rfl)) rfl (W_q (q_assign rfl) rfl ?_))); clear H a; intro a H
    refine n_nil (then_normal ?_)
    replace hm := bindS hm; obtain ⟨j31, hm, hm31⟩ := hm
    refine c_join (σ := Bool) H (fun q532 => [(1, .pointer (some ⟨b21, 0, none⟩)), (3, .int .i64 ((i25 : Nat) : Int)), (38, .bool q532)]) (fun q532 wl => (g_r11_rule9_J6 i25) q532 = some o24 ∧ St NB w wl [blkR b21 [.int .i64 a0.Id, .int .i64 a0.Frame, .int .i64 a0.Epoch, vp0_0, vp0_1, vp0_2, vp0_3, vp0_4, vp0_5, vp0_6] 34]) ?_ ?_
    · skip
      refine wp_region_lit (n_q H (q_move rfl) rfl (W_q (q_geq rfl rfl) rfl (W_q (q_move rfl) rfl ?_))); clear H a; intro a H
      rcases Bool.eq_false_or_eq_true (decide (0 ≤ x30.Proc)) with hg533 | hg533
      · replace H := H.know 23 rfl hg533
        replace hm := condT hm hg533
        refine n_yes H rfl rfl (n_q H (q_move rfl) rfl (W_yes rfl rfl (W_q (q_fieldAddr0 rfl fo34_3) rfl (W_yes rfl rfl (W_q (q_load rfl ((hS.blk 0 rfl).ld ag28 rfl)) rfl (W_yes rfl rfl ?_)))))); clear H a; intro a H
        obtain ⟨A534, c534, hv534, hl534, hm534⟩ := SlR.formV (hrp0_0.ext (Flat.mono _) hS.x)
        refine n_q H (q_lenV Tryz.underlying28 rfl hv534) rfl (W_yes rfl rfl (W_q (q_lss rfl rfl) rfl (W_q (q_pickT rfl rfl) rfl (W_q (q_move rfl) rfl ?_)))); clear H a; intro a H
        rcases Bool.eq_false_or_eq_true (decide (x30.Proc < ((a0.Procs.length : Nat) : Int))) with hg535 | hg535
        · replace H := H.know 30 rfl hg535
          replace hm := condT hm hg535
          refine n_yes H rfl rfl (n_q H (q_fieldAddr0 rfl fo34_3) rfl (W_yes rfl rfl (W_q (q_load rfl ((hS.blk 0 rfl).ld ag28 rfl)) rfl (W_yes rfl rfl (W_q (q_move rfl) rfl (W_yes rfl rfl ?_)))))); clear H a; intro a H
          replace hm := bindS hm; obtain ⟨x536, hx536, hm⟩ := hm
          obtain ⟨h0x536, h1x536, hxx536⟩ := rdI_some hx536
          obtain ⟨adx536, hAx536⟩ := SlR.adV (hrp0_0.ext (Flat.mono _) hS.x) hv534 hxx536
          refine n_q H (q_ixVI Tryz.underlying28 sz158 rfl hv534 hAx536 rfl h0x536 h1x536) rfl (W_yes rfl rfl (W_q (q_fieldAddr rfl fo158_2) rfl (W_yes rfl rfl (W_q (q_load rfl (SlR.ldCellV (j := 17) (u := Value.int .i64 x536.State) (hrp0_0.ext (Flat.mono _) hS.x) hv534 hAx536 ag3 hxx536 (by simp [eGProc]))) rfl (W_yes rfl rfl (W_q (q_neqD rfl rfl) rfl (W_q (q_pickT rfl rfl) rfl ?_))))))); clear H a; intro a H
          refine n_nil (then_normal ?_)
          obtain rfl := Option.some.inj hm; replace hm := hm31; try dsimp only at hm
          exact join (!decide (x536.State = 2)) H ⟨rfl, rfl, rfl, trivial⟩ ⟨hm, hS⟩
        · replace H := H.know 30 rfl hg535
          replace hm := condF hm hg535
          refine n_no H rfl rfl (by decide) rfl (W_no rfl rfl (by decide) rfl (W_no rfl rfl (by decide) rfl (W_no rfl rfl (by decide) rfl (W_no rfl rfl (by decide) rfl (W_no rfl rfl (by decide) rfl (W_no rfl rfl (by decide) rfl (W_q (q_pickF rfl rfl) rfl ?_))))))); clear H a; intro a H
          refine n_nil (then_normal ?_)
          obtain rfl := Option.some.inj hm; replace hm := hm31; try dsimp only at hm
          exact join false H ⟨rfl, rfl, rfl, trivial⟩ ⟨hm, hS⟩
      · replace H := H.know 23 rfl hg533
        replace hm := condF hm hg533
        refine n_no H rfl rfl (by decide) rfl (W_no rfl rfl (by decide) rfl (W_no rfl rfl (by decide) rfl (W_no rfl rfl (by decide) rfl (W_no rfl rfl (by decide) rfl (W_q (q_pickF rfl rfl) rfl (W_q (q_move rfl) rfl (W_no rfl rfl (by decide) rfl (W_no rfl rfl (by decide) rfl (W_no rfl rfl (by decide) rfl (W_no rfl rfl (by decide) rfl (W_no rfl rfl (by decide) rfl ?_))))))))))); clear H a; intro a H
        refine n_no H rfl rfl (by decide) rfl (W_no rfl rfl (by decide) rfl (W_q (q_pickF rfl rfl) rfl ?_)); clear H a; intro a H
        refine n_nil (then_normal ?_)
        obtain rfl := Option.some.inj hm; replace hm := hm31; try dsimp only at hm
        exact join false H ⟨rfl, rfl, rfl, trivial⟩ ⟨hm, hS⟩
    · clear H hS hm a; intro q532 a w537 H hR
      simp only [ent, List.map_cons, List.map_nil] at H; (try dsimp only at hR); obtain ⟨hm, hS⟩ := hR; try dsimp only [g_r11_rule9_J6] at hm
      refine c_cond H rfl (fun hc538 => ?_) (fun hc538 => ?_)
      · replace hm := condT hm hc538
        refine wp_seq (wp_region_lit (n_q H (q_assign rfl) rfl ?_)); clear H a; intro a H
        refine n_nil (then_normal (wp_ret (block_ret (then_ret (then_ret (block_ret (then_ret ?_)))))))
        obtain rfl := Option.some.inj hm; have hz : _ = q24 := hn24; subst hz; replace hm := hm24; try dsimp only at hm
        obtain rfl := Option.some.inj hm
        replace hS := hS.tk0
        refine ret1 H (.inr rfl) rfl rfl ?_
        exact ⟨rfl, hS.x⟩
      · replace hm := condF hm hc538
        refine wp_skip (block_normal (then_normal (wp_region_lit (n_q H (q_move rfl) rfl (W_q (q_incr (i := i25) (j := 1) rfl rfl (by omega)) rfl (W_q (q_assign rfl) rfl ?_)))))); clear H a; intro a H
        refine n_nil (then_normal ?_)
        obtain rfl := Option.some.inj hm
        exact round (m24, i25 + 1) H ⟨rfl, rfl, trivial⟩ ⟨hn24, hS⟩ (Nat.lt_succ_self _)
  · replace hm := condF hm hc28
    refine wp_exit (then_exit (then_exit (block_exit ?_)))
    obtain rfl := Option.some.inj hm; have hz : _ = q24 := hn24; subst hz; replace hm := hm24; try dsimp only at hm
    refine then_normal (wp_seq (wp_seq (wp_region_lit (n_q H (q_assign rfl) rfl ?_)))); clear H a; intro a H
    refine n_nil (then_normal (wp_block ?_))
    replace hm := bindS hm; obtain ⟨q539, hm, hm539⟩ := hm; replace hm := iter_some hm; obtain ⟨n539, hm⟩ := hm
    refine c_loop (σ := Nat × Nat) (fun (m, i540) => [(1, .pointer (some ⟨b21, 0, none⟩)), (5, .int .i64 ((i540 : Nat) : Int))]) (fun (m, i540) wl => iterN (g_r11_rule9_L46 a0) m i540 = some q539 ∧ St NB w wl [blkR b21 [.int .i64 a0.Id, .int .i64 a0.Frame, .int .i64 a0.Epoch, vp0_0, vp0_1, vp0_2, vp0_3, vp0_4, vp0_5, vp0_6] 34]) (fun (m, i540) => m) (n539, 0) H ⟨rfl, rfl, trivial⟩ ⟨hm, hS⟩ ?_
    clear H hS hm a; intro xx a w541 H hR; obtain ⟨m, i540⟩ := xx; simp only [ent, List.map_cons, List.map_nil] at H; (try dsimp only at hR); obtain ⟨hm, hS⟩ := hR
    replace hm := iterN_step hm; obtain ⟨m539, o539, rfl, hm, hn539⟩ := hm; try dsimp only [g_r11_rule9_L46] at hm
    refine wp_seq (wp_seq (wp_region_lit (n_q H (q_move rfl) rfl (W_q (q_fieldAddr0 rfl fo34_3) rfl (W_q (q_load rfl ((hS.blk 0 rfl).ld ag28 rfl)) rfl ?_))))); clear H a; intro a H
    obtain ⟨A542, c542, hv542, hl542, hm542⟩ := SlR.formV (hrp0_0.ext (Flat.mono _) hS.x)
    refine n_q H (q_lenV Tryz.underlying28 rfl hv542) rfl (W_q (q_lssN (i := i540) (j := a0.Procs.length) rfl rfl) rfl ?_); clear H a; intro a H
    refine n_nil (then_normal (c_cond H rfl (fun hc543 => ?_) (fun hc543 => ?_)))
    · replace hm := condT hm hc543
      have hlt544 : i540 < a0.Procs.length := of_decide_eq_true hc543
      refine wp_skip (then_normal ?_)
      replace hm := bindS hm; obtain ⟨j545, hm, hm545⟩ := hm
      refine c_join (σ := Unit) H (fun u_ => [(1, .pointer (some ⟨b21, 0, none⟩)), (5, .int .i64 ((i540 : Nat) : Int))]) (fun u_ wl => (g_r11_rule9_J45 i540) () = some o539 ∧ St NB w wl [blkR b21 [.int .i64 a0.Id, .int .i64 a0.Frame, .int .i64 a0.Epoch, vp0_0, vp0_1, vp0_2, vp0_3, vp0_4, vp0_5, vp0_6] 34]) ?_ ?_
      · skip
        refine wp_block (wp_seq (wp_seq (wp_region_lit (n_q H (q_fieldAddr0 rfl fo34_3) rfl (W_q (q_load rfl ((hS.blk 0 rfl).ld ag28 rfl)) rfl (W_q (q_move rfl) rfl ?_)))))); clear H a; intro a H
        replace hm := bindS hm; obtain ⟨x1046, hx1046, hm⟩ := hm
        obtain ⟨adx1046, hAx1046⟩ := SlR.adV (hrp0_0.ext (Flat.mono _) hS.x) hv542 hx1046
        refine n_q H (q_ixV (i := i540) Tryz.underlying28 sz158 rfl hv542 hAx1046 rfl (natI hx1046)) rfl (W_q (q_fieldAddr rfl fo158_4) rfl (W_q (q_load rfl (SlR.ldCellV (j := 19) (u := Value.int .i64 x1046.Wait) (hrp0_0.ext (Flat.mono _) hS.x) hv542 hAx1046 ag3 hx1046 (by simp [eGProc]))) rfl (W_q (q_neqD rfl rfl) rfl ?_))); clear H a; intro a H
        refine n_nil (then_normal (c_cond H rfl (fun hc1047 => ?_) (fun hc1047 => ?_)))
        · replace hm := condT hm hc1047
          refine wp_exit (then_exit (block_exit (then_normal ?_)))
          obtain rfl := Option.some.inj hm; replace hm := hm545; try dsimp only at hm
          exact join () H ⟨rfl, rfl, trivial⟩ ⟨hm, hS⟩
        · replace hm := condF hm hc1047
          refine wp_skip (then_normal (wp_seq (wp_region_lit (n_q H (q_assign rfl) rfl ?_)))); clear H a; intro a H
          refine n_nil (then_normal (wp_seq (wp_seq (wp_region_lit (n_q H (q_assign rfl) rfl ?_))))); clear H a; intro a H
          refine n_nil (then_normal (wp_block ?_))
          replace hm := bindS hm; obtain ⟨q1048, hm, hm1048⟩ := hm; replace hm := iter_some hm; obtain ⟨n1048, hm⟩ := hm
          refine c_loop (σ := Nat × Bool × Nat) (fun (m, q1049, i1050) => [(1, .pointer (some ⟨b21, 0, none⟩)), (5, .int .i64 ((i540 : Nat) : Int)), (6, .bool q1049), (7, .int .i64 ((i1050 : Nat) : Int))]) (fun (m, q1049, i1050) wl => iterN (g_r11_rule9_L44 a0 i540) m (q1049, i1050) = some q1048 ∧ St NB w wl [blkR b21 [.int .i64 a0.Id, .int .i64 a0.Frame, .int .i64 a0.Epoch, vp0_0, vp0_1, vp0_2, vp0_3, vp0_4, vp0_5, vp0_6] 34]) (fun (m, q1049, i1050) => m) (n1048, false, 0) H ⟨rfl, rfl, rfl, rfl, trivial⟩ ⟨hm, hS⟩ ?_
          clear H hS hm a; intro xx a w1051 H hR; obtain ⟨m, q1049, i1050⟩ := xx; simp only [ent, List.map_cons, List.map_nil] at H; (try dsimp only at hR); obtain ⟨hm, hS⟩ := hR
          replace hm := iterN_step hm; obtain ⟨m1048, o1048, rfl, hm, hn1048⟩ := hm; try dsimp only [g_r11_rule9_L44] at hm
          refine wp_seq (wp_seq (wp_region_lit (n_q H (q_move rfl) rfl (W_q (q_fieldAddr0 rfl fo34_5) rfl (W_q (q_load rfl ((hS.blk 0 rfl).ld ag29 rfl)) rfl (W_q (q_lenV Tryz.underlying29 rfl hv27) rfl (W_q (q_lssN (i := i1050) (j := a0.Timers.length) rfl rfl) rfl ?_))))))); clear H a; intro a H
          refine n_nil (then_normal (c_cond H rfl (fun hc1052 => ?_) (fun hc1052 => ?_)))
          · replace hm := condT hm hc1052
            have hlt1053 : i1050 < a0.Timers.length := of_decide_eq_true hc1052
            refine wp_skip (then_normal ?_)
            replace hm := bindS hm; obtain ⟨j1054, hm, hm1054⟩ := hm
            refine c_join (σ := Bool) H (fun q1555 => [(1, .pointer (some ⟨b21, 0, none⟩)), (5, .int .i64 ((i540 : Nat) : Int)), (6, .bool q1555), (7, .int .i64 ((i1050 : Nat) : Int))]) (fun q1555 wl => (g_r11_rule9_J43 i1050) q1555 = some o1048 ∧ St NB w wl [blkR b21 [.int .i64 a0.Id, .int .i64 a0.Frame, .int .i64 a0.Epoch, vp0_0, vp0_1, vp0_2, vp0_3, vp0_4, vp0_5, vp0_6] 34]) ?_ ?_
            · skip
              refine wp_block (wp_seq (wp_region_lit (n_q H (q_fieldAddr0 rfl fo34_5) rfl (W_q (q_load rfl ((hS.blk 0 rfl).ld ag29 rfl)) rfl (W_q (q_move rfl) rfl ?_))))); clear H a; intro a H
              replace hm := bindS hm; obtain ⟨x1556, hx1556, hm⟩ := hm
              obtain ⟨adx1556, hAx1556⟩ := SlR.adV (hrp0_2.ext (Flat.mono _) hS.x) hv27 hx1556
              refine n_q H (q_ixV (i := i1050) Tryz.underlying29 sz160 rfl hv27 hAx1556 rfl (natI hx1556)) rfl (W_q (q_fieldAddr rfl fo160_0) rfl (W_q (q_load rfl (SlR.ldCellV (j := 0) (hrp0_2.ext (Flat.mono _) hS.x) hv27 hAx1556 ag3 hx1556 rfl)) rfl (W_q (q_move rfl) rfl (W_q (q_eqlD rfl rfl) rfl ?_)))); clear H a; intro a H
              refine n_nil (then_normal (c_cond H rfl (fun hc1557 => ?_) (fun hc1557 => ?_)))
              · replace hm := condT hm hc1557
                refine wp_region_lit (n_q H (q_assign rfl) rfl ?_); clear H a; intro a H
                refine n_nil (block_normal (then_normal ?_))
                obtain rfl := Option.some.inj hm; replace hm := hm1054; try dsimp only at hm
                exact join true H ⟨rfl, rfl, rfl, rfl, trivial⟩ ⟨hm, hS⟩
              · replace hm := condF hm hc1557
                refine wp_skip (block_normal (then_normal ?_))
                obtain rfl := Option.some.inj hm; replace hm := hm1054; try dsimp only at hm
                exact join q1049 H ⟨rfl, rfl, rfl, rfl, trivial⟩ ⟨hm, hS⟩
            · clear H hS hm a; intro q1555 a w1558 H hR
              simp only [ent, List.map_cons, List.map_nil] at H; (try dsimp only at hR); obtain ⟨hm, hS⟩ := hR; try dsimp only [g_r11_rule9_J43] at hm
              refine wp_region_lit (n_q H (q_move rfl) rfl (W_q (q_incr (i := i1050) (j := 1) rfl rfl (by omega)) rfl (W_q (q_assign rfl) rfl ?_))); clear H a; intro a H
              refine n_nil (then_normal ?_)
              obtain rfl := Option.some.inj hm
              exact round (m1048, q1555, i1050 + 1) H ⟨rfl, rfl, rfl, rfl, trivial⟩ ⟨hn1048, hS⟩ (Nat.lt_succ_self _)
          · replace hm := condF hm hc1052
            refine wp_exit (then_exit (then_exit (block_exit ?_)))
            obtain rfl := Option.some.inj hm; have hz : _ = q1048 := hn1048; subst hz; replace hm := hm1048; try dsimp only at hm
            refine then_normal (wp_seq (wp_region_lit (n_q H (q_move rfl) rfl (W_q (q_not rfl) rfl ?_)))); clear H a; intro a H
            refine n_nil (then_normal (c_cond H rfl (fun hc1559 => ?_) (fun hc1559 => ?_)))
            · replace hm := condT hm hc1559
              refine wp_seq (wp_region_lit (n_q H (q_assign rfl) rfl ?_)); clear H a; intro a H
              refine n_nil (then_normal (wp_ret (block_ret (then_ret (then_ret (block_ret (then_ret ?_)))))))
              obtain rfl := Option.some.inj hm; replace hm := hm545; try dsimp only at hm
              obtain rfl := Option.some.inj hm; have hz : _ = q539 := hn539; subst hz; replace hm := hm539; try dsimp only at hm
              obtain rfl := Option.some.inj hm
              replace hS := hS.tk0
              refine ret1 H (.inr rfl) rfl rfl ?_
              exact ⟨rfl, hS.x⟩
            · replace hm := condF hm hc1559
              refine wp_skip (block_normal (then_normal ?_))
              obtain rfl := Option.some.inj hm; replace hm := hm545; try dsimp only at hm
              exact join () H ⟨rfl, rfl, trivial⟩ ⟨hm, hS⟩
      · clear H hS hm a; intro u_ a w1560 H hR
        simp only [ent, List.map_cons, List.map_nil] at H; (try dsimp only at hR); obtain ⟨hm, hS⟩ := hR; try dsimp only [g_r11_rule9_J45] at hm
        refine wp_region_lit (n_q H (q_move rfl) rfl (W_q (q_incr (i := i540) (j := 1) rfl rfl (by omega)) rfl (W_q (q_assign rfl) rfl ?_))); clear H a; intro a H
        refine n_nil (then_normal ?_)
        obtain rfl := Option.some.inj hm
        exact round (m539, i540 + 1) H ⟨rfl, rfl, trivial⟩ ⟨hn539, hS⟩ (Nat.lt_succ_self _)
    · replace hm := condF hm hc543
      refine wp_exit (then_exit (then_exit (block_exit ?_)))
      obtain rfl := Option.some.inj hm; have hz : _ = q539 := hn539; subst hz; replace hm := hm539; try dsimp only at hm
      refine then_normal (wp_seq (wp_region_lit (n_q H (q_assign rfl) rfl ?_))); clear H a; intro a H
      refine n_nil (then_normal (wp_ret ?_))
      obtain rfl := Option.some.inj hm
      replace hS := hS.tk0
      refine ret1 H (.inr rfl) rfl rfl ?_
      exact ⟨rfl, hS.x⟩
theorem g_r11_both_w {w : World} {A : Nat → Addr} {a0 : Int} {a1 : Int} {r : Int} (hm : g_r11_both a0 a1 = some r) :
    Calls Tryz.prog 207 [.int .i64 a0, .int .i64 a1].toArray w (Ret fun u w' => u = .int .i64 r ∧ Ext w w') := by
  have hS := St.begin NB w
  unfold g_r11_both at hm
  refine enter Tryz.func207 rfl rfl rfl ?_; intro a H; dsimp only [enumL, Nat.zero_add, Nat.reduceAdd] at H
  refine wp_seq (wp_region_lit (n_q H (q_assign rfl) rfl ?_)); clear H a; intro a H
  refine n_nil (then_normal (wp_seq (wp_seq (wp_region_lit (n_q H (q_move rfl) rfl (W_q (q_move rfl) rfl (W_q (q_lss rfl rfl) rfl ?_))))))); clear H a; intro a H
  refine n_nil (then_normal (c_cond H rfl (fun hc21 => ?_) (fun hc21 => ?_)))
  · replace hm := condT hm hc21
    refine wp_seq (wp_region_lit (n_q H (q_move rfl) rfl (W_q (q_assign rfl) rfl ?_))); clear H a; intro a H
    refine n_nil (then_normal (wp_ret (then_ret ?_)))
    obtain rfl := Option.some.inj hm
    refine ret1 H (.inr rfl) rfl rfl ?_
    exact ⟨rfl, hS.x⟩
  · replace hm := condF hm hc21
    refine wp_skip (then_normal (wp_seq (wp_region_lit (n_q H (q_move rfl) rfl (W_q (q_assign rfl) rfl ?_))))); clear H a; intro a H
    refine n_nil (then_normal (wp_ret ?_))
    obtain rfl := Option.some.inj hm
    refine ret1 H (.inr rfl) rfl rfl ?_
    exact ⟨rfl, hS.x⟩
theorem g_r11_rule11_w {w : World} {A : Nat → Addr} {cs0 : List Value} {a0 : GPlan} {cs1 : List Value} {a1 : GState} (h0 : RGPlan w cs0 a0) (h1 : RGState w cs1 a1) {r : Bool} (hm : g_r11_rule11 a0 a1 = some r) :
    Calls Tryz.prog 179 [.agg cs0.toArray, .agg cs1.toArray].toArray w (Ret fun u w' => u = .bool r ∧ Ext w w') := by
  obtain ⟨vp0_0, vp0_1, vp0_2, vp0_3, rfl, hrp0_0, hrp0_1, hrp0_2, hrp0_3⟩ := h0
  obtain ⟨vp1_0, vp1_1, vp1_2, vp1_3, vp1_4, vp1_5, vp1_6, rfl, hrp1_0, hrp1_1, hrp1_2, hrp1_3, hrp1_4, hrp1_5, hrp1_6⟩ := h1
  have hS := St.begin NB w
  unfold g_r11_rule11 at hm
  refine enter Tryz.func179 rfl rfl rfl ?_; intro a H; dsimp only [enumL, Nat.zero_add, Nat.reduceAdd] at H
  refine wp_seq (wp_region_lit (n_box H rfl (cs := [.int .i64 a0.Id, .bool a0.Mobile, vp0_0, vp0_1, vp0_2, .int .i64 a0.Events, vp0_3]) rfl rfl ?_))
  clear H; intro b21 w22 hN hE23 hs; clear a; intro a H
  replace hS := hS.newBlk hN hE23 hs; clear hN hs
  refine n_box H rfl (cs := [.int .i64 a1.Id, .int .i64 a1.Frame, .int .i64 a1.Epoch, vp1_0, vp1_1, vp1_2, vp1_3, vp1_4, vp1_5, vp1_6]) rfl rfl ?_
  clear H; intro b24 w25 hN hE26 hs; clear a; intro a H
  replace hS := hS.newBlk hN hE26 hs; clear hN hs
  refine n_q H (q_assign rfl) rfl ?_; clear H a; intro a H
  refine n_nil (then_normal (wp_seq (wp_seq (wp_region_lit (n_q H (q_assign rfl) rfl ?_))))); clear H a; intro a H
  refine n_nil (then_normal (wp_block ?_))
  replace hS := hS.pk1
  replace hm := bindS hm; obtain ⟨q27, hm, hm27⟩ := hm; replace hm := iter_some hm; obtain ⟨n27, hm⟩ := hm
  refine c_loop (σ := Nat × Int) (fun (m, z29) => [(2, .pointer (some ⟨b21, 0, none⟩)), (3, .pointer (some ⟨b24, 0, none⟩)), (5, .int .i64 z29)]) (fun (m, z29) wl => iterN (g_r11_rule11_L5 a0 a1) m z29 = some q27 ∧ St NB w wl [blkR b21 [.int .i64 a0.Id, .bool a0.Mobile, vp0_0, vp0_1, vp0_2, .int .i64 a0.Events, vp0_3] 27, blkR b24 [.int .i64 a1.Id, .int .i64 a1.Frame, .int .i64 a1.Epoch, vp1_0, vp1_1, vp1_2, vp1_3, vp1_4, vp1_5, vp1_6] 34]) (fun (m, z29) => m) (n27, 0) H ⟨rfl, rfl, rfl, trivial⟩ ⟨hm, hS⟩ ?_
  clear H hS hm a; intro xx a w30 H hR; obtain ⟨m, z29⟩ := xx; simp only [ent, List.map_cons, List.map_nil] at H; (try dsimp only at hR); obtain ⟨hm, hS⟩ := hR
  replace hm := iterN_step hm; obtain ⟨m27, o27, rfl, hm, hn27⟩ := hm; try dsimp only [g_r11_rule11_L5] at hm
  refine wp_seq (wp_seq (wp_region_lit (n_q H (q_move rfl) rfl (W_q (q_fieldAddr0 rfl fo34_8) rfl (W_q (q_load rfl ((hS.blk 1 rfl).ld ag31 rfl)) rfl ?_))))); clear H a; intro a H
  obtain ⟨A31, c31, hv31, hl31, hm31⟩ := SlR.formV (hrp1_5.ext RGPort.mono hS.x)
  refine n_q H (q_lenV Tryz.underlying31 rfl hv31) rfl (W_q (q_fieldAddr0 rfl fo27_4) rfl (W_q (q_load rfl ((hS.blk 0 rfl).ld ag24 rfl)) rfl ?_)); clear H a; intro a H
  obtain ⟨A32, c32, hv32, hl32, hm32⟩ := SlR.formV (hrp0_2.ext (Flat.mono _) hS.x)
  refine n_q H (q_lenV Tryz.underlying24 rfl hv32) rfl ?_; clear H a; intro a H
  replace hm := bindS hm; obtain ⟨r33, hr33, hm⟩ := hm
  refine n_call H rfl en207 (g_r11_both_w (A := A) hr33) rfl ?_
  clear H; intro x36 w34 hv; clear a; intro a H; obtain ⟨rfl, hE35⟩ := hv
  replace hS := hS.ext hE35
  refine n_q H (q_lss rfl rfl) rfl ?_; clear H a; intro a H
  refine n_nil (then_normal (c_cond H rfl (fun hc37 => ?_) (fun hc37 => ?_)))
  · replace hm := condT hm hc37
    refine wp_skip (then_normal (wp_seq (wp_block (wp_seq (wp_seq (c_quiet (by kernel_rfl) (by kernel_rfl) ?_))))))
    refine qq_q H (q_fieldAddr0 rfl fo34_8) rfl ?_; clear H a; intro a H
    refine qq_q H (q_load rfl ((hS.blk 1 rfl).ld ag31 rfl)) rfl ?_; clear H a; intro a H
    refine qq_q H (q_move rfl) rfl ?_; clear H a; intro a H
    replace hm := bindS hm; obtain ⟨x38, hx38, hm⟩ := hm
    obtain ⟨h0x38, h1x38, hxx38⟩ := rdI_some hx38
    obtain ⟨adx38, hAx38⟩ := SlR.adV (hrp1_5.ext RGPort.mono hS.x) hv31 hxx38
    obtain ⟨csx38, hclx38, ⟨vx38_0, rfl, hrx38_0⟩, hcx38⟩ := SlR.elV hrp1_5 hv31 hAx38 hxx38
    refine qq_q H (q_ixVI Tryz.underlying31 sz154 rfl hv31 hAx38 rfl h0x38 h1x38) rfl ?_; clear H a; intro a H
    refine qq_q H (q_fieldAddr rfl fo154_0) rfl ?_; clear H a; intro a H
    refine qq_q H (q_load rfl (LdX.ext (ldElC (j := 0) ag151 hcx38 rfl) hS.x)) rfl ?_; clear H a; intro a H
    obtain ⟨A39, c39, hv39, hl39, hm39⟩ := SlR.formV (hrx38_0.ext (Flat.mono _) hS.x)
    refine qq_q H (q_lenV Tryz.underlying151 rfl hv39) rfl ?_; clear H a; intro a H
    refine qq_q H (q_fieldAddr0 rfl fo27_4) rfl ?_; clear H a; intro a H
    refine qq_q H (q_load rfl ((hS.blk 0 rfl).ld ag24 rfl)) rfl ?_; clear H a; intro a H
    refine qq_q H (q_move rfl) rfl ?_; clear H a; intro a H
    replace hm := bindS hm; obtain ⟨x40, hx40, hm⟩ := hm
    obtain ⟨h0x40, h1x40, hxx40⟩ := rdI_some hx40
    obtain ⟨adx40, hAx40⟩ := SlR.adV (hrp0_2.ext (Flat.mono _) hS.x) hv32 hxx40
    refine qq_q H (q_ixVI Tryz.underlying24 sz171 rfl hv32 hAx40 rfl h0x40 h1x40) rfl ?_; clear H a; intro a H
    refine qq_q H (q_fieldAddr rfl fo171_2) rfl ?_; clear H a; intro a H
    refine qq_q H (q_load rfl (SlR.ldCellV (j := 2) (hrp0_2.ext (Flat.mono _) hS.x) hv32 hAx40 ag3 hxx40 rfl)) rfl ?_; clear H a; intro a H
    refine qq_q H (q_gtr rfl rfl) rfl ?_; clear H a; intro a H
    refine qq_nil ?_; intro w41 hE42
    replace hS := hS.ext hE42
    refine then_normal (c_cond H rfl (fun hc43 => ?_) (fun hc43 => ?_))
    · replace hm := condT hm hc43
      refine wp_seq (wp_region_lit (n_q H (q_assign rfl) rfl ?_)); clear H a; intro a H
      refine n_nil (then_normal (wp_ret (then_ret (block_ret (then_ret (then_ret (block_ret (then_ret ?_))))))))
      obtain rfl := Option.some.inj hm; have hz : _ = q27 := hn27; subst hz; replace hm := hm27; try dsimp only at hm
      obtain rfl := Option.some.inj hm
      replace hS := hS.tk0
      refine ret1 H (.inr rfl) rfl rfl ?_
      exact ⟨rfl, hS.x⟩
    · replace hm := condF hm hc43
      refine wp_skip (then_normal (wp_seq (wp_region_lit (n_q H (q_assign rfl) rfl ?_)))); clear H a; intro a H
      refine n_nil (then_normal (wp_block ?_))
      replace hm := bindS hm; obtain ⟨q44, hm, hm44⟩ := hm; replace hm := iter_some hm; obtain ⟨n44, hm⟩ := hm
      refine c_loop (σ := Nat × Nat) (fun (m, i45) => [(2, .pointer (some ⟨b21, 0, none⟩)), (3, .pointer (some ⟨b24, 0, none⟩)), (5, .int .i64 z29), (6, .int .i64 ((i45 : Nat) : Int))]) (fun (m, i45) wl => iterN (g_r11_rule11_L4 a0 a1 z29) m i45 = some q44 ∧ St NB w wl [blkR b21 [.int .i64 a0.Id, .bool a0.Mobile, vp0_0, vp0_1, vp0_2, .int .i64 a0.Events, vp0_3] 27, blkR b24 [.int .i64 a1.Id, .int .i64 a1.Frame, .int .i64 a1.Epoch, vp1_0, vp1_1, vp1_2, vp1_3, vp1_4, vp1_5, vp1_6] 34]) (fun (m, i45) => m) (n44, 0) H ⟨rfl, rfl, rfl, rfl, trivial⟩ ⟨hm, hS⟩ ?_
      clear H hS hm a; intro xx a w46 H hR; obtain ⟨m, i45⟩ := xx; simp only [ent, List.map_cons, List.map_nil] at H; (try dsimp only at hR); obtain ⟨hm, hS⟩ := hR
      replace hm := iterN_step hm; obtain ⟨m44, o44, rfl, hm, hn44⟩ := hm; try dsimp only [g_r11_rule11_L4] at hm
      refine wp_seq (wp_seq (wp_region_lit (n_q H (q_move rfl) rfl (W_q (q_fieldAddr0 rfl fo34_8) rfl (W_q (q_load rfl ((hS.blk 1 rfl).ld ag31 rfl)) rfl (W_q (q_move rfl) rfl ?_)))))); clear H a; intro a H
      replace hm := bindS hm; obtain ⟨x47, hx47, hm⟩ := hm
      obtain ⟨h0x47, h1x47, hxx47⟩ := rdI_some hx47
      obtain ⟨adx47, hAx47⟩ := SlR.adV (hrp1_5.ext RGPort.mono hS.x) hv31 hxx47
      obtain ⟨csx47, hclx47, ⟨vx47_0, rfl, hrx47_0⟩, hcx47⟩ := SlR.elV hrp1_5 hv31 hAx47 hxx47
      refine n_q H (q_ixVI Tryz.underlying31 sz154 rfl hv31 hAx47 rfl h0x47 h1x47) rfl (W_q (q_fieldAddr rfl fo154_0) rfl (W_q (q_load rfl (LdX.ext (ldElC (j := 0) ag151 hcx47 rfl) hS.x)) rfl ?_)); clear H a; intro a H
      obtain ⟨A48, c48, hv48, hl48, hm48⟩ := SlR.formV (hrx47_0.ext (Flat.mono _) hS.x)
      refine n_q H (q_lenV Tryz.underlying151 rfl hv48) rfl (W_q (q_lssN (i := i45) (j := x47.Msgs.length) rfl rfl) rfl ?_); clear H a; intro a H
      refine n_nil (then_normal (c_cond H rfl (fun hc49 => ?_) (fun hc49 => ?_)))
      · replace hm := condT hm hc49
        have hlt50 : i45 < x47.Msgs.length := of_decide_eq_true hc49
        refine wp_skip (then_normal (wp_seq (wp_block (wp_seq (c_quiet (by kernel_rfl) (by kernel_rfl) ?_)))))
        refine qq_q H (q_fieldAddr0 rfl fo34_8) rfl ?_; clear H a; intro a H
        refine qq_q H (q_load rfl ((hS.blk 1 rfl).ld ag31 rfl)) rfl ?_; clear H a; intro a H
        refine qq_q H (q_move rfl) rfl ?_; clear H a; intro a H
        replace hm := bindS hm; obtain ⟨x51, hx51, hm⟩ := hm
        obtain ⟨h0x51, h1x51, hxx51⟩ := rdI_some hx51
        obtain ⟨adx51, hAx51⟩ := SlR.adV (hrp1_5.ext RGPort.mono hS.x) hv31 hxx51
        obtain ⟨csx51, hclx51, ⟨vx51_0, rfl, hrx51_0⟩, hcx51⟩ := SlR.elV hrp1_5 hv31 hAx51 hxx51
        refine qq_q H (q_ixVI Tryz.underlying31 sz154 rfl hv31 hAx51 rfl h0x51 h1x51) rfl ?_; clear H a; intro a H
        refine qq_q H (q_fieldAddr rfl fo154_0) rfl ?_; clear H a; intro a H
        refine qq_q H (q_load rfl (LdX.ext (ldElC (j := 0) ag151 hcx51 rfl) hS.x)) rfl ?_; clear H a; intro a H
        refine qq_q H (q_move rfl) rfl ?_; clear H a; intro a H
        obtain ⟨A52, c52, hv52, hl52, hm52⟩ := SlR.formV (hrx51_0.ext (Flat.mono _) hS.x)
        replace hm := bindS hm; obtain ⟨x53, hx53, hm⟩ := hm
        obtain ⟨adx53, hAx53⟩ := SlR.adV (hrx51_0.ext (Flat.mono _) hS.x) hv52 hx53
        refine qq_q H (q_ixV (i := i45) Tryz.underlying151 sz9 rfl hv52 hAx53 rfl (natI hx53)) rfl ?_; clear H a; intro a H
        refine qq_q H (q_load rfl (SlR.ldOneV (hrx51_0.ext (Flat.mono _) hS.x) hv52 hAx53 ag9 hx53 rfl)) rfl ?_; clear H a; intro a H
        refine qq_q H (q_lenS Tryz.underlying9 rfl) rfl ?_; clear H a; intro a H
        refine qq_q H (q_fieldAddr0 rfl fo27_4) rfl ?_; clear H a; intro a H
        refine qq_q H (q_load rfl ((hS.blk 0 rfl).ld ag24 rfl)) rfl ?_; clear H a; intro a H
        refine qq_q H (q_move rfl) rfl ?_; clear H a; intro a H
        replace hm := bindS hm; obtain ⟨x54, hx54, hm⟩ := hm
        obtain ⟨h0x54, h1x54, hxx54⟩ := rdI_some hx54
        obtain ⟨adx54, hAx54⟩ := SlR.adV (hrp0_2.ext (Flat.mono _) hS.x) hv32 hxx54
        refine qq_q H (q_ixVI Tryz.underlying24 sz171 rfl hv32 hAx54 rfl h0x54 h1x54) rfl ?_; clear H a; intro a H
        refine qq_q H (q_fieldAddr rfl fo171_1) rfl ?_; clear H a; intro a H
        refine qq_q H (q_load rfl (SlR.ldCellV (j := 1) (hrp0_2.ext (Flat.mono _) hS.x) hv32 hAx54 ag3 hxx54 rfl)) rfl ?_; clear H a; intro a H
        refine qq_q H (q_gtr rfl rfl) rfl ?_; clear H a; intro a H
        refine qq_nil ?_; intro w55 hE56
        replace hS := hS.ext hE56
        refine then_normal (c_cond H rfl (fun hc57 => ?_) (fun hc57 => ?_))
        · replace hm := condT hm hc57
          refine wp_seq (wp_region_lit (n_q H (q_assign rfl) rfl ?_)); clear H a; intro a H
          refine n_nil (then_normal (wp_ret (block_ret (then_ret (then_ret (block_ret (block_ret (then_ret (then_ret (block_ret (then_ret ?_)))))))))))
          obtain rfl := Option.some.inj hm; have hz : _ = q44 := hn44; subst hz; replace hm := hm44; try dsimp only at hm
          obtain rfl := Option.some.inj hm; have hz : _ = q27 := hn27; subst hz; replace hm := hm27; try dsimp only at hm
          obtain rfl := Option.some.inj hm
          replace hS := hS.tk0
          refine ret1 H (.inr rfl) rfl rfl ?_
          exact ⟨rfl, hS.x⟩
        · replace hm := condF hm hc57
          refine wp_skip (block_normal (then_normal (wp_region_lit (n_q H (q_move rfl) rfl (W_q (q_incr (i := i45) (j := 1) rfl rfl (by omega)) rfl (W_q (q_assign rfl) rfl ?_)))))); clear H a; intro a H
          refine n_nil (then_normal ?_)
          obtain rfl := Option.some.inj hm
          exact round (m44, i45 + 1) H ⟨rfl, rfl, rfl, rfl, trivial⟩ ⟨hn44, hS⟩ (Nat.lt_succ_self _)
      · replace hm := condF hm hc49
        refine wp_exit (then_exit (then_exit (block_exit ?_)))
        obtain rfl := Option.some.inj hm; have hz : _ = q44 := hn44; subst hz; replace hm := hm44; try dsimp only at hm
        refine block_normal (then_normal (wp_region_lit (n_q H (q_move rfl) rfl (W_q (q_addW rfl rfl) rfl (W_q (q_assign rfl) rfl ?_))))); clear H a; intro a H
        refine n_nil (then_normal ?_)
        obtain rfl := Option.some.inj hm
        exact round (m27, (IntKind.i64.wrap (z29 + 1))) H ⟨rfl, rfl, rfl, trivial⟩ ⟨hn27, hS⟩ (Nat.lt_succ_self _)
  · replace hm := condF hm hc37
    refine wp_exit (then_exit (then_exit (block_exit ?_)))
    obtain rfl := Option.some.inj hm; have hz : _ = q27 := hn27; subst hz; replace hm := hm27; try dsimp only at hm
    refine then_normal (wp_seq (wp_region_lit (n_q H (q_assign rfl) rfl ?_))); clear H a; intro a H
    refine n_nil (then_normal (wp_ret ?_))
    obtain rfl := Option.some.inj hm
    replace hS := hS.tk0
    refine ret1 H (.inr rfl) rfl rfl ?_
    exact ⟨rfl, hS.x⟩
theorem g_r11_rule12_w {w : World} {A : Nat → Addr} {cs0 : List Value} {a0 : GPlan} {cs1 : List Value} {a1 : GState} (h0 : RGPlan w cs0 a0) (h1 : RGState w cs1 a1) {r : Bool} (hm : g_r11_rule12 a0 a1 = some r) :
    Calls Tryz.prog 180 [.agg cs0.toArray, .agg cs1.toArray].toArray w (Ret fun u w' => u = .bool r ∧ Ext w w') := by
  obtain ⟨vp0_0, vp0_1, vp0_2, vp0_3, rfl, hrp0_0, hrp0_1, hrp0_2, hrp0_3⟩ := h0
  obtain ⟨vp1_0, vp1_1, vp1_2, vp1_3, vp1_4, vp1_5, vp1_6, rfl, hrp1_0, hrp1_1, hrp1_2, hrp1_3, hrp1_4, hrp1_5, hrp1_6⟩ := h1
  have hS := St.begin NB w
  unfold g_r11_rule12 at hm
  refine enter Tryz.func180 rfl rfl rfl ?_; intro a H; dsimp only [enumL, Nat.zero_add, Nat.reduceAdd] at H
  refine wp_seq (wp_region_lit (n_box H rfl (cs := [.int .i64 a0.Id, .bool a0.Mobile, vp0_0, vp0_1, vp0_2, .int .i64 a0.Events, vp0_3]) rfl rfl ?_))
  clear H; intro b21 w22 hN hE23 hs; clear a; intro a H
  replace hS := hS.newBlk hN hE23 hs; clear hN hs
  refine n_box H rfl (cs := [.int .i64 a1.Id, .int .i64 a1.Frame, .int .i64 a1.Epoch, vp1_0, vp1_1, vp1_2, vp1_3, vp1_4, vp1_5, vp1_6]) rfl rfl ?_
  clear H; intro b24 w25 hN hE26 hs; clear a; intro a H
  replace hS := hS.newBlk hN hE26 hs; clear hN hs
  refine n_q H (q_assign rfl) rfl ?_; clear H a; intro a H
  refine n_nil (then_normal (wp_seq (wp_seq (wp_region_lit (n_q H (q_assign rfl) rfl ?_))))); clear H a; intro a H
  refine n_nil (then_normal (wp_block ?_))
  replace hS := hS.pk1
  replace hm := bindS hm; obtain ⟨q27, hm, hm27⟩ := hm; replace hm := iter_some hm; obtain ⟨n27, hm⟩ := hm
  refine c_loop (σ := Nat × Int) (fun (m, z29) => [(2, .pointer (some ⟨b21, 0, none⟩)), (3, .pointer (some ⟨b24, 0, none⟩)), (5, .int .i64 z29)]) (fun (m, z29) wl => iterN (g_r11_rule12_L9 a0 a1) m z29 = some q27 ∧ St NB w wl [blkR b21 [.int .i64 a0.Id, .bool a0.Mobile, vp0_0, vp0_1, vp0_2, .int .i64 a0.Events, vp0_3] 27, blkR b24 [.int .i64 a1.Id, .int .i64 a1.Frame, .int .i64 a1.Epoch, vp1_0, vp1_1, vp1_2, vp1_3, vp1_4, vp1_5, vp1_6] 34]) (fun (m, z29) => m) (n27, 0) H ⟨rfl, rfl, rfl, trivial⟩ ⟨hm, hS⟩ ?_
  clear H hS hm a; intro xx a w30 H hR; obtain ⟨m, z29⟩ := xx; simp only [ent, List.map_cons, List.map_nil] at H; (try dsimp only at hR); obtain ⟨hm, hS⟩ := hR
  replace hm := iterN_step hm; obtain ⟨m27, o27, rfl, hm, hn27⟩ := hm; try dsimp only [g_r11_rule12_L9] at hm
  refine wp_seq (wp_seq (wp_region_lit (n_q H (q_move rfl) rfl (W_q (q_fieldAddr0 rfl fo34_8) rfl (W_q (q_load rfl ((hS.blk 1 rfl).ld ag31 rfl)) rfl ?_))))); clear H a; intro a H
  obtain ⟨A31, c31, hv31, hl31, hm31⟩ := SlR.formV (hrp1_5.ext RGPort.mono hS.x)
  refine n_q H (q_lenV Tryz.underlying31 rfl hv31) rfl (W_q (q_fieldAddr0 rfl fo27_4) rfl (W_q (q_load rfl ((hS.blk 0 rfl).ld ag24 rfl)) rfl ?_)); clear H a; intro a H
  obtain ⟨A32, c32, hv32, hl32, hm32⟩ := SlR.formV (hrp0_2.ext (Flat.mono _) hS.x)
  refine n_q H (q_lenV Tryz.underlying24 rfl hv32) rfl ?_; clear H a; intro a H
  replace hm := bindS hm; obtain ⟨r33, hr33, hm⟩ := hm
  refine n_call H rfl en207 (g_r11_both_w (A := A) hr33) rfl ?_
  clear H; intro x36 w34 hv; clear a; intro a H; obtain ⟨rfl, hE35⟩ := hv
  replace hS := hS.ext hE35
  refine n_q H (q_lss rfl rfl) rfl ?_; clear H a; intro a H
  refine n_nil (then_normal (c_cond H rfl (fun hc37 => ?_) (fun hc37 => ?_)))
  · replace hm := condT hm hc37
    refine wp_skip (then_normal (wp_seq (wp_block (wp_seq (wp_region_lit (n_q H (q_fieldAddr0 rfl fo34_8) rfl (W_q (q_load rfl ((hS.blk 1 rfl).ld ag31 rfl)) rfl (W_q (q_move rfl) rfl ?_)))))))); clear H a; intro a H
    replace hm := bindS hm; obtain ⟨x38, hx38, hm⟩ := hm
    obtain ⟨h0x38, h1x38, hxx38⟩ := rdI_some hx38
    obtain ⟨adx38, hAx38⟩ := SlR.adV (hrp1_5.ext RGPort.mono hS.x) hv31 hxx38
    obtain ⟨csx38, hclx38, ⟨vx38_0, rfl, hrx38_0⟩, hcx38⟩ := SlR.elV hrp1_5 hv31 hAx38 hxx38
    refine n_q H (q_ixVI Tryz.underlying31 sz154 rfl hv31 hAx38 rfl h0x38 h1x38) rfl (W_q (q_fieldAddr rfl fo154_1) rfl (W_q (q_load rfl (LdX.ext (ldElC (j := 1) ag3 hcx38 rfl) hS.x)) rfl (W_q (q_assign rfl) rfl ?_))); clear H a; intro a H
    refine n_nil (then_normal ?_)
    replace hm := bindS hm; obtain ⟨j39, hm, hm39⟩ := hm
    refine c_join (σ := Bool) H (fun q540 => [(2, .pointer (some ⟨b21, 0, none⟩)), (3, .pointer (some ⟨b24, 0, none⟩)), (5, .int .i64 z29), (52, .bool q540)]) (fun q540 wl => (g_r11_rule12_J8 z29) q540 = some o27 ∧ St NB w wl [blkR b21 [.int .i64 a0.Id, .bool a0.Mobile, vp0_0, vp0_1, vp0_2, .int .i64 a0.Events, vp0_3] 27, blkR b24 [.int .i64 a1.Id, .int .i64 a1.Frame, .int .i64 a1.Epoch, vp1_0, vp1_1, vp1_2, vp1_3, vp1_4, vp1_5, vp1_6] 34]) ?_ ?_
    · skip
      refine wp_region_lit (n_q H (q_move rfl) rfl (W_q (q_lss rfl rfl) rfl (W_q (q_move rfl) rfl ?_))); clear H a; intro a H
      rcases Bool.eq_false_or_eq_true (decide (x38.Age < 0)) with hg541 | hg541
      · replace H := H.know 26 rfl hg541
        replace hm := condT hm hg541
        refine n_no H rfl rfl (by decide) rfl (W_no rfl rfl (by decide) rfl (W_q (q_pickT rfl rfl) rfl (W_q (q_move rfl) rfl (W_no rfl rfl (by decide) rfl (W_no rfl rfl (by decide) rfl (W_no rfl rfl (by decide) rfl (W_noU rfl rfl rfl (W_noU rfl rfl rfl (W_noU rfl rfl rfl (W_noU rfl rfl rfl (W_noU rfl rfl rfl ?_))))))))))); clear H a; intro a H
        refine n_noU H rfl rfl rfl (W_noU rfl rfl rfl (W_noU rfl rfl rfl (W_noU rfl rfl rfl (W_noU rfl rfl rfl (W_noU rfl rfl rfl (W_noU rfl rfl rfl (W_noU rfl rfl rfl (W_noU rfl rfl rfl (W_noU rfl rfl rfl (W_noU rfl rfl rfl (W_noU rfl rfl rfl ?_))))))))))); clear H a; intro a H
        refine n_no H rfl rfl (by decide) rfl (W_q (q_pickT rfl rfl) rfl ?_); clear H a; intro a H
        refine n_nil (then_normal ?_)
        obtain rfl := Option.some.inj hm; replace hm := hm39; try dsimp only at hm
        exact join true H ⟨rfl, rfl, rfl, rfl, trivial⟩ ⟨hm, hS⟩
      · replace H := H.know 26 rfl hg541
        replace hm := condF hm hg541
        refine n_yes H rfl rfl (n_q H (q_move rfl) rfl (W_yes rfl rfl (W_q (q_gtr rfl rfl) rfl (W_q (q_pickF rfl rfl) rfl (W_q (q_move rfl) rfl ?_))))); clear H a; intro a H
        rcases Bool.eq_false_or_eq_true (decide (255 < x38.Age)) with hg542 | hg542
        · replace H := H.know 30 rfl hg542
          replace hm := condT hm hg542
          refine n_no H rfl rfl (by decide) rfl (W_no rfl rfl (by decide) rfl (W_no rfl rfl (by decide) rfl (W_noU rfl rfl rfl (W_noU rfl rfl rfl (W_noU rfl rfl rfl (W_noU rfl rfl rfl (W_noU rfl rfl rfl (W_noU rfl rfl rfl (W_noU rfl rfl rfl (W_noU rfl rfl rfl (W_noU rfl rfl rfl ?_))))))))))); clear H a; intro a H
          refine n_noU H rfl rfl rfl (W_noU rfl rfl rfl (W_noU rfl rfl rfl (W_noU rfl rfl rfl (W_noU rfl rfl rfl (W_noU rfl rfl rfl (W_noU rfl rfl rfl (W_noU rfl rfl rfl (W_no rfl rfl (by decide) rfl (W_q (q_pickT rfl rfl) rfl ?_))))))))); clear H a; intro a H
          refine n_nil (then_normal ?_)
          obtain rfl := Option.some.inj hm; replace hm := hm39; try dsimp only at hm
          exact join true H ⟨rfl, rfl, rfl, rfl, trivial⟩ ⟨hm, hS⟩
        · replace H := H.know 30 rfl hg542
          replace hm := condF hm hg542
          refine n_yes H rfl rfl (n_q H (q_move rfl) rfl (W_yes rfl rfl (W_q (q_neqD rfl rfl) rfl (W_yes rfl rfl (W_q (q_move rfl) rfl ?_))))); clear H a; intro a H
          rcases Bool.eq_false_or_eq_true (!decide (x38.Age = 0)) with hg543 | hg543
          · replace H := H.know 33 rfl hg543
            replace hm := condT hm hg543
            refine n_yes H rfl rfl (n_q H (q_fieldAddr0 rfl fo27_4) rfl (W_yes rfl rfl (W_q (q_load rfl ((hS.blk 0 rfl).ld ag24 rfl)) rfl (W_yes rfl rfl (W_q (q_move rfl) rfl (W_yes rfl rfl ?_)))))); clear H a; intro a H
            replace hm := bindS hm; obtain ⟨x544, hx544, hm⟩ := hm
            obtain ⟨h0x544, h1x544, hxx544⟩ := rdI_some hx544
            obtain ⟨adx544, hAx544⟩ := SlR.adV (hrp0_2.ext (Flat.mono _) hS.x) hv32 hxx544
            refine n_q H (q_ixVI Tryz.underlying24 sz171 rfl hv32 hAx544 rfl h0x544 h1x544) rfl (W_yes rfl rfl (W_q (q_fieldAddr rfl fo171_0) rfl (W_yes rfl rfl (W_q (q_load rfl (SlR.ldCellV (j := 0) (hrp0_2.ext (Flat.mono _) hS.x) hv32 hAx544 ag3 hxx544 rfl)) rfl (W_yes rfl rfl (W_q (q_neqD rfl rfl) rfl (W_yes rfl rfl (W_q (q_move rfl) rfl ?_)))))))); clear H a; intro a H
            rcases Bool.eq_false_or_eq_true (!decide (x544.Kind = 1)) with hg545 | hg545
            · replace H := H.know 41 rfl hg545
              replace hm := condT hm hg545
              refine n_no H rfl rfl (by decide) rfl (W_no rfl rfl (by decide) rfl (W_no rfl rfl (by decide) rfl (W_no rfl rfl (by decide) rfl (W_no rfl rfl (by decide) rfl (W_no rfl rfl (by decide) rfl (W_no rfl rfl (by decide) rfl (W_no rfl rfl (by decide) rfl (W_yes rfl rfl (W_q (q_pickT rfl rfl) rfl (W_yes rfl rfl (W_q (q_pickT rfl rfl) rfl ?_))))))))))); clear H a; intro a H
              refine n_q H (q_pickF rfl rfl) rfl ?_; clear H a; intro a H
              refine n_nil (then_normal ?_)
              obtain rfl := Option.some.inj hm; replace hm := hm39; try dsimp only at hm
              exact join true H ⟨rfl, rfl, rfl, rfl, trivial⟩ ⟨hm, hS⟩
            · replace H := H.know 41 rfl hg545
              replace hm := condF hm hg545
              refine n_yes H rfl rfl (n_q H (q_fieldAddr0 rfl fo34_8) rfl (W_yes rfl rfl (W_q (q_load rfl ((hS.blk 1 rfl).ld ag31 rfl)) rfl (W_yes rfl rfl (W_q (q_move rfl) rfl (W_yes rfl rfl ?_)))))); clear H a; intro a H
              replace hm := bindS hm; obtain ⟨x546, hx546, hm⟩ := hm
              obtain ⟨h0x546, h1x546, hxx546⟩ := rdI_some hx546
              obtain ⟨adx546, hAx546⟩ := SlR.adV (hrp1_5.ext RGPort.mono hS.x) hv31 hxx546
              obtain ⟨csx546, hclx546, ⟨vx546_0, rfl, hrx546_0⟩, hcx546⟩ := SlR.elV hrp1_5 hv31 hAx546 hxx546
              refine n_q H (q_ixVI Tryz.underlying31 sz154 rfl hv31 hAx546 rfl h0x546 h1x546) rfl (W_yes rfl rfl (W_q (q_fieldAddr rfl fo154_0) rfl (W_yes rfl rfl (W_q (q_load rfl (LdX.ext (ldElC (j := 0) ag151 hcx546 rfl) hS.x)) rfl (W_yes rfl rfl ?_))))); clear H a; intro a H
              obtain ⟨A547, c547, hv547, hl547, hm547⟩ := SlR.formV (hrx546_0.ext (Flat.mono _) hS.x)
              refine n_q H (q_lenV Tryz.underlying151 rfl hv547) rfl (W_yes rfl rfl (W_q (q_eqlN (i := x546.Msgs.length) (j := 0) rfl rfl) rfl (W_yes rfl rfl (W_q (q_pickF rfl rfl) rfl (W_yes rfl rfl (W_q (q_pickT rfl rfl) rfl (W_q (q_pickF rfl rfl) rfl ?_))))))); clear H a; intro a H
              refine n_nil (then_normal ?_)
              obtain rfl := Option.some.inj hm; replace hm := hm39; try dsimp only at hm
              exact join (decide (x546.Msgs.length = 0)) H ⟨rfl, rfl, rfl, rfl, trivial⟩ ⟨hm, hS⟩
          · replace H := H.know 33 rfl hg543
            replace hm := condF hm hg543
            refine n_no H rfl rfl (by decide) rfl (W_no rfl rfl (by decide) rfl (W_no rfl rfl (by decide) rfl (W_no rfl rfl (by decide) rfl (W_no rfl rfl (by decide) rfl (W_no rfl rfl (by decide) rfl (W_no rfl rfl (by decide) rfl (W_no rfl rfl (by decide) rfl (W_noU rfl rfl rfl (W_noU rfl rfl rfl (W_noU rfl rfl rfl (W_noU rfl rfl rfl ?_))))))))))); clear H a; intro a H
            refine n_noU H rfl rfl rfl (W_noU rfl rfl rfl (W_noU rfl rfl rfl (W_noU rfl rfl rfl (W_no rfl rfl (by decide) rfl (W_yes rfl rfl (W_q (q_pickF rfl rfl) rfl (W_q (q_pickF rfl rfl) rfl ?_))))))); clear H a; intro a H
            refine n_nil (then_normal ?_)
            obtain rfl := Option.some.inj hm; replace hm := hm39; try dsimp only at hm
            exact join false H ⟨rfl, rfl, rfl, rfl, trivial⟩ ⟨hm, hS⟩
    · clear H hS hm a; intro q540 a w548 H hR
      simp only [ent, List.map_cons, List.map_nil] at H; (try dsimp only at hR); obtain ⟨hm, hS⟩ := hR; try dsimp only [g_r11_rule12_J8] at hm
      refine c_cond H rfl (fun hc549 => ?_) (fun hc549 => ?_)
      · replace hm := condT hm hc549
        refine wp_seq (wp_region_lit (n_q H (q_assign rfl) rfl ?_)); clear H a; intro a H
        refine n_nil (then_normal (wp_ret (block_ret (then_ret (then_ret (block_ret (then_ret ?_)))))))
        obtain rfl := Option.some.inj hm; have hz : _ = q27 := hn27; subst hz; replace hm := hm27; try dsimp only at hm
        obtain rfl := Option.some.inj hm
        replace hS := hS.tk0
        refine ret1 H (.inr rfl) rfl rfl ?_
        exact ⟨rfl, hS.x⟩
      · replace hm := condF hm hc549
        refine wp_skip (block_normal (then_normal (wp_region_lit (n_q H (q_move rfl) rfl (W_q (q_addW rfl rfl) rfl (W_q (q_assign rfl) rfl ?_)))))); clear H a; intro a H
        refine n_nil (then_normal ?_)
        obtain rfl := Option.some.inj hm
        exact round (m27, (IntKind.i64.wrap (z29 + 1))) H ⟨rfl, rfl, rfl, trivial⟩ ⟨hn27, hS⟩ (Nat.lt_succ_self _)
  · replace hm := condF hm hc37
    refine wp_exit (then_exit (then_exit (block_exit ?_)))
    obtain rfl := Option.some.inj hm; have hz : _ = q27 := hn27; subst hz; replace hm := hm27; try dsimp only at hm
    refine then_normal (wp_seq (wp_region_lit (n_q H (q_assign rfl) rfl ?_))); clear H a; intro a H
    refine n_nil (then_normal (wp_ret ?_))
    obtain rfl := Option.some.inj hm
    replace hS := hS.tk0
    refine ret1 H (.inr rfl) rfl rfl ?_
    exact ⟨rfl, hS.x⟩
end Go.Proofs.YtjoihegnjjjdaaaGreatDoor
