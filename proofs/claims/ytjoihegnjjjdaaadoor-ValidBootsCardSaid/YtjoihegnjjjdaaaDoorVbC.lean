/- Vb (written by wip/tools) -/
import Derived.Test.YtjoihegnjjjdaaaDoorVbB
set_option linter.unusedVariables false
set_option linter.unusedSimpArgs false
set_option maxRecDepth 10000
namespace Go.Proofs.YtjoihegnjjjdaaaDoor
open Go Go.RowKit
theorem ag163 : aggB Tryd.prog 163 = some true := by kernel_rfl
theorem ag96 : aggB Tryd.prog 96 = some true := by kernel_rfl
theorem bd163 : bdB Tryd.prog 163 = true := by kernel_rfl
theorem pl163 : placesB Tryd.prog 163 = some #[(0, 1), (1, 1)] := by kernel_rfl
theorem el120 : ElemOk Tryd.prog 120 2 32 [.slice none 0 0, .int .i64 0] := ⟨by kernel_rfl, by kernel_rfl, by kernel_rfl, rfl, by decide⟩
theorem el4 : ElemOk Tryd.prog 4 1 1 [.bool false] := ⟨by kernel_rfl, by kernel_rfl, by kernel_rfl, rfl, by decide⟩
theorem el80 : ElemOk Tryd.prog 80 21 104 [.int .u32 0, .int .u32 0, .int .u32 0, .int .u32 0, .int .u32 0, .int .u32 0, .int .u32 0, .int .u32 0, .int .u32 0, .int .u32 0, .int .u32 0, .int .u32 0, .int .u32 0, .int .u32 0, .int .u32 0, .int .u32 0, .int .u32 0, .int .i64 0, .int .i64 0, .int .i64 0, .int .i64 0] := ⟨by kernel_rfl, by kernel_rfl, by kernel_rfl, rfl, by decide⟩
theorem el96 : ElemOk Tryd.prog 96 66 80 [.int .i64 0, .bool false, .int .u8 0, .int .u8 0, .int .u8 0, .int .u8 0, .int .u8 0, .int .u8 0, .int .u8 0, .int .u8 0, .int .u8 0, .int .u8 0, .int .u8 0, .int .u8 0, .int .u8 0, .int .u8 0, .int .u8 0, .int .u8 0, .int .u8 0, .int .u8 0, .int .u8 0, .int .u8 0, .int .u8 0, .int .u8 0, .int .u8 0, .int .u8 0, .int .u8 0, .int .u8 0, .int .u8 0, .int .u8 0, .int .u8 0, .int .u8 0, .int .u8 0, .int .u8 0, .int .u8 0, .int .u8 0, .int .u8 0, .int .u8 0, .int .u8 0, .int .u8 0, .int .u8 0, .int .u8 0, .int .u8 0, .int .u8 0, .int .u8 0, .int .u8 0, .int .u8 0, .int .u8 0, .int .u8 0, .int .u8 0, .int .u8 0, .int .u8 0, .int .u8 0, .int .u8 0, .int .u8 0, .int .u8 0, .int .u8 0, .int .u8 0, .int .u8 0, .int .u8 0, .int .u8 0, .int .u8 0, .int .u8 0, .int .u8 0, .int .u8 0, .int .u8 0] := ⟨by kernel_rfl, by kernel_rfl, by kernel_rfl, rfl, by decide⟩
theorem en142 : entersB Tryd.prog 142 = true := by kernel_rfl
theorem en143 : entersB Tryd.prog 143 = true := by kernel_rfl
theorem en144 : entersB Tryd.prog 144 = true := by kernel_rfl
theorem en145 : entersB Tryd.prog 145 = true := by kernel_rfl
theorem en146 : entersB Tryd.prog 146 = true := by kernel_rfl
theorem en147 : entersB Tryd.prog 147 = true := by kernel_rfl
theorem en148 : entersB Tryd.prog 148 = true := by kernel_rfl
theorem en177 : entersB Tryd.prog 177 = true := by kernel_rfl
theorem en178 : entersB Tryd.prog 178 = true := by kernel_rfl
theorem en85 : entersB Tryd.prog 85 = true := by kernel_rfl
theorem en86 : entersB Tryd.prog 86 = true := by kernel_rfl
theorem fd163_0 : fdB Tryd.prog 163 0 = some (false, 0, 1) := by kernel_rfl
theorem fo163_0 : fOff Tryd.prog 163 0 = some 0 := by kernel_rfl
theorem fo167_2 : fOff Tryd.prog 167 2 = some 2 := by kernel_rfl
theorem fo96_2 : fOff Tryd.prog 96 2 = some 2 := by kernel_rfl
theorem sz163 : sizeB Tryd.prog 163 = some 2 := by kernel_rfl
theorem sz23 : sizeB Tryd.prog 23 = some 1 := by kernel_rfl
theorem sz5 : sizeB Tryd.prog 5 = some 1 := by kernel_rfl
theorem sz69 : sizeB Tryd.prog 69 = some 1 := by kernel_rfl
theorem sz72 : sizeB Tryd.prog 72 = some 1 := by kernel_rfl
theorem ze163 : zeroB Tryd.prog 163 = some [.int .i64 0, .int .i64 0] := by kernel_rfl

theorem g_r10_bad_w {w : World} {A : Nat → Addr} {a0 : Int} {r : GR10Err} (hm : g_r10_bad a0 = some r) :
    Calls Tryd.prog 142 [.int .i64 a0].toArray w (Ret fun u w' => u = .agg (eGR10Err r).toArray ∧ Ext w w') := by
  have hS := St.begin NB w
  unfold g_r10_bad at hm
  refine enter Tryd.func142 rfl rfl rfl ?_; intro a H; dsimp only [enumL, Nat.zero_add, Nat.reduceAdd] at H
  refine wp_seq (wp_region_lit (n_alloc H ze163 rfl ?_))
  clear H; intro b21 w22 hN hE23 hs; clear a; intro a H
  replace hS := hS.newBlk hN hE23 hs; clear hN hs
  refine n_nil (then_normal (wp_seq (wp_region_lit (n_q H (q_move rfl) rfl (W_q (q_build (cs := [.int .i64 a0, .int .i64 (-1)]) ze163 bd163 pl163 rfl (by kernel_rfl)) rfl ?_))))); clear H a; intro a H
  refine n_storeAll H rfl rfl (vs := [.int .i64 a0, .int .i64 (-1)]) rfl sz163 (hS.blk 0 rfl) rfl (by simp) ?_
  clear H; intro w24 hN hC25 hz; clear a; intro a H; replace hS := hS.setBlk hN hC25; clear hN hz
  refine n_nil (then_normal (wp_ret ?_))
  obtain rfl := Option.some.inj hm
  refine retL H (.inr rfl) rfl (vs := [.agg #[.int .i64 a0, .int .i64 (-1)]]) (resCell rfl ((hS.blk 0 rfl).ldAll ag163 sz163) resNil) ?_
  replace hS := hS.take 0; simp only [List.take_succ_cons, List.take_zero] at hS
  exact ⟨rfl, hS.x⟩
theorem g_r10_none_w {w : World} {A : Nat → Addr} {r : GR10Err} (hm : g_r10_none = some r) :
    Calls Tryd.prog 148 [].toArray w (Ret fun u w' => u = .agg (eGR10Err r).toArray ∧ Ext w w') := by
  have hS := St.begin NB w
  unfold g_r10_none at hm
  refine enter Tryd.func148 rfl rfl rfl ?_; intro a H; dsimp only [enumL, Nat.zero_add, Nat.reduceAdd] at H
  refine wp_seq (wp_region_lit (n_alloc H ze163 rfl ?_))
  clear H; intro b21 w22 hN hE23 hs; clear a; intro a H
  replace hS := hS.newBlk hN hE23 hs; clear hN hs
  refine n_nil (then_normal (wp_seq (wp_region_lit (n_q H (q_build (cs := [.int .i64 0, .int .i64 (-1)]) ze163 bd163 pl163 rfl (by kernel_rfl)) rfl ?_)))); clear H a; intro a H
  refine n_storeAll H rfl rfl (vs := [.int .i64 0, .int .i64 (-1)]) rfl sz163 (hS.blk 0 rfl) rfl (by simp) ?_
  clear H; intro w24 hN hC25 hz; clear a; intro a H; replace hS := hS.setBlk hN hC25; clear hN hz
  refine n_nil (then_normal (wp_ret ?_))
  obtain rfl := Option.some.inj hm
  refine retL H (.inr rfl) rfl (vs := [.agg #[.int .i64 0, .int .i64 (-1)]]) (resCell rfl ((hS.blk 0 rfl).ldAll ag163 sz163) resNil) ?_
  replace hS := hS.take 0; simp only [List.take_succ_cons, List.take_zero] at hS
  exact ⟨rfl, hS.x⟩
theorem g_r10_pages_w {w : World} {A : Nat → Addr} {cs0 : List Value} {a0 : GPlan} (h0 : RGPlan w cs0 a0) {r : GR10Err} (hm : g_r10_pages a0 = some r) :
    Calls Tryd.prog 143 [.agg cs0.toArray].toArray w (Ret fun u w' => u = .agg (eGR10Err r).toArray ∧ Ext w w') := by
  obtain ⟨vp0_0, vp0_1, vp0_2, vp0_3, rfl, hrp0_0, hrp0_1, hrp0_2, hrp0_3⟩ := h0
  have hS := St.begin NB w
  unfold g_r10_pages at hm
  refine enter Tryd.func143 rfl rfl rfl ?_; intro a H; dsimp only [enumL, Nat.zero_add, Nat.reduceAdd] at H
  refine wp_seq (wp_region_lit (n_box H rfl (cs := [.int .i64 a0.Id, .bool a0.Mobile, vp0_0, vp0_1, vp0_2, .int .i64 a0.Events, vp0_3]) rfl rfl ?_))
  clear H; intro b21 w22 hN hE23 hs; clear a; intro a H
  replace hS := hS.newBlk hN hE23 hs; clear hN hs
  refine n_alloc H ze163 rfl ?_
  clear H; intro b24 w25 hN hE26 hs; clear a; intro a H
  replace hS := hS.newBlk hN hE26 hs; clear hN hs
  refine n_nil (then_normal (wp_seq (wp_seq (wp_region_lit (n_c H (fun HC => ?_)))))); clear H
  refine nc_q HC (q_fieldAddr0 rfl fo68_2) rfl (by kernel_rfl) (V_q (q_load rfl ((hS.blk 1 rfl).ld ag64 rfl)) rfl (by kernel_rfl) ?_); clear HC a; intro a HC
  obtain ⟨A27, c27, hv27, hl27, hm27⟩ := SlR.formV (hrp0_0.ext (Flat.mono _) hS.x)
  refine nc_q HC (q_lenV Tryd.underlying64 rfl hv27) rfl (by kernel_rfl) (V_q (q_lssN (i := a0.Pages.length) (j := 1) rfl rfl) rfl (by kernel_rfl) (V_q (q_move rfl) rfl (by kernel_rfl) (V_g (q_fieldAddr0 rfl fo68_2) (by kernel_rfl) (by kernel_rfl) (by kernel_rfl) (V_g (q_load rfl ((hS.blk 1 rfl).ld ag64 rfl)) (by kernel_rfl) (by kernel_rfl) (by kernel_rfl) (V_g (q_lenV Tryd.underlying64 rfl hv27) (by kernel_rfl) (by kernel_rfl) (by kernel_rfl) (V_g (q_gtrN (i := a0.Pages.length) (j := 32) rfl rfl) (by kernel_rfl) (by kernel_rfl) (by kernel_rfl) (V_or (j := 4) rfl rfl rfl (by kernel_rfl) (by kernel_rfl) ?_))))))); clear HC a; intro a HC
  have H := HC.has; clear HC
  refine n_nil (then_normal (c_cond H rfl (fun hc28 => ?_) (fun hc28 => ?_)))
  · replace hm := condT hm hc28
    refine wp_seq (wp_region_lit ?_)
    replace hm := bindS hm; obtain ⟨r29, hr29, hm⟩ := hm
    refine n_call H rfl en142 (g_r10_bad_w (A := A) hr29) rfl ?_
    clear H; intro x32 w30 hv; clear a; intro a H; obtain ⟨rfl, hE31⟩ := hv
    replace hS := hS.ext hE31
    refine n_storeAll H rfl rfl (vs := [.int .i64 r29.Code, .int .i64 r29.Place]) rfl sz163 (hS.blk 0 rfl) rfl (by simp) ?_
    clear H; intro w33 hN hC34 hz; clear a; intro a H; replace hS := hS.setBlk hN hC34; clear hN hz
    refine n_nil (then_normal (wp_ret (then_ret ?_)))
    obtain rfl := Option.some.inj hm
    replace hS := hS.take 1; simp only [List.take_succ_cons, List.take_zero] at hS
    refine retL H (.inr rfl) rfl (vs := [.agg #[.int .i64 r29.Code, .int .i64 r29.Place]]) (resCell rfl ((hS.blk 0 rfl).ldAll ag163 sz163) resNil) ?_
    replace hS := hS.take 0; simp only [List.take_succ_cons, List.take_zero] at hS
    exact ⟨rfl, hS.x⟩
  · replace hm := condF hm hc28
    refine wp_skip (then_normal (wp_seq (wp_seq (wp_region_lit (n_q H (q_assign rfl) rfl ?_))))); clear H a; intro a H
    refine n_nil (then_normal (wp_block ?_))
    replace hS := hS.pick 1 rfl; dsimp only [List.eraseIdx] at hS
    replace hm := bindS hm; obtain ⟨q35, hm, hm35⟩ := hm; replace hm := iter_some hm; obtain ⟨n35, hm⟩ := hm
    refine c_loop (σ := Nat × Nat) (fun (m, i36) => [(1, .pointer (some ⟨b21, 0, none⟩)), (2, .pointer (some ⟨b24, 0, none⟩)), (3, .int .i64 ((i36 : Nat) : Int))]) (fun (m, i36) wl => iterN (g_r10_pages_L13 a0) m i36 = some q35 ∧ St NB w wl [blkR b21 [.int .i64 a0.Id, .bool a0.Mobile, vp0_0, vp0_1, vp0_2, .int .i64 a0.Events, vp0_3] 68, blkR b24 [.int .i64 0, .int .i64 0] 163]) (fun (m, i36) => m) (n35, 0) H ⟨rfl, rfl, rfl, trivial⟩ ⟨hm, hS⟩ ?_
    clear H hS hm a; intro xx a w37 H hR; obtain ⟨m, i36⟩ := xx; simp only [ent, List.map_cons, List.map_nil] at H; (try dsimp only at hR); obtain ⟨hm, hS⟩ := hR
    replace hm := iterN_step hm; obtain ⟨m35, o35, rfl, hm, hn35⟩ := hm; try dsimp only [g_r10_pages_L13] at hm
    refine wp_seq (wp_seq (wp_region_lit (n_q H (q_move rfl) rfl (W_q (q_fieldAddr0 rfl fo68_2) rfl (W_q (q_load rfl ((hS.blk 0 rfl).ld ag64 rfl)) rfl (W_q (q_lenV Tryd.underlying64 rfl hv27) rfl (W_q (q_lssN (i := i36) (j := a0.Pages.length) rfl rfl) rfl ?_))))))); clear H a; intro a H
    refine n_nil (then_normal (c_cond H rfl (fun hc38 => ?_) (fun hc38 => ?_)))
    · replace hm := condT hm hc38
      have hlt39 : i36 < a0.Pages.length := of_decide_eq_true hc38
      refine wp_skip (then_normal (wp_seq (wp_block (wp_seq ?_))))
      replace hm := bindS hm; obtain ⟨j40, hm, hm40⟩ := hm
      refine c_join (σ := Bool) H (fun q541 => [(1, .pointer (some ⟨b21, 0, none⟩)), (2, .pointer (some ⟨b24, 0, none⟩)), (3, .int .i64 ((i36 : Nat) : Int)), (37, .bool q541)]) (fun q541 wl => (g_r10_pages_J12 a0 i36) q541 = some o35 ∧ St NB w wl [blkR b21 [.int .i64 a0.Id, .bool a0.Mobile, vp0_0, vp0_1, vp0_2, .int .i64 a0.Events, vp0_3] 68, blkR b24 [.int .i64 0, .int .i64 0] 163]) ?_ ?_
      · skip
        refine wp_region_lit (n_q H (q_fieldAddr0 rfl fo68_2) rfl (W_q (q_load rfl ((hS.blk 0 rfl).ld ag64 rfl)) rfl (W_q (q_move rfl) rfl ?_))); clear H a; intro a H
        replace hm := bindS hm; obtain ⟨x542, hx542, hm⟩ := hm
        obtain ⟨adx542, hAx542⟩ := SlR.adV (hrp0_0.ext (Flat.mono _) hS.x) hv27 hx542
        refine n_q H (q_ixV (i := i36) Tryd.underlying64 sz87 rfl hv27 hAx542 rfl (natI hx542)) rfl (W_q (q_fieldAddr rfl fo87_0) rfl (W_q (q_load rfl (SlR.ldCellV (j := 0) (hrp0_0.ext (Flat.mono _) hS.x) hv27 hAx542 ag3 hx542 rfl)) rfl (W_q (q_lss rfl rfl) rfl (W_q (q_move rfl) rfl ?_)))); clear H a; intro a H
        rcases Bool.eq_false_or_eq_true (decide (x542.Rights < 0)) with hg543 | hg543
        · replace H := H.know 29 rfl hg543
          replace hm := condT hm hg543
          refine n_no H rfl rfl (by decide) rfl (W_no rfl rfl (by decide) rfl (W_no rfl rfl (by decide) rfl (W_no rfl rfl (by decide) rfl (W_no rfl rfl (by decide) rfl (W_no rfl rfl (by decide) rfl (W_no rfl rfl (by decide) rfl (W_q (q_pickT rfl rfl) rfl ?_))))))); clear H a; intro a H
          refine n_nil (then_normal ?_)
          obtain rfl := Option.some.inj hm; replace hm := hm40; try dsimp only at hm
          exact join true H ⟨rfl, rfl, rfl, rfl, trivial⟩ ⟨hm, hS⟩
        · replace H := H.know 29 rfl hg543
          replace hm := condF hm hg543
          refine n_yes H rfl rfl (n_q H (q_fieldAddr0 rfl fo68_2) rfl (W_yes rfl rfl (W_q (q_load rfl ((hS.blk 0 rfl).ld ag64 rfl)) rfl (W_yes rfl rfl (W_q (q_move rfl) rfl (W_yes rfl rfl ?_)))))); clear H a; intro a H
          replace hm := bindS hm; obtain ⟨x544, hx544, hm⟩ := hm
          obtain ⟨adx544, hAx544⟩ := SlR.adV (hrp0_0.ext (Flat.mono _) hS.x) hv27 hx544
          refine n_q H (q_ixV (i := i36) Tryd.underlying64 sz87 rfl hv27 hAx544 rfl (natI hx544)) rfl (W_yes rfl rfl (W_q (q_fieldAddr rfl fo87_0) rfl (W_yes rfl rfl (W_q (q_load rfl (SlR.ldCellV (j := 0) (hrp0_0.ext (Flat.mono _) hS.x) hv27 hAx544 ag3 hx544 rfl)) rfl (W_yes rfl rfl (W_q (q_gtr rfl rfl) rfl (W_q (q_pickF rfl rfl) rfl ?_))))))); clear H a; intro a H
          refine n_nil (then_normal ?_)
          obtain rfl := Option.some.inj hm; replace hm := hm40; try dsimp only at hm
          exact join (decide (7 < x544.Rights)) H ⟨rfl, rfl, rfl, rfl, trivial⟩ ⟨hm, hS⟩
      · clear H hS hm a; intro q541 a w545 H hR
        simp only [ent, List.map_cons, List.map_nil] at H; (try dsimp only at hR); obtain ⟨hm, hS⟩ := hR; try dsimp only [g_r10_pages_J12] at hm
        refine c_cond H rfl (fun hc546 => ?_) (fun hc546 => ?_)
        · replace hm := condT hm hc546
          refine wp_seq (wp_region_lit (n_q H (q_move rfl) rfl (W_q (q_build (cs := [.int .i64 4, .int .i64 ((i36 : Nat) : Int)]) ze163 bd163 pl163 rfl (by kernel_rfl)) rfl ?_))); clear H a; intro a H
          replace hS := hS.pick 1 rfl; dsimp only [List.eraseIdx] at hS
          refine n_storeAll H rfl rfl (vs := [.int .i64 4, .int .i64 ((i36 : Nat) : Int)]) rfl sz163 (hS.blk 0 rfl) rfl (by simp) ?_
          clear H; intro w547 hN hC548 hz; clear a; intro a H; replace hS := hS.setBlk hN hC548; clear hN hz
          refine n_nil (then_normal (wp_ret (then_ret (block_ret (then_ret (then_ret (block_ret (then_ret ?_))))))))
          obtain rfl := Option.some.inj hm; have hz : _ = q35 := hn35; subst hz; replace hm := hm35; try dsimp only at hm
          obtain rfl := Option.some.inj hm
          replace hS := hS.take 1; simp only [List.take_succ_cons, List.take_zero] at hS
          refine retL H (.inr rfl) rfl (vs := [.agg #[.int .i64 4, .int .i64 ((i36 : Nat) : Int)]]) (resCell rfl ((hS.blk 0 rfl).ldAll ag163 sz163) resNil) ?_
          replace hS := hS.take 0; simp only [List.take_succ_cons, List.take_zero] at hS
          exact ⟨rfl, hS.x⟩
        · replace hm := condF hm hc546
          refine wp_skip (then_normal (wp_seq (wp_region_lit (n_q H (q_fieldAddr0 rfl fo68_2) rfl (W_q (q_load rfl ((hS.blk 0 rfl).ld ag64 rfl)) rfl (W_q (q_move rfl) rfl ?_)))))); clear H a; intro a H
          replace hm := bindS hm; obtain ⟨x549, hx549, hm⟩ := hm
          obtain ⟨adx549, hAx549⟩ := SlR.adV (hrp0_0.ext (Flat.mono _) hS.x) hv27 hx549
          refine n_q H (q_ixV (i := i36) Tryd.underlying64 sz87 rfl hv27 hAx549 rfl (natI hx549)) rfl (W_q (q_fieldAddr rfl fo87_1) rfl (W_q (q_load rfl (SlR.ldCellV (j := 1) (hrp0_0.ext (Flat.mono _) hS.x) hv27 hAx549 ag9 hx549 rfl)) rfl (W_q (q_lenS Tryd.underlying9 rfl) rfl (W_q (q_gtrN (i := x549.Init.size) (j := 64) rfl rfl) rfl ?_)))); clear H a; intro a H
          refine n_nil (then_normal (c_cond H rfl (fun hc550 => ?_) (fun hc550 => ?_)))
          · replace hm := condT hm hc550
            refine wp_seq (wp_region_lit (n_q H (q_move rfl) rfl (W_q (q_build (cs := [.int .i64 5, .int .i64 ((i36 : Nat) : Int)]) ze163 bd163 pl163 rfl (by kernel_rfl)) rfl ?_))); clear H a; intro a H
            replace hS := hS.pick 1 rfl; dsimp only [List.eraseIdx] at hS
            refine n_storeAll H rfl rfl (vs := [.int .i64 5, .int .i64 ((i36 : Nat) : Int)]) rfl sz163 (hS.blk 0 rfl) rfl (by simp) ?_
            clear H; intro w551 hN hC552 hz; clear a; intro a H; replace hS := hS.setBlk hN hC552; clear hN hz
            refine n_nil (then_normal (wp_ret (block_ret (then_ret (then_ret (block_ret (then_ret ?_)))))))
            obtain rfl := Option.some.inj hm; have hz : _ = q35 := hn35; subst hz; replace hm := hm35; try dsimp only at hm
            obtain rfl := Option.some.inj hm
            replace hS := hS.take 1; simp only [List.take_succ_cons, List.take_zero] at hS
            refine retL H (.inr rfl) rfl (vs := [.agg #[.int .i64 5, .int .i64 ((i36 : Nat) : Int)]]) (resCell rfl ((hS.blk 0 rfl).ldAll ag163 sz163) resNil) ?_
            replace hS := hS.take 0; simp only [List.take_succ_cons, List.take_zero] at hS
            exact ⟨rfl, hS.x⟩
          · replace hm := condF hm hc550
            refine wp_skip (block_normal (then_normal (wp_region_lit (n_q H (q_move rfl) rfl (W_q (q_incr (i := i36) (j := 1) rfl rfl (by omega)) rfl (W_q (q_assign rfl) rfl ?_)))))); clear H a; intro a H
            refine n_nil (then_normal ?_)
            obtain rfl := Option.some.inj hm
            exact round (m35, i36 + 1) H ⟨rfl, rfl, rfl, trivial⟩ ⟨hn35, hS⟩ (Nat.lt_succ_self _)
    · replace hm := condF hm hc38
      refine wp_exit (then_exit (then_exit (block_exit ?_)))
      obtain rfl := Option.some.inj hm; have hz : _ = q35 := hn35; subst hz; replace hm := hm35; try dsimp only at hm
      refine then_normal (wp_seq (wp_region_lit ?_))
      replace hm := bindS hm; obtain ⟨r553, hr553, hm⟩ := hm
      refine n_call H rfl en148 (g_r10_none_w (A := A) hr553) rfl ?_
      clear H; intro x556 w554 hv; clear a; intro a H; obtain ⟨rfl, hE555⟩ := hv
      replace hS := hS.ext hE555
      replace hS := hS.pick 1 rfl; dsimp only [List.eraseIdx] at hS
      refine n_storeAll H rfl rfl (vs := [.int .i64 r553.Code, .int .i64 r553.Place]) rfl sz163 (hS.blk 0 rfl) rfl (by simp) ?_
      clear H; intro w557 hN hC558 hz; clear a; intro a H; replace hS := hS.setBlk hN hC558; clear hN hz
      refine n_nil (then_normal (wp_ret ?_))
      obtain rfl := Option.some.inj hm
      replace hS := hS.take 1; simp only [List.take_succ_cons, List.take_zero] at hS
      refine retL H (.inr rfl) rfl (vs := [.agg #[.int .i64 r553.Code, .int .i64 r553.Place]]) (resCell rfl ((hS.blk 0 rfl).ldAll ag163 sz163) resNil) ?_
      replace hS := hS.take 0; simp only [List.take_succ_cons, List.take_zero] at hS
      exact ⟨rfl, hS.x⟩
theorem g_r10_procs_w {w : World} {A : Nat → Addr} {cs0 : List Value} {a0 : GPlan} (h0 : RGPlan w cs0 a0) {r : GR10Err} (hm : g_r10_procs a0 = some r) :
    Calls Tryd.prog 144 [.agg cs0.toArray].toArray w (Ret fun u w' => u = .agg (eGR10Err r).toArray ∧ Ext w w') := by
  obtain ⟨vp0_0, vp0_1, vp0_2, vp0_3, rfl, hrp0_0, hrp0_1, hrp0_2, hrp0_3⟩ := h0
  have hS := St.begin NB w
  unfold g_r10_procs at hm
  refine enter Tryd.func144 rfl rfl rfl ?_; intro a H; dsimp only [enumL, Nat.zero_add, Nat.reduceAdd] at H
  refine wp_seq (wp_region_lit (n_box H rfl (cs := [.int .i64 a0.Id, .bool a0.Mobile, vp0_0, vp0_1, vp0_2, .int .i64 a0.Events, vp0_3]) rfl rfl ?_))
  clear H; intro b21 w22 hN hE23 hs; clear a; intro a H
  replace hS := hS.newBlk hN hE23 hs; clear hN hs
  refine n_alloc H ze163 rfl ?_
  clear H; intro b24 w25 hN hE26 hs; clear a; intro a H
  replace hS := hS.newBlk hN hE26 hs; clear hN hs
  refine n_nil (then_normal (wp_seq (wp_seq (wp_region_lit (n_c H (fun HC => ?_)))))); clear H
  refine nc_q HC (q_fieldAddr0 rfl fo68_3) rfl (by kernel_rfl) (V_q (q_load rfl ((hS.blk 1 rfl).ld ag65 rfl)) rfl (by kernel_rfl) ?_); clear HC a; intro a HC
  obtain ⟨A27, c27, hv27, hl27, hm27⟩ := SlR.formV (hrp0_1.ext (Flat.mono _) hS.x)
  refine nc_q HC (q_lenV Tryd.underlying65 rfl hv27) rfl (by kernel_rfl) (V_q (q_lssN (i := a0.Procs.length) (j := 1) rfl rfl) rfl (by kernel_rfl) (V_q (q_move rfl) rfl (by kernel_rfl) (V_g (q_fieldAddr0 rfl fo68_3) (by kernel_rfl) (by kernel_rfl) (by kernel_rfl) (V_g (q_load rfl ((hS.blk 1 rfl).ld ag65 rfl)) (by kernel_rfl) (by kernel_rfl) (by kernel_rfl) (V_g (q_lenV Tryd.underlying65 rfl hv27) (by kernel_rfl) (by kernel_rfl) (by kernel_rfl) (V_g (q_gtrN (i := a0.Procs.length) (j := 8) rfl rfl) (by kernel_rfl) (by kernel_rfl) (by kernel_rfl) (V_or (j := 4) rfl rfl rfl (by kernel_rfl) (by kernel_rfl) ?_))))))); clear HC a; intro a HC
  have H := HC.has; clear HC
  refine n_nil (then_normal (c_cond H rfl (fun hc28 => ?_) (fun hc28 => ?_)))
  · replace hm := condT hm hc28
    refine wp_seq (wp_region_lit ?_)
    replace hm := bindS hm; obtain ⟨r29, hr29, hm⟩ := hm
    refine n_call H rfl en142 (g_r10_bad_w (A := A) hr29) rfl ?_
    clear H; intro x32 w30 hv; clear a; intro a H; obtain ⟨rfl, hE31⟩ := hv
    replace hS := hS.ext hE31
    refine n_storeAll H rfl rfl (vs := [.int .i64 r29.Code, .int .i64 r29.Place]) rfl sz163 (hS.blk 0 rfl) rfl (by simp) ?_
    clear H; intro w33 hN hC34 hz; clear a; intro a H; replace hS := hS.setBlk hN hC34; clear hN hz
    refine n_nil (then_normal (wp_ret (then_ret ?_)))
    obtain rfl := Option.some.inj hm
    replace hS := hS.take 1; simp only [List.take_succ_cons, List.take_zero] at hS
    refine retL H (.inr rfl) rfl (vs := [.agg #[.int .i64 r29.Code, .int .i64 r29.Place]]) (resCell rfl ((hS.blk 0 rfl).ldAll ag163 sz163) resNil) ?_
    replace hS := hS.take 0; simp only [List.take_succ_cons, List.take_zero] at hS
    exact ⟨rfl, hS.x⟩
  · replace hm := condF hm hc28
    refine wp_skip (then_normal (wp_seq (wp_seq (wp_region_lit (n_q H (q_assign rfl) rfl ?_))))); clear H a; intro a H
    refine n_nil (then_normal (wp_block ?_))
    replace hS := hS.pick 1 rfl; dsimp only [List.eraseIdx] at hS
    replace hm := bindS hm; obtain ⟨q35, hm, hm35⟩ := hm; replace hm := iter_some hm; obtain ⟨n35, hm⟩ := hm
    refine c_loop (σ := Nat × Nat) (fun (m, i36) => [(1, .pointer (some ⟨b21, 0, none⟩)), (2, .pointer (some ⟨b24, 0, none⟩)), (3, .int .i64 ((i36 : Nat) : Int))]) (fun (m, i36) wl => iterN (g_r10_procs_L7 a0) m i36 = some q35 ∧ St NB w wl [blkR b21 [.int .i64 a0.Id, .bool a0.Mobile, vp0_0, vp0_1, vp0_2, .int .i64 a0.Events, vp0_3] 68, blkR b24 [.int .i64 0, .int .i64 0] 163]) (fun (m, i36) => m) (n35, 0) H ⟨rfl, rfl, rfl, trivial⟩ ⟨hm, hS⟩ ?_
    clear H hS hm a; intro xx a w37 H hR; obtain ⟨m, i36⟩ := xx; simp only [ent, List.map_cons, List.map_nil] at H; (try dsimp only at hR); obtain ⟨hm, hS⟩ := hR
    replace hm := iterN_step hm; obtain ⟨m35, o35, rfl, hm, hn35⟩ := hm; try dsimp only [g_r10_procs_L7] at hm
    refine wp_seq (wp_seq (wp_region_lit (n_q H (q_move rfl) rfl (W_q (q_fieldAddr0 rfl fo68_3) rfl (W_q (q_load rfl ((hS.blk 0 rfl).ld ag65 rfl)) rfl (W_q (q_lenV Tryd.underlying65 rfl hv27) rfl (W_q (q_lssN (i := i36) (j := a0.Procs.length) rfl rfl) rfl ?_))))))); clear H a; intro a H
    refine n_nil (then_normal (c_cond H rfl (fun hc38 => ?_) (fun hc38 => ?_)))
    · replace hm := condT hm hc38
      have hlt39 : i36 < a0.Procs.length := of_decide_eq_true hc38
      refine wp_skip (then_normal (wp_seq (wp_block (wp_seq (wp_region_lit (n_q H (q_fieldAddr0 rfl fo68_3) rfl (W_q (q_load rfl ((hS.blk 0 rfl).ld ag65 rfl)) rfl (W_q (q_move rfl) rfl ?_)))))))); clear H a; intro a H
      replace hm := bindS hm; obtain ⟨x40, hx40, hm⟩ := hm
      obtain ⟨adx40, hAx40⟩ := SlR.adV (hrp0_1.ext (Flat.mono _) hS.x) hv27 hx40
      refine n_q H (q_ixV (i := i36) Tryd.underlying65 sz167 rfl hv27 hAx40 rfl (natI hx40)) rfl (W_q (q_load rfl (SlR.ldAggV (hrp0_1.ext (Flat.mono _) hS.x) hv27 hAx40 ag167 sz167 hx40)) rfl ?_); clear H a; intro a H
      refine n_alloc H ze167 rfl ?_
      clear H; intro b41 w42 hN hE43 hs; clear a; intro a H
      replace hS := hS.newBlk hN hE43 hs; clear hN hs
      refine n_storeAll H rfl rfl (vs := [.int .i64 x40.Entry, .int .i64 x40.Prio, .bool x40.Auto]) rfl sz167 (hS.blk 0 rfl) rfl (by simp) ?_
      clear H; intro w44 hN hC45 hz; clear a; intro a H; replace hS := hS.setBlk hN hC45; clear hN hz
      refine n_nil (then_normal ?_)
      replace hm := bindS hm; obtain ⟨j46, hm, hm46⟩ := hm
      refine c_join (σ := Bool) H (fun q547 => [(1, .pointer (some ⟨b21, 0, none⟩)), (2, .pointer (some ⟨b24, 0, none⟩)), (3, .int .i64 ((i36 : Nat) : Int)), (55, .bool q547)]) (fun q547 wl => (g_r10_procs_J6 i36) q547 = some o35 ∧ St NB w wl [blkR b21 [.int .i64 a0.Id, .bool a0.Mobile, vp0_0, vp0_1, vp0_2, .int .i64 a0.Events, vp0_3] 68, blkR b24 [.int .i64 0, .int .i64 0] 163]) ?_ ?_
      · skip
        refine wp_region_lit (n_q H (q_fieldAddr0 rfl fo167_0) rfl (W_q (q_load rfl ((hS.blk 0 rfl).ld ag3 rfl)) rfl (W_q (q_lss rfl rfl) rfl (W_q (q_move rfl) rfl ?_)))); clear H a; intro a H
        rcases Bool.eq_false_or_eq_true (decide (x40.Entry < 0)) with hg548 | hg548
        · replace H := H.know 31 rfl hg548
          replace hm := condT hm hg548
          refine n_no H rfl rfl (by decide) rfl (W_no rfl rfl (by decide) rfl (W_no rfl rfl (by decide) rfl (W_no rfl rfl (by decide) rfl (W_q (q_pickT rfl rfl) rfl (W_q (q_move rfl) rfl (W_no rfl rfl (by decide) rfl (W_no rfl rfl (by decide) rfl (W_no rfl rfl (by decide) rfl (W_no rfl rfl (by decide) rfl (W_no rfl rfl (by decide) rfl (W_no rfl rfl (by decide) rfl ?_))))))))))); clear H a; intro a H
          refine n_no H rfl rfl (by decide) rfl (W_q (q_pickT rfl rfl) rfl (W_q (q_move rfl) rfl (W_no rfl rfl (by decide) rfl (W_no rfl rfl (by decide) rfl (W_no rfl rfl (by decide) rfl (W_q (q_pickT rfl rfl) rfl (W_q (q_move rfl) rfl (W_no rfl rfl (by decide) rfl (W_no rfl rfl (by decide) rfl (W_no rfl rfl (by decide) rfl (W_q (q_pickT rfl rfl) rfl ?_))))))))))); clear H a; intro a H
          refine n_nil (then_normal ?_)
          obtain rfl := Option.some.inj hm; replace hm := hm46; try dsimp only at hm
          replace hS := hS.pick 2 rfl; dsimp only [List.eraseIdx] at hS
          replace hS := hS.pick 2 rfl; dsimp only [List.eraseIdx] at hS
          replace hS := hS.take 2; simp only [List.take_succ_cons, List.take_zero] at hS
          exact join true H ⟨rfl, rfl, rfl, rfl, trivial⟩ ⟨hm, hS⟩
        · replace H := H.know 31 rfl hg548
          replace hm := condF hm hg548
          refine n_yes H rfl rfl (n_q H (q_fieldAddr0 rfl fo167_0) rfl (W_yes rfl rfl (W_q (q_load rfl ((hS.blk 0 rfl).ld ag3 rfl)) rfl (W_yes rfl rfl (W_q (q_remW rfl rfl (by decide)) rfl (W_yes rfl rfl (W_q (q_neqD rfl rfl) rfl (W_q (q_pickF rfl rfl) rfl (W_q (q_move rfl) rfl ?_))))))))); clear H a; intro a H
          rcases Bool.eq_false_or_eq_true (!decide ((Int.tmod x40.Entry 4) = 0)) with hg549 | hg549
          · replace H := H.know 37 rfl hg549
            replace hm := condT hm hg549
            refine n_no H rfl rfl (by decide) rfl (W_no rfl rfl (by decide) rfl (W_no rfl rfl (by decide) rfl (W_no rfl rfl (by decide) rfl (W_no rfl rfl (by decide) rfl (W_no rfl rfl (by decide) rfl (W_no rfl rfl (by decide) rfl (W_q (q_pickT rfl rfl) rfl (W_q (q_move rfl) rfl (W_no rfl rfl (by decide) rfl (W_no rfl rfl (by decide) rfl (W_no rfl rfl (by decide) rfl ?_))))))))))); clear H a; intro a H
            refine n_q H (q_pickT rfl rfl) rfl (W_q (q_move rfl) rfl (W_no rfl rfl (by decide) rfl (W_no rfl rfl (by decide) rfl (W_no rfl rfl (by decide) rfl (W_q (q_pickT rfl rfl) rfl ?_))))); clear H a; intro a H
            refine n_nil (then_normal ?_)
            obtain rfl := Option.some.inj hm; replace hm := hm46; try dsimp only at hm
            replace hS := hS.pick 2 rfl; dsimp only [List.eraseIdx] at hS
            replace hS := hS.pick 2 rfl; dsimp only [List.eraseIdx] at hS
            replace hS := hS.take 2; simp only [List.take_succ_cons, List.take_zero] at hS
            exact join true H ⟨rfl, rfl, rfl, rfl, trivial⟩ ⟨hm, hS⟩
          · replace H := H.know 37 rfl hg549
            replace hm := condF hm hg549
            refine n_yes H rfl rfl (n_q H (q_fieldAddr0 rfl fo167_0) rfl (W_yes rfl rfl (W_q (q_load rfl ((hS.blk 0 rfl).ld ag3 rfl)) rfl (W_yes rfl rfl (W_q (q_fieldAddr0 rfl fo68_2) rfl (W_yes rfl rfl (W_q (q_load rfl ((hS.blk 1 rfl).ld ag64 rfl)) rfl (W_yes rfl rfl ?_)))))))); clear H a; intro a H
            obtain ⟨A550, c550, hv550, hl550, hm550⟩ := SlR.formV (hrp0_0.ext (Flat.mono _) hS.x)
            refine n_q H (q_lenV Tryd.underlying64 rfl hv550) rfl (W_yes rfl rfl (W_q (q_mulW rfl rfl) rfl (W_yes rfl rfl (W_q (q_geq rfl rfl) rfl (W_q (q_pickF rfl rfl) rfl (W_q (q_move rfl) rfl ?_)))))); clear H a; intro a H
            rcases Bool.eq_false_or_eq_true (decide ((IntKind.i64.wrap (64 * ((a0.Pages.length : Nat) : Int))) ≤ x40.Entry)) with hg551 | hg551
            · replace H := H.know 46 rfl hg551
              replace hm := condT hm hg551
              refine n_no H rfl rfl (by decide) rfl (W_no rfl rfl (by decide) rfl (W_no rfl rfl (by decide) rfl (W_q (q_pickT rfl rfl) rfl (W_q (q_move rfl) rfl (W_no rfl rfl (by decide) rfl (W_no rfl rfl (by decide) rfl (W_no rfl rfl (by decide) rfl (W_q (q_pickT rfl rfl) rfl ?_)))))))); clear H a; intro a H
              refine n_nil (then_normal ?_)
              obtain rfl := Option.some.inj hm; replace hm := hm46; try dsimp only at hm
              replace hS := hS.pick 2 rfl; dsimp only [List.eraseIdx] at hS
              replace hS := hS.pick 2 rfl; dsimp only [List.eraseIdx] at hS
              replace hS := hS.take 2; simp only [List.take_succ_cons, List.take_zero] at hS
              exact join true H ⟨rfl, rfl, rfl, rfl, trivial⟩ ⟨hm, hS⟩
            · replace H := H.know 46 rfl hg551
              replace hm := condF hm hg551
              refine n_yes H rfl rfl (n_q H (q_fieldAddr0 rfl fo167_1) rfl (W_yes rfl rfl (W_q (q_load rfl ((hS.blk 0 rfl).ld ag3 rfl)) rfl (W_yes rfl rfl (W_q (q_lss rfl rfl) rfl (W_q (q_pickF rfl rfl) rfl (W_q (q_move rfl) rfl ?_))))))); clear H a; intro a H
              rcases Bool.eq_false_or_eq_true (decide (x40.Prio < 0)) with hg552 | hg552
              · replace H := H.know 51 rfl hg552
                replace hm := condT hm hg552
                refine n_no H rfl rfl (by decide) rfl (W_no rfl rfl (by decide) rfl (W_no rfl rfl (by decide) rfl (W_q (q_pickT rfl rfl) rfl ?_))); clear H a; intro a H
                refine n_nil (then_normal ?_)
                obtain rfl := Option.some.inj hm; replace hm := hm46; try dsimp only at hm
                replace hS := hS.pick 2 rfl; dsimp only [List.eraseIdx] at hS
                replace hS := hS.pick 2 rfl; dsimp only [List.eraseIdx] at hS
                replace hS := hS.take 2; simp only [List.take_succ_cons, List.take_zero] at hS
                exact join true H ⟨rfl, rfl, rfl, rfl, trivial⟩ ⟨hm, hS⟩
              · replace H := H.know 51 rfl hg552
                replace hm := condF hm hg552
                refine n_yes H rfl rfl (n_q H (q_fieldAddr0 rfl fo167_1) rfl (W_yes rfl rfl (W_q (q_load rfl ((hS.blk 0 rfl).ld ag3 rfl)) rfl (W_yes rfl rfl (W_q (q_gtr rfl rfl) rfl (W_q (q_pickF rfl rfl) rfl ?_)))))); clear H a; intro a H
                refine n_nil (then_normal ?_)
                obtain rfl := Option.some.inj hm; replace hm := hm46; try dsimp only at hm
                replace hS := hS.pick 2 rfl; dsimp only [List.eraseIdx] at hS
                replace hS := hS.pick 2 rfl; dsimp only [List.eraseIdx] at hS
                replace hS := hS.take 2; simp only [List.take_succ_cons, List.take_zero] at hS
                exact join (decide (255 < x40.Prio)) H ⟨rfl, rfl, rfl, rfl, trivial⟩ ⟨hm, hS⟩
      · clear H hS hm a; intro q547 a w553 H hR
        simp only [ent, List.map_cons, List.map_nil] at H; (try dsimp only at hR); obtain ⟨hm, hS⟩ := hR; try dsimp only [g_r10_procs_J6] at hm
        refine c_cond H rfl (fun hc554 => ?_) (fun hc554 => ?_)
        · replace hm := condT hm hc554
          refine wp_seq (wp_region_lit (n_q H (q_move rfl) rfl (W_q (q_build (cs := [.int .i64 4, .int .i64 ((i36 : Nat) : Int)]) ze163 bd163 pl163 rfl (by kernel_rfl)) rfl ?_))); clear H a; intro a H
          replace hS := hS.pick 1 rfl; dsimp only [List.eraseIdx] at hS
          refine n_storeAll H rfl rfl (vs := [.int .i64 4, .int .i64 ((i36 : Nat) : Int)]) rfl sz163 (hS.blk 0 rfl) rfl (by simp) ?_
          clear H; intro w555 hN hC556 hz; clear a; intro a H; replace hS := hS.setBlk hN hC556; clear hN hz
          refine n_nil (then_normal (wp_ret (block_ret (then_ret (then_ret (block_ret (then_ret ?_)))))))
          obtain rfl := Option.some.inj hm; have hz : _ = q35 := hn35; subst hz; replace hm := hm35; try dsimp only at hm
          obtain rfl := Option.some.inj hm
          replace hS := hS.take 1; simp only [List.take_succ_cons, List.take_zero] at hS
          refine retL H (.inr rfl) rfl (vs := [.agg #[.int .i64 4, .int .i64 ((i36 : Nat) : Int)]]) (resCell rfl ((hS.blk 0 rfl).ldAll ag163 sz163) resNil) ?_
          replace hS := hS.take 0; simp only [List.take_succ_cons, List.take_zero] at hS
          exact ⟨rfl, hS.x⟩
        · replace hm := condF hm hc554
          refine wp_skip (block_normal (then_normal (wp_region_lit (n_q H (q_move rfl) rfl (W_q (q_incr (i := i36) (j := 1) rfl rfl (by omega)) rfl (W_q (q_assign rfl) rfl ?_)))))); clear H a; intro a H
          refine n_nil (then_normal ?_)
          obtain rfl := Option.some.inj hm
          exact round (m35, i36 + 1) H ⟨rfl, rfl, rfl, trivial⟩ ⟨hn35, hS⟩ (Nat.lt_succ_self _)
    · replace hm := condF hm hc38
      refine wp_exit (then_exit (then_exit (block_exit ?_)))
      obtain rfl := Option.some.inj hm; have hz : _ = q35 := hn35; subst hz; replace hm := hm35; try dsimp only at hm
      refine then_normal (wp_seq (wp_region_lit ?_))
      replace hm := bindS hm; obtain ⟨r557, hr557, hm⟩ := hm
      refine n_call H rfl en148 (g_r10_none_w (A := A) hr557) rfl ?_
      clear H; intro x560 w558 hv; clear a; intro a H; obtain ⟨rfl, hE559⟩ := hv
      replace hS := hS.ext hE559
      replace hS := hS.pick 1 rfl; dsimp only [List.eraseIdx] at hS
      refine n_storeAll H rfl rfl (vs := [.int .i64 r557.Code, .int .i64 r557.Place]) rfl sz163 (hS.blk 0 rfl) rfl (by simp) ?_
      clear H; intro w561 hN hC562 hz; clear a; intro a H; replace hS := hS.setBlk hN hC562; clear hN hz
      refine n_nil (then_normal (wp_ret ?_))
      obtain rfl := Option.some.inj hm
      replace hS := hS.take 1; simp only [List.take_succ_cons, List.take_zero] at hS
      refine retL H (.inr rfl) rfl (vs := [.agg #[.int .i64 r557.Code, .int .i64 r557.Place]]) (resCell rfl ((hS.blk 0 rfl).ldAll ag163 sz163) resNil) ?_
      replace hS := hS.take 0; simp only [List.take_succ_cons, List.take_zero] at hS
      exact ⟨rfl, hS.x⟩
theorem g_r07_CheckPlan_w {w : World} {A : Nat → Addr} {a0 : GPortPlan} {r : Int} (hm : g_r07_CheckPlan a0 = some r) :
    Calls Tryd.prog 177 [.agg (eGPortPlan a0).toArray].toArray w (Ret fun u w' => u = .int .i64 r ∧ Ext w w') := by
  have hS := St.begin NB w
  unfold g_r07_CheckPlan at hm
  refine enter Tryd.func177 rfl rfl rfl ?_; intro a H; dsimp only [enumL, Nat.zero_add, Nat.reduceAdd] at H
  refine wp_seq (wp_region_lit (n_box H rfl (cs := [.int .i64 a0.Kind, .int .i64 a0.Size, .int .i64 a0.Depth, .int .i64 a0.Refresh]) rfl rfl ?_))
  clear H; intro b21 w22 hN hE23 hs; clear a; intro a H
  replace hS := hS.newBlk hN hE23 hs; clear hN hs
  refine n_q H (q_assign rfl) rfl ?_; clear H a; intro a H
  refine n_nil (then_normal (wp_seq (wp_seq (wp_region_lit (n_c H (fun HC => ?_)))))); clear H
  refine nc_q HC (q_fieldAddr0 rfl fo169_0) rfl (by kernel_rfl) (V_q (q_load rfl ((hS.blk 0 rfl).ld ag3 rfl)) rfl (by kernel_rfl) (V_q (q_lss rfl rfl) rfl (by kernel_rfl) (V_q (q_move rfl) rfl (by kernel_rfl) (V_g (q_fieldAddr0 rfl fo169_0) (by kernel_rfl) (by kernel_rfl) (by kernel_rfl) (V_g (q_load rfl ((hS.blk 0 rfl).ld ag3 rfl)) (by kernel_rfl) (by kernel_rfl) (by kernel_rfl) (V_g (q_gtr rfl rfl) (by kernel_rfl) (by kernel_rfl) (by kernel_rfl) (V_or (j := 3) rfl rfl rfl (by kernel_rfl) (by kernel_rfl) ?_))))))); clear HC a; intro a HC
  have H := HC.has; clear HC
  refine n_nil (then_normal (c_cond H rfl (fun hc24 => ?_) (fun hc24 => ?_)))
  · replace hm := condT hm hc24
    refine wp_seq (wp_region_lit (n_q H (q_assign rfl) rfl ?_)); clear H a; intro a H
    refine n_nil (then_normal (wp_ret (then_ret ?_)))
    obtain rfl := Option.some.inj hm
    replace hS := hS.take 0; simp only [List.take_succ_cons, List.take_zero] at hS
    refine ret1 H (.inr rfl) rfl rfl ?_
    exact ⟨rfl, hS.x⟩
  · replace hm := condF hm hc24
    refine wp_skip (then_normal (wp_seq (wp_seq (wp_region_lit (n_c H (fun HC => ?_)))))); clear H
    refine nc_q HC (q_fieldAddr0 rfl fo169_1) rfl (by kernel_rfl) (V_q (q_load rfl ((hS.blk 0 rfl).ld ag3 rfl)) rfl (by kernel_rfl) (V_q (q_lss rfl rfl) rfl (by kernel_rfl) (V_q (q_move rfl) rfl (by kernel_rfl) (V_g (q_fieldAddr0 rfl fo169_1) (by kernel_rfl) (by kernel_rfl) (by kernel_rfl) (V_g (q_load rfl ((hS.blk 0 rfl).ld ag3 rfl)) (by kernel_rfl) (by kernel_rfl) (by kernel_rfl) (V_g (q_gtr rfl rfl) (by kernel_rfl) (by kernel_rfl) (by kernel_rfl) (V_or (j := 3) rfl rfl rfl (by kernel_rfl) (by kernel_rfl) ?_))))))); clear HC a; intro a HC
    have H := HC.has; clear HC
    refine n_nil (then_normal (c_cond H rfl (fun hc25 => ?_) (fun hc25 => ?_)))
    · replace hm := condT hm hc25
      refine wp_seq (wp_region_lit (n_q H (q_assign rfl) rfl ?_)); clear H a; intro a H
      refine n_nil (then_normal (wp_ret (then_ret ?_)))
      obtain rfl := Option.some.inj hm
      replace hS := hS.take 0; simp only [List.take_succ_cons, List.take_zero] at hS
      refine ret1 H (.inr rfl) rfl rfl ?_
      exact ⟨rfl, hS.x⟩
    · replace hm := condF hm hc25
      refine wp_skip (then_normal (wp_seq (wp_region_lit (n_q H (q_fieldAddr0 rfl fo169_0) rfl (W_q (q_load rfl ((hS.blk 0 rfl).ld ag3 rfl)) rfl (W_q (q_geq rfl rfl) rfl (W_q (q_assign rfl) rfl ?_))))))); clear H a; intro a H
      refine n_nil (then_normal (wp_seq (wp_seq (wp_region_lit (n_c H (fun HC => ?_)))))); clear H
      refine nc_q HC (q_fieldAddr0 rfl fo169_2) rfl (by kernel_rfl) (V_q (q_load rfl ((hS.blk 0 rfl).ld ag3 rfl)) rfl (by kernel_rfl) (V_q (q_lss rfl rfl) rfl (by kernel_rfl) (V_q (q_move rfl) rfl (by kernel_rfl) (V_g (q_fieldAddr0 rfl fo169_2) (by kernel_rfl) (by kernel_rfl) (by kernel_rfl) (V_g (q_load rfl ((hS.blk 0 rfl).ld ag3 rfl)) (by kernel_rfl) (by kernel_rfl) (by kernel_rfl) (V_g (q_gtr rfl rfl) (by kernel_rfl) (by kernel_rfl) (by kernel_rfl) (V_or (j := 3) rfl rfl rfl (by kernel_rfl) (by kernel_rfl) (V_q (q_move rfl) rfl (by kernel_rfl) (V_g (q_move rfl) (by kernel_rfl) (by kernel_rfl) (by kernel_rfl) (V_g (q_not rfl) (by kernel_rfl) (by kernel_rfl) (by kernel_rfl) (V_g (q_move rfl) (by kernel_rfl) (by kernel_rfl) (by kernel_rfl) ?_))))))))))); clear HC a; intro a HC
      refine nc_g HC (q_fieldAddr0 rfl fo169_2) (by kernel_rfl) (by kernel_rfl) (by kernel_rfl) (V_g (q_load rfl ((hS.blk 0 rfl).ld ag3 rfl)) (by kernel_rfl) (by kernel_rfl) (by kernel_rfl) (V_g (q_neqD rfl rfl) (by kernel_rfl) (by kernel_rfl) (by kernel_rfl) ?_)); clear HC a; intro a HC
      refine nc_andg (j := 11) HC rfl rfl rfl (by kernel_rfl) (by kernel_rfl) (by kernel_rfl) ?_; clear HC a; intro a HC
      refine nc_or (j := 8) HC rfl rfl rfl (by kernel_rfl) (by kernel_rfl) ?_; clear HC a; intro a HC
      have H := HC.has; clear HC
      refine n_nil (then_normal (c_cond H rfl (fun hc26 => ?_) (fun hc26 => ?_)))
      · replace hm := condT hm hc26
        refine wp_seq (wp_region_lit (n_q H (q_assign rfl) rfl ?_)); clear H a; intro a H
        refine n_nil (then_normal (wp_ret (then_ret ?_)))
        obtain rfl := Option.some.inj hm
        replace hS := hS.take 0; simp only [List.take_succ_cons, List.take_zero] at hS
        refine ret1 H (.inr rfl) rfl rfl ?_
        exact ⟨rfl, hS.x⟩
      · replace hm := condF hm hc26
        refine wp_skip (then_normal (wp_seq (wp_seq (wp_region_lit (n_c H (fun HC => ?_)))))); clear H
        refine nc_q HC (q_fieldAddr0 rfl fo169_3) rfl (by kernel_rfl) (V_q (q_load rfl ((hS.blk 0 rfl).ld ag3 rfl)) rfl (by kernel_rfl) (V_q (q_lss rfl rfl) rfl (by kernel_rfl) (V_q (q_move rfl) rfl (by kernel_rfl) (V_g (q_fieldAddr0 rfl fo169_3) (by kernel_rfl) (by kernel_rfl) (by kernel_rfl) (V_g (q_load rfl ((hS.blk 0 rfl).ld ag3 rfl)) (by kernel_rfl) (by kernel_rfl) (by kernel_rfl) (V_g (q_gtr rfl rfl) (by kernel_rfl) (by kernel_rfl) (by kernel_rfl) (V_or (j := 3) rfl rfl rfl (by kernel_rfl) (by kernel_rfl) (V_q (q_move rfl) rfl (by kernel_rfl) (V_g (q_fieldAddr0 rfl fo169_0) (by kernel_rfl) (by kernel_rfl) (by kernel_rfl) (V_g (q_load rfl ((hS.blk 0 rfl).ld ag3 rfl)) (by kernel_rfl) (by kernel_rfl) (by kernel_rfl) (V_g (q_neqD rfl rfl) (by kernel_rfl) (by kernel_rfl) (by kernel_rfl) ?_))))))))))); clear HC a; intro a HC
        refine nc_g HC (q_move rfl) (by kernel_rfl) (by kernel_rfl) (by kernel_rfl) (V_g (q_fieldAddr0 rfl fo169_3) (by kernel_rfl) (by kernel_rfl) (by kernel_rfl) (V_g (q_load rfl ((hS.blk 0 rfl).ld ag3 rfl)) (by kernel_rfl) (by kernel_rfl) (by kernel_rfl) (V_g (q_neqD rfl rfl) (by kernel_rfl) (by kernel_rfl) (by kernel_rfl) ?_))); clear HC a; intro a HC
        refine nc_andg (j := 12) HC rfl rfl rfl (by kernel_rfl) (by kernel_rfl) (by kernel_rfl) ?_; clear HC a; intro a HC
        refine nc_or (j := 8) HC rfl rfl rfl (by kernel_rfl) (by kernel_rfl) ?_; clear HC a; intro a HC
        have H := HC.has; clear HC
        refine n_nil (then_normal (c_cond H rfl (fun hc27 => ?_) (fun hc27 => ?_)))
        · replace hm := condT hm hc27
          refine wp_seq (wp_region_lit (n_q H (q_assign rfl) rfl ?_)); clear H a; intro a H
          refine n_nil (then_normal (wp_ret (then_ret ?_)))
          obtain rfl := Option.some.inj hm
          replace hS := hS.take 0; simp only [List.take_succ_cons, List.take_zero] at hS
          refine ret1 H (.inr rfl) rfl rfl ?_
          exact ⟨rfl, hS.x⟩
        · replace hm := condF hm hc27
          refine wp_skip (then_normal (wp_seq (wp_region_lit (n_q H (q_assign rfl) rfl ?_)))); clear H a; intro a H
          refine n_nil (then_normal (wp_ret ?_))
          obtain rfl := Option.some.inj hm
          replace hS := hS.take 0; simp only [List.take_succ_cons, List.take_zero] at hS
          refine ret1 H (.inr rfl) rfl rfl ?_
          exact ⟨rfl, hS.x⟩
theorem g_r10_ports_w {w : World} {A : Nat → Addr} {cs0 : List Value} {a0 : GPlan} (h0 : RGPlan w cs0 a0) {r : GR10Err} (hm : g_r10_ports a0 = some r) :
    Calls Tryd.prog 145 [.agg cs0.toArray].toArray w (Ret fun u w' => u = .agg (eGR10Err r).toArray ∧ Ext w w') := by
  obtain ⟨vp0_0, vp0_1, vp0_2, vp0_3, rfl, hrp0_0, hrp0_1, hrp0_2, hrp0_3⟩ := h0
  have hS := St.begin NB w
  unfold g_r10_ports at hm
  refine enter Tryd.func145 rfl rfl rfl ?_; intro a H; dsimp only [enumL, Nat.zero_add, Nat.reduceAdd] at H
  refine wp_seq (wp_region_lit (n_box H rfl (cs := [.int .i64 a0.Id, .bool a0.Mobile, vp0_0, vp0_1, vp0_2, .int .i64 a0.Events, vp0_3]) rfl rfl ?_))
  clear H; intro b21 w22 hN hE23 hs; clear a; intro a H
  replace hS := hS.newBlk hN hE23 hs; clear hN hs
  refine n_alloc H ze163 rfl ?_
  clear H; intro b24 w25 hN hE26 hs; clear a; intro a H
  replace hS := hS.newBlk hN hE26 hs; clear hN hs
  refine n_nil (then_normal (wp_seq (wp_seq (wp_region_lit (n_q H (q_fieldAddr0 rfl fo68_4) rfl (W_q (q_load rfl ((hS.blk 1 rfl).ld ag66 rfl)) rfl ?_)))))); clear H a; intro a H
  obtain ⟨A27, c27, hv27, hl27, hm27⟩ := SlR.formV (hrp0_2.ext (Flat.mono _) hS.x)
  refine n_q H (q_lenV Tryd.underlying66 rfl hv27) rfl (W_q (q_gtrN (i := a0.Ports.length) (j := 8) rfl rfl) rfl ?_); clear H a; intro a H
  refine n_nil (then_normal (c_cond H rfl (fun hc28 => ?_) (fun hc28 => ?_)))
  · replace hm := condT hm hc28
    refine wp_seq (wp_region_lit ?_)
    replace hm := bindS hm; obtain ⟨r29, hr29, hm⟩ := hm
    refine n_call H rfl en142 (g_r10_bad_w (A := A) hr29) rfl ?_
    clear H; intro x32 w30 hv; clear a; intro a H; obtain ⟨rfl, hE31⟩ := hv
    replace hS := hS.ext hE31
    refine n_storeAll H rfl rfl (vs := [.int .i64 r29.Code, .int .i64 r29.Place]) rfl sz163 (hS.blk 0 rfl) rfl (by simp) ?_
    clear H; intro w33 hN hC34 hz; clear a; intro a H; replace hS := hS.setBlk hN hC34; clear hN hz
    refine n_nil (then_normal (wp_ret (then_ret ?_)))
    obtain rfl := Option.some.inj hm
    replace hS := hS.take 1; simp only [List.take_succ_cons, List.take_zero] at hS
    refine retL H (.inr rfl) rfl (vs := [.agg #[.int .i64 r29.Code, .int .i64 r29.Place]]) (resCell rfl ((hS.blk 0 rfl).ldAll ag163 sz163) resNil) ?_
    replace hS := hS.take 0; simp only [List.take_succ_cons, List.take_zero] at hS
    exact ⟨rfl, hS.x⟩
  · replace hm := condF hm hc28
    refine wp_skip (then_normal (wp_seq (wp_seq (wp_region_lit (n_q H (q_assign rfl) rfl ?_))))); clear H a; intro a H
    refine n_nil (then_normal (wp_block ?_))
    replace hS := hS.pick 1 rfl; dsimp only [List.eraseIdx] at hS
    replace hm := bindS hm; obtain ⟨q35, hm, hm35⟩ := hm; replace hm := iter_some hm; obtain ⟨n35, hm⟩ := hm
    refine c_loop (σ := Nat × Nat) (fun (m, i36) => [(1, .pointer (some ⟨b21, 0, none⟩)), (2, .pointer (some ⟨b24, 0, none⟩)), (3, .int .i64 ((i36 : Nat) : Int))]) (fun (m, i36) wl => iterN (g_r10_ports_L1 a0) m i36 = some q35 ∧ St NB w wl [blkR b21 [.int .i64 a0.Id, .bool a0.Mobile, vp0_0, vp0_1, vp0_2, .int .i64 a0.Events, vp0_3] 68, blkR b24 [.int .i64 0, .int .i64 0] 163]) (fun (m, i36) => m) (n35, 0) H ⟨rfl, rfl, rfl, trivial⟩ ⟨hm, hS⟩ ?_
    clear H hS hm a; intro xx a w37 H hR; obtain ⟨m, i36⟩ := xx; simp only [ent, List.map_cons, List.map_nil] at H; (try dsimp only at hR); obtain ⟨hm, hS⟩ := hR
    replace hm := iterN_step hm; obtain ⟨m35, o35, rfl, hm, hn35⟩ := hm; try dsimp only [g_r10_ports_L1] at hm
    refine wp_seq (wp_seq (wp_region_lit (n_q H (q_move rfl) rfl (W_q (q_fieldAddr0 rfl fo68_4) rfl (W_q (q_load rfl ((hS.blk 0 rfl).ld ag66 rfl)) rfl (W_q (q_lenV Tryd.underlying66 rfl hv27) rfl (W_q (q_lssN (i := i36) (j := a0.Ports.length) rfl rfl) rfl ?_))))))); clear H a; intro a H
    refine n_nil (then_normal (c_cond H rfl (fun hc38 => ?_) (fun hc38 => ?_)))
    · replace hm := condT hm hc38
      have hlt39 : i36 < a0.Ports.length := of_decide_eq_true hc38
      refine wp_skip (then_normal (wp_seq (wp_block (wp_seq (wp_region_lit (n_q H (q_fieldAddr0 rfl fo68_4) rfl (W_q (q_load rfl ((hS.blk 0 rfl).ld ag66 rfl)) rfl (W_q (q_move rfl) rfl ?_)))))))); clear H a; intro a H
      replace hm := bindS hm; obtain ⟨x40, hx40, hm⟩ := hm
      obtain ⟨adx40, hAx40⟩ := SlR.adV (hrp0_2.ext (Flat.mono _) hS.x) hv27 hx40
      refine n_q H (q_ixV (i := i36) Tryd.underlying66 sz169 rfl hv27 hAx40 rfl (natI hx40)) rfl (W_q (q_load rfl (SlR.ldAggV (hrp0_2.ext (Flat.mono _) hS.x) hv27 hAx40 ag169 sz169 hx40)) rfl ?_); clear H a; intro a H
      replace hm := bindS hm; obtain ⟨r41, hr41, hm⟩ := hm
      refine n_call H rfl en177 (g_r07_CheckPlan_w (A := A) hr41) rfl ?_
      clear H; intro x44 w42 hv; clear a; intro a H; obtain ⟨rfl, hE43⟩ := hv
      replace hS := hS.ext hE43
      refine n_q H (q_assign rfl) rfl ?_; clear H a; intro a H
      refine n_nil (then_normal (wp_seq (wp_region_lit (n_q H (q_move rfl) rfl (W_q (q_neqD rfl rfl) rfl ?_))))); clear H a; intro a H
      refine n_nil (then_normal (c_cond H rfl (fun hc45 => ?_) (fun hc45 => ?_)))
      · replace hm := condT hm hc45
        refine wp_seq (wp_region_lit (n_q H (q_move rfl) rfl (W_q (q_move rfl) rfl (W_q (q_build (cs := [.int .i64 r41, .int .i64 ((i36 : Nat) : Int)]) ze163 bd163 pl163 rfl (by kernel_rfl)) rfl ?_)))); clear H a; intro a H
        replace hS := hS.pick 1 rfl; dsimp only [List.eraseIdx] at hS
        refine n_storeAll H rfl rfl (vs := [.int .i64 r41, .int .i64 ((i36 : Nat) : Int)]) rfl sz163 (hS.blk 0 rfl) rfl (by simp) ?_
        clear H; intro w46 hN hC47 hz; clear a; intro a H; replace hS := hS.setBlk hN hC47; clear hN hz
        refine n_nil (then_normal (wp_ret (block_ret (then_ret (then_ret (block_ret (then_ret ?_)))))))
        obtain rfl := Option.some.inj hm; have hz : _ = q35 := hn35; subst hz; replace hm := hm35; try dsimp only at hm
        obtain rfl := Option.some.inj hm
        replace hS := hS.take 1; simp only [List.take_succ_cons, List.take_zero] at hS
        refine retL H (.inr rfl) rfl (vs := [.agg #[.int .i64 r41, .int .i64 ((i36 : Nat) : Int)]]) (resCell rfl ((hS.blk 0 rfl).ldAll ag163 sz163) resNil) ?_
        replace hS := hS.take 0; simp only [List.take_succ_cons, List.take_zero] at hS
        exact ⟨rfl, hS.x⟩
      · replace hm := condF hm hc45
        refine wp_skip (block_normal (then_normal (wp_region_lit (n_q H (q_move rfl) rfl (W_q (q_incr (i := i36) (j := 1) rfl rfl (by omega)) rfl (W_q (q_assign rfl) rfl ?_)))))); clear H a; intro a H
        refine n_nil (then_normal ?_)
        obtain rfl := Option.some.inj hm
        exact round (m35, i36 + 1) H ⟨rfl, rfl, rfl, trivial⟩ ⟨hn35, hS⟩ (Nat.lt_succ_self _)
    · replace hm := condF hm hc38
      refine wp_exit (then_exit (then_exit (block_exit ?_)))
      obtain rfl := Option.some.inj hm; have hz : _ = q35 := hn35; subst hz; replace hm := hm35; try dsimp only at hm
      refine then_normal (wp_seq (wp_region_lit ?_))
      replace hm := bindS hm; obtain ⟨r48, hr48, hm⟩ := hm
      refine n_call H rfl en148 (g_r10_none_w (A := A) hr48) rfl ?_
      clear H; intro x51 w49 hv; clear a; intro a H; obtain ⟨rfl, hE50⟩ := hv
      replace hS := hS.ext hE50
      replace hS := hS.pick 1 rfl; dsimp only [List.eraseIdx] at hS
      refine n_storeAll H rfl rfl (vs := [.int .i64 r48.Code, .int .i64 r48.Place]) rfl sz163 (hS.blk 0 rfl) rfl (by simp) ?_
      clear H; intro w52 hN hC53 hz; clear a; intro a H; replace hS := hS.setBlk hN hC53; clear hN hz
      refine n_nil (then_normal (wp_ret ?_))
      obtain rfl := Option.some.inj hm
      replace hS := hS.take 1; simp only [List.take_succ_cons, List.take_zero] at hS
      refine retL H (.inr rfl) rfl (vs := [.agg #[.int .i64 r48.Code, .int .i64 r48.Place]]) (resCell rfl ((hS.blk 0 rfl).ldAll ag163 sz163) resNil) ?_
      replace hS := hS.take 0; simp only [List.take_succ_cons, List.take_zero] at hS
      exact ⟨rfl, hS.x⟩
theorem g_r10_things_w {w : World} {A : Nat → Addr} {cs0 : List Value} {a0 : GPlan} (h0 : RGPlan w cs0 a0) {r : GR10Err} (hm : g_r10_things a0 = some r) :
    Calls Tryd.prog 146 [.agg cs0.toArray].toArray w (Ret fun u w' => u = .agg (eGR10Err r).toArray ∧ Ext w w') := by
  obtain ⟨vp0_0, vp0_1, vp0_2, vp0_3, rfl, hrp0_0, hrp0_1, hrp0_2, hrp0_3⟩ := h0
  have hS := St.begin NB w
  unfold g_r10_things at hm
  refine enter Tryd.func146 rfl rfl rfl ?_; intro a H; dsimp only [enumL, Nat.zero_add, Nat.reduceAdd] at H
  refine wp_seq (wp_region_lit (n_box H rfl (cs := [.int .i64 a0.Id, .bool a0.Mobile, vp0_0, vp0_1, vp0_2, .int .i64 a0.Events, vp0_3]) rfl rfl ?_))
  clear H; intro b21 w22 hN hE23 hs; clear a; intro a H
  replace hS := hS.newBlk hN hE23 hs; clear hN hs
  refine n_alloc H ze163 rfl ?_
  clear H; intro b24 w25 hN hE26 hs; clear a; intro a H
  replace hS := hS.newBlk hN hE26 hs; clear hN hs
  refine n_nil (then_normal (wp_seq (wp_seq (wp_region_lit (n_c H (fun HC => ?_)))))); clear H
  refine nc_q HC (q_fieldAddr0 rfl fo68_5) rfl (by kernel_rfl) (V_q (q_load rfl ((hS.blk 1 rfl).ld ag3 rfl)) rfl (by kernel_rfl) (V_q (q_lss rfl rfl) rfl (by kernel_rfl) (V_q (q_move rfl) rfl (by kernel_rfl) (V_g (q_fieldAddr0 rfl fo68_5) (by kernel_rfl) (by kernel_rfl) (by kernel_rfl) (V_g (q_load rfl ((hS.blk 1 rfl).ld ag3 rfl)) (by kernel_rfl) (by kernel_rfl) (by kernel_rfl) (V_g (q_gtr rfl rfl) (by kernel_rfl) (by kernel_rfl) (by kernel_rfl) (V_or (j := 3) rfl rfl rfl (by kernel_rfl) (by kernel_rfl) ?_))))))); clear HC a; intro a HC
  have H := HC.has; clear HC
  refine n_nil (then_normal (c_cond H rfl (fun hc27 => ?_) (fun hc27 => ?_)))
  · replace hm := condT hm hc27
    refine wp_seq (wp_region_lit ?_)
    replace hm := bindS hm; obtain ⟨r28, hr28, hm⟩ := hm
    refine n_call H rfl en142 (g_r10_bad_w (A := A) hr28) rfl ?_
    clear H; intro x31 w29 hv; clear a; intro a H; obtain ⟨rfl, hE30⟩ := hv
    replace hS := hS.ext hE30
    refine n_storeAll H rfl rfl (vs := [.int .i64 r28.Code, .int .i64 r28.Place]) rfl sz163 (hS.blk 0 rfl) rfl (by simp) ?_
    clear H; intro w32 hN hC33 hz; clear a; intro a H; replace hS := hS.setBlk hN hC33; clear hN hz
    refine n_nil (then_normal (wp_ret (then_ret ?_)))
    obtain rfl := Option.some.inj hm
    replace hS := hS.take 1; simp only [List.take_succ_cons, List.take_zero] at hS
    refine retL H (.inr rfl) rfl (vs := [.agg #[.int .i64 r28.Code, .int .i64 r28.Place]]) (resCell rfl ((hS.blk 0 rfl).ldAll ag163 sz163) resNil) ?_
    replace hS := hS.take 0; simp only [List.take_succ_cons, List.take_zero] at hS
    exact ⟨rfl, hS.x⟩
  · replace hm := condF hm hc27
    refine wp_skip (then_normal (wp_seq (wp_seq (wp_region_lit (n_q H (q_fieldAddr0 rfl fo68_6) rfl (W_q (q_load rfl ((hS.blk 1 rfl).ld ag23 rfl)) rfl ?_)))))); clear H a; intro a H
    obtain ⟨A34, c34, hv34, hl34, hm34⟩ := SlR.formV (hrp0_3.ext (Flat.mono _) hS.x)
    refine n_q H (q_lenV Tryd.underlying23 rfl hv34) rfl (W_q (q_gtrN (i := a0.Sems.length) (j := 8) rfl rfl) rfl ?_); clear H a; intro a H
    refine n_nil (then_normal (c_cond H rfl (fun hc35 => ?_) (fun hc35 => ?_)))
    · replace hm := condT hm hc35
      refine wp_seq (wp_region_lit ?_)
      replace hm := bindS hm; obtain ⟨r36, hr36, hm⟩ := hm
      refine n_call H rfl en142 (g_r10_bad_w (A := A) hr36) rfl ?_
      clear H; intro x39 w37 hv; clear a; intro a H; obtain ⟨rfl, hE38⟩ := hv
      replace hS := hS.ext hE38
      refine n_storeAll H rfl rfl (vs := [.int .i64 r36.Code, .int .i64 r36.Place]) rfl sz163 (hS.blk 0 rfl) rfl (by simp) ?_
      clear H; intro w40 hN hC41 hz; clear a; intro a H; replace hS := hS.setBlk hN hC41; clear hN hz
      refine n_nil (then_normal (wp_ret (then_ret ?_)))
      obtain rfl := Option.some.inj hm
      replace hS := hS.take 1; simp only [List.take_succ_cons, List.take_zero] at hS
      refine retL H (.inr rfl) rfl (vs := [.agg #[.int .i64 r36.Code, .int .i64 r36.Place]]) (resCell rfl ((hS.blk 0 rfl).ldAll ag163 sz163) resNil) ?_
      replace hS := hS.take 0; simp only [List.take_succ_cons, List.take_zero] at hS
      exact ⟨rfl, hS.x⟩
    · replace hm := condF hm hc35
      refine wp_skip (then_normal (wp_seq (wp_seq (wp_region_lit (n_q H (q_assign rfl) rfl ?_))))); clear H a; intro a H
      refine n_nil (then_normal (wp_block ?_))
      replace hS := hS.pick 1 rfl; dsimp only [List.eraseIdx] at hS
      replace hm := bindS hm; obtain ⟨q42, hm, hm42⟩ := hm; replace hm := iter_some hm; obtain ⟨n42, hm⟩ := hm
      refine c_loop (σ := Nat × Nat) (fun (m, i43) => [(1, .pointer (some ⟨b21, 0, none⟩)), (2, .pointer (some ⟨b24, 0, none⟩)), (3, .int .i64 ((i43 : Nat) : Int))]) (fun (m, i43) wl => iterN (g_r10_things_L7 a0) m i43 = some q42 ∧ St NB w wl [blkR b21 [.int .i64 a0.Id, .bool a0.Mobile, vp0_0, vp0_1, vp0_2, .int .i64 a0.Events, vp0_3] 68, blkR b24 [.int .i64 0, .int .i64 0] 163]) (fun (m, i43) => m) (n42, 0) H ⟨rfl, rfl, rfl, trivial⟩ ⟨hm, hS⟩ ?_
      clear H hS hm a; intro xx a w44 H hR; obtain ⟨m, i43⟩ := xx; simp only [ent, List.map_cons, List.map_nil] at H; (try dsimp only at hR); obtain ⟨hm, hS⟩ := hR
      replace hm := iterN_step hm; obtain ⟨m42, o42, rfl, hm, hn42⟩ := hm; try dsimp only [g_r10_things_L7] at hm
      refine wp_seq (wp_seq (wp_region_lit (n_q H (q_move rfl) rfl (W_q (q_fieldAddr0 rfl fo68_6) rfl (W_q (q_load rfl ((hS.blk 0 rfl).ld ag23 rfl)) rfl (W_q (q_lenV Tryd.underlying23 rfl hv34) rfl (W_q (q_lssN (i := i43) (j := a0.Sems.length) rfl rfl) rfl ?_))))))); clear H a; intro a H
      refine n_nil (then_normal (c_cond H rfl (fun hc45 => ?_) (fun hc45 => ?_)))
      · replace hm := condT hm hc45
        have hlt46 : i43 < a0.Sems.length := of_decide_eq_true hc45
        refine wp_skip (then_normal (wp_seq (wp_block ?_)))
        replace hm := bindS hm; obtain ⟨j47, hm, hm47⟩ := hm
        refine c_join (σ := Bool) H (fun q548 => [(1, .pointer (some ⟨b21, 0, none⟩)), (2, .pointer (some ⟨b24, 0, none⟩)), (3, .int .i64 ((i43 : Nat) : Int)), (38, .bool q548)]) (fun q548 wl => (g_r10_things_J6 i43) q548 = some o42 ∧ St NB w wl [blkR b21 [.int .i64 a0.Id, .bool a0.Mobile, vp0_0, vp0_1, vp0_2, .int .i64 a0.Events, vp0_3] 68, blkR b24 [.int .i64 0, .int .i64 0] 163]) ?_ ?_
        · skip
          refine wp_region_lit (n_q H (q_fieldAddr0 rfl fo68_6) rfl (W_q (q_load rfl ((hS.blk 0 rfl).ld ag23 rfl)) rfl (W_q (q_move rfl) rfl ?_))); clear H a; intro a H
          replace hm := bindS hm; obtain ⟨x549, hx549, hm⟩ := hm
          obtain ⟨adx549, hAx549⟩ := SlR.adV (hrp0_3.ext (Flat.mono _) hS.x) hv34 hx549
          refine n_q H (q_ixV (i := i43) Tryd.underlying23 sz3 rfl hv34 hAx549 rfl (natI hx549)) rfl (W_q (q_load rfl (SlR.ldOneV (hrp0_3.ext (Flat.mono _) hS.x) hv34 hAx549 ag3 hx549 rfl)) rfl (W_q (q_lss rfl rfl) rfl (W_q (q_move rfl) rfl ?_))); clear H a; intro a H
          rcases Bool.eq_false_or_eq_true (decide (x549 < 0)) with hg550 | hg550
          · replace H := H.know 31 rfl hg550
            replace hm := condT hm hg550
            refine n_no H rfl rfl (by decide) rfl (W_no rfl rfl (by decide) rfl (W_no rfl rfl (by decide) rfl (W_no rfl rfl (by decide) rfl (W_no rfl rfl (by decide) rfl (W_no rfl rfl (by decide) rfl (W_q (q_pickT rfl rfl) rfl ?_)))))); clear H a; intro a H
            refine n_nil (then_normal ?_)
            obtain rfl := Option.some.inj hm; replace hm := hm47; try dsimp only at hm
            exact join true H ⟨rfl, rfl, rfl, rfl, trivial⟩ ⟨hm, hS⟩
          · replace H := H.know 31 rfl hg550
            replace hm := condF hm hg550
            refine n_yes H rfl rfl (n_q H (q_fieldAddr0 rfl fo68_6) rfl (W_yes rfl rfl (W_q (q_load rfl ((hS.blk 0 rfl).ld ag23 rfl)) rfl (W_yes rfl rfl (W_q (q_move rfl) rfl (W_yes rfl rfl ?_)))))); clear H a; intro a H
            replace hm := bindS hm; obtain ⟨x551, hx551, hm⟩ := hm
            obtain ⟨adx551, hAx551⟩ := SlR.adV (hrp0_3.ext (Flat.mono _) hS.x) hv34 hx551
            refine n_q H (q_ixV (i := i43) Tryd.underlying23 sz3 rfl hv34 hAx551 rfl (natI hx551)) rfl (W_yes rfl rfl (W_q (q_load rfl (SlR.ldOneV (hrp0_3.ext (Flat.mono _) hS.x) hv34 hAx551 ag3 hx551 rfl)) rfl (W_yes rfl rfl (W_q (q_gtr rfl rfl) rfl (W_q (q_pickF rfl rfl) rfl ?_))))); clear H a; intro a H
            refine n_nil (then_normal ?_)
            obtain rfl := Option.some.inj hm; replace hm := hm47; try dsimp only at hm
            exact join (decide (255 < x551)) H ⟨rfl, rfl, rfl, rfl, trivial⟩ ⟨hm, hS⟩
        · clear H hS hm a; intro q548 a w552 H hR
          simp only [ent, List.map_cons, List.map_nil] at H; (try dsimp only at hR); obtain ⟨hm, hS⟩ := hR; try dsimp only [g_r10_things_J6] at hm
          refine c_cond H rfl (fun hc553 => ?_) (fun hc553 => ?_)
          · replace hm := condT hm hc553
            refine wp_seq (wp_region_lit (n_q H (q_move rfl) rfl (W_q (q_build (cs := [.int .i64 4, .int .i64 ((i43 : Nat) : Int)]) ze163 bd163 pl163 rfl (by kernel_rfl)) rfl ?_))); clear H a; intro a H
            replace hS := hS.pick 1 rfl; dsimp only [List.eraseIdx] at hS
            refine n_storeAll H rfl rfl (vs := [.int .i64 4, .int .i64 ((i43 : Nat) : Int)]) rfl sz163 (hS.blk 0 rfl) rfl (by simp) ?_
            clear H; intro w554 hN hC555 hz; clear a; intro a H; replace hS := hS.setBlk hN hC555; clear hN hz
            refine n_nil (then_normal (wp_ret (block_ret (then_ret (then_ret (block_ret (then_ret ?_)))))))
            obtain rfl := Option.some.inj hm; have hz : _ = q42 := hn42; subst hz; replace hm := hm42; try dsimp only at hm
            obtain rfl := Option.some.inj hm
            replace hS := hS.take 1; simp only [List.take_succ_cons, List.take_zero] at hS
            refine retL H (.inr rfl) rfl (vs := [.agg #[.int .i64 4, .int .i64 ((i43 : Nat) : Int)]]) (resCell rfl ((hS.blk 0 rfl).ldAll ag163 sz163) resNil) ?_
            replace hS := hS.take 0; simp only [List.take_succ_cons, List.take_zero] at hS
            exact ⟨rfl, hS.x⟩
          · replace hm := condF hm hc553
            refine wp_skip (block_normal (then_normal (wp_region_lit (n_q H (q_move rfl) rfl (W_q (q_incr (i := i43) (j := 1) rfl rfl (by omega)) rfl (W_q (q_assign rfl) rfl ?_)))))); clear H a; intro a H
            refine n_nil (then_normal ?_)
            obtain rfl := Option.some.inj hm
            exact round (m42, i43 + 1) H ⟨rfl, rfl, rfl, trivial⟩ ⟨hn42, hS⟩ (Nat.lt_succ_self _)
      · replace hm := condF hm hc45
        refine wp_exit (then_exit (then_exit (block_exit ?_)))
        obtain rfl := Option.some.inj hm; have hz : _ = q42 := hn42; subst hz; replace hm := hm42; try dsimp only at hm
        refine then_normal (wp_seq (wp_region_lit ?_))
        replace hm := bindS hm; obtain ⟨r556, hr556, hm⟩ := hm
        refine n_call H rfl en148 (g_r10_none_w (A := A) hr556) rfl ?_
        clear H; intro x559 w557 hv; clear a; intro a H; obtain ⟨rfl, hE558⟩ := hv
        replace hS := hS.ext hE558
        replace hS := hS.pick 1 rfl; dsimp only [List.eraseIdx] at hS
        refine n_storeAll H rfl rfl (vs := [.int .i64 r556.Code, .int .i64 r556.Place]) rfl sz163 (hS.blk 0 rfl) rfl (by simp) ?_
        clear H; intro w560 hN hC561 hz; clear a; intro a H; replace hS := hS.setBlk hN hC561; clear hN hz
        refine n_nil (then_normal (wp_ret ?_))
        obtain rfl := Option.some.inj hm
        replace hS := hS.take 1; simp only [List.take_succ_cons, List.take_zero] at hS
        refine retL H (.inr rfl) rfl (vs := [.agg #[.int .i64 r556.Code, .int .i64 r556.Place]]) (resCell rfl ((hS.blk 0 rfl).ldAll ag163 sz163) resNil) ?_
        replace hS := hS.take 0; simp only [List.take_succ_cons, List.take_zero] at hS
        exact ⟨rfl, hS.x⟩
theorem g_r07_Most_w {w : World} {A : Nat → Addr} {a0 : GPortPlan} {r : Int × Int} (hm : g_r07_Most a0 = some r) :
    Calls Tryd.prog 178 [.agg (eGPortPlan a0).toArray].toArray w (Ret fun u w' => u = .tuple #[.int .i64 r.1, .int .i64 r.2] ∧ Ext w w') := by
  have hS := St.begin NB w
  unfold g_r07_Most at hm
  refine enter Tryd.func178 rfl rfl rfl ?_; intro a H; dsimp only [enumL, Nat.zero_add, Nat.reduceAdd] at H
  refine wp_seq (wp_region_lit (n_box H rfl (cs := [.int .i64 a0.Kind, .int .i64 a0.Size, .int .i64 a0.Depth, .int .i64 a0.Refresh]) rfl rfl ?_))
  clear H; intro b21 w22 hN hE23 hs; clear a; intro a H
  replace hS := hS.newBlk hN hE23 hs; clear hN hs
  refine n_q H (q_assign rfl) rfl (W_q (q_assign rfl) rfl ?_); clear H a; intro a H
  refine n_nil (then_normal (wp_seq (wp_seq (wp_region_lit (n_q H (q_load rfl ((hS.blk 0 rfl).ldAll ag169 sz169)) rfl ?_))))); clear H a; intro a H
  replace hm := bindS hm; obtain ⟨r24, hr24, hm⟩ := hm
  refine n_call H rfl en177 (g_r07_CheckPlan_w (A := A) hr24) rfl ?_
  clear H; intro x27 w25 hv; clear a; intro a H; obtain ⟨rfl, hE26⟩ := hv
  replace hS := hS.ext hE26
  refine n_q H (q_neqD rfl rfl) rfl ?_; clear H a; intro a H
  refine n_nil (then_normal (c_cond H rfl (fun hc28 => ?_) (fun hc28 => ?_)))
  · replace hm := condT hm hc28
    refine wp_seq (wp_region_lit (n_q H (q_assign rfl) rfl (W_q (q_assign rfl) rfl ?_))); clear H a; intro a H
    refine n_nil (then_normal (wp_ret (then_ret ?_)))
    obtain rfl := Option.some.inj hm
    replace hS := hS.take 0; simp only [List.take_succ_cons, List.take_zero] at hS
    refine ret2 H (.inr rfl) rfl rfl rfl ?_
    exact ⟨rfl, hS.x⟩
  · replace hm := condF hm hc28
    refine wp_skip (then_normal (wp_seq (wp_seq (wp_region_lit (n_q H (q_fieldAddr0 rfl fo169_0) rfl (W_q (q_load rfl ((hS.blk 0 rfl).ld ag3 rfl)) rfl ?_)))))); clear H a; intro a H
    refine n_nil (then_normal (wp_block (wp_seq (wp_region_lit (n_q H (q_eqlD rfl rfl) rfl (W_q (q_assign rfl) rfl ?_)))))); clear H a; intro a H
    refine n_nil (then_normal (c_cond H rfl (fun hc29 => ?_) (fun hc29 => ?_)))
    · replace hm := condT hm hc29
      refine wp_seq (wp_region_lit (n_q H (q_fieldAddr0 rfl fo169_1) rfl (W_q (q_load rfl ((hS.blk 0 rfl).ld ag3 rfl)) rfl (W_q (q_addW rfl rfl) rfl (W_q (q_assign rfl) rfl (W_q (q_assign rfl) rfl ?_)))))); clear H a; intro a H
      refine n_nil (then_normal (wp_ret (block_ret (then_ret ?_))))
      obtain rfl := Option.some.inj hm
      replace hS := hS.take 0; simp only [List.take_succ_cons, List.take_zero] at hS
      refine ret2 H (.inr rfl) rfl rfl rfl ?_
      exact ⟨rfl, hS.x⟩
    · replace hm := condF hm hc29
      refine wp_seq (wp_region_lit (n_q H (q_eqlD rfl rfl) rfl (W_q (q_assign rfl) rfl ?_))); clear H a; intro a H
      refine n_nil (then_normal (c_cond H rfl (fun hc30 => ?_) (fun hc30 => ?_)))
      · replace hm := condT hm hc30
        refine wp_seq (wp_region_lit (n_q H (q_fieldAddr0 rfl fo169_2) rfl (W_q (q_load rfl ((hS.blk 0 rfl).ld ag3 rfl)) rfl (W_q (q_fieldAddr0 rfl fo169_1) rfl (W_q (q_load rfl ((hS.blk 0 rfl).ld ag3 rfl)) rfl (W_q (q_addW rfl rfl) rfl (W_q (q_mulW rfl rfl) rfl (W_q (q_addW rfl rfl) rfl (W_q (q_assign rfl) rfl (W_q (q_assign rfl) rfl ?_)))))))))); clear H a; intro a H
        refine n_nil (then_normal (wp_ret (block_ret (then_ret ?_))))
        obtain rfl := Option.some.inj hm
        replace hS := hS.take 0; simp only [List.take_succ_cons, List.take_zero] at hS
        refine ret2 H (.inr rfl) rfl rfl rfl ?_
        exact ⟨rfl, hS.x⟩
      · replace hm := condF hm hc30
        refine wp_skip (block_normal (then_normal (wp_seq (wp_region_lit (n_q H (q_assign rfl) rfl (W_q (q_assign rfl) rfl ?_)))))); clear H a; intro a H
        refine n_nil (then_normal (wp_ret ?_))
        obtain rfl := Option.some.inj hm
        replace hS := hS.take 0; simp only [List.take_succ_cons, List.take_zero] at hS
        refine ret2 H (.inr rfl) rfl rfl rfl ?_
        exact ⟨rfl, hS.x⟩
theorem g_r10_bound_w {w : World} {A : Nat → Addr} {cs0 : List Value} {a0 : GPlan} (h0 : RGPlan w cs0 a0) {r : Int} (hm : g_r10_bound a0 = some r) :
    Calls Tryd.prog 147 [.agg cs0.toArray].toArray w (Ret fun u w' => u = .int .i64 r ∧ Ext w w') := by
  obtain ⟨vp0_0, vp0_1, vp0_2, vp0_3, rfl, hrp0_0, hrp0_1, hrp0_2, hrp0_3⟩ := h0
  have hS := St.begin NB w
  unfold g_r10_bound at hm
  refine enter Tryd.func147 rfl rfl rfl ?_; intro a H; dsimp only [enumL, Nat.zero_add, Nat.reduceAdd] at H
  refine wp_seq (wp_region_lit (n_box H rfl (cs := [.int .i64 a0.Id, .bool a0.Mobile, vp0_0, vp0_1, vp0_2, .int .i64 a0.Events, vp0_3]) rfl rfl ?_))
  clear H; intro b21 w22 hN hE23 hs; clear a; intro a H
  replace hS := hS.newBlk hN hE23 hs; clear hN hs
  refine n_q H (q_assign rfl) rfl ?_; clear H a; intro a H
  refine n_nil (then_normal (wp_seq (wp_region_lit (n_q H (q_fieldAddr0 rfl fo68_3) rfl (W_q (q_load rfl ((hS.blk 0 rfl).ld ag65 rfl)) rfl ?_))))); clear H a; intro a H
  obtain ⟨A24, c24, hv24, hl24, hm24⟩ := SlR.formV (hrp0_1.ext (Flat.mono _) hS.x)
  refine n_q H (q_lenV Tryd.underlying65 rfl hv24) rfl (W_q (q_mulW rfl rfl) rfl (W_q (q_addW rfl rfl) rfl (W_q (q_fieldAddr0 rfl fo68_2) rfl (W_q (q_load rfl ((hS.blk 0 rfl).ld ag64 rfl)) rfl ?_)))); clear H a; intro a H
  obtain ⟨A25, c25, hv25, hl25, hm25⟩ := SlR.formV (hrp0_0.ext (Flat.mono _) hS.x)
  refine n_q H (q_lenV Tryd.underlying64 rfl hv25) rfl (W_q (q_mulW rfl rfl) rfl (W_q (q_addW rfl rfl) rfl (W_q (q_fieldAddr0 rfl fo68_5) rfl (W_q (q_load rfl ((hS.blk 0 rfl).ld ag3 rfl)) rfl (W_q (q_addW rfl rfl) rfl (W_q (q_fieldAddr0 rfl fo68_6) rfl (W_q (q_load rfl ((hS.blk 0 rfl).ld ag23 rfl)) rfl ?_))))))); clear H a; intro a H
  obtain ⟨A26, c26, hv26, hl26, hm26⟩ := SlR.formV (hrp0_3.ext (Flat.mono _) hS.x)
  refine n_q H (q_lenV Tryd.underlying23 rfl hv26) rfl (W_q (q_addW rfl rfl) rfl (W_q (q_assign rfl) rfl ?_)); clear H a; intro a H
  refine n_nil (then_normal (wp_seq (wp_seq (wp_region_lit (n_q H (q_assign rfl) rfl ?_))))); clear H a; intro a H
  refine n_nil (then_normal (wp_block ?_))
  replace hm := bindS hm; obtain ⟨q27, hm, hm27⟩ := hm; replace hm := iter_some hm; obtain ⟨n27, hm⟩ := hm
  refine c_loop (σ := Nat × Int × Nat) (fun (m, z28, i29) => [(1, .pointer (some ⟨b21, 0, none⟩)), (3, .int .i64 z28), (4, .int .i64 ((i29 : Nat) : Int))]) (fun (m, z28, i29) wl => iterN (g_r10_bound_L1 a0) m (z28, i29) = some q27 ∧ St NB w wl [blkR b21 [.int .i64 a0.Id, .bool a0.Mobile, vp0_0, vp0_1, vp0_2, .int .i64 a0.Events, vp0_3] 68]) (fun (m, z28, i29) => m) (n27, (IntKind.i64.wrap ((IntKind.i64.wrap ((IntKind.i64.wrap ((IntKind.i64.wrap (58 + (IntKind.i64.wrap (76 * ((a0.Procs.length : Nat) : Int))))) + (IntKind.i64.wrap (68 * ((a0.Pages.length : Nat) : Int))))) + a0.Events)) + ((a0.Sems.length : Nat) : Int))), 0) H ⟨rfl, rfl, rfl, trivial⟩ ⟨hm, hS⟩ ?_
  clear H hS hm a; intro xx a w30 H hR; obtain ⟨m, z28, i29⟩ := xx; simp only [ent, List.map_cons, List.map_nil] at H; (try dsimp only at hR); obtain ⟨hm, hS⟩ := hR
  replace hm := iterN_step hm; obtain ⟨m27, o27, rfl, hm, hn27⟩ := hm; try dsimp only [g_r10_bound_L1] at hm
  refine wp_seq (wp_seq (wp_region_lit (n_q H (q_move rfl) rfl (W_q (q_fieldAddr0 rfl fo68_4) rfl (W_q (q_load rfl ((hS.blk 0 rfl).ld ag66 rfl)) rfl ?_))))); clear H a; intro a H
  obtain ⟨A31, c31, hv31, hl31, hm31⟩ := SlR.formV (hrp0_2.ext (Flat.mono _) hS.x)
  refine n_q H (q_lenV Tryd.underlying66 rfl hv31) rfl (W_q (q_lssN (i := i29) (j := a0.Ports.length) rfl rfl) rfl ?_); clear H a; intro a H
  refine n_nil (then_normal (c_cond H rfl (fun hc32 => ?_) (fun hc32 => ?_)))
  · replace hm := condT hm hc32
    have hlt33 : i29 < a0.Ports.length := of_decide_eq_true hc32
    refine wp_skip (then_normal (wp_seq (wp_block (wp_seq (wp_region_lit (n_q H (q_fieldAddr0 rfl fo68_4) rfl (W_q (q_load rfl ((hS.blk 0 rfl).ld ag66 rfl)) rfl (W_q (q_move rfl) rfl ?_)))))))); clear H a; intro a H
    replace hm := bindS hm; obtain ⟨x34, hx34, hm⟩ := hm
    obtain ⟨adx34, hAx34⟩ := SlR.adV (hrp0_2.ext (Flat.mono _) hS.x) hv31 hx34
    refine n_q H (q_ixV (i := i29) Tryd.underlying66 sz169 rfl hv31 hAx34 rfl (natI hx34)) rfl (W_q (q_load rfl (SlR.ldAggV (hrp0_2.ext (Flat.mono _) hS.x) hv31 hAx34 ag169 sz169 hx34)) rfl ?_); clear H a; intro a H
    replace hm := bindS hm; obtain ⟨r35, hr35, hm⟩ := hm
    refine n_call H rfl en178 (g_r07_Most_w (A := A) hr35) rfl ?_
    clear H; intro x38 w36 hv; clear a; intro a H; obtain ⟨rfl, hE37⟩ := hv
    replace hS := hS.ext hE37
    refine n_q H (q_move rfl) rfl (W_q (q_extract rfl rfl) rfl (W_q (q_extract rfl rfl) rfl (W_q (q_assign rfl) rfl (W_q (q_assign rfl) rfl ?_)))); clear H a; intro a H
    refine n_nil (then_normal (wp_region_lit (n_q H (q_move rfl) rfl (W_q (q_move rfl) rfl (W_q (q_addW rfl rfl) rfl (W_q (q_addW rfl rfl) rfl (W_q (q_assign rfl) rfl ?_))))))); clear H a; intro a H
    refine n_nil (block_normal (then_normal (wp_region_lit (n_q H (q_move rfl) rfl (W_q (q_incr (i := i29) (j := 1) rfl rfl (by omega)) rfl (W_q (q_assign rfl) rfl ?_)))))); clear H a; intro a H
    refine n_nil (then_normal ?_)
    obtain rfl := Option.some.inj hm
    exact round (m27, (IntKind.i64.wrap (z28 + (IntKind.i64.wrap (3 + r35.1)))), i29 + 1) H ⟨rfl, rfl, rfl, trivial⟩ ⟨hn27, hS⟩ (Nat.lt_succ_self _)
  · replace hm := condF hm hc32
    refine wp_exit (then_exit (then_exit (block_exit ?_)))
    obtain rfl := Option.some.inj hm; have hz : _ = q27 := hn27; subst hz; replace hm := hm27; try dsimp only at hm
    refine then_normal (wp_seq (wp_region_lit (n_q H (q_move rfl) rfl (W_q (q_assign rfl) rfl ?_)))); clear H a; intro a H
    refine n_nil (then_normal (wp_ret ?_))
    obtain rfl := Option.some.inj hm
    replace hS := hS.take 0; simp only [List.take_succ_cons, List.take_zero] at hS
    refine ret1 H (.inr rfl) rfl rfl ?_
    exact ⟨rfl, hS.x⟩
theorem g_r10_Check_w {w : World} {A : Nat → Addr} {cs0 : List Value} {a0 : GPlan} (h0 : RGPlan w cs0 a0) {r : GR10Err} (hm : g_r10_Check a0 = some r) :
    Calls Tryd.prog 85 [.agg cs0.toArray].toArray w (Ret fun u w' => u = .agg (eGR10Err r).toArray ∧ Ext w w') := by
  obtain ⟨vp0_0, vp0_1, vp0_2, vp0_3, rfl, hrp0_0, hrp0_1, hrp0_2, hrp0_3⟩ := h0
  have hS := St.begin NB w
  unfold g_r10_Check at hm
  refine enter Tryd.func85 rfl rfl rfl ?_; intro a H; dsimp only [enumL, Nat.zero_add, Nat.reduceAdd] at H
  refine wp_seq (wp_region_lit (n_box H rfl (cs := [.int .i64 a0.Id, .bool a0.Mobile, vp0_0, vp0_1, vp0_2, .int .i64 a0.Events, vp0_3]) rfl rfl ?_))
  clear H; intro b21 w22 hN hE23 hs; clear a; intro a H
  replace hS := hS.newBlk hN hE23 hs; clear hN hs
  refine n_alloc H ze163 rfl ?_
  clear H; intro b24 w25 hN hE26 hs; clear a; intro a H
  replace hS := hS.newBlk hN hE26 hs; clear hN hs
  refine n_nil (then_normal (wp_seq (wp_seq (wp_region_lit (n_c H (fun HC => ?_)))))); clear H
  refine nc_q HC (q_fieldAddr0 rfl fo68_0) rfl (by kernel_rfl) (V_q (q_load rfl ((hS.blk 1 rfl).ld ag3 rfl)) rfl (by kernel_rfl) (V_q (q_lss rfl rfl) rfl (by kernel_rfl) (V_q (q_move rfl) rfl (by kernel_rfl) (V_g (q_fieldAddr0 rfl fo68_0) (by kernel_rfl) (by kernel_rfl) (by kernel_rfl) (V_g (q_load rfl ((hS.blk 1 rfl).ld ag3 rfl)) (by kernel_rfl) (by kernel_rfl) (by kernel_rfl) (V_g (q_gtr rfl rfl) (by kernel_rfl) (by kernel_rfl) (by kernel_rfl) (V_or (j := 3) rfl rfl rfl (by kernel_rfl) (by kernel_rfl) ?_))))))); clear HC a; intro a HC
  have H := HC.has; clear HC
  refine n_nil (then_normal (c_cond H rfl (fun hc27 => ?_) (fun hc27 => ?_)))
  · replace hm := condT hm hc27
    refine wp_seq (wp_region_lit ?_)
    replace hm := bindS hm; obtain ⟨r28, hr28, hm⟩ := hm
    refine n_call H rfl en142 (g_r10_bad_w (A := A) hr28) rfl ?_
    clear H; intro x31 w29 hv; clear a; intro a H; obtain ⟨rfl, hE30⟩ := hv
    replace hS := hS.ext hE30
    refine n_storeAll H rfl rfl (vs := [.int .i64 r28.Code, .int .i64 r28.Place]) rfl sz163 (hS.blk 0 rfl) rfl (by simp) ?_
    clear H; intro w32 hN hC33 hz; clear a; intro a H; replace hS := hS.setBlk hN hC33; clear hN hz
    refine n_nil (then_normal (wp_ret (then_ret ?_)))
    obtain rfl := Option.some.inj hm
    replace hS := hS.take 1; simp only [List.take_succ_cons, List.take_zero] at hS
    refine retL H (.inr rfl) rfl (vs := [.agg #[.int .i64 r28.Code, .int .i64 r28.Place]]) (resCell rfl ((hS.blk 0 rfl).ldAll ag163 sz163) resNil) ?_
    replace hS := hS.take 0; simp only [List.take_succ_cons, List.take_zero] at hS
    exact ⟨rfl, hS.x⟩
  · replace hm := condF hm hc27
    refine wp_skip (then_normal (wp_seq (c_ord [] 10 (by kernel_rfl) ?_)))
    obtain ⟨w34, hw34⟩ : ∃ x, x = w25.drew := ⟨_, rfl⟩; rw [← hw34]; have hE35 : Ext w25 w34 := by rw [hw34]; exact Ext.drew' _
    clear hw34
    replace hS := hS.ext hE35
    have hS36 := hS
    have hW := Nat.le_refl w34.heap.size
    refine k_take 0 H rfl (q_load rfl (LdC.old ((hS36.blk 1 rfl).ldAll ag68 sz68) Ext.rfl' (Nat.le_refl _) (by simp))) rfl (by kernel_rfl) (by kernel_rfl) (by kernel_rfl) (by kernel_rfl) (fun _ _ _ h => h) ?_; clear H a; intro a H
    refine k_take 2 H rfl (q_load rfl (LdC.old ((hS36.blk 1 rfl).ldAll ag68 sz68) Ext.rfl' (Nat.le_refl _) (by simp))) rfl (by kernel_rfl) (by kernel_rfl) (by kernel_rfl) (by kernel_rfl) (fun _ _ _ h => h) ?_; clear H a; intro a H
    refine k_take 4 H rfl (q_load rfl (LdC.old ((hS36.blk 1 rfl).ldAll ag68 sz68) Ext.rfl' (Nat.le_refl _) (by simp))) rfl (by kernel_rfl) (by kernel_rfl) (by kernel_rfl) (by kernel_rfl) (fun _ _ _ h => h) ?_; clear H a; intro a H
    refine k_take 6 H rfl (q_load rfl (LdC.old ((hS36.blk 1 rfl).ldAll ag68 sz68) Ext.rfl' (Nat.le_refl _) (by simp))) rfl (by kernel_rfl) (by kernel_rfl) (by kernel_rfl) (by kernel_rfl) (fun _ _ _ h => h) ?_; clear H a; intro a H
    replace hm := bindS hm; obtain ⟨r37, hr37, hm⟩ := hm
    refine k_of_kk 1 (by kernel_rfl) ?_
    refine kk_call 1 H rfl rfl en143 (g_r10_pages_w (A := A) (⟨_, _, _, _, rfl, (hrp0_0.ext (Flat.mono _) hS.x), (hrp0_1.ext (Flat.mono _) hS.x), (hrp0_2.ext (Flat.mono _) hS.x), (hrp0_3.ext (Flat.mono _) hS.x)⟩ : RGPlan _ [.int .i64 a0.Id, .bool a0.Mobile, vp0_0, vp0_1, vp0_2, .int .i64 a0.Events, vp0_3] a0) hr37) rfl (fun v w hv => .inl (ChgF.of_ext (by obtain ⟨_, hE0⟩ := hv; exact hE0))) ?_
    clear H; intro x40 w38 hv; clear a; intro a H; obtain ⟨rfl, hE39⟩ := hv
    replace hS := hS.ext hE39
    replace hW := Nat.le_trans hW hE39.size
    replace hm := bindS hm; obtain ⟨r41, hr41, hm⟩ := hm
    refine k_of_kk 3 (by kernel_rfl) ?_
    refine kk_call 3 H rfl rfl en144 (g_r10_procs_w (A := A) (⟨_, _, _, _, rfl, (hrp0_0.ext (Flat.mono _) hS.x), (hrp0_1.ext (Flat.mono _) hS.x), (hrp0_2.ext (Flat.mono _) hS.x), (hrp0_3.ext (Flat.mono _) hS.x)⟩ : RGPlan _ [.int .i64 a0.Id, .bool a0.Mobile, vp0_0, vp0_1, vp0_2, .int .i64 a0.Events, vp0_3] a0) hr41) rfl (fun v w hv => .inl (ChgF.of_ext (by obtain ⟨_, hE0⟩ := hv; exact hE0))) ?_
    clear H; intro x44 w42 hv; clear a; intro a H; obtain ⟨rfl, hE43⟩ := hv
    replace hS := hS.ext hE43
    replace hW := Nat.le_trans hW hE43.size
    replace hm := bindS hm; obtain ⟨r45, hr45, hm⟩ := hm
    refine k_of_kk 5 (by kernel_rfl) ?_
    refine kk_call 5 H rfl rfl en145 (g_r10_ports_w (A := A) (⟨_, _, _, _, rfl, (hrp0_0.ext (Flat.mono _) hS.x), (hrp0_1.ext (Flat.mono _) hS.x), (hrp0_2.ext (Flat.mono _) hS.x), (hrp0_3.ext (Flat.mono _) hS.x)⟩ : RGPlan _ [.int .i64 a0.Id, .bool a0.Mobile, vp0_0, vp0_1, vp0_2, .int .i64 a0.Events, vp0_3] a0) hr45) rfl (fun v w hv => .inl (ChgF.of_ext (by obtain ⟨_, hE0⟩ := hv; exact hE0))) ?_
    clear H; intro x48 w46 hv; clear a; intro a H; obtain ⟨rfl, hE47⟩ := hv
    replace hS := hS.ext hE47
    replace hW := Nat.le_trans hW hE47.size
    replace hm := bindS hm; obtain ⟨r49, hr49, hm⟩ := hm
    refine k_of_kk 7 (by kernel_rfl) ?_
    refine kk_call 7 H rfl rfl en146 (g_r10_things_w (A := A) (⟨_, _, _, _, rfl, (hrp0_0.ext (Flat.mono _) hS.x), (hrp0_1.ext (Flat.mono _) hS.x), (hrp0_2.ext (Flat.mono _) hS.x), (hrp0_3.ext (Flat.mono _) hS.x)⟩ : RGPlan _ [.int .i64 a0.Id, .bool a0.Mobile, vp0_0, vp0_1, vp0_2, .int .i64 a0.Events, vp0_3] a0) hr49) rfl (fun v w hv => .inl (ChgF.of_ext (by obtain ⟨_, hE0⟩ := hv; exact hE0))) ?_
    clear H; intro x52 w50 hv; clear a; intro a H; obtain ⟨rfl, hE51⟩ := hv
    replace hS := hS.ext hE51
    replace hW := Nat.le_trans hW hE51.size
    refine k_buildSlice 8 H rfl Tryd.underlying223 sz163 ze163 rfl rfl rfl (cs := [.int .i64 r37.Code, .int .i64 r37.Place, .int .i64 r41.Code, .int .i64 r41.Place, .int .i64 r45.Code, .int .i64 r45.Place, .int .i64 r49.Code, .int .i64 r49.Place]) (by kernel_rfl) rfl (by kernel_rfl) ?_
    clear H; intro b55 w53 hN hE54 hs; clear a; intro a H
    have hge_b55 : w34.heap.size ≤ b55 := hs ▸ hW
    replace hS := hS.newBlk hN hE54 hs; clear hN hs
    replace hW := Nat.le_trans hW hE54.size
    replace hS := hS.blkOwnL (e := eGR10Err) (k := 2) [r37, r41, r45, r49] rfl rfl (by simp [maxLen])
    refine k_takeT 9 H rfl (q_assign rfl) rfl (by kernel_rfl) (by kernel_rfl) (by kernel_rfl) (by kernel_rfl) (fun _ _ _ h => h) ?_; clear H a; intro a H
    refine k_done (by kernel_rfl) ?_
    refine then_normal (wp_seq (wp_seq (wp_region_lit (n_q H (q_assign rfl) rfl ?_)))); clear H a; intro a H
    refine n_nil (then_normal (wp_block ?_))
    replace hS := hS.pick 1 rfl; dsimp only [List.eraseIdx] at hS
    replace hS := hS.pick 2 rfl; dsimp only [List.eraseIdx] at hS
    replace hS := hS.pick 2 rfl; dsimp only [List.eraseIdx] at hS
    replace hm := bindS hm; obtain ⟨q57, hm, hm57⟩ := hm; replace hm := iter_some hm; obtain ⟨n57, hm⟩ := hm
    refine c_loop (σ := Nat × Nat) (fun (m, i58) => [(1, .pointer (some ⟨b21, 0, none⟩)), (2, .pointer (some ⟨b24, 0, none⟩)), (3, .slice (some ⟨b55, 0, none⟩) 4 4), (4, .int .i64 ((i58 : Nat) : Int))]) (fun (m, i58) wl => iterN (g_r10_Check_L1 r37 r41 r45 r49) m i58 = some q57 ∧ St NB w wl [ownR 163 2 (.slice (some ⟨b55, 0, none⟩) 4 4) [r37, r41, r45, r49].length ([r37, r41, r45, r49].flatMap eGR10Err), blkR b21 [.int .i64 a0.Id, .bool a0.Mobile, vp0_0, vp0_1, vp0_2, .int .i64 a0.Events, vp0_3] 68, blkR b24 [.int .i64 0, .int .i64 0] 163]) (fun (m, i58) => m) (n57, 0) H ⟨rfl, rfl, rfl, rfl, trivial⟩ ⟨hm, hS⟩ ?_
    clear H hS hm a; intro xx a w59 H hR; obtain ⟨m, i58⟩ := xx; simp only [ent, List.map_cons, List.map_nil] at H; (try dsimp only at hR); obtain ⟨hm, hS⟩ := hR
    replace hm := iterN_step hm; obtain ⟨m57, o57, rfl, hm, hn57⟩ := hm; try dsimp only [g_r10_Check_L1] at hm
    refine wp_seq (wp_seq (wp_region_lit (n_q H (q_move rfl) rfl (W_q (q_move rfl) rfl ?_)))); clear H a; intro a H
    obtain ⟨A60, c60, hv60, hl60, hm60⟩ := SlR.formV ((hS.own 0 rfl).slr rfl (fun _ _ => rfl))
    refine n_q H (q_lenV Tryd.underlying223 rfl hv60) rfl (W_q (q_lssN (i := i58) (j := ([r37, r41, r45, r49].length)) rfl rfl) rfl ?_); clear H a; intro a H
    refine n_nil (then_normal (c_cond H rfl (fun hc61 => ?_) (fun hc61 => ?_)))
    · replace hm := condT hm hc61
      have hlt62 : i58 < [r37, r41, r45, r49].length := of_decide_eq_true hc61
      refine wp_skip (then_normal (wp_seq (wp_block (wp_seq (wp_region_lit (n_q H (q_move rfl) rfl (W_q (q_move rfl) rfl ?_))))))); clear H a; intro a H
      replace hm := bindS hm; obtain ⟨x63, hx63, hm⟩ := hm
      obtain ⟨adx63, hAx63⟩ := SlR.adV ((hS.own 0 rfl).slr rfl (fun _ _ => rfl)) hv60 hx63
      refine n_q H (q_ixV (i := i58) Tryd.underlying223 sz163 rfl hv60 hAx63 rfl (natI hx63)) rfl (W_q (q_fieldAddr rfl fo163_0) rfl (W_q (q_load rfl (SlR.ldCellV (j := 0) ((hS.own 0 rfl).slr rfl (fun _ _ => rfl)) hv60 hAx63 ag3 hx63 rfl)) rfl (W_q (q_neqD rfl rfl) rfl ?_))); clear H a; intro a H
      refine n_nil (then_normal (c_cond H rfl (fun hc64 => ?_) (fun hc64 => ?_)))
      · replace hm := condT hm hc64
        refine wp_seq (wp_region_lit (n_q H (q_move rfl) rfl (W_q (q_move rfl) rfl ?_))); clear H a; intro a H
        replace hm := bindS hm; obtain ⟨x65, hx65, hm⟩ := hm
        obtain ⟨adx65, hAx65⟩ := SlR.adV ((hS.own 0 rfl).slr rfl (fun _ _ => rfl)) hv60 hx65
        refine n_q H (q_ixV (i := i58) Tryd.underlying223 sz163 rfl hv60 hAx65 rfl (natI hx65)) rfl (W_q (q_load rfl (SlR.ldAggV ((hS.own 0 rfl).slr rfl (fun _ _ => rfl)) hv60 hAx65 ag163 sz163 hx65)) rfl ?_); clear H a; intro a H
        replace hS := hS.pick 2 rfl; dsimp only [List.eraseIdx] at hS
        refine n_storeAll H rfl rfl (vs := [.int .i64 x65.Code, .int .i64 x65.Place]) rfl sz163 (hS.blk 0 rfl) rfl (by simp) ?_
        clear H; intro w66 hN hC67 hz; clear a; intro a H; replace hS := hS.setBlk hN hC67; clear hN hz
        refine n_nil (then_normal (wp_ret (block_ret (then_ret (then_ret (block_ret (then_ret ?_)))))))
        obtain rfl := Option.some.inj hm; have hz : _ = q57 := hn57; subst hz; replace hm := hm57; try dsimp only at hm
        obtain rfl := Option.some.inj hm
        replace hS := hS.take 1; simp only [List.take_succ_cons, List.take_zero] at hS
        refine retL H (.inr rfl) rfl (vs := [.agg #[.int .i64 x65.Code, .int .i64 x65.Place]]) (resCell rfl ((hS.blk 0 rfl).ldAll ag163 sz163) resNil) ?_
        replace hS := hS.take 0; simp only [List.take_succ_cons, List.take_zero] at hS
        exact ⟨rfl, hS.x⟩
      · replace hm := condF hm hc64
        refine wp_skip (block_normal (then_normal (wp_region_lit (n_q H (q_move rfl) rfl (W_q (q_incr (i := i58) (j := 1) rfl rfl (by omega)) rfl (W_q (q_assign rfl) rfl ?_)))))); clear H a; intro a H
        refine n_nil (then_normal ?_)
        obtain rfl := Option.some.inj hm
        exact round (m57, i58 + 1) H ⟨rfl, rfl, rfl, rfl, trivial⟩ ⟨hn57, hS⟩ (Nat.lt_succ_self _)
    · replace hm := condF hm hc61
      refine wp_exit (then_exit (then_exit (block_exit ?_)))
      obtain rfl := Option.some.inj hm; have hz : _ = q57 := hn57; subst hz; replace hm := hm57; try dsimp only at hm
      refine then_normal (wp_seq (wp_seq (wp_region_lit (n_q H (q_load rfl ((hS.blk 1 rfl).ldAll ag68 sz68)) rfl ?_)))); clear H a; intro a H
      replace hm := bindS hm; obtain ⟨r68, hr68, hm⟩ := hm
      refine n_call H rfl en147 (g_r10_bound_w (A := A) (⟨_, _, _, _, rfl, (hrp0_0.ext (Flat.mono _) hS.x), (hrp0_1.ext (Flat.mono _) hS.x), (hrp0_2.ext (Flat.mono _) hS.x), (hrp0_3.ext (Flat.mono _) hS.x)⟩ : RGPlan _ [.int .i64 a0.Id, .bool a0.Mobile, vp0_0, vp0_1, vp0_2, .int .i64 a0.Events, vp0_3] a0) hr68) rfl ?_
      clear H; intro x71 w69 hv; clear a; intro a H; obtain ⟨rfl, hE70⟩ := hv
      replace hS := hS.ext hE70
      refine n_q H (q_gtr rfl rfl) rfl ?_; clear H a; intro a H
      refine n_nil (then_normal (c_cond H rfl (fun hc72 => ?_) (fun hc72 => ?_)))
      · replace hm := condT hm hc72
        refine wp_seq (wp_region_lit ?_)
        replace hm := bindS hm; obtain ⟨r73, hr73, hm⟩ := hm
        refine n_call H rfl en142 (g_r10_bad_w (A := A) hr73) rfl ?_
        clear H; intro x76 w74 hv; clear a; intro a H; obtain ⟨rfl, hE75⟩ := hv
        replace hS := hS.ext hE75
        replace hS := hS.pick 2 rfl; dsimp only [List.eraseIdx] at hS
        refine n_storeAll H rfl rfl (vs := [.int .i64 r73.Code, .int .i64 r73.Place]) rfl sz163 (hS.blk 0 rfl) rfl (by simp) ?_
        clear H; intro w77 hN hC78 hz; clear a; intro a H; replace hS := hS.setBlk hN hC78; clear hN hz
        refine n_nil (then_normal (wp_ret (then_ret ?_)))
        obtain rfl := Option.some.inj hm
        replace hS := hS.take 1; simp only [List.take_succ_cons, List.take_zero] at hS
        refine retL H (.inr rfl) rfl (vs := [.agg #[.int .i64 r73.Code, .int .i64 r73.Place]]) (resCell rfl ((hS.blk 0 rfl).ldAll ag163 sz163) resNil) ?_
        replace hS := hS.take 0; simp only [List.take_succ_cons, List.take_zero] at hS
        exact ⟨rfl, hS.x⟩
      · replace hm := condF hm hc72
        refine wp_skip (then_normal (wp_seq (wp_region_lit ?_)))
        replace hm := bindS hm; obtain ⟨r79, hr79, hm⟩ := hm
        refine n_call H rfl en148 (g_r10_none_w (A := A) hr79) rfl ?_
        clear H; intro x82 w80 hv; clear a; intro a H; obtain ⟨rfl, hE81⟩ := hv
        replace hS := hS.ext hE81
        replace hS := hS.pick 2 rfl; dsimp only [List.eraseIdx] at hS
        refine n_storeAll H rfl rfl (vs := [.int .i64 r79.Code, .int .i64 r79.Place]) rfl sz163 (hS.blk 0 rfl) rfl (by simp) ?_
        clear H; intro w83 hN hC84 hz; clear a; intro a H; replace hS := hS.setBlk hN hC84; clear hN hz
        refine n_nil (then_normal (wp_ret ?_))
        obtain rfl := Option.some.inj hm
        replace hS := hS.take 1; simp only [List.take_succ_cons, List.take_zero] at hS
        refine retL H (.inr rfl) rfl (vs := [.agg #[.int .i64 r79.Code, .int .i64 r79.Place]]) (resCell rfl ((hS.blk 0 rfl).ldAll ag163 sz163) resNil) ?_
        replace hS := hS.take 0; simp only [List.take_succ_cons, List.take_zero] at hS
        exact ⟨rfl, hS.x⟩
theorem g_r10_Good_w {w : World} {A : Nat → Addr} {cs0 : List Value} {a0 : GPlan} (h0 : RGPlan w cs0 a0) {r : Bool} (hm : g_r10_Good a0 = some r) :
    Calls Tryd.prog 45 [.agg cs0.toArray].toArray w (Ret fun u w' => u = .bool r ∧ Ext w w') := by
  obtain ⟨vp0_0, vp0_1, vp0_2, vp0_3, rfl, hrp0_0, hrp0_1, hrp0_2, hrp0_3⟩ := h0
  have hS := St.begin NB w
  unfold g_r10_Good at hm
  refine enter Tryd.func45 rfl rfl rfl ?_; intro a H; dsimp only [enumL, Nat.zero_add, Nat.reduceAdd] at H
  refine wp_seq (wp_region_lit (n_box H rfl (cs := [.int .i64 a0.Id, .bool a0.Mobile, vp0_0, vp0_1, vp0_2, .int .i64 a0.Events, vp0_3]) rfl rfl ?_))
  clear H; intro b21 w22 hN hE23 hs; clear a; intro a H
  replace hS := hS.newBlk hN hE23 hs; clear hN hs
  refine n_q H (q_assign rfl) rfl ?_; clear H a; intro a H
  refine n_nil (then_normal (wp_seq (wp_region_lit (n_q H (q_load rfl ((hS.blk 0 rfl).ldAll ag68 sz68)) rfl ?_)))); clear H a; intro a H
  replace hm := bindS hm; obtain ⟨r24, hr24, hm⟩ := hm
  refine n_call H rfl en85 (g_r10_Check_w (A := A) (⟨_, _, _, _, rfl, (hrp0_0.ext (Flat.mono _) hS.x), (hrp0_1.ext (Flat.mono _) hS.x), (hrp0_2.ext (Flat.mono _) hS.x), (hrp0_3.ext (Flat.mono _) hS.x)⟩ : RGPlan _ [.int .i64 a0.Id, .bool a0.Mobile, vp0_0, vp0_1, vp0_2, .int .i64 a0.Events, vp0_3] a0) hr24) rfl ?_
  clear H; intro x27 w25 hv; clear a; intro a H; obtain ⟨rfl, hE26⟩ := hv
  replace hS := hS.ext hE26
  refine n_q H (q_fieldV fd163_0 rfl rfl) rfl (W_q (q_eqlD rfl rfl) rfl (W_q (q_assign rfl) rfl ?_)); clear H a; intro a H
  refine n_nil (then_normal (wp_ret ?_))
  obtain rfl := Option.some.inj hm
  replace hS := hS.take 0; simp only [List.take_succ_cons, List.take_zero] at hS
  refine ret1 H (.inr rfl) rfl rfl ?_
  exact ⟨rfl, hS.x⟩
theorem g_slices_Clone_int_w {w : World} {A : Nat → Addr} {v0 : Value} {a0 : List Int} (h0 : SlR w 1 (Flat eI) v0 a0) {r : List Int} (hm : g_slices_Clone_int a0 = some r) :
    Calls Tryd.prog 86 [v0].toArray w (Ret fun u w' => ∃ h_0, u = h_0 ∧ St NB w w' [ownR 3 1 h_0 r.length (r.flatMap eI)]) := by
  have hS := St.begin NB w
  unfold g_slices_Clone_int at hm
  refine enter Tryd.func86 rfl rfl rfl ?_; intro a H; dsimp only [enumL, Nat.zero_add, Nat.reduceAdd] at H
  refine wp_seq (wp_region_lit (n_q H (q_assign rfl) rfl ?_)); clear H a; intro a H
  refine n_nil (then_normal (wp_seq (wp_seq (wp_region_lit (n_q H (q_move rfl) rfl ?_))))); clear H a; intro a H
  obtain ⟨A21, c21, hv21, hl21, hm21⟩ := SlR.formV (h0.ext (Flat.mono _) hS.x)
  refine n_q H (q_nilV Tryd.underlying23 rfl hv21 rfl) rfl ?_; clear H a; intro a H
  refine n_nil (then_normal (c_cond H rfl (fun hc22 => ?_) (fun hc22 => ?_)))
  · obtain rfl := SlR.nilV (h0.ext (Flat.mono _) hS.x) hv21 hc22; replace hm := chkS hm; obtain ⟨_, hm⟩ := hm
    refine wp_seq (wp_region_lit (n_q H (q_assign rfl) rfl ?_)); clear H a; intro a H
    refine n_nil (then_normal (wp_ret (then_ret ?_)))
    obtain rfl := Option.some.inj hm
    replace hS := hS.nilOwn 3 1
    refine ret1 H (.inr rfl) rfl rfl ?_
    exact ⟨_, rfl, hS⟩
  · skip
    refine wp_skip (then_normal (wp_seq (wp_region_lit (n_buildSlice H Tryd.underlying23 sz3 ze3 rfl rfl rfl (cs := []) rfl rfl ?_))))
    clear H; intro b26 w24 hN hE25 hs; clear a; intro a H
    replace hS := hS.newBlk hN hE25 hs; clear hN hs
    replace hS := hS.blkOwnL (e := eI) (k := 1) ([] : List Int) rfl rfl (by simp [maxLen])
    refine n_q H (q_move rfl) rfl ?_; clear H a; intro a H
    replace hm := chkS hm; obtain ⟨hk28, hm⟩ := hm
    refine n_app (e := eI) H rfl rfl Tryd.underlying23 Tryd.underlying23 (by simp) el3 (hS.own 0 rfl) ((h0.ext (Flat.mono _) hS.x).src (fun _ _ => rfl)) eI_one hk28 (by simp only [maxLen]; omega) rfl ?_
    clear H; intro v31 w29 hN hC30 hb; clear a; intro a H; replace hS := hS.setOwn hN hC30 hb; clear hN hb
    refine n_q H (q_assign rfl) rfl ?_; clear H a; intro a H
    refine n_nil (then_normal (wp_ret ?_))
    obtain rfl := Option.some.inj hm
    refine ret1 H (.inr rfl) rfl rfl ?_
    exact ⟨_, rfl, hS⟩
set_option maxHeartbeats 4000000 in
theorem g_plan_Boot_w {w : World} {A : Nat → Addr} {cs0 : List Value} {a0 : GPlan} (hG : EV A w) (h0 : RGPlan w cs0 a0) {r : GState × ErrM} (hm : g_plan_Boot a0 = some r) :
    Calls Tryd.prog 46 [.agg cs0.toArray].toArray w (Ret fun u w' => ∃ h_0 h_1 h_2 h_3 h_4 h_5 h_6 h_7, u = .tuple #[.agg #[.int .i64 r.1.Id, .int .i64 r.1.Frame, .int .i64 r.1.Epoch, h_0, h_1, h_2, h_3, h_4, h_5, h_6], h_7] ∧ St NB w w' [ownR 80 21 h_0 r.1.Procs.length (r.1.Procs.flatMap eGProc), ownR 3 1 h_1 r.1.Ready.length (r.1.Ready.flatMap eI), ownR 254 2 h_2 r.1.Timers.length (r.1.Timers.flatMap eGTimer), ownR 4 1 h_3 r.1.Up.length (r.1.Up.flatMap eF), ownR 3 1 h_4 r.1.Sems.length (r.1.Sems.flatMap eI), deepR 120 2 RGPort h_5 r.1.Ports, ownR 96 66 h_6 r.1.Pages.length (r.1.Pages.flatMap eGPage), erQ A h_7 r.2]) := by
  obtain ⟨vp0_0, vp0_1, vp0_2, vp0_3, rfl, hrp0_0, hrp0_1, hrp0_2, hrp0_3⟩ := h0
  have hS := St.begin NB w
  unfold g_plan_Boot at hm
  refine enter Tryd.func46 rfl rfl rfl ?_; intro a H; dsimp only [enumL, Nat.zero_add, Nat.reduceAdd] at H
  refine wp_seq (wp_region_lit (n_box H rfl (cs := [.int .i64 a0.Id, .bool a0.Mobile, vp0_0, vp0_1, vp0_2, .int .i64 a0.Events, vp0_3]) rfl rfl ?_))
  clear H; intro b21 w22 hN hE23 hs; clear a; intro a H
  replace hS := hS.newBlk hN hE23 hs; clear hN hs
  refine n_alloc H ze74 rfl ?_
  clear H; intro b24 w25 hN hE26 hs; clear a; intro a H
  replace hS := hS.newBlk hN hE26 hs; clear hN hs
  refine n_q H (q_assign rfl) rfl ?_; clear H a; intro a H
  refine n_nil (then_normal (wp_seq (wp_seq (wp_region_lit (n_q H (q_load rfl ((hS.blk 1 rfl).ldAll ag68 sz68)) rfl ?_))))); clear H a; intro a H
  replace hm := bindS hm; obtain ⟨r27, hr27, hm⟩ := hm
  refine n_call H rfl en62 (g_plan_Check_w (A := A) (hG.ext hS.x) (⟨_, _, _, _, rfl, (hrp0_0.ext (Flat.mono _) hS.x), (hrp0_1.ext (Flat.mono _) hS.x), (hrp0_2.ext (Flat.mono _) hS.x), (hrp0_3.ext (Flat.mono _) hS.x)⟩ : RGPlan _ [.int .i64 a0.Id, .bool a0.Mobile, vp0_0, vp0_1, vp0_2, .int .i64 a0.Events, vp0_3] a0) hr27) rfl ?_
  clear H; intro u28 w30 hv; clear a; intro a H; obtain ⟨_, rfl, hE31⟩ := hv
  replace hS := hS.new hE31; simp only [List.cons_append, List.nil_append] at hS
  refine n_q H (q_cast (q_nnilI Tryd.underlying36 rfl rfl (hS.any 0 rfl : IsE A w30 u28 r27).form) (show _ = Value.bool (!decide (r27 = .nil)) by rw [IsErr.isNil (hS.any 0 rfl : IsE A w30 u28 r27)])) rfl ?_; clear H a; intro a H
  refine n_nil (then_normal (c_cond H rfl (fun hc33 => ?_) (fun hc33 => ?_)))
  · replace hm := condT hm hc33
    refine wp_seq (c_ord (kB w.heap.size (b21 :: []) w30.drew.heap.size) 4 (by kernel_rfl) ?_)
    obtain ⟨w34, hw34⟩ : ∃ x, x = w30.drew := ⟨_, rfl⟩; rw [← hw34]; have hE35 : Ext w30 w34 := by rw [hw34]; exact Ext.drew' _
    clear hw34
    replace hS := hS.ext hE35
    have hh_b21 := (hS.blk 2 rfl).lt
    have hh36 := hS.x.size
    have hW := Nat.le_refl w34.heap.size
    refine k_takeT 0 H rfl (q_build (cs := [.int .i64 0, .int .i64 0, .int .i64 0, .slice none 0 0, .slice none 0 0, .slice none 0 0, .slice none 0 0, .slice none 0 0, .slice none 0 0, .slice none 0 0]) ze74 bd74 pl74 rfl (by kernel_rfl)) rfl (by kernel_rfl) (by kernel_rfl) (by kernel_rfl) (by kernel_rfl) (fun _ _ _ h => h) ?_; clear H a; intro a H
    refine k_take 1 H rfl (q_load rfl (LdC.old (hG.ld gPlan (by decide) ag36) hS.x hh36 kB_old)) rfl (by kernel_rfl) (by kernel_rfl) (by kernel_rfl) (by kernel_rfl) (fun _ _ _ h => h) ?_; clear H a; intro a H
    replace hS := hS.pick 1 rfl; dsimp only [List.eraseIdx] at hS
    refine k_storeAll 2 H rfl rfl rfl (vs := [.int .i64 0, .int .i64 0, .int .i64 0, .slice none 0 0, .slice none 0 0, .slice none 0 0, .slice none 0 0, .slice none 0 0, .slice none 0 0, .slice none 0 0]) rfl sz74 (hS.blk 0 rfl) rfl (by simp) (by kernel_rfl) (.inl (fun h => mem_kB h (hS.ge (i := 0) rfl) (notin_cons (hS.ne (i := 0) (j := 2) (by decide) rfl rfl) notin_nil))) ?_
    clear H; intro w37 hN hC38 hz; clear a; intro a H; replace hS := hS.setBlk hN hC38; clear hN hz; replace hW := Nat.le_trans hW hC38.size
    refine k_takeT 3 H rfl (q_assign rfl) rfl (by kernel_rfl) (by kernel_rfl) (by kernel_rfl) (by kernel_rfl) (fun _ _ _ h => h) ?_; clear H a; intro a H
    refine k_done (by kernel_rfl) ?_
    refine then_normal (wp_ret (then_ret ?_))
    obtain rfl := Option.some.inj hm
    replace hS := hS.nilOwn 80 21
    replace hS := hS.nilOwn 3 1
    replace hS := hS.nilOwn 254 2
    replace hS := hS.nilOwn 4 1
    replace hS := hS.nilOwn 3 1
    replace hS := hS.deepNil 120 2 RGPort
    replace hS := hS.nilOwn 96 66
    replace hS := hS.dVar (A := A) (g := gPlan) (by decide)
    replace hS := hS.pick 8 rfl; dsimp only [List.eraseIdx] at hS
    replace hS := hS.pick 1 rfl; dsimp only [List.eraseIdx] at hS
    replace hS := hS.pick 2 rfl; dsimp only [List.eraseIdx] at hS
    replace hS := hS.pick 3 rfl; dsimp only [List.eraseIdx] at hS
    replace hS := hS.pick 4 rfl; dsimp only [List.eraseIdx] at hS
    replace hS := hS.pick 5 rfl; dsimp only [List.eraseIdx] at hS
    replace hS := hS.pick 6 rfl; dsimp only [List.eraseIdx] at hS
    replace hS := hS.pick 7 rfl; dsimp only [List.eraseIdx] at hS
    replace hS := hS.pick 8 rfl; dsimp only [List.eraseIdx] at hS
    replace hS := hS.take 9; simp only [List.take_succ_cons, List.take_zero] at hS
    refine retL H (.inr rfl) rfl (vs := [.agg #[.int .i64 0, .int .i64 0, .int .i64 0, .slice none 0 0, .slice none 0 0, .slice none 0 0, .slice none 0 0, .slice none 0 0, .slice none 0 0, .slice none 0 0], sv 329 A gPlan]) (resCell rfl ((hS.blk 8 rfl).ldAll ag74 sz74) (resTmp rfl resNil)) ?_
    replace hS := hS.take 8; simp only [List.take_succ_cons, List.take_zero] at hS
    exact ⟨_, _, _, _, _, _, _, _, rfl, hS⟩
  · replace hm := condF hm hc33
    refine wp_skip (then_normal ?_)
    replace hm := bindS hm; obtain ⟨j47, hm, hm47⟩ := hm
    refine c_join (σ := (List Bool) × (List Int) × (List GPort) × Value × Value × Value × Nat) H (fun (l548, l551, l554, v549, v552, v555, b557) => [(1, .pointer (some ⟨b21, 0, none⟩)), (2, .pointer (some ⟨b24, 0, none⟩)), (4, .pointer (some ⟨b557, 0, none⟩))]) (fun (l548, l551, l554, v549, v552, v555, b557) wl => (g_plan_Boot_J9 a0) (l548, l551, l554) = some r ∧ St NB w wl [blkR b21 [.int .i64 a0.Id, .bool a0.Mobile, vp0_0, vp0_1, vp0_2, .int .i64 a0.Events, vp0_3] 68, blkR b24 [.int .i64 0, .int .i64 0, .int .i64 0, .slice none 0 0, .slice none 0 0, .slice none 0 0, .slice none 0 0, .slice none 0 0, .slice none 0 0, .slice none 0 0] 74, blkR b557 [.int .i64 a0.Id, .int .i64 0, .int .i64 0, .slice none 0 0, .slice none 0 0, .slice none 0 0, v549, v552, v555, .slice none 0 0] 74, ownR 4 1 v549 l548.length (l548.flatMap eF), ownR 3 1 v552 l551.length (l551.flatMap eI), deepR 120 2 RGPort v555 l554]) ?_ ?_
    · skip
      refine c_ord [] 15 (by kernel_rfl) ?_
      obtain ⟨w558, hw558⟩ : ∃ x, x = w30.drew := ⟨_, rfl⟩; rw [← hw558]; have hE559 : Ext w30 w558 := by rw [hw558]; exact Ext.drew' _
      clear hw558
      replace hS := hS.ext hE559
      have hS560 := hS
      have hW := Nat.le_refl w558.heap.size
      refine k_takeT 0 H rfl (q_fieldAddr0 rfl fo68_0) rfl (by kernel_rfl) (by kernel_rfl) (by kernel_rfl) (by kernel_rfl) (fun _ _ _ h => h) ?_; clear H a; intro a H
      refine k_take 1 H rfl (q_load rfl (LdC.old ((hS560.blk 2 rfl).ld ag3 rfl) Ext.rfl' (Nat.le_refl _) (by simp))) rfl (by kernel_rfl) (by kernel_rfl) (by kernel_rfl) (by kernel_rfl) (fun _ _ _ h => h) ?_; clear H a; intro a H
      refine k_takeT 2 H rfl (q_fieldAddr0 rfl fo68_5) rfl (by kernel_rfl) (by kernel_rfl) (by kernel_rfl) (by kernel_rfl) (fun _ _ _ h => h) ?_; clear H a; intro a H
      refine k_take 3 H rfl (q_load rfl (LdC.old ((hS560.blk 2 rfl).ld ag3 rfl) Ext.rfl' (Nat.le_refl _) (by simp))) rfl (by kernel_rfl) (by kernel_rfl) (by kernel_rfl) (by kernel_rfl) (fun _ _ _ h => h) ?_; clear H a; intro a H
      refine k_takeT 5 H rfl (q_fieldAddr0 rfl fo68_6) rfl (by kernel_rfl) (by kernel_rfl) (by kernel_rfl) (by kernel_rfl) (fun _ _ _ h => h) ?_; clear H a; intro a H
      refine k_take 6 H rfl (q_load rfl (LdC.old ((hS560.blk 2 rfl).ld ag23 rfl) Ext.rfl' (Nat.le_refl _) (by simp))) rfl (by kernel_rfl) (by kernel_rfl) (by kernel_rfl) (by kernel_rfl) (fun _ _ _ h => h) ?_; clear H a; intro a H
      refine k_takeT 8 H rfl (q_fieldAddr0 rfl fo68_4) rfl (by kernel_rfl) (by kernel_rfl) (by kernel_rfl) (by kernel_rfl) (fun _ _ _ h => h) ?_; clear H a; intro a H
      refine k_take 9 H rfl (q_load rfl (LdC.old ((hS560.blk 2 rfl).ld ag66 rfl) Ext.rfl' (Nat.le_refl _) (by simp))) rfl (by kernel_rfl) (by kernel_rfl) (by kernel_rfl) (by kernel_rfl) (fun _ _ _ h => h) ?_; clear H a; intro a H
      obtain ⟨A561, c561, hv561, hl561, hm561⟩ := SlR.formV (hrp0_2.ext (Flat.mono _) hS.x)
      refine k_takeT 10 H rfl (q_lenV Tryd.underlying66 rfl hv561) rfl (by kernel_rfl) (by kernel_rfl) (by kernel_rfl) (by kernel_rfl) (fun _ _ _ h => h) ?_; clear H a; intro a H
      replace hm := chkS hm; obtain ⟨hk562, hm⟩ := hm
      replace hm := chkS hm; obtain ⟨hk563, hm⟩ := hm
      replace hm := bindS hm; obtain ⟨r564, hr564, hm⟩ := hm
      replace hm := chkS hm; obtain ⟨hk565, hm⟩ := hm
      refine k_four 4 7 11 13 (by kernel_rfl) ?_ ?_ ?_ ?_
      · skip
        refine kk_makeL (e := eF) (z0 := false) (L := a0.Events.toNat) (C := a0.Events.toNat) 4 H rfl Tryd.underlying28 el4 rfl (by show _ = some (Value.int .i64 ((Int.toNat a0.Events : Nat) : Int)); rw [Int.toNat_of_nonneg hk562]; rfl) (by show _ = some (Value.int .i64 ((Int.toNat a0.Events : Nat) : Int)); rw [Int.toNat_of_nonneg hk562]; rfl) (Nat.le_refl _) hk563 (by simp only [maxLen]; omega) rfl ?_
        clear H; intro b566 w567 hN hE568 hs; clear a; intro a H; replace hS := hS.newOwn hN hE568 (by simp [blks]; omega); clear hN
        replace hW := Nat.le_trans hW hE568.size
        refine k_three 7 11 13 (by kernel_rfl) ?_ ?_ ?_
        · skip
          refine kk_call 7 H rfl rfl en86 (g_slices_Clone_int_w (A := A) (hrp0_3.ext (Flat.mono _) hS.x) hr564) rfl (fun v w hv => .inl (ChgF.of_ext (by obtain ⟨_, _, hE0⟩ := hv; exact hE0.x))) ?_
          clear H; intro u570 w572 hv; clear a; intro a H; obtain ⟨_, rfl, hE573⟩ := hv
          replace hS := hS.new hE573; simp only [List.cons_append, List.nil_append] at hS
          replace hW := Nat.le_trans hW hE573.x.size
          refine k_two 11 13 (by kernel_rfl) ?_ ?_
          · skip
            refine kk_make (L := a0.Ports.length) (C := a0.Ports.length) 11 H rfl Tryd.underlying71 el120 rfl rfl (Nat.le_refl _) hk565 (by simp only [maxLen]; omega) rfl ?_
            clear H; intro b575 w576 hN hE577 hs; clear a; intro a H; replace hS := hS.newOwn hN hE577 (by simp [blks]; omega); clear hN
            replace hS := St.mkDeep0 (R := RGPort) (z0 := (⟨([] : List ByteArray), 0⟩ : GPort)) (n := a0.Ports.length) rfl (by simp) (fun w => ⟨_, rfl, SlR.nil _ _ _⟩) hS
            replace hW := Nat.le_trans hW hE577.size
            refine k_takeT 12 H rfl (q_build (cs := [.int .i64 a0.Id, .int .i64 0, .int .i64 0, .slice none 0 0, .slice none 0 0, .slice none 0 0, .slice (some ⟨b566, 0, none⟩) a0.Events.toNat a0.Events.toNat, u570, .slice (some ⟨b575, 0, none⟩) a0.Ports.length a0.Ports.length, .slice none 0 0]) ze74 bd74 pl74 rfl ((fill1 rfl rfl (by simp)).trans ((fill1 (((hS.own 2 rfl).slr rfl (fun _ _ => rfl))).one rfl (by simp)).trans ((fill1 (((hS.own 1 rfl).slr rfl (fun _ _ => rfl))).one rfl (by simp)).trans ((fill1 ((hS.deepSl 0 rfl)).one rfl (by simp)).trans rfl))))) rfl (by kernel_rfl) (by kernel_rfl) (by kernel_rfl) (by kernel_rfl) (fun _ _ _ h => h) ?_; clear H a; intro a H
            refine k_alloc 13 H rfl ze74 rfl (by kernel_rfl) ?_
            clear H; intro b579 w580 hN hE581 hs; clear a; intro a H
            have hge_b579 : w558.heap.size ≤ b579 := hs ▸ hW
            replace hS := hS.newBlk hN hE581 hs; clear hN hs
            replace hW := Nat.le_trans hW hE581.size
            refine k_storeAll 14 H rfl rfl rfl (vs := [.int .i64 a0.Id, .int .i64 0, .int .i64 0, .slice none 0 0, .slice none 0 0, .slice none 0 0, .slice (some ⟨b566, 0, none⟩) a0.Events.toNat a0.Events.toNat, u570, .slice (some ⟨b575, 0, none⟩) a0.Ports.length a0.Ports.length, .slice none 0 0]) rfl sz74 (hS.blk 0 rfl) rfl (by simp [(((hS.own 3 rfl).slr rfl (fun _ _ => rfl))).one, (((hS.own 2 rfl).slr rfl (fun _ _ => rfl))).one, ((hS.deepSl 1 rfl)).one]) (by kernel_rfl) (.inl (fun h => absurd h (Nat.not_lt.2 hge_b579))) ?_
            clear H; intro w582 hN hC583 hz; clear a; intro a H; replace hS := hS.setBlk hN hC583; clear hN hz; replace hW := Nat.le_trans hW hC583.size
            refine k_done (by kernel_rfl) ?_
            refine then_normal ?_
            obtain rfl := Option.some.inj hm; replace hm := hm47; try dsimp only at hm
            replace hS := hS.pick 1 rfl; dsimp only [List.eraseIdx] at hS
            replace hS := hS.pick 2 rfl; dsimp only [List.eraseIdx] at hS
            replace hS := hS.pick 3 rfl; dsimp only [List.eraseIdx] at hS
            replace hS := hS.pick 3 rfl; dsimp only [List.eraseIdx] at hS
            replace hS := hS.pick 5 rfl; dsimp only [List.eraseIdx] at hS
            replace hS := hS.pick 6 rfl; dsimp only [List.eraseIdx] at hS
            replace hS := hS.take 6; simp only [List.take_succ_cons, List.take_zero] at hS
            exact join ((List.replicate a0.Events.toNat false), r564, (List.replicate a0.Ports.length (⟨([] : List ByteArray), 0⟩ : GPort)), .slice (some ⟨b566, 0, none⟩) a0.Events.toNat a0.Events.toNat, u570, .slice (some ⟨b575, 0, none⟩) a0.Ports.length a0.Ports.length, b579) H ⟨rfl, rfl, rfl, trivial⟩ ⟨hm, hS⟩
          · skip
            refine kk_alloc 13 H rfl ze74 rfl ?_
            clear H; intro b584 w585 hN hE586 hs; clear a; intro a H
            have hge_b584 : w558.heap.size ≤ b584 := hs ▸ hW
            replace hS := hS.newBlk hN hE586 hs; clear hN hs
            replace hW := Nat.le_trans hW hE586.size
            refine k_of_kk 11 (by kernel_rfl) ?_
            refine kk_make (L := a0.Ports.length) (C := a0.Ports.length) 11 H rfl Tryd.underlying71 el120 rfl rfl (Nat.le_refl _) hk565 (by simp only [maxLen]; omega) rfl ?_
            clear H; intro b587 w588 hN hE589 hs; clear a; intro a H; replace hS := hS.newOwn hN hE589 (by simp [blks]; omega); clear hN
            replace hS := St.mkDeep0 (R := RGPort) (z0 := (⟨([] : List ByteArray), 0⟩ : GPort)) (n := a0.Ports.length) rfl (by simp) (fun w => ⟨_, rfl, SlR.nil _ _ _⟩) hS
            replace hW := Nat.le_trans hW hE589.size
            refine k_takeT 12 H rfl (q_build (cs := [.int .i64 a0.Id, .int .i64 0, .int .i64 0, .slice none 0 0, .slice none 0 0, .slice none 0 0, .slice (some ⟨b566, 0, none⟩) a0.Events.toNat a0.Events.toNat, u570, .slice (some ⟨b587, 0, none⟩) a0.Ports.length a0.Ports.length, .slice none 0 0]) ze74 bd74 pl74 rfl ((fill1 rfl rfl (by simp)).trans ((fill1 (((hS.own 3 rfl).slr rfl (fun _ _ => rfl))).one rfl (by simp)).trans ((fill1 (((hS.own 2 rfl).slr rfl (fun _ _ => rfl))).one rfl (by simp)).trans ((fill1 ((hS.deepSl 0 rfl)).one rfl (by simp)).trans rfl))))) rfl (by kernel_rfl) (by kernel_rfl) (by kernel_rfl) (by kernel_rfl) (fun _ _ _ h => h) ?_; clear H a; intro a H
            replace hS := hS.pick 1 rfl; dsimp only [List.eraseIdx] at hS
            refine k_storeAll 14 H rfl rfl rfl (vs := [.int .i64 a0.Id, .int .i64 0, .int .i64 0, .slice none 0 0, .slice none 0 0, .slice none 0 0, .slice (some ⟨b566, 0, none⟩) a0.Events.toNat a0.Events.toNat, u570, .slice (some ⟨b587, 0, none⟩) a0.Ports.length a0.Ports.length, .slice none 0 0]) rfl sz74 (hS.blk 0 rfl) rfl (by simp [(((hS.own 3 rfl).slr rfl (fun _ _ => rfl))).one, (((hS.own 2 rfl).slr rfl (fun _ _ => rfl))).one, ((hS.deepSl 1 rfl)).one]) (by kernel_rfl) (.inl (fun h => absurd h (Nat.not_lt.2 hge_b584))) ?_
            clear H; intro w591 hN hC592 hz; clear a; intro a H; replace hS := hS.setBlk hN hC592; clear hN hz; replace hW := Nat.le_trans hW hC592.size
            refine k_done (by kernel_rfl) ?_
            refine then_normal ?_
            obtain rfl := Option.some.inj hm; replace hm := hm47; try dsimp only at hm
            replace hS := hS.pick 1 rfl; dsimp only [List.eraseIdx] at hS
            replace hS := hS.pick 2 rfl; dsimp only [List.eraseIdx] at hS
            replace hS := hS.pick 3 rfl; dsimp only [List.eraseIdx] at hS
            replace hS := hS.pick 3 rfl; dsimp only [List.eraseIdx] at hS
            replace hS := hS.pick 5 rfl; dsimp only [List.eraseIdx] at hS
            replace hS := hS.pick 6 rfl; dsimp only [List.eraseIdx] at hS
            replace hS := hS.take 6; simp only [List.take_succ_cons, List.take_zero] at hS
            exact join ((List.replicate a0.Events.toNat false), r564, (List.replicate a0.Ports.length (⟨([] : List ByteArray), 0⟩ : GPort)), .slice (some ⟨b566, 0, none⟩) a0.Events.toNat a0.Events.toNat, u570, .slice (some ⟨b587, 0, none⟩) a0.Ports.length a0.Ports.length, b584) H ⟨rfl, rfl, rfl, trivial⟩ ⟨hm, hS⟩
        · skip
          refine kk_make (L := a0.Ports.length) (C := a0.Ports.length) 11 H rfl Tryd.underlying71 el120 rfl rfl (Nat.le_refl _) hk565 (by simp only [maxLen]; omega) rfl ?_
          clear H; intro b593 w594 hN hE595 hs; clear a; intro a H; replace hS := hS.newOwn hN hE595 (by simp [blks]; omega); clear hN
          replace hS := St.mkDeep0 (R := RGPort) (z0 := (⟨([] : List ByteArray), 0⟩ : GPort)) (n := a0.Ports.length) rfl (by simp) (fun w => ⟨_, rfl, SlR.nil _ _ _⟩) hS
          replace hW := Nat.le_trans hW hE595.size
          refine k_two 7 13 (by kernel_rfl) ?_ ?_
          · skip
            refine kk_call 7 H rfl rfl en86 (g_slices_Clone_int_w (A := A) (hrp0_3.ext (Flat.mono _) hS.x) hr564) rfl (fun v w hv => .inl (ChgF.of_ext (by obtain ⟨_, _, hE0⟩ := hv; exact hE0.x))) ?_
            clear H; intro u597 w599 hv; clear a; intro a H; obtain ⟨_, rfl, hE600⟩ := hv
            replace hS := hS.new hE600; simp only [List.cons_append, List.nil_append] at hS
            replace hW := Nat.le_trans hW hE600.x.size
            refine k_takeT 12 H rfl (q_build (cs := [.int .i64 a0.Id, .int .i64 0, .int .i64 0, .slice none 0 0, .slice none 0 0, .slice none 0 0, .slice (some ⟨b566, 0, none⟩) a0.Events.toNat a0.Events.toNat, u597, .slice (some ⟨b593, 0, none⟩) a0.Ports.length a0.Ports.length, .slice none 0 0]) ze74 bd74 pl74 rfl ((fill1 rfl rfl (by simp)).trans ((fill1 (((hS.own 2 rfl).slr rfl (fun _ _ => rfl))).one rfl (by simp)).trans ((fill1 (((hS.own 0 rfl).slr rfl (fun _ _ => rfl))).one rfl (by simp)).trans ((fill1 ((hS.deepSl 1 rfl)).one rfl (by simp)).trans rfl))))) rfl (by kernel_rfl) (by kernel_rfl) (by kernel_rfl) (by kernel_rfl) (fun _ _ _ h => h) ?_; clear H a; intro a H
            refine k_alloc 13 H rfl ze74 rfl (by kernel_rfl) ?_
            clear H; intro b602 w603 hN hE604 hs; clear a; intro a H
            have hge_b602 : w558.heap.size ≤ b602 := hs ▸ hW
            replace hS := hS.newBlk hN hE604 hs; clear hN hs
            replace hW := Nat.le_trans hW hE604.size
            refine k_storeAll 14 H rfl rfl rfl (vs := [.int .i64 a0.Id, .int .i64 0, .int .i64 0, .slice none 0 0, .slice none 0 0, .slice none 0 0, .slice (some ⟨b566, 0, none⟩) a0.Events.toNat a0.Events.toNat, u597, .slice (some ⟨b593, 0, none⟩) a0.Ports.length a0.Ports.length, .slice none 0 0]) rfl sz74 (hS.blk 0 rfl) rfl (by simp [(((hS.own 3 rfl).slr rfl (fun _ _ => rfl))).one, (((hS.own 1 rfl).slr rfl (fun _ _ => rfl))).one, ((hS.deepSl 2 rfl)).one]) (by kernel_rfl) (.inl (fun h => absurd h (Nat.not_lt.2 hge_b602))) ?_
            clear H; intro w605 hN hC606 hz; clear a; intro a H; replace hS := hS.setBlk hN hC606; clear hN hz; replace hW := Nat.le_trans hW hC606.size
            refine k_done (by kernel_rfl) ?_
            refine then_normal ?_
            obtain rfl := Option.some.inj hm; replace hm := hm47; try dsimp only at hm
            replace hS := hS.pick 2 rfl; dsimp only [List.eraseIdx] at hS
            replace hS := hS.pick 2 rfl; dsimp only [List.eraseIdx] at hS
            replace hS := hS.pick 3 rfl; dsimp only [List.eraseIdx] at hS
            replace hS := hS.pick 3 rfl; dsimp only [List.eraseIdx] at hS
            replace hS := hS.pick 5 rfl; dsimp only [List.eraseIdx] at hS
            replace hS := hS.pick 6 rfl; dsimp only [List.eraseIdx] at hS
            replace hS := hS.take 6; simp only [List.take_succ_cons, List.take_zero] at hS
            exact join ((List.replicate a0.Events.toNat false), r564, (List.replicate a0.Ports.length (⟨([] : List ByteArray), 0⟩ : GPort)), .slice (some ⟨b566, 0, none⟩) a0.Events.toNat a0.Events.toNat, u597, .slice (some ⟨b593, 0, none⟩) a0.Ports.length a0.Ports.length, b602) H ⟨rfl, rfl, rfl, trivial⟩ ⟨hm, hS⟩
          · skip
            refine kk_alloc 13 H rfl ze74 rfl ?_
            clear H; intro b607 w608 hN hE609 hs; clear a; intro a H
            have hge_b607 : w558.heap.size ≤ b607 := hs ▸ hW
            replace hS := hS.newBlk hN hE609 hs; clear hN hs
            replace hW := Nat.le_trans hW hE609.size
            refine k_of_kk 7 (by kernel_rfl) ?_
            refine kk_call 7 H rfl rfl en86 (g_slices_Clone_int_w (A := A) (hrp0_3.ext (Flat.mono _) hS.x) hr564) rfl (fun v w hv => .inl (ChgF.of_ext (by obtain ⟨_, _, hE0⟩ := hv; exact hE0.x))) ?_
            clear H; intro u610 w612 hv; clear a; intro a H; obtain ⟨_, rfl, hE613⟩ := hv
            replace hS := hS.new hE613; simp only [List.cons_append, List.nil_append] at hS
            replace hW := Nat.le_trans hW hE613.x.size
            refine k_takeT 12 H rfl (q_build (cs := [.int .i64 a0.Id, .int .i64 0, .int .i64 0, .slice none 0 0, .slice none 0 0, .slice none 0 0, .slice (some ⟨b566, 0, none⟩) a0.Events.toNat a0.Events.toNat, u610, .slice (some ⟨b593, 0, none⟩) a0.Ports.length a0.Ports.length, .slice none 0 0]) ze74 bd74 pl74 rfl ((fill1 rfl rfl (by simp)).trans ((fill1 (((hS.own 3 rfl).slr rfl (fun _ _ => rfl))).one rfl (by simp)).trans ((fill1 (((hS.own 0 rfl).slr rfl (fun _ _ => rfl))).one rfl (by simp)).trans ((fill1 ((hS.deepSl 2 rfl)).one rfl (by simp)).trans rfl))))) rfl (by kernel_rfl) (by kernel_rfl) (by kernel_rfl) (by kernel_rfl) (fun _ _ _ h => h) ?_; clear H a; intro a H
            replace hS := hS.pick 1 rfl; dsimp only [List.eraseIdx] at hS
            refine k_storeAll 14 H rfl rfl rfl (vs := [.int .i64 a0.Id, .int .i64 0, .int .i64 0, .slice none 0 0, .slice none 0 0, .slice none 0 0, .slice (some ⟨b566, 0, none⟩) a0.Events.toNat a0.Events.toNat, u610, .slice (some ⟨b593, 0, none⟩) a0.Ports.length a0.Ports.length, .slice none 0 0]) rfl sz74 (hS.blk 0 rfl) rfl (by simp [(((hS.own 3 rfl).slr rfl (fun _ _ => rfl))).one, (((hS.own 1 rfl).slr rfl (fun _ _ => rfl))).one, ((hS.deepSl 2 rfl)).one]) (by kernel_rfl) (.inl (fun h => absurd h (Nat.not_lt.2 hge_b607))) ?_
            clear H; intro w615 hN hC616 hz; clear a; intro a H; replace hS := hS.setBlk hN hC616; clear hN hz; replace hW := Nat.le_trans hW hC616.size
            refine k_done (by kernel_rfl) ?_
            refine then_normal ?_
            obtain rfl := Option.some.inj hm; replace hm := hm47; try dsimp only at hm
            replace hS := hS.pick 2 rfl; dsimp only [List.eraseIdx] at hS
            replace hS := hS.pick 2 rfl; dsimp only [List.eraseIdx] at hS
            replace hS := hS.pick 3 rfl; dsimp only [List.eraseIdx] at hS
            replace hS := hS.pick 3 rfl; dsimp only [List.eraseIdx] at hS
            replace hS := hS.pick 5 rfl; dsimp only [List.eraseIdx] at hS
            replace hS := hS.pick 6 rfl; dsimp only [List.eraseIdx] at hS
            replace hS := hS.take 6; simp only [List.take_succ_cons, List.take_zero] at hS
            exact join ((List.replicate a0.Events.toNat false), r564, (List.replicate a0.Ports.length (⟨([] : List ByteArray), 0⟩ : GPort)), .slice (some ⟨b566, 0, none⟩) a0.Events.toNat a0.Events.toNat, u610, .slice (some ⟨b593, 0, none⟩) a0.Ports.length a0.Ports.length, b607) H ⟨rfl, rfl, rfl, trivial⟩ ⟨hm, hS⟩
        · skip
          refine kk_alloc 13 H rfl ze74 rfl ?_
          clear H; intro b617 w618 hN hE619 hs; clear a; intro a H
          have hge_b617 : w558.heap.size ≤ b617 := hs ▸ hW
          replace hS := hS.newBlk hN hE619 hs; clear hN hs
          replace hW := Nat.le_trans hW hE619.size
          refine k_two 7 11 (by kernel_rfl) ?_ ?_
          · skip
            refine kk_call 7 H rfl rfl en86 (g_slices_Clone_int_w (A := A) (hrp0_3.ext (Flat.mono _) hS.x) hr564) rfl (fun v w hv => .inl (ChgF.of_ext (by obtain ⟨_, _, hE0⟩ := hv; exact hE0.x))) ?_
            clear H; intro u620 w622 hv; clear a; intro a H; obtain ⟨_, rfl, hE623⟩ := hv
            replace hS := hS.new hE623; simp only [List.cons_append, List.nil_append] at hS
            replace hW := Nat.le_trans hW hE623.x.size
            refine k_of_kk 11 (by kernel_rfl) ?_
            refine kk_make (L := a0.Ports.length) (C := a0.Ports.length) 11 H rfl Tryd.underlying71 el120 rfl rfl (Nat.le_refl _) hk565 (by simp only [maxLen]; omega) rfl ?_
            clear H; intro b625 w626 hN hE627 hs; clear a; intro a H; replace hS := hS.newOwn hN hE627 (by simp [blks]; omega); clear hN
            replace hS := St.mkDeep0 (R := RGPort) (z0 := (⟨([] : List ByteArray), 0⟩ : GPort)) (n := a0.Ports.length) rfl (by simp) (fun w => ⟨_, rfl, SlR.nil _ _ _⟩) hS
            replace hW := Nat.le_trans hW hE627.size
            refine k_takeT 12 H rfl (q_build (cs := [.int .i64 a0.Id, .int .i64 0, .int .i64 0, .slice none 0 0, .slice none 0 0, .slice none 0 0, .slice (some ⟨b566, 0, none⟩) a0.Events.toNat a0.Events.toNat, u620, .slice (some ⟨b625, 0, none⟩) a0.Ports.length a0.Ports.length, .slice none 0 0]) ze74 bd74 pl74 rfl ((fill1 rfl rfl (by simp)).trans ((fill1 (((hS.own 3 rfl).slr rfl (fun _ _ => rfl))).one rfl (by simp)).trans ((fill1 (((hS.own 1 rfl).slr rfl (fun _ _ => rfl))).one rfl (by simp)).trans ((fill1 ((hS.deepSl 0 rfl)).one rfl (by simp)).trans rfl))))) rfl (by kernel_rfl) (by kernel_rfl) (by kernel_rfl) (by kernel_rfl) (fun _ _ _ h => h) ?_; clear H a; intro a H
            replace hS := hS.pick 2 rfl; dsimp only [List.eraseIdx] at hS
            refine k_storeAll 14 H rfl rfl rfl (vs := [.int .i64 a0.Id, .int .i64 0, .int .i64 0, .slice none 0 0, .slice none 0 0, .slice none 0 0, .slice (some ⟨b566, 0, none⟩) a0.Events.toNat a0.Events.toNat, u620, .slice (some ⟨b625, 0, none⟩) a0.Ports.length a0.Ports.length, .slice none 0 0]) rfl sz74 (hS.blk 0 rfl) rfl (by simp [(((hS.own 3 rfl).slr rfl (fun _ _ => rfl))).one, (((hS.own 2 rfl).slr rfl (fun _ _ => rfl))).one, ((hS.deepSl 1 rfl)).one]) (by kernel_rfl) (.inl (fun h => absurd h (Nat.not_lt.2 hge_b617))) ?_
            clear H; intro w629 hN hC630 hz; clear a; intro a H; replace hS := hS.setBlk hN hC630; clear hN hz; replace hW := Nat.le_trans hW hC630.size
            refine k_done (by kernel_rfl) ?_
            refine then_normal ?_
            obtain rfl := Option.some.inj hm; replace hm := hm47; try dsimp only at hm
            replace hS := hS.pick 1 rfl; dsimp only [List.eraseIdx] at hS
            replace hS := hS.pick 2 rfl; dsimp only [List.eraseIdx] at hS
            replace hS := hS.pick 3 rfl; dsimp only [List.eraseIdx] at hS
            replace hS := hS.pick 3 rfl; dsimp only [List.eraseIdx] at hS
            replace hS := hS.pick 5 rfl; dsimp only [List.eraseIdx] at hS
            replace hS := hS.pick 6 rfl; dsimp only [List.eraseIdx] at hS
            replace hS := hS.take 6; simp only [List.take_succ_cons, List.take_zero] at hS
            exact join ((List.replicate a0.Events.toNat false), r564, (List.replicate a0.Ports.length (⟨([] : List ByteArray), 0⟩ : GPort)), .slice (some ⟨b566, 0, none⟩) a0.Events.toNat a0.Events.toNat, u620, .slice (some ⟨b625, 0, none⟩) a0.Ports.length a0.Ports.length, b617) H ⟨rfl, rfl, rfl, trivial⟩ ⟨hm, hS⟩
          · skip
            refine kk_make (L := a0.Ports.length) (C := a0.Ports.length) 11 H rfl Tryd.underlying71 el120 rfl rfl (Nat.le_refl _) hk565 (by simp only [maxLen]; omega) rfl ?_
            clear H; intro b631 w632 hN hE633 hs; clear a; intro a H; replace hS := hS.newOwn hN hE633 (by simp [blks]; omega); clear hN
            replace hS := St.mkDeep0 (R := RGPort) (z0 := (⟨([] : List ByteArray), 0⟩ : GPort)) (n := a0.Ports.length) rfl (by simp) (fun w => ⟨_, rfl, SlR.nil _ _ _⟩) hS
            replace hW := Nat.le_trans hW hE633.size
            refine k_of_kk 7 (by kernel_rfl) ?_
            refine kk_call 7 H rfl rfl en86 (g_slices_Clone_int_w (A := A) (hrp0_3.ext (Flat.mono _) hS.x) hr564) rfl (fun v w hv => .inl (ChgF.of_ext (by obtain ⟨_, _, hE0⟩ := hv; exact hE0.x))) ?_
            clear H; intro u635 w637 hv; clear a; intro a H; obtain ⟨_, rfl, hE638⟩ := hv
            replace hS := hS.new hE638; simp only [List.cons_append, List.nil_append] at hS
            replace hW := Nat.le_trans hW hE638.x.size
            refine k_takeT 12 H rfl (q_build (cs := [.int .i64 a0.Id, .int .i64 0, .int .i64 0, .slice none 0 0, .slice none 0 0, .slice none 0 0, .slice (some ⟨b566, 0, none⟩) a0.Events.toNat a0.Events.toNat, u635, .slice (some ⟨b631, 0, none⟩) a0.Ports.length a0.Ports.length, .slice none 0 0]) ze74 bd74 pl74 rfl ((fill1 rfl rfl (by simp)).trans ((fill1 (((hS.own 3 rfl).slr rfl (fun _ _ => rfl))).one rfl (by simp)).trans ((fill1 (((hS.own 0 rfl).slr rfl (fun _ _ => rfl))).one rfl (by simp)).trans ((fill1 ((hS.deepSl 1 rfl)).one rfl (by simp)).trans rfl))))) rfl (by kernel_rfl) (by kernel_rfl) (by kernel_rfl) (by kernel_rfl) (fun _ _ _ h => h) ?_; clear H a; intro a H
            replace hS := hS.pick 2 rfl; dsimp only [List.eraseIdx] at hS
            refine k_storeAll 14 H rfl rfl rfl (vs := [.int .i64 a0.Id, .int .i64 0, .int .i64 0, .slice none 0 0, .slice none 0 0, .slice none 0 0, .slice (some ⟨b566, 0, none⟩) a0.Events.toNat a0.Events.toNat, u635, .slice (some ⟨b631, 0, none⟩) a0.Ports.length a0.Ports.length, .slice none 0 0]) rfl sz74 (hS.blk 0 rfl) rfl (by simp [(((hS.own 3 rfl).slr rfl (fun _ _ => rfl))).one, (((hS.own 1 rfl).slr rfl (fun _ _ => rfl))).one, ((hS.deepSl 2 rfl)).one]) (by kernel_rfl) (.inl (fun h => absurd h (Nat.not_lt.2 hge_b617))) ?_
            clear H; intro w640 hN hC641 hz; clear a; intro a H; replace hS := hS.setBlk hN hC641; clear hN hz; replace hW := Nat.le_trans hW hC641.size
            refine k_done (by kernel_rfl) ?_
            refine then_normal ?_
            obtain rfl := Option.some.inj hm; replace hm := hm47; try dsimp only at hm
            replace hS := hS.pick 2 rfl; dsimp only [List.eraseIdx] at hS
            replace hS := hS.pick 2 rfl; dsimp only [List.eraseIdx] at hS
            replace hS := hS.pick 3 rfl; dsimp only [List.eraseIdx] at hS
            replace hS := hS.pick 3 rfl; dsimp only [List.eraseIdx] at hS
            replace hS := hS.pick 5 rfl; dsimp only [List.eraseIdx] at hS
            replace hS := hS.pick 6 rfl; dsimp only [List.eraseIdx] at hS
            replace hS := hS.take 6; simp only [List.take_succ_cons, List.take_zero] at hS
            exact join ((List.replicate a0.Events.toNat false), r564, (List.replicate a0.Ports.length (⟨([] : List ByteArray), 0⟩ : GPort)), .slice (some ⟨b566, 0, none⟩) a0.Events.toNat a0.Events.toNat, u635, .slice (some ⟨b631, 0, none⟩) a0.Ports.length a0.Ports.length, b617) H ⟨rfl, rfl, rfl, trivial⟩ ⟨hm, hS⟩
      · skip
        refine kk_call 7 H rfl rfl en86 (g_slices_Clone_int_w (A := A) (hrp0_3.ext (Flat.mono _) hS.x) hr564) rfl (fun v w hv => .inl (ChgF.of_ext (by obtain ⟨_, _, hE0⟩ := hv; exact hE0.x))) ?_
        clear H; intro u642 w644 hv; clear a; intro a H; obtain ⟨_, rfl, hE645⟩ := hv
        replace hS := hS.new hE645; simp only [List.cons_append, List.nil_append] at hS
        replace hW := Nat.le_trans hW hE645.x.size
        refine k_three 4 11 13 (by kernel_rfl) ?_ ?_ ?_
        · skip
          refine kk_makeL (e := eF) (z0 := false) (L := a0.Events.toNat) (C := a0.Events.toNat) 4 H rfl Tryd.underlying28 el4 rfl (by show _ = some (Value.int .i64 ((Int.toNat a0.Events : Nat) : Int)); rw [Int.toNat_of_nonneg hk562]; rfl) (by show _ = some (Value.int .i64 ((Int.toNat a0.Events : Nat) : Int)); rw [Int.toNat_of_nonneg hk562]; rfl) (Nat.le_refl _) hk563 (by simp only [maxLen]; omega) rfl ?_
          clear H; intro b647 w648 hN hE649 hs; clear a; intro a H; replace hS := hS.newOwn hN hE649 (by simp [blks]; omega); clear hN
          replace hW := Nat.le_trans hW hE649.size
          refine k_two 11 13 (by kernel_rfl) ?_ ?_
          · skip
            refine kk_make (L := a0.Ports.length) (C := a0.Ports.length) 11 H rfl Tryd.underlying71 el120 rfl rfl (Nat.le_refl _) hk565 (by simp only [maxLen]; omega) rfl ?_
            clear H; intro b651 w652 hN hE653 hs; clear a; intro a H; replace hS := hS.newOwn hN hE653 (by simp [blks]; omega); clear hN
            replace hS := St.mkDeep0 (R := RGPort) (z0 := (⟨([] : List ByteArray), 0⟩ : GPort)) (n := a0.Ports.length) rfl (by simp) (fun w => ⟨_, rfl, SlR.nil _ _ _⟩) hS
            replace hW := Nat.le_trans hW hE653.size
            refine k_takeT 12 H rfl (q_build (cs := [.int .i64 a0.Id, .int .i64 0, .int .i64 0, .slice none 0 0, .slice none 0 0, .slice none 0 0, .slice (some ⟨b647, 0, none⟩) a0.Events.toNat a0.Events.toNat, u642, .slice (some ⟨b651, 0, none⟩) a0.Ports.length a0.Ports.length, .slice none 0 0]) ze74 bd74 pl74 rfl ((fill1 rfl rfl (by simp)).trans ((fill1 (((hS.own 1 rfl).slr rfl (fun _ _ => rfl))).one rfl (by simp)).trans ((fill1 (((hS.own 2 rfl).slr rfl (fun _ _ => rfl))).one rfl (by simp)).trans ((fill1 ((hS.deepSl 0 rfl)).one rfl (by simp)).trans rfl))))) rfl (by kernel_rfl) (by kernel_rfl) (by kernel_rfl) (by kernel_rfl) (fun _ _ _ h => h) ?_; clear H a; intro a H
            refine k_alloc 13 H rfl ze74 rfl (by kernel_rfl) ?_
            clear H; intro b655 w656 hN hE657 hs; clear a; intro a H
            have hge_b655 : w558.heap.size ≤ b655 := hs ▸ hW
            replace hS := hS.newBlk hN hE657 hs; clear hN hs
            replace hW := Nat.le_trans hW hE657.size
            refine k_storeAll 14 H rfl rfl rfl (vs := [.int .i64 a0.Id, .int .i64 0, .int .i64 0, .slice none 0 0, .slice none 0 0, .slice none 0 0, .slice (some ⟨b647, 0, none⟩) a0.Events.toNat a0.Events.toNat, u642, .slice (some ⟨b651, 0, none⟩) a0.Ports.length a0.Ports.length, .slice none 0 0]) rfl sz74 (hS.blk 0 rfl) rfl (by simp [(((hS.own 2 rfl).slr rfl (fun _ _ => rfl))).one, (((hS.own 3 rfl).slr rfl (fun _ _ => rfl))).one, ((hS.deepSl 1 rfl)).one]) (by kernel_rfl) (.inl (fun h => absurd h (Nat.not_lt.2 hge_b655))) ?_
            clear H; intro w658 hN hC659 hz; clear a; intro a H; replace hS := hS.setBlk hN hC659; clear hN hz; replace hW := Nat.le_trans hW hC659.size
            refine k_done (by kernel_rfl) ?_
            refine then_normal ?_
            obtain rfl := Option.some.inj hm; replace hm := hm47; try dsimp only at hm
            replace hS := hS.pick 1 rfl; dsimp only [List.eraseIdx] at hS
            replace hS := hS.pick 3 rfl; dsimp only [List.eraseIdx] at hS
            replace hS := hS.pick 3 rfl; dsimp only [List.eraseIdx] at hS
            replace hS := hS.pick 3 rfl; dsimp only [List.eraseIdx] at hS
            replace hS := hS.pick 5 rfl; dsimp only [List.eraseIdx] at hS
            replace hS := hS.pick 6 rfl; dsimp only [List.eraseIdx] at hS
            replace hS := hS.take 6; simp only [List.take_succ_cons, List.take_zero] at hS
            exact join ((List.replicate a0.Events.toNat false), r564, (List.replicate a0.Ports.length (⟨([] : List ByteArray), 0⟩ : GPort)), .slice (some ⟨b647, 0, none⟩) a0.Events.toNat a0.Events.toNat, u642, .slice (some ⟨b651, 0, none⟩) a0.Ports.length a0.Ports.length, b655) H ⟨rfl, rfl, rfl, trivial⟩ ⟨hm, hS⟩
          · skip
            refine kk_alloc 13 H rfl ze74 rfl ?_
            clear H; intro b660 w661 hN hE662 hs; clear a; intro a H
            have hge_b660 : w558.heap.size ≤ b660 := hs ▸ hW
            replace hS := hS.newBlk hN hE662 hs; clear hN hs
            replace hW := Nat.le_trans hW hE662.size
            refine k_of_kk 11 (by kernel_rfl) ?_
            refine kk_make (L := a0.Ports.length) (C := a0.Ports.length) 11 H rfl Tryd.underlying71 el120 rfl rfl (Nat.le_refl _) hk565 (by simp only [maxLen]; omega) rfl ?_
            clear H; intro b663 w664 hN hE665 hs; clear a; intro a H; replace hS := hS.newOwn hN hE665 (by simp [blks]; omega); clear hN
            replace hS := St.mkDeep0 (R := RGPort) (z0 := (⟨([] : List ByteArray), 0⟩ : GPort)) (n := a0.Ports.length) rfl (by simp) (fun w => ⟨_, rfl, SlR.nil _ _ _⟩) hS
            replace hW := Nat.le_trans hW hE665.size
            refine k_takeT 12 H rfl (q_build (cs := [.int .i64 a0.Id, .int .i64 0, .int .i64 0, .slice none 0 0, .slice none 0 0, .slice none 0 0, .slice (some ⟨b647, 0, none⟩) a0.Events.toNat a0.Events.toNat, u642, .slice (some ⟨b663, 0, none⟩) a0.Ports.length a0.Ports.length, .slice none 0 0]) ze74 bd74 pl74 rfl ((fill1 rfl rfl (by simp)).trans ((fill1 (((hS.own 2 rfl).slr rfl (fun _ _ => rfl))).one rfl (by simp)).trans ((fill1 (((hS.own 3 rfl).slr rfl (fun _ _ => rfl))).one rfl (by simp)).trans ((fill1 ((hS.deepSl 0 rfl)).one rfl (by simp)).trans rfl))))) rfl (by kernel_rfl) (by kernel_rfl) (by kernel_rfl) (by kernel_rfl) (fun _ _ _ h => h) ?_; clear H a; intro a H
            replace hS := hS.pick 1 rfl; dsimp only [List.eraseIdx] at hS
            refine k_storeAll 14 H rfl rfl rfl (vs := [.int .i64 a0.Id, .int .i64 0, .int .i64 0, .slice none 0 0, .slice none 0 0, .slice none 0 0, .slice (some ⟨b647, 0, none⟩) a0.Events.toNat a0.Events.toNat, u642, .slice (some ⟨b663, 0, none⟩) a0.Ports.length a0.Ports.length, .slice none 0 0]) rfl sz74 (hS.blk 0 rfl) rfl (by simp [(((hS.own 2 rfl).slr rfl (fun _ _ => rfl))).one, (((hS.own 3 rfl).slr rfl (fun _ _ => rfl))).one, ((hS.deepSl 1 rfl)).one]) (by kernel_rfl) (.inl (fun h => absurd h (Nat.not_lt.2 hge_b660))) ?_
            clear H; intro w667 hN hC668 hz; clear a; intro a H; replace hS := hS.setBlk hN hC668; clear hN hz; replace hW := Nat.le_trans hW hC668.size
            refine k_done (by kernel_rfl) ?_
            refine then_normal ?_
            obtain rfl := Option.some.inj hm; replace hm := hm47; try dsimp only at hm
            replace hS := hS.pick 1 rfl; dsimp only [List.eraseIdx] at hS
            replace hS := hS.pick 3 rfl; dsimp only [List.eraseIdx] at hS
            replace hS := hS.pick 3 rfl; dsimp only [List.eraseIdx] at hS
            replace hS := hS.pick 3 rfl; dsimp only [List.eraseIdx] at hS
            replace hS := hS.pick 5 rfl; dsimp only [List.eraseIdx] at hS
            replace hS := hS.pick 6 rfl; dsimp only [List.eraseIdx] at hS
            replace hS := hS.take 6; simp only [List.take_succ_cons, List.take_zero] at hS
            exact join ((List.replicate a0.Events.toNat false), r564, (List.replicate a0.Ports.length (⟨([] : List ByteArray), 0⟩ : GPort)), .slice (some ⟨b647, 0, none⟩) a0.Events.toNat a0.Events.toNat, u642, .slice (some ⟨b663, 0, none⟩) a0.Ports.length a0.Ports.length, b660) H ⟨rfl, rfl, rfl, trivial⟩ ⟨hm, hS⟩
        · skip
          refine kk_make (L := a0.Ports.length) (C := a0.Ports.length) 11 H rfl Tryd.underlying71 el120 rfl rfl (Nat.le_refl _) hk565 (by simp only [maxLen]; omega) rfl ?_
          clear H; intro b669 w670 hN hE671 hs; clear a; intro a H; replace hS := hS.newOwn hN hE671 (by simp [blks]; omega); clear hN
          replace hS := St.mkDeep0 (R := RGPort) (z0 := (⟨([] : List ByteArray), 0⟩ : GPort)) (n := a0.Ports.length) rfl (by simp) (fun w => ⟨_, rfl, SlR.nil _ _ _⟩) hS
          replace hW := Nat.le_trans hW hE671.size
          refine k_two 4 13 (by kernel_rfl) ?_ ?_
          · skip
            refine kk_makeL (e := eF) (z0 := false) (L := a0.Events.toNat) (C := a0.Events.toNat) 4 H rfl Tryd.underlying28 el4 rfl (by show _ = some (Value.int .i64 ((Int.toNat a0.Events : Nat) : Int)); rw [Int.toNat_of_nonneg hk562]; rfl) (by show _ = some (Value.int .i64 ((Int.toNat a0.Events : Nat) : Int)); rw [Int.toNat_of_nonneg hk562]; rfl) (Nat.le_refl _) hk563 (by simp only [maxLen]; omega) rfl ?_
            clear H; intro b673 w674 hN hE675 hs; clear a; intro a H; replace hS := hS.newOwn hN hE675 (by simp [blks]; omega); clear hN
            replace hW := Nat.le_trans hW hE675.size
            refine k_takeT 12 H rfl (q_build (cs := [.int .i64 a0.Id, .int .i64 0, .int .i64 0, .slice none 0 0, .slice none 0 0, .slice none 0 0, .slice (some ⟨b673, 0, none⟩) a0.Events.toNat a0.Events.toNat, u642, .slice (some ⟨b669, 0, none⟩) a0.Ports.length a0.Ports.length, .slice none 0 0]) ze74 bd74 pl74 rfl ((fill1 rfl rfl (by simp)).trans ((fill1 (((hS.own 0 rfl).slr rfl (fun _ _ => rfl))).one rfl (by simp)).trans ((fill1 (((hS.own 2 rfl).slr rfl (fun _ _ => rfl))).one rfl (by simp)).trans ((fill1 ((hS.deepSl 1 rfl)).one rfl (by simp)).trans rfl))))) rfl (by kernel_rfl) (by kernel_rfl) (by kernel_rfl) (by kernel_rfl) (fun _ _ _ h => h) ?_; clear H a; intro a H
            refine k_alloc 13 H rfl ze74 rfl (by kernel_rfl) ?_
            clear H; intro b677 w678 hN hE679 hs; clear a; intro a H
            have hge_b677 : w558.heap.size ≤ b677 := hs ▸ hW
            replace hS := hS.newBlk hN hE679 hs; clear hN hs
            replace hW := Nat.le_trans hW hE679.size
            refine k_storeAll 14 H rfl rfl rfl (vs := [.int .i64 a0.Id, .int .i64 0, .int .i64 0, .slice none 0 0, .slice none 0 0, .slice none 0 0, .slice (some ⟨b673, 0, none⟩) a0.Events.toNat a0.Events.toNat, u642, .slice (some ⟨b669, 0, none⟩) a0.Ports.length a0.Ports.length, .slice none 0 0]) rfl sz74 (hS.blk 0 rfl) rfl (by simp [(((hS.own 1 rfl).slr rfl (fun _ _ => rfl))).one, (((hS.own 3 rfl).slr rfl (fun _ _ => rfl))).one, ((hS.deepSl 2 rfl)).one]) (by kernel_rfl) (.inl (fun h => absurd h (Nat.not_lt.2 hge_b677))) ?_
            clear H; intro w680 hN hC681 hz; clear a; intro a H; replace hS := hS.setBlk hN hC681; clear hN hz; replace hW := Nat.le_trans hW hC681.size
            refine k_done (by kernel_rfl) ?_
            refine then_normal ?_
            obtain rfl := Option.some.inj hm; replace hm := hm47; try dsimp only at hm
            replace hS := hS.pick 2 rfl; dsimp only [List.eraseIdx] at hS
            replace hS := hS.pick 3 rfl; dsimp only [List.eraseIdx] at hS
            replace hS := hS.pick 3 rfl; dsimp only [List.eraseIdx] at hS
            replace hS := hS.pick 3 rfl; dsimp only [List.eraseIdx] at hS
            replace hS := hS.pick 5 rfl; dsimp only [List.eraseIdx] at hS
            replace hS := hS.pick 6 rfl; dsimp only [List.eraseIdx] at hS
            replace hS := hS.take 6; simp only [List.take_succ_cons, List.take_zero] at hS
            exact join ((List.replicate a0.Events.toNat false), r564, (List.replicate a0.Ports.length (⟨([] : List ByteArray), 0⟩ : GPort)), .slice (some ⟨b673, 0, none⟩) a0.Events.toNat a0.Events.toNat, u642, .slice (some ⟨b669, 0, none⟩) a0.Ports.length a0.Ports.length, b677) H ⟨rfl, rfl, rfl, trivial⟩ ⟨hm, hS⟩
          · skip
            refine kk_alloc 13 H rfl ze74 rfl ?_
            clear H; intro b682 w683 hN hE684 hs; clear a; intro a H
            have hge_b682 : w558.heap.size ≤ b682 := hs ▸ hW
            replace hS := hS.newBlk hN hE684 hs; clear hN hs
            replace hW := Nat.le_trans hW hE684.size
            refine k_of_kk 4 (by kernel_rfl) ?_
            refine kk_makeL (e := eF) (z0 := false) (L := a0.Events.toNat) (C := a0.Events.toNat) 4 H rfl Tryd.underlying28 el4 rfl (by show _ = some (Value.int .i64 ((Int.toNat a0.Events : Nat) : Int)); rw [Int.toNat_of_nonneg hk562]; rfl) (by show _ = some (Value.int .i64 ((Int.toNat a0.Events : Nat) : Int)); rw [Int.toNat_of_nonneg hk562]; rfl) (Nat.le_refl _) hk563 (by simp only [maxLen]; omega) rfl ?_
            clear H; intro b685 w686 hN hE687 hs; clear a; intro a H; replace hS := hS.newOwn hN hE687 (by simp [blks]; omega); clear hN
            replace hW := Nat.le_trans hW hE687.size
            refine k_takeT 12 H rfl (q_build (cs := [.int .i64 a0.Id, .int .i64 0, .int .i64 0, .slice none 0 0, .slice none 0 0, .slice none 0 0, .slice (some ⟨b685, 0, none⟩) a0.Events.toNat a0.Events.toNat, u642, .slice (some ⟨b669, 0, none⟩) a0.Ports.length a0.Ports.length, .slice none 0 0]) ze74 bd74 pl74 rfl ((fill1 rfl rfl (by simp)).trans ((fill1 (((hS.own 0 rfl).slr rfl (fun _ _ => rfl))).one rfl (by simp)).trans ((fill1 (((hS.own 3 rfl).slr rfl (fun _ _ => rfl))).one rfl (by simp)).trans ((fill1 ((hS.deepSl 2 rfl)).one rfl (by simp)).trans rfl))))) rfl (by kernel_rfl) (by kernel_rfl) (by kernel_rfl) (by kernel_rfl) (fun _ _ _ h => h) ?_; clear H a; intro a H
            replace hS := hS.pick 1 rfl; dsimp only [List.eraseIdx] at hS
            refine k_storeAll 14 H rfl rfl rfl (vs := [.int .i64 a0.Id, .int .i64 0, .int .i64 0, .slice none 0 0, .slice none 0 0, .slice none 0 0, .slice (some ⟨b685, 0, none⟩) a0.Events.toNat a0.Events.toNat, u642, .slice (some ⟨b669, 0, none⟩) a0.Ports.length a0.Ports.length, .slice none 0 0]) rfl sz74 (hS.blk 0 rfl) rfl (by simp [(((hS.own 1 rfl).slr rfl (fun _ _ => rfl))).one, (((hS.own 3 rfl).slr rfl (fun _ _ => rfl))).one, ((hS.deepSl 2 rfl)).one]) (by kernel_rfl) (.inl (fun h => absurd h (Nat.not_lt.2 hge_b682))) ?_
            clear H; intro w689 hN hC690 hz; clear a; intro a H; replace hS := hS.setBlk hN hC690; clear hN hz; replace hW := Nat.le_trans hW hC690.size
            refine k_done (by kernel_rfl) ?_
            refine then_normal ?_
            obtain rfl := Option.some.inj hm; replace hm := hm47; try dsimp only at hm
            replace hS := hS.pick 2 rfl; dsimp only [List.eraseIdx] at hS
            replace hS := hS.pick 3 rfl; dsimp only [List.eraseIdx] at hS
            replace hS := hS.pick 3 rfl; dsimp only [List.eraseIdx] at hS
            replace hS := hS.pick 3 rfl; dsimp only [List.eraseIdx] at hS
            replace hS := hS.pick 5 rfl; dsimp only [List.eraseIdx] at hS
            replace hS := hS.pick 6 rfl; dsimp only [List.eraseIdx] at hS
            replace hS := hS.take 6; simp only [List.take_succ_cons, List.take_zero] at hS
            exact join ((List.replicate a0.Events.toNat false), r564, (List.replicate a0.Ports.length (⟨([] : List ByteArray), 0⟩ : GPort)), .slice (some ⟨b685, 0, none⟩) a0.Events.toNat a0.Events.toNat, u642, .slice (some ⟨b669, 0, none⟩) a0.Ports.length a0.Ports.length, b682) H ⟨rfl, rfl, rfl, trivial⟩ ⟨hm, hS⟩
        · skip
          refine kk_alloc 13 H rfl ze74 rfl ?_
          clear H; intro b691 w692 hN hE693 hs; clear a; intro a H
          have hge_b691 : w558.heap.size ≤ b691 := hs ▸ hW
          replace hS := hS.newBlk hN hE693 hs; clear hN hs
          replace hW := Nat.le_trans hW hE693.size
          refine k_two 4 11 (by kernel_rfl) ?_ ?_
          · skip
            refine kk_makeL (e := eF) (z0 := false) (L := a0.Events.toNat) (C := a0.Events.toNat) 4 H rfl Tryd.underlying28 el4 rfl (by show _ = some (Value.int .i64 ((Int.toNat a0.Events : Nat) : Int)); rw [Int.toNat_of_nonneg hk562]; rfl) (by show _ = some (Value.int .i64 ((Int.toNat a0.Events : Nat) : Int)); rw [Int.toNat_of_nonneg hk562]; rfl) (Nat.le_refl _) hk563 (by simp only [maxLen]; omega) rfl ?_
            clear H; intro b694 w695 hN hE696 hs; clear a; intro a H; replace hS := hS.newOwn hN hE696 (by simp [blks]; omega); clear hN
            replace hW := Nat.le_trans hW hE696.size
            refine k_of_kk 11 (by kernel_rfl) ?_
            refine kk_make (L := a0.Ports.length) (C := a0.Ports.length) 11 H rfl Tryd.underlying71 el120 rfl rfl (Nat.le_refl _) hk565 (by simp only [maxLen]; omega) rfl ?_
            clear H; intro b698 w699 hN hE700 hs; clear a; intro a H; replace hS := hS.newOwn hN hE700 (by simp [blks]; omega); clear hN
            replace hS := St.mkDeep0 (R := RGPort) (z0 := (⟨([] : List ByteArray), 0⟩ : GPort)) (n := a0.Ports.length) rfl (by simp) (fun w => ⟨_, rfl, SlR.nil _ _ _⟩) hS
            replace hW := Nat.le_trans hW hE700.size
            refine k_takeT 12 H rfl (q_build (cs := [.int .i64 a0.Id, .int .i64 0, .int .i64 0, .slice none 0 0, .slice none 0 0, .slice none 0 0, .slice (some ⟨b694, 0, none⟩) a0.Events.toNat a0.Events.toNat, u642, .slice (some ⟨b698, 0, none⟩) a0.Ports.length a0.Ports.length, .slice none 0 0]) ze74 bd74 pl74 rfl ((fill1 rfl rfl (by simp)).trans ((fill1 (((hS.own 1 rfl).slr rfl (fun _ _ => rfl))).one rfl (by simp)).trans ((fill1 (((hS.own 3 rfl).slr rfl (fun _ _ => rfl))).one rfl (by simp)).trans ((fill1 ((hS.deepSl 0 rfl)).one rfl (by simp)).trans rfl))))) rfl (by kernel_rfl) (by kernel_rfl) (by kernel_rfl) (by kernel_rfl) (fun _ _ _ h => h) ?_; clear H a; intro a H
            replace hS := hS.pick 2 rfl; dsimp only [List.eraseIdx] at hS
            refine k_storeAll 14 H rfl rfl rfl (vs := [.int .i64 a0.Id, .int .i64 0, .int .i64 0, .slice none 0 0, .slice none 0 0, .slice none 0 0, .slice (some ⟨b694, 0, none⟩) a0.Events.toNat a0.Events.toNat, u642, .slice (some ⟨b698, 0, none⟩) a0.Ports.length a0.Ports.length, .slice none 0 0]) rfl sz74 (hS.blk 0 rfl) rfl (by simp [(((hS.own 2 rfl).slr rfl (fun _ _ => rfl))).one, (((hS.own 3 rfl).slr rfl (fun _ _ => rfl))).one, ((hS.deepSl 1 rfl)).one]) (by kernel_rfl) (.inl (fun h => absurd h (Nat.not_lt.2 hge_b691))) ?_
            clear H; intro w702 hN hC703 hz; clear a; intro a H; replace hS := hS.setBlk hN hC703; clear hN hz; replace hW := Nat.le_trans hW hC703.size
            refine k_done (by kernel_rfl) ?_
            refine then_normal ?_
            obtain rfl := Option.some.inj hm; replace hm := hm47; try dsimp only at hm
            replace hS := hS.pick 1 rfl; dsimp only [List.eraseIdx] at hS
            replace hS := hS.pick 3 rfl; dsimp only [List.eraseIdx] at hS
            replace hS := hS.pick 3 rfl; dsimp only [List.eraseIdx] at hS
            replace hS := hS.pick 3 rfl; dsimp only [List.eraseIdx] at hS
            replace hS := hS.pick 5 rfl; dsimp only [List.eraseIdx] at hS
            replace hS := hS.pick 6 rfl; dsimp only [List.eraseIdx] at hS
            replace hS := hS.take 6; simp only [List.take_succ_cons, List.take_zero] at hS
            exact join ((List.replicate a0.Events.toNat false), r564, (List.replicate a0.Ports.length (⟨([] : List ByteArray), 0⟩ : GPort)), .slice (some ⟨b694, 0, none⟩) a0.Events.toNat a0.Events.toNat, u642, .slice (some ⟨b698, 0, none⟩) a0.Ports.length a0.Ports.length, b691) H ⟨rfl, rfl, rfl, trivial⟩ ⟨hm, hS⟩
          · skip
            refine kk_make (L := a0.Ports.length) (C := a0.Ports.length) 11 H rfl Tryd.underlying71 el120 rfl rfl (Nat.le_refl _) hk565 (by simp only [maxLen]; omega) rfl ?_
            clear H; intro b704 w705 hN hE706 hs; clear a; intro a H; replace hS := hS.newOwn hN hE706 (by simp [blks]; omega); clear hN
            replace hS := St.mkDeep0 (R := RGPort) (z0 := (⟨([] : List ByteArray), 0⟩ : GPort)) (n := a0.Ports.length) rfl (by simp) (fun w => ⟨_, rfl, SlR.nil _ _ _⟩) hS
            replace hW := Nat.le_trans hW hE706.size
            refine k_of_kk 4 (by kernel_rfl) ?_
            refine kk_makeL (e := eF) (z0 := false) (L := a0.Events.toNat) (C := a0.Events.toNat) 4 H rfl Tryd.underlying28 el4 rfl (by show _ = some (Value.int .i64 ((Int.toNat a0.Events : Nat) : Int)); rw [Int.toNat_of_nonneg hk562]; rfl) (by show _ = some (Value.int .i64 ((Int.toNat a0.Events : Nat) : Int)); rw [Int.toNat_of_nonneg hk562]; rfl) (Nat.le_refl _) hk563 (by simp only [maxLen]; omega) rfl ?_
            clear H; intro b708 w709 hN hE710 hs; clear a; intro a H; replace hS := hS.newOwn hN hE710 (by simp [blks]; omega); clear hN
            replace hW := Nat.le_trans hW hE710.size
            refine k_takeT 12 H rfl (q_build (cs := [.int .i64 a0.Id, .int .i64 0, .int .i64 0, .slice none 0 0, .slice none 0 0, .slice none 0 0, .slice (some ⟨b708, 0, none⟩) a0.Events.toNat a0.Events.toNat, u642, .slice (some ⟨b704, 0, none⟩) a0.Ports.length a0.Ports.length, .slice none 0 0]) ze74 bd74 pl74 rfl ((fill1 rfl rfl (by simp)).trans ((fill1 (((hS.own 0 rfl).slr rfl (fun _ _ => rfl))).one rfl (by simp)).trans ((fill1 (((hS.own 3 rfl).slr rfl (fun _ _ => rfl))).one rfl (by simp)).trans ((fill1 ((hS.deepSl 1 rfl)).one rfl (by simp)).trans rfl))))) rfl (by kernel_rfl) (by kernel_rfl) (by kernel_rfl) (by kernel_rfl) (fun _ _ _ h => h) ?_; clear H a; intro a H
            replace hS := hS.pick 2 rfl; dsimp only [List.eraseIdx] at hS
            refine k_storeAll 14 H rfl rfl rfl (vs := [.int .i64 a0.Id, .int .i64 0, .int .i64 0, .slice none 0 0, .slice none 0 0, .slice none 0 0, .slice (some ⟨b708, 0, none⟩) a0.Events.toNat a0.Events.toNat, u642, .slice (some ⟨b704, 0, none⟩) a0.Ports.length a0.Ports.length, .slice none 0 0]) rfl sz74 (hS.blk 0 rfl) rfl (by simp [(((hS.own 1 rfl).slr rfl (fun _ _ => rfl))).one, (((hS.own 3 rfl).slr rfl (fun _ _ => rfl))).one, ((hS.deepSl 2 rfl)).one]) (by kernel_rfl) (.inl (fun h => absurd h (Nat.not_lt.2 hge_b691))) ?_
            clear H; intro w712 hN hC713 hz; clear a; intro a H; replace hS := hS.setBlk hN hC713; clear hN hz; replace hW := Nat.le_trans hW hC713.size
            refine k_done (by kernel_rfl) ?_
            refine then_normal ?_
            obtain rfl := Option.some.inj hm; replace hm := hm47; try dsimp only at hm
            replace hS := hS.pick 2 rfl; dsimp only [List.eraseIdx] at hS
            replace hS := hS.pick 3 rfl; dsimp only [List.eraseIdx] at hS
            replace hS := hS.pick 3 rfl; dsimp only [List.eraseIdx] at hS
            replace hS := hS.pick 3 rfl; dsimp only [List.eraseIdx] at hS
            replace hS := hS.pick 5 rfl; dsimp only [List.eraseIdx] at hS
            replace hS := hS.pick 6 rfl; dsimp only [List.eraseIdx] at hS
            replace hS := hS.take 6; simp only [List.take_succ_cons, List.take_zero] at hS
            exact join ((List.replicate a0.Events.toNat false), r564, (List.replicate a0.Ports.length (⟨([] : List ByteArray), 0⟩ : GPort)), .slice (some ⟨b708, 0, none⟩) a0.Events.toNat a0.Events.toNat, u642, .slice (some ⟨b704, 0, none⟩) a0.Ports.length a0.Ports.length, b691) H ⟨rfl, rfl, rfl, trivial⟩ ⟨hm, hS⟩
      · skip
        refine kk_make (L := a0.Ports.length) (C := a0.Ports.length) 11 H rfl Tryd.underlying71 el120 rfl rfl (Nat.le_refl _) hk565 (by simp only [maxLen]; omega) rfl ?_
        clear H; intro b714 w715 hN hE716 hs; clear a; intro a H; replace hS := hS.newOwn hN hE716 (by simp [blks]; omega); clear hN
        replace hS := St.mkDeep0 (R := RGPort) (z0 := (⟨([] : List ByteArray), 0⟩ : GPort)) (n := a0.Ports.length) rfl (by simp) (fun w => ⟨_, rfl, SlR.nil _ _ _⟩) hS
        replace hW := Nat.le_trans hW hE716.size
        refine k_three 4 7 13 (by kernel_rfl) ?_ ?_ ?_
        · skip
          refine kk_makeL (e := eF) (z0 := false) (L := a0.Events.toNat) (C := a0.Events.toNat) 4 H rfl Tryd.underlying28 el4 rfl (by show _ = some (Value.int .i64 ((Int.toNat a0.Events : Nat) : Int)); rw [Int.toNat_of_nonneg hk562]; rfl) (by show _ = some (Value.int .i64 ((Int.toNat a0.Events : Nat) : Int)); rw [Int.toNat_of_nonneg hk562]; rfl) (Nat.le_refl _) hk563 (by simp only [maxLen]; omega) rfl ?_
          clear H; intro b718 w719 hN hE720 hs; clear a; intro a H; replace hS := hS.newOwn hN hE720 (by simp [blks]; omega); clear hN
          replace hW := Nat.le_trans hW hE720.size
          refine k_two 7 13 (by kernel_rfl) ?_ ?_
          · skip
            refine kk_call 7 H rfl rfl en86 (g_slices_Clone_int_w (A := A) (hrp0_3.ext (Flat.mono _) hS.x) hr564) rfl (fun v w hv => .inl (ChgF.of_ext (by obtain ⟨_, _, hE0⟩ := hv; exact hE0.x))) ?_
            clear H; intro u722 w724 hv; clear a; intro a H; obtain ⟨_, rfl, hE725⟩ := hv
            replace hS := hS.new hE725; simp only [List.cons_append, List.nil_append] at hS
            replace hW := Nat.le_trans hW hE725.x.size
            refine k_takeT 12 H rfl (q_build (cs := [.int .i64 a0.Id, .int .i64 0, .int .i64 0, .slice none 0 0, .slice none 0 0, .slice none 0 0, .slice (some ⟨b718, 0, none⟩) a0.Events.toNat a0.Events.toNat, u722, .slice (some ⟨b714, 0, none⟩) a0.Ports.length a0.Ports.length, .slice none 0 0]) ze74 bd74 pl74 rfl ((fill1 rfl rfl (by simp)).trans ((fill1 (((hS.own 1 rfl).slr rfl (fun _ _ => rfl))).one rfl (by simp)).trans ((fill1 (((hS.own 0 rfl).slr rfl (fun _ _ => rfl))).one rfl (by simp)).trans ((fill1 ((hS.deepSl 2 rfl)).one rfl (by simp)).trans rfl))))) rfl (by kernel_rfl) (by kernel_rfl) (by kernel_rfl) (by kernel_rfl) (fun _ _ _ h => h) ?_; clear H a; intro a H
            refine k_alloc 13 H rfl ze74 rfl (by kernel_rfl) ?_
            clear H; intro b727 w728 hN hE729 hs; clear a; intro a H
            have hge_b727 : w558.heap.size ≤ b727 := hs ▸ hW
            replace hS := hS.newBlk hN hE729 hs; clear hN hs
            replace hW := Nat.le_trans hW hE729.size
            refine k_storeAll 14 H rfl rfl rfl (vs := [.int .i64 a0.Id, .int .i64 0, .int .i64 0, .slice none 0 0, .slice none 0 0, .slice none 0 0, .slice (some ⟨b718, 0, none⟩) a0.Events.toNat a0.Events.toNat, u722, .slice (some ⟨b714, 0, none⟩) a0.Ports.length a0.Ports.length, .slice none 0 0]) rfl sz74 (hS.blk 0 rfl) rfl (by simp [(((hS.own 2 rfl).slr rfl (fun _ _ => rfl))).one, (((hS.own 1 rfl).slr rfl (fun _ _ => rfl))).one, ((hS.deepSl 3 rfl)).one]) (by kernel_rfl) (.inl (fun h => absurd h (Nat.not_lt.2 hge_b727))) ?_
            clear H; intro w730 hN hC731 hz; clear a; intro a H; replace hS := hS.setBlk hN hC731; clear hN hz; replace hW := Nat.le_trans hW hC731.size
            refine k_done (by kernel_rfl) ?_
            refine then_normal ?_
            obtain rfl := Option.some.inj hm; replace hm := hm47; try dsimp only at hm
            replace hS := hS.pick 3 rfl; dsimp only [List.eraseIdx] at hS
            replace hS := hS.pick 2 rfl; dsimp only [List.eraseIdx] at hS
            replace hS := hS.pick 3 rfl; dsimp only [List.eraseIdx] at hS
            replace hS := hS.pick 3 rfl; dsimp only [List.eraseIdx] at hS
            replace hS := hS.pick 5 rfl; dsimp only [List.eraseIdx] at hS
            replace hS := hS.pick 6 rfl; dsimp only [List.eraseIdx] at hS
            replace hS := hS.take 6; simp only [List.take_succ_cons, List.take_zero] at hS
            exact join ((List.replicate a0.Events.toNat false), r564, (List.replicate a0.Ports.length (⟨([] : List ByteArray), 0⟩ : GPort)), .slice (some ⟨b718, 0, none⟩) a0.Events.toNat a0.Events.toNat, u722, .slice (some ⟨b714, 0, none⟩) a0.Ports.length a0.Ports.length, b727) H ⟨rfl, rfl, rfl, trivial⟩ ⟨hm, hS⟩
          · skip
            refine kk_alloc 13 H rfl ze74 rfl ?_
            clear H; intro b732 w733 hN hE734 hs; clear a; intro a H
            have hge_b732 : w558.heap.size ≤ b732 := hs ▸ hW
            replace hS := hS.newBlk hN hE734 hs; clear hN hs
            replace hW := Nat.le_trans hW hE734.size
            refine k_of_kk 7 (by kernel_rfl) ?_
            refine kk_call 7 H rfl rfl en86 (g_slices_Clone_int_w (A := A) (hrp0_3.ext (Flat.mono _) hS.x) hr564) rfl (fun v w hv => .inl (ChgF.of_ext (by obtain ⟨_, _, hE0⟩ := hv; exact hE0.x))) ?_
            clear H; intro u735 w737 hv; clear a; intro a H; obtain ⟨_, rfl, hE738⟩ := hv
            replace hS := hS.new hE738; simp only [List.cons_append, List.nil_append] at hS
            replace hW := Nat.le_trans hW hE738.x.size
            refine k_takeT 12 H rfl (q_build (cs := [.int .i64 a0.Id, .int .i64 0, .int .i64 0, .slice none 0 0, .slice none 0 0, .slice none 0 0, .slice (some ⟨b718, 0, none⟩) a0.Events.toNat a0.Events.toNat, u735, .slice (some ⟨b714, 0, none⟩) a0.Ports.length a0.Ports.length, .slice none 0 0]) ze74 bd74 pl74 rfl ((fill1 rfl rfl (by simp)).trans ((fill1 (((hS.own 2 rfl).slr rfl (fun _ _ => rfl))).one rfl (by simp)).trans ((fill1 (((hS.own 0 rfl).slr rfl (fun _ _ => rfl))).one rfl (by simp)).trans ((fill1 ((hS.deepSl 3 rfl)).one rfl (by simp)).trans rfl))))) rfl (by kernel_rfl) (by kernel_rfl) (by kernel_rfl) (by kernel_rfl) (fun _ _ _ h => h) ?_; clear H a; intro a H
            replace hS := hS.pick 1 rfl; dsimp only [List.eraseIdx] at hS
            refine k_storeAll 14 H rfl rfl rfl (vs := [.int .i64 a0.Id, .int .i64 0, .int .i64 0, .slice none 0 0, .slice none 0 0, .slice none 0 0, .slice (some ⟨b718, 0, none⟩) a0.Events.toNat a0.Events.toNat, u735, .slice (some ⟨b714, 0, none⟩) a0.Ports.length a0.Ports.length, .slice none 0 0]) rfl sz74 (hS.blk 0 rfl) rfl (by simp [(((hS.own 2 rfl).slr rfl (fun _ _ => rfl))).one, (((hS.own 1 rfl).slr rfl (fun _ _ => rfl))).one, ((hS.deepSl 3 rfl)).one]) (by kernel_rfl) (.inl (fun h => absurd h (Nat.not_lt.2 hge_b732))) ?_
            clear H; intro w740 hN hC741 hz; clear a; intro a H; replace hS := hS.setBlk hN hC741; clear hN hz; replace hW := Nat.le_trans hW hC741.size
            refine k_done (by kernel_rfl) ?_
            refine then_normal ?_
            obtain rfl := Option.some.inj hm; replace hm := hm47; try dsimp only at hm
            replace hS := hS.pick 3 rfl; dsimp only [List.eraseIdx] at hS
            replace hS := hS.pick 2 rfl; dsimp only [List.eraseIdx] at hS
            replace hS := hS.pick 3 rfl; dsimp only [List.eraseIdx] at hS
            replace hS := hS.pick 3 rfl; dsimp only [List.eraseIdx] at hS
            replace hS := hS.pick 5 rfl; dsimp only [List.eraseIdx] at hS
            replace hS := hS.pick 6 rfl; dsimp only [List.eraseIdx] at hS
            replace hS := hS.take 6; simp only [List.take_succ_cons, List.take_zero] at hS
            exact join ((List.replicate a0.Events.toNat false), r564, (List.replicate a0.Ports.length (⟨([] : List ByteArray), 0⟩ : GPort)), .slice (some ⟨b718, 0, none⟩) a0.Events.toNat a0.Events.toNat, u735, .slice (some ⟨b714, 0, none⟩) a0.Ports.length a0.Ports.length, b732) H ⟨rfl, rfl, rfl, trivial⟩ ⟨hm, hS⟩
        · skip
          refine kk_call 7 H rfl rfl en86 (g_slices_Clone_int_w (A := A) (hrp0_3.ext (Flat.mono _) hS.x) hr564) rfl (fun v w hv => .inl (ChgF.of_ext (by obtain ⟨_, _, hE0⟩ := hv; exact hE0.x))) ?_
          clear H; intro u742 w744 hv; clear a; intro a H; obtain ⟨_, rfl, hE745⟩ := hv
          replace hS := hS.new hE745; simp only [List.cons_append, List.nil_append] at hS
          replace hW := Nat.le_trans hW hE745.x.size
          refine k_two 4 13 (by kernel_rfl) ?_ ?_
          · skip
            refine kk_makeL (e := eF) (z0 := false) (L := a0.Events.toNat) (C := a0.Events.toNat) 4 H rfl Tryd.underlying28 el4 rfl (by show _ = some (Value.int .i64 ((Int.toNat a0.Events : Nat) : Int)); rw [Int.toNat_of_nonneg hk562]; rfl) (by show _ = some (Value.int .i64 ((Int.toNat a0.Events : Nat) : Int)); rw [Int.toNat_of_nonneg hk562]; rfl) (Nat.le_refl _) hk563 (by simp only [maxLen]; omega) rfl ?_
            clear H; intro b747 w748 hN hE749 hs; clear a; intro a H; replace hS := hS.newOwn hN hE749 (by simp [blks]; omega); clear hN
            replace hW := Nat.le_trans hW hE749.size
            refine k_takeT 12 H rfl (q_build (cs := [.int .i64 a0.Id, .int .i64 0, .int .i64 0, .slice none 0 0, .slice none 0 0, .slice none 0 0, .slice (some ⟨b747, 0, none⟩) a0.Events.toNat a0.Events.toNat, u742, .slice (some ⟨b714, 0, none⟩) a0.Ports.length a0.Ports.length, .slice none 0 0]) ze74 bd74 pl74 rfl ((fill1 rfl rfl (by simp)).trans ((fill1 (((hS.own 0 rfl).slr rfl (fun _ _ => rfl))).one rfl (by simp)).trans ((fill1 (((hS.own 1 rfl).slr rfl (fun _ _ => rfl))).one rfl (by simp)).trans ((fill1 ((hS.deepSl 2 rfl)).one rfl (by simp)).trans rfl))))) rfl (by kernel_rfl) (by kernel_rfl) (by kernel_rfl) (by kernel_rfl) (fun _ _ _ h => h) ?_; clear H a; intro a H
            refine k_alloc 13 H rfl ze74 rfl (by kernel_rfl) ?_
            clear H; intro b751 w752 hN hE753 hs; clear a; intro a H
            have hge_b751 : w558.heap.size ≤ b751 := hs ▸ hW
            replace hS := hS.newBlk hN hE753 hs; clear hN hs
            replace hW := Nat.le_trans hW hE753.size
            refine k_storeAll 14 H rfl rfl rfl (vs := [.int .i64 a0.Id, .int .i64 0, .int .i64 0, .slice none 0 0, .slice none 0 0, .slice none 0 0, .slice (some ⟨b747, 0, none⟩) a0.Events.toNat a0.Events.toNat, u742, .slice (some ⟨b714, 0, none⟩) a0.Ports.length a0.Ports.length, .slice none 0 0]) rfl sz74 (hS.blk 0 rfl) rfl (by simp [(((hS.own 1 rfl).slr rfl (fun _ _ => rfl))).one, (((hS.own 2 rfl).slr rfl (fun _ _ => rfl))).one, ((hS.deepSl 3 rfl)).one]) (by kernel_rfl) (.inl (fun h => absurd h (Nat.not_lt.2 hge_b751))) ?_
            clear H; intro w754 hN hC755 hz; clear a; intro a H; replace hS := hS.setBlk hN hC755; clear hN hz; replace hW := Nat.le_trans hW hC755.size
            refine k_done (by kernel_rfl) ?_
            refine then_normal ?_
            obtain rfl := Option.some.inj hm; replace hm := hm47; try dsimp only at hm
            replace hS := hS.pick 3 rfl; dsimp only [List.eraseIdx] at hS
            replace hS := hS.pick 3 rfl; dsimp only [List.eraseIdx] at hS
            replace hS := hS.pick 3 rfl; dsimp only [List.eraseIdx] at hS
            replace hS := hS.pick 3 rfl; dsimp only [List.eraseIdx] at hS
            replace hS := hS.pick 5 rfl; dsimp only [List.eraseIdx] at hS
            replace hS := hS.pick 6 rfl; dsimp only [List.eraseIdx] at hS
            replace hS := hS.take 6; simp only [List.take_succ_cons, List.take_zero] at hS
            exact join ((List.replicate a0.Events.toNat false), r564, (List.replicate a0.Ports.length (⟨([] : List ByteArray), 0⟩ : GPort)), .slice (some ⟨b747, 0, none⟩) a0.Events.toNat a0.Events.toNat, u742, .slice (some ⟨b714, 0, none⟩) a0.Ports.length a0.Ports.length, b751) H ⟨rfl, rfl, rfl, trivial⟩ ⟨hm, hS⟩
          · skip
            refine kk_alloc 13 H rfl ze74 rfl ?_
            clear H; intro b756 w757 hN hE758 hs; clear a; intro a H
            have hge_b756 : w558.heap.size ≤ b756 := hs ▸ hW
            replace hS := hS.newBlk hN hE758 hs; clear hN hs
            replace hW := Nat.le_trans hW hE758.size
            refine k_of_kk 4 (by kernel_rfl) ?_
            refine kk_makeL (e := eF) (z0 := false) (L := a0.Events.toNat) (C := a0.Events.toNat) 4 H rfl Tryd.underlying28 el4 rfl (by show _ = some (Value.int .i64 ((Int.toNat a0.Events : Nat) : Int)); rw [Int.toNat_of_nonneg hk562]; rfl) (by show _ = some (Value.int .i64 ((Int.toNat a0.Events : Nat) : Int)); rw [Int.toNat_of_nonneg hk562]; rfl) (Nat.le_refl _) hk563 (by simp only [maxLen]; omega) rfl ?_
            clear H; intro b759 w760 hN hE761 hs; clear a; intro a H; replace hS := hS.newOwn hN hE761 (by simp [blks]; omega); clear hN
            replace hW := Nat.le_trans hW hE761.size
            refine k_takeT 12 H rfl (q_build (cs := [.int .i64 a0.Id, .int .i64 0, .int .i64 0, .slice none 0 0, .slice none 0 0, .slice none 0 0, .slice (some ⟨b759, 0, none⟩) a0.Events.toNat a0.Events.toNat, u742, .slice (some ⟨b714, 0, none⟩) a0.Ports.length a0.Ports.length, .slice none 0 0]) ze74 bd74 pl74 rfl ((fill1 rfl rfl (by simp)).trans ((fill1 (((hS.own 0 rfl).slr rfl (fun _ _ => rfl))).one rfl (by simp)).trans ((fill1 (((hS.own 2 rfl).slr rfl (fun _ _ => rfl))).one rfl (by simp)).trans ((fill1 ((hS.deepSl 3 rfl)).one rfl (by simp)).trans rfl))))) rfl (by kernel_rfl) (by kernel_rfl) (by kernel_rfl) (by kernel_rfl) (fun _ _ _ h => h) ?_; clear H a; intro a H
            replace hS := hS.pick 1 rfl; dsimp only [List.eraseIdx] at hS
            refine k_storeAll 14 H rfl rfl rfl (vs := [.int .i64 a0.Id, .int .i64 0, .int .i64 0, .slice none 0 0, .slice none 0 0, .slice none 0 0, .slice (some ⟨b759, 0, none⟩) a0.Events.toNat a0.Events.toNat, u742, .slice (some ⟨b714, 0, none⟩) a0.Ports.length a0.Ports.length, .slice none 0 0]) rfl sz74 (hS.blk 0 rfl) rfl (by simp [(((hS.own 1 rfl).slr rfl (fun _ _ => rfl))).one, (((hS.own 2 rfl).slr rfl (fun _ _ => rfl))).one, ((hS.deepSl 3 rfl)).one]) (by kernel_rfl) (.inl (fun h => absurd h (Nat.not_lt.2 hge_b756))) ?_
            clear H; intro w763 hN hC764 hz; clear a; intro a H; replace hS := hS.setBlk hN hC764; clear hN hz; replace hW := Nat.le_trans hW hC764.size
            refine k_done (by kernel_rfl) ?_
            refine then_normal ?_
            obtain rfl := Option.some.inj hm; replace hm := hm47; try dsimp only at hm
            replace hS := hS.pick 3 rfl; dsimp only [List.eraseIdx] at hS
            replace hS := hS.pick 3 rfl; dsimp only [List.eraseIdx] at hS
            replace hS := hS.pick 3 rfl; dsimp only [List.eraseIdx] at hS
            replace hS := hS.pick 3 rfl; dsimp only [List.eraseIdx] at hS
            replace hS := hS.pick 5 rfl; dsimp only [List.eraseIdx] at hS
            replace hS := hS.pick 6 rfl; dsimp only [List.eraseIdx] at hS
            replace hS := hS.take 6; simp only [List.take_succ_cons, List.take_zero] at hS
            exact join ((List.replicate a0.Events.toNat false), r564, (List.replicate a0.Ports.length (⟨([] : List ByteArray), 0⟩ : GPort)), .slice (some ⟨b759, 0, none⟩) a0.Events.toNat a0.Events.toNat, u742, .slice (some ⟨b714, 0, none⟩) a0.Ports.length a0.Ports.length, b756) H ⟨rfl, rfl, rfl, trivial⟩ ⟨hm, hS⟩
        · skip
          refine kk_alloc 13 H rfl ze74 rfl ?_
          clear H; intro b765 w766 hN hE767 hs; clear a; intro a H
          have hge_b765 : w558.heap.size ≤ b765 := hs ▸ hW
          replace hS := hS.newBlk hN hE767 hs; clear hN hs
          replace hW := Nat.le_trans hW hE767.size
          refine k_two 4 7 (by kernel_rfl) ?_ ?_
          · skip
            refine kk_makeL (e := eF) (z0 := false) (L := a0.Events.toNat) (C := a0.Events.toNat) 4 H rfl Tryd.underlying28 el4 rfl (by show _ = some (Value.int .i64 ((Int.toNat a0.Events : Nat) : Int)); rw [Int.toNat_of_nonneg hk562]; rfl) (by show _ = some (Value.int .i64 ((Int.toNat a0.Events : Nat) : Int)); rw [Int.toNat_of_nonneg hk562]; rfl) (Nat.le_refl _) hk563 (by simp only [maxLen]; omega) rfl ?_
            clear H; intro b768 w769 hN hE770 hs; clear a; intro a H; replace hS := hS.newOwn hN hE770 (by simp [blks]; omega); clear hN
            replace hW := Nat.le_trans hW hE770.size
            refine k_of_kk 7 (by kernel_rfl) ?_
            refine kk_call 7 H rfl rfl en86 (g_slices_Clone_int_w (A := A) (hrp0_3.ext (Flat.mono _) hS.x) hr564) rfl (fun v w hv => .inl (ChgF.of_ext (by obtain ⟨_, _, hE0⟩ := hv; exact hE0.x))) ?_
            clear H; intro u772 w774 hv; clear a; intro a H; obtain ⟨_, rfl, hE775⟩ := hv
            replace hS := hS.new hE775; simp only [List.cons_append, List.nil_append] at hS
            replace hW := Nat.le_trans hW hE775.x.size
            refine k_takeT 12 H rfl (q_build (cs := [.int .i64 a0.Id, .int .i64 0, .int .i64 0, .slice none 0 0, .slice none 0 0, .slice none 0 0, .slice (some ⟨b768, 0, none⟩) a0.Events.toNat a0.Events.toNat, u772, .slice (some ⟨b714, 0, none⟩) a0.Ports.length a0.Ports.length, .slice none 0 0]) ze74 bd74 pl74 rfl ((fill1 rfl rfl (by simp)).trans ((fill1 (((hS.own 1 rfl).slr rfl (fun _ _ => rfl))).one rfl (by simp)).trans ((fill1 (((hS.own 0 rfl).slr rfl (fun _ _ => rfl))).one rfl (by simp)).trans ((fill1 ((hS.deepSl 3 rfl)).one rfl (by simp)).trans rfl))))) rfl (by kernel_rfl) (by kernel_rfl) (by kernel_rfl) (by kernel_rfl) (fun _ _ _ h => h) ?_; clear H a; intro a H
            replace hS := hS.pick 2 rfl; dsimp only [List.eraseIdx] at hS
            refine k_storeAll 14 H rfl rfl rfl (vs := [.int .i64 a0.Id, .int .i64 0, .int .i64 0, .slice none 0 0, .slice none 0 0, .slice none 0 0, .slice (some ⟨b768, 0, none⟩) a0.Events.toNat a0.Events.toNat, u772, .slice (some ⟨b714, 0, none⟩) a0.Ports.length a0.Ports.length, .slice none 0 0]) rfl sz74 (hS.blk 0 rfl) rfl (by simp [(((hS.own 2 rfl).slr rfl (fun _ _ => rfl))).one, (((hS.own 1 rfl).slr rfl (fun _ _ => rfl))).one, ((hS.deepSl 3 rfl)).one]) (by kernel_rfl) (.inl (fun h => absurd h (Nat.not_lt.2 hge_b765))) ?_
            clear H; intro w777 hN hC778 hz; clear a; intro a H; replace hS := hS.setBlk hN hC778; clear hN hz; replace hW := Nat.le_trans hW hC778.size
            refine k_done (by kernel_rfl) ?_
            refine then_normal ?_
            obtain rfl := Option.some.inj hm; replace hm := hm47; try dsimp only at hm
            replace hS := hS.pick 3 rfl; dsimp only [List.eraseIdx] at hS
            replace hS := hS.pick 2 rfl; dsimp only [List.eraseIdx] at hS
            replace hS := hS.pick 3 rfl; dsimp only [List.eraseIdx] at hS
            replace hS := hS.pick 3 rfl; dsimp only [List.eraseIdx] at hS
            replace hS := hS.pick 5 rfl; dsimp only [List.eraseIdx] at hS
            replace hS := hS.pick 6 rfl; dsimp only [List.eraseIdx] at hS
            replace hS := hS.take 6; simp only [List.take_succ_cons, List.take_zero] at hS
            exact join ((List.replicate a0.Events.toNat false), r564, (List.replicate a0.Ports.length (⟨([] : List ByteArray), 0⟩ : GPort)), .slice (some ⟨b768, 0, none⟩) a0.Events.toNat a0.Events.toNat, u772, .slice (some ⟨b714, 0, none⟩) a0.Ports.length a0.Ports.length, b765) H ⟨rfl, rfl, rfl, trivial⟩ ⟨hm, hS⟩
          · skip
            refine kk_call 7 H rfl rfl en86 (g_slices_Clone_int_w (A := A) (hrp0_3.ext (Flat.mono _) hS.x) hr564) rfl (fun v w hv => .inl (ChgF.of_ext (by obtain ⟨_, _, hE0⟩ := hv; exact hE0.x))) ?_
            clear H; intro u779 w781 hv; clear a; intro a H; obtain ⟨_, rfl, hE782⟩ := hv
            replace hS := hS.new hE782; simp only [List.cons_append, List.nil_append] at hS
            replace hW := Nat.le_trans hW hE782.x.size
            refine k_of_kk 4 (by kernel_rfl) ?_
            refine kk_makeL (e := eF) (z0 := false) (L := a0.Events.toNat) (C := a0.Events.toNat) 4 H rfl Tryd.underlying28 el4 rfl (by show _ = some (Value.int .i64 ((Int.toNat a0.Events : Nat) : Int)); rw [Int.toNat_of_nonneg hk562]; rfl) (by show _ = some (Value.int .i64 ((Int.toNat a0.Events : Nat) : Int)); rw [Int.toNat_of_nonneg hk562]; rfl) (Nat.le_refl _) hk563 (by simp only [maxLen]; omega) rfl ?_
            clear H; intro b784 w785 hN hE786 hs; clear a; intro a H; replace hS := hS.newOwn hN hE786 (by simp [blks]; omega); clear hN
            replace hW := Nat.le_trans hW hE786.size
            refine k_takeT 12 H rfl (q_build (cs := [.int .i64 a0.Id, .int .i64 0, .int .i64 0, .slice none 0 0, .slice none 0 0, .slice none 0 0, .slice (some ⟨b784, 0, none⟩) a0.Events.toNat a0.Events.toNat, u779, .slice (some ⟨b714, 0, none⟩) a0.Ports.length a0.Ports.length, .slice none 0 0]) ze74 bd74 pl74 rfl ((fill1 rfl rfl (by simp)).trans ((fill1 (((hS.own 0 rfl).slr rfl (fun _ _ => rfl))).one rfl (by simp)).trans ((fill1 (((hS.own 1 rfl).slr rfl (fun _ _ => rfl))).one rfl (by simp)).trans ((fill1 ((hS.deepSl 3 rfl)).one rfl (by simp)).trans rfl))))) rfl (by kernel_rfl) (by kernel_rfl) (by kernel_rfl) (by kernel_rfl) (fun _ _ _ h => h) ?_; clear H a; intro a H
            replace hS := hS.pick 2 rfl; dsimp only [List.eraseIdx] at hS
            refine k_storeAll 14 H rfl rfl rfl (vs := [.int .i64 a0.Id, .int .i64 0, .int .i64 0, .slice none 0 0, .slice none 0 0, .slice none 0 0, .slice (some ⟨b784, 0, none⟩) a0.Events.toNat a0.Events.toNat, u779, .slice (some ⟨b714, 0, none⟩) a0.Ports.length a0.Ports.length, .slice none 0 0]) rfl sz74 (hS.blk 0 rfl) rfl (by simp [(((hS.own 1 rfl).slr rfl (fun _ _ => rfl))).one, (((hS.own 2 rfl).slr rfl (fun _ _ => rfl))).one, ((hS.deepSl 3 rfl)).one]) (by kernel_rfl) (.inl (fun h => absurd h (Nat.not_lt.2 hge_b765))) ?_
            clear H; intro w788 hN hC789 hz; clear a; intro a H; replace hS := hS.setBlk hN hC789; clear hN hz; replace hW := Nat.le_trans hW hC789.size
            refine k_done (by kernel_rfl) ?_
            refine then_normal ?_
            obtain rfl := Option.some.inj hm; replace hm := hm47; try dsimp only at hm
            replace hS := hS.pick 3 rfl; dsimp only [List.eraseIdx] at hS
            replace hS := hS.pick 3 rfl; dsimp only [List.eraseIdx] at hS
            replace hS := hS.pick 3 rfl; dsimp only [List.eraseIdx] at hS
            replace hS := hS.pick 3 rfl; dsimp only [List.eraseIdx] at hS
            replace hS := hS.pick 5 rfl; dsimp only [List.eraseIdx] at hS
            replace hS := hS.pick 6 rfl; dsimp only [List.eraseIdx] at hS
            replace hS := hS.take 6; simp only [List.take_succ_cons, List.take_zero] at hS
            exact join ((List.replicate a0.Events.toNat false), r564, (List.replicate a0.Ports.length (⟨([] : List ByteArray), 0⟩ : GPort)), .slice (some ⟨b784, 0, none⟩) a0.Events.toNat a0.Events.toNat, u779, .slice (some ⟨b714, 0, none⟩) a0.Ports.length a0.Ports.length, b765) H ⟨rfl, rfl, rfl, trivial⟩ ⟨hm, hS⟩
      · skip
        refine kk_alloc 13 H rfl ze74 rfl ?_
        clear H; intro b790 w791 hN hE792 hs; clear a; intro a H
        have hge_b790 : w558.heap.size ≤ b790 := hs ▸ hW
        replace hS := hS.newBlk hN hE792 hs; clear hN hs
        replace hW := Nat.le_trans hW hE792.size
        refine k_three 4 7 11 (by kernel_rfl) ?_ ?_ ?_
        · skip
          refine kk_makeL (e := eF) (z0 := false) (L := a0.Events.toNat) (C := a0.Events.toNat) 4 H rfl Tryd.underlying28 el4 rfl (by show _ = some (Value.int .i64 ((Int.toNat a0.Events : Nat) : Int)); rw [Int.toNat_of_nonneg hk562]; rfl) (by show _ = some (Value.int .i64 ((Int.toNat a0.Events : Nat) : Int)); rw [Int.toNat_of_nonneg hk562]; rfl) (Nat.le_refl _) hk563 (by simp only [maxLen]; omega) rfl ?_
          clear H; intro b793 w794 hN hE795 hs; clear a; intro a H; replace hS := hS.newOwn hN hE795 (by simp [blks]; omega); clear hN
          replace hW := Nat.le_trans hW hE795.size
          refine k_two 7 11 (by kernel_rfl) ?_ ?_
          · skip
            refine kk_call 7 H rfl rfl en86 (g_slices_Clone_int_w (A := A) (hrp0_3.ext (Flat.mono _) hS.x) hr564) rfl (fun v w hv => .inl (ChgF.of_ext (by obtain ⟨_, _, hE0⟩ := hv; exact hE0.x))) ?_
            clear H; intro u797 w799 hv; clear a; intro a H; obtain ⟨_, rfl, hE800⟩ := hv
            replace hS := hS.new hE800; simp only [List.cons_append, List.nil_append] at hS
            replace hW := Nat.le_trans hW hE800.x.size
            refine k_of_kk 11 (by kernel_rfl) ?_
            refine kk_make (L := a0.Ports.length) (C := a0.Ports.length) 11 H rfl Tryd.underlying71 el120 rfl rfl (Nat.le_refl _) hk565 (by simp only [maxLen]; omega) rfl ?_
            clear H; intro b802 w803 hN hE804 hs; clear a; intro a H; replace hS := hS.newOwn hN hE804 (by simp [blks]; omega); clear hN
            replace hS := St.mkDeep0 (R := RGPort) (z0 := (⟨([] : List ByteArray), 0⟩ : GPort)) (n := a0.Ports.length) rfl (by simp) (fun w => ⟨_, rfl, SlR.nil _ _ _⟩) hS
            replace hW := Nat.le_trans hW hE804.size
            refine k_takeT 12 H rfl (q_build (cs := [.int .i64 a0.Id, .int .i64 0, .int .i64 0, .slice none 0 0, .slice none 0 0, .slice none 0 0, .slice (some ⟨b793, 0, none⟩) a0.Events.toNat a0.Events.toNat, u797, .slice (some ⟨b802, 0, none⟩) a0.Ports.length a0.Ports.length, .slice none 0 0]) ze74 bd74 pl74 rfl ((fill1 rfl rfl (by simp)).trans ((fill1 (((hS.own 2 rfl).slr rfl (fun _ _ => rfl))).one rfl (by simp)).trans ((fill1 (((hS.own 1 rfl).slr rfl (fun _ _ => rfl))).one rfl (by simp)).trans ((fill1 ((hS.deepSl 0 rfl)).one rfl (by simp)).trans rfl))))) rfl (by kernel_rfl) (by kernel_rfl) (by kernel_rfl) (by kernel_rfl) (fun _ _ _ h => h) ?_; clear H a; intro a H
            replace hS := hS.pick 3 rfl; dsimp only [List.eraseIdx] at hS
            refine k_storeAll 14 H rfl rfl rfl (vs := [.int .i64 a0.Id, .int .i64 0, .int .i64 0, .slice none 0 0, .slice none 0 0, .slice none 0 0, .slice (some ⟨b793, 0, none⟩) a0.Events.toNat a0.Events.toNat, u797, .slice (some ⟨b802, 0, none⟩) a0.Ports.length a0.Ports.length, .slice none 0 0]) rfl sz74 (hS.blk 0 rfl) rfl (by simp [(((hS.own 3 rfl).slr rfl (fun _ _ => rfl))).one, (((hS.own 2 rfl).slr rfl (fun _ _ => rfl))).one, ((hS.deepSl 1 rfl)).one]) (by kernel_rfl) (.inl (fun h => absurd h (Nat.not_lt.2 hge_b790))) ?_
            clear H; intro w806 hN hC807 hz; clear a; intro a H; replace hS := hS.setBlk hN hC807; clear hN hz; replace hW := Nat.le_trans hW hC807.size
            refine k_done (by kernel_rfl) ?_
            refine then_normal ?_
            obtain rfl := Option.some.inj hm; replace hm := hm47; try dsimp only at hm
            replace hS := hS.pick 1 rfl; dsimp only [List.eraseIdx] at hS
            replace hS := hS.pick 2 rfl; dsimp only [List.eraseIdx] at hS
            replace hS := hS.pick 3 rfl; dsimp only [List.eraseIdx] at hS
            replace hS := hS.pick 3 rfl; dsimp only [List.eraseIdx] at hS
            replace hS := hS.pick 5 rfl; dsimp only [List.eraseIdx] at hS
            replace hS := hS.pick 6 rfl; dsimp only [List.eraseIdx] at hS
            replace hS := hS.take 6; simp only [List.take_succ_cons, List.take_zero] at hS
            exact join ((List.replicate a0.Events.toNat false), r564, (List.replicate a0.Ports.length (⟨([] : List ByteArray), 0⟩ : GPort)), .slice (some ⟨b793, 0, none⟩) a0.Events.toNat a0.Events.toNat, u797, .slice (some ⟨b802, 0, none⟩) a0.Ports.length a0.Ports.length, b790) H ⟨rfl, rfl, rfl, trivial⟩ ⟨hm, hS⟩
          · skip
            refine kk_make (L := a0.Ports.length) (C := a0.Ports.length) 11 H rfl Tryd.underlying71 el120 rfl rfl (Nat.le_refl _) hk565 (by simp only [maxLen]; omega) rfl ?_
            clear H; intro b808 w809 hN hE810 hs; clear a; intro a H; replace hS := hS.newOwn hN hE810 (by simp [blks]; omega); clear hN
            replace hS := St.mkDeep0 (R := RGPort) (z0 := (⟨([] : List ByteArray), 0⟩ : GPort)) (n := a0.Ports.length) rfl (by simp) (fun w => ⟨_, rfl, SlR.nil _ _ _⟩) hS
            replace hW := Nat.le_trans hW hE810.size
            refine k_of_kk 7 (by kernel_rfl) ?_
            refine kk_call 7 H rfl rfl en86 (g_slices_Clone_int_w (A := A) (hrp0_3.ext (Flat.mono _) hS.x) hr564) rfl (fun v w hv => .inl (ChgF.of_ext (by obtain ⟨_, _, hE0⟩ := hv; exact hE0.x))) ?_
            clear H; intro u812 w814 hv; clear a; intro a H; obtain ⟨_, rfl, hE815⟩ := hv
            replace hS := hS.new hE815; simp only [List.cons_append, List.nil_append] at hS
            replace hW := Nat.le_trans hW hE815.x.size
            refine k_takeT 12 H rfl (q_build (cs := [.int .i64 a0.Id, .int .i64 0, .int .i64 0, .slice none 0 0, .slice none 0 0, .slice none 0 0, .slice (some ⟨b793, 0, none⟩) a0.Events.toNat a0.Events.toNat, u812, .slice (some ⟨b808, 0, none⟩) a0.Ports.length a0.Ports.length, .slice none 0 0]) ze74 bd74 pl74 rfl ((fill1 rfl rfl (by simp)).trans ((fill1 (((hS.own 2 rfl).slr rfl (fun _ _ => rfl))).one rfl (by simp)).trans ((fill1 (((hS.own 0 rfl).slr rfl (fun _ _ => rfl))).one rfl (by simp)).trans ((fill1 ((hS.deepSl 1 rfl)).one rfl (by simp)).trans rfl))))) rfl (by kernel_rfl) (by kernel_rfl) (by kernel_rfl) (by kernel_rfl) (fun _ _ _ h => h) ?_; clear H a; intro a H
            replace hS := hS.pick 3 rfl; dsimp only [List.eraseIdx] at hS
            refine k_storeAll 14 H rfl rfl rfl (vs := [.int .i64 a0.Id, .int .i64 0, .int .i64 0, .slice none 0 0, .slice none 0 0, .slice none 0 0, .slice (some ⟨b793, 0, none⟩) a0.Events.toNat a0.Events.toNat, u812, .slice (some ⟨b808, 0, none⟩) a0.Ports.length a0.Ports.length, .slice none 0 0]) rfl sz74 (hS.blk 0 rfl) rfl (by simp [(((hS.own 3 rfl).slr rfl (fun _ _ => rfl))).one, (((hS.own 1 rfl).slr rfl (fun _ _ => rfl))).one, ((hS.deepSl 2 rfl)).one]) (by kernel_rfl) (.inl (fun h => absurd h (Nat.not_lt.2 hge_b790))) ?_
            clear H; intro w817 hN hC818 hz; clear a; intro a H; replace hS := hS.setBlk hN hC818; clear hN hz; replace hW := Nat.le_trans hW hC818.size
            refine k_done (by kernel_rfl) ?_
            refine then_normal ?_
            obtain rfl := Option.some.inj hm; replace hm := hm47; try dsimp only at hm
            replace hS := hS.pick 2 rfl; dsimp only [List.eraseIdx] at hS
            replace hS := hS.pick 2 rfl; dsimp only [List.eraseIdx] at hS
            replace hS := hS.pick 3 rfl; dsimp only [List.eraseIdx] at hS
            replace hS := hS.pick 3 rfl; dsimp only [List.eraseIdx] at hS
            replace hS := hS.pick 5 rfl; dsimp only [List.eraseIdx] at hS
            replace hS := hS.pick 6 rfl; dsimp only [List.eraseIdx] at hS
            replace hS := hS.take 6; simp only [List.take_succ_cons, List.take_zero] at hS
            exact join ((List.replicate a0.Events.toNat false), r564, (List.replicate a0.Ports.length (⟨([] : List ByteArray), 0⟩ : GPort)), .slice (some ⟨b793, 0, none⟩) a0.Events.toNat a0.Events.toNat, u812, .slice (some ⟨b808, 0, none⟩) a0.Ports.length a0.Ports.length, b790) H ⟨rfl, rfl, rfl, trivial⟩ ⟨hm, hS⟩
        · skip
          refine kk_call 7 H rfl rfl en86 (g_slices_Clone_int_w (A := A) (hrp0_3.ext (Flat.mono _) hS.x) hr564) rfl (fun v w hv => .inl (ChgF.of_ext (by obtain ⟨_, _, hE0⟩ := hv; exact hE0.x))) ?_
          clear H; intro u819 w821 hv; clear a; intro a H; obtain ⟨_, rfl, hE822⟩ := hv
          replace hS := hS.new hE822; simp only [List.cons_append, List.nil_append] at hS
          replace hW := Nat.le_trans hW hE822.x.size
          refine k_two 4 11 (by kernel_rfl) ?_ ?_
          · skip
            refine kk_makeL (e := eF) (z0 := false) (L := a0.Events.toNat) (C := a0.Events.toNat) 4 H rfl Tryd.underlying28 el4 rfl (by show _ = some (Value.int .i64 ((Int.toNat a0.Events : Nat) : Int)); rw [Int.toNat_of_nonneg hk562]; rfl) (by show _ = some (Value.int .i64 ((Int.toNat a0.Events : Nat) : Int)); rw [Int.toNat_of_nonneg hk562]; rfl) (Nat.le_refl _) hk563 (by simp only [maxLen]; omega) rfl ?_
            clear H; intro b824 w825 hN hE826 hs; clear a; intro a H; replace hS := hS.newOwn hN hE826 (by simp [blks]; omega); clear hN
            replace hW := Nat.le_trans hW hE826.size
            refine k_of_kk 11 (by kernel_rfl) ?_
            refine kk_make (L := a0.Ports.length) (C := a0.Ports.length) 11 H rfl Tryd.underlying71 el120 rfl rfl (Nat.le_refl _) hk565 (by simp only [maxLen]; omega) rfl ?_
            clear H; intro b828 w829 hN hE830 hs; clear a; intro a H; replace hS := hS.newOwn hN hE830 (by simp [blks]; omega); clear hN
            replace hS := St.mkDeep0 (R := RGPort) (z0 := (⟨([] : List ByteArray), 0⟩ : GPort)) (n := a0.Ports.length) rfl (by simp) (fun w => ⟨_, rfl, SlR.nil _ _ _⟩) hS
            replace hW := Nat.le_trans hW hE830.size
            refine k_takeT 12 H rfl (q_build (cs := [.int .i64 a0.Id, .int .i64 0, .int .i64 0, .slice none 0 0, .slice none 0 0, .slice none 0 0, .slice (some ⟨b824, 0, none⟩) a0.Events.toNat a0.Events.toNat, u819, .slice (some ⟨b828, 0, none⟩) a0.Ports.length a0.Ports.length, .slice none 0 0]) ze74 bd74 pl74 rfl ((fill1 rfl rfl (by simp)).trans ((fill1 (((hS.own 1 rfl).slr rfl (fun _ _ => rfl))).one rfl (by simp)).trans ((fill1 (((hS.own 2 rfl).slr rfl (fun _ _ => rfl))).one rfl (by simp)).trans ((fill1 ((hS.deepSl 0 rfl)).one rfl (by simp)).trans rfl))))) rfl (by kernel_rfl) (by kernel_rfl) (by kernel_rfl) (by kernel_rfl) (fun _ _ _ h => h) ?_; clear H a; intro a H
            replace hS := hS.pick 3 rfl; dsimp only [List.eraseIdx] at hS
            refine k_storeAll 14 H rfl rfl rfl (vs := [.int .i64 a0.Id, .int .i64 0, .int .i64 0, .slice none 0 0, .slice none 0 0, .slice none 0 0, .slice (some ⟨b824, 0, none⟩) a0.Events.toNat a0.Events.toNat, u819, .slice (some ⟨b828, 0, none⟩) a0.Ports.length a0.Ports.length, .slice none 0 0]) rfl sz74 (hS.blk 0 rfl) rfl (by simp [(((hS.own 2 rfl).slr rfl (fun _ _ => rfl))).one, (((hS.own 3 rfl).slr rfl (fun _ _ => rfl))).one, ((hS.deepSl 1 rfl)).one]) (by kernel_rfl) (.inl (fun h => absurd h (Nat.not_lt.2 hge_b790))) ?_
            clear H; intro w832 hN hC833 hz; clear a; intro a H; replace hS := hS.setBlk hN hC833; clear hN hz; replace hW := Nat.le_trans hW hC833.size
            refine k_done (by kernel_rfl) ?_
            refine then_normal ?_
            obtain rfl := Option.some.inj hm; replace hm := hm47; try dsimp only at hm
            replace hS := hS.pick 1 rfl; dsimp only [List.eraseIdx] at hS
            replace hS := hS.pick 3 rfl; dsimp only [List.eraseIdx] at hS
            replace hS := hS.pick 3 rfl; dsimp only [List.eraseIdx] at hS
            replace hS := hS.pick 3 rfl; dsimp only [List.eraseIdx] at hS
            replace hS := hS.pick 5 rfl; dsimp only [List.eraseIdx] at hS
            replace hS := hS.pick 6 rfl; dsimp only [List.eraseIdx] at hS
            replace hS := hS.take 6; simp only [List.take_succ_cons, List.take_zero] at hS
            exact join ((List.replicate a0.Events.toNat false), r564, (List.replicate a0.Ports.length (⟨([] : List ByteArray), 0⟩ : GPort)), .slice (some ⟨b824, 0, none⟩) a0.Events.toNat a0.Events.toNat, u819, .slice (some ⟨b828, 0, none⟩) a0.Ports.length a0.Ports.length, b790) H ⟨rfl, rfl, rfl, trivial⟩ ⟨hm, hS⟩
          · skip
            refine kk_make (L := a0.Ports.length) (C := a0.Ports.length) 11 H rfl Tryd.underlying71 el120 rfl rfl (Nat.le_refl _) hk565 (by simp only [maxLen]; omega) rfl ?_
            clear H; intro b834 w835 hN hE836 hs; clear a; intro a H; replace hS := hS.newOwn hN hE836 (by simp [blks]; omega); clear hN
            replace hS := St.mkDeep0 (R := RGPort) (z0 := (⟨([] : List ByteArray), 0⟩ : GPort)) (n := a0.Ports.length) rfl (by simp) (fun w => ⟨_, rfl, SlR.nil _ _ _⟩) hS
            replace hW := Nat.le_trans hW hE836.size
            refine k_of_kk 4 (by kernel_rfl) ?_
            refine kk_makeL (e := eF) (z0 := false) (L := a0.Events.toNat) (C := a0.Events.toNat) 4 H rfl Tryd.underlying28 el4 rfl (by show _ = some (Value.int .i64 ((Int.toNat a0.Events : Nat) : Int)); rw [Int.toNat_of_nonneg hk562]; rfl) (by show _ = some (Value.int .i64 ((Int.toNat a0.Events : Nat) : Int)); rw [Int.toNat_of_nonneg hk562]; rfl) (Nat.le_refl _) hk563 (by simp only [maxLen]; omega) rfl ?_
            clear H; intro b838 w839 hN hE840 hs; clear a; intro a H; replace hS := hS.newOwn hN hE840 (by simp [blks]; omega); clear hN
            replace hW := Nat.le_trans hW hE840.size
            refine k_takeT 12 H rfl (q_build (cs := [.int .i64 a0.Id, .int .i64 0, .int .i64 0, .slice none 0 0, .slice none 0 0, .slice none 0 0, .slice (some ⟨b838, 0, none⟩) a0.Events.toNat a0.Events.toNat, u819, .slice (some ⟨b834, 0, none⟩) a0.Ports.length a0.Ports.length, .slice none 0 0]) ze74 bd74 pl74 rfl ((fill1 rfl rfl (by simp)).trans ((fill1 (((hS.own 0 rfl).slr rfl (fun _ _ => rfl))).one rfl (by simp)).trans ((fill1 (((hS.own 2 rfl).slr rfl (fun _ _ => rfl))).one rfl (by simp)).trans ((fill1 ((hS.deepSl 1 rfl)).one rfl (by simp)).trans rfl))))) rfl (by kernel_rfl) (by kernel_rfl) (by kernel_rfl) (by kernel_rfl) (fun _ _ _ h => h) ?_; clear H a; intro a H
            replace hS := hS.pick 3 rfl; dsimp only [List.eraseIdx] at hS
            refine k_storeAll 14 H rfl rfl rfl (vs := [.int .i64 a0.Id, .int .i64 0, .int .i64 0, .slice none 0 0, .slice none 0 0, .slice none 0 0, .slice (some ⟨b838, 0, none⟩) a0.Events.toNat a0.Events.toNat, u819, .slice (some ⟨b834, 0, none⟩) a0.Ports.length a0.Ports.length, .slice none 0 0]) rfl sz74 (hS.blk 0 rfl) rfl (by simp [(((hS.own 1 rfl).slr rfl (fun _ _ => rfl))).one, (((hS.own 3 rfl).slr rfl (fun _ _ => rfl))).one, ((hS.deepSl 2 rfl)).one]) (by kernel_rfl) (.inl (fun h => absurd h (Nat.not_lt.2 hge_b790))) ?_
            clear H; intro w842 hN hC843 hz; clear a; intro a H; replace hS := hS.setBlk hN hC843; clear hN hz; replace hW := Nat.le_trans hW hC843.size
            refine k_done (by kernel_rfl) ?_
            refine then_normal ?_
            obtain rfl := Option.some.inj hm; replace hm := hm47; try dsimp only at hm
            replace hS := hS.pick 2 rfl; dsimp only [List.eraseIdx] at hS
            replace hS := hS.pick 3 rfl; dsimp only [List.eraseIdx] at hS
            replace hS := hS.pick 3 rfl; dsimp only [List.eraseIdx] at hS
            replace hS := hS.pick 3 rfl; dsimp only [List.eraseIdx] at hS
            replace hS := hS.pick 5 rfl; dsimp only [List.eraseIdx] at hS
            replace hS := hS.pick 6 rfl; dsimp only [List.eraseIdx] at hS
            replace hS := hS.take 6; simp only [List.take_succ_cons, List.take_zero] at hS
            exact join ((List.replicate a0.Events.toNat false), r564, (List.replicate a0.Ports.length (⟨([] : List ByteArray), 0⟩ : GPort)), .slice (some ⟨b838, 0, none⟩) a0.Events.toNat a0.Events.toNat, u819, .slice (some ⟨b834, 0, none⟩) a0.Ports.length a0.Ports.length, b790) H ⟨rfl, rfl, rfl, trivial⟩ ⟨hm, hS⟩
        · skip
          refine kk_make (L := a0.Ports.length) (C := a0.Ports.length) 11 H rfl Tryd.underlying71 el120 rfl rfl (Nat.le_refl _) hk565 (by simp only [maxLen]; omega) rfl ?_
          clear H; intro b844 w845 hN hE846 hs; clear a; intro a H; replace hS := hS.newOwn hN hE846 (by simp [blks]; omega); clear hN
          replace hS := St.mkDeep0 (R := RGPort) (z0 := (⟨([] : List ByteArray), 0⟩ : GPort)) (n := a0.Ports.length) rfl (by simp) (fun w => ⟨_, rfl, SlR.nil _ _ _⟩) hS
          replace hW := Nat.le_trans hW hE846.size
          refine k_two 4 7 (by kernel_rfl) ?_ ?_
          · skip
            refine kk_makeL (e := eF) (z0 := false) (L := a0.Events.toNat) (C := a0.Events.toNat) 4 H rfl Tryd.underlying28 el4 rfl (by show _ = some (Value.int .i64 ((Int.toNat a0.Events : Nat) : Int)); rw [Int.toNat_of_nonneg hk562]; rfl) (by show _ = some (Value.int .i64 ((Int.toNat a0.Events : Nat) : Int)); rw [Int.toNat_of_nonneg hk562]; rfl) (Nat.le_refl _) hk563 (by simp only [maxLen]; omega) rfl ?_
            clear H; intro b848 w849 hN hE850 hs; clear a; intro a H; replace hS := hS.newOwn hN hE850 (by simp [blks]; omega); clear hN
            replace hW := Nat.le_trans hW hE850.size
            refine k_of_kk 7 (by kernel_rfl) ?_
            refine kk_call 7 H rfl rfl en86 (g_slices_Clone_int_w (A := A) (hrp0_3.ext (Flat.mono _) hS.x) hr564) rfl (fun v w hv => .inl (ChgF.of_ext (by obtain ⟨_, _, hE0⟩ := hv; exact hE0.x))) ?_
            clear H; intro u852 w854 hv; clear a; intro a H; obtain ⟨_, rfl, hE855⟩ := hv
            replace hS := hS.new hE855; simp only [List.cons_append, List.nil_append] at hS
            replace hW := Nat.le_trans hW hE855.x.size
            refine k_takeT 12 H rfl (q_build (cs := [.int .i64 a0.Id, .int .i64 0, .int .i64 0, .slice none 0 0, .slice none 0 0, .slice none 0 0, .slice (some ⟨b848, 0, none⟩) a0.Events.toNat a0.Events.toNat, u852, .slice (some ⟨b844, 0, none⟩) a0.Ports.length a0.Ports.length, .slice none 0 0]) ze74 bd74 pl74 rfl ((fill1 rfl rfl (by simp)).trans ((fill1 (((hS.own 1 rfl).slr rfl (fun _ _ => rfl))).one rfl (by simp)).trans ((fill1 (((hS.own 0 rfl).slr rfl (fun _ _ => rfl))).one rfl (by simp)).trans ((fill1 ((hS.deepSl 2 rfl)).one rfl (by simp)).trans rfl))))) rfl (by kernel_rfl) (by kernel_rfl) (by kernel_rfl) (by kernel_rfl) (fun _ _ _ h => h) ?_; clear H a; intro a H
            replace hS := hS.pick 3 rfl; dsimp only [List.eraseIdx] at hS
            refine k_storeAll 14 H rfl rfl rfl (vs := [.int .i64 a0.Id, .int .i64 0, .int .i64 0, .slice none 0 0, .slice none 0 0, .slice none 0 0, .slice (some ⟨b848, 0, none⟩) a0.Events.toNat a0.Events.toNat, u852, .slice (some ⟨b844, 0, none⟩) a0.Ports.length a0.Ports.length, .slice none 0 0]) rfl sz74 (hS.blk 0 rfl) rfl (by simp [(((hS.own 2 rfl).slr rfl (fun _ _ => rfl))).one, (((hS.own 1 rfl).slr rfl (fun _ _ => rfl))).one, ((hS.deepSl 3 rfl)).one]) (by kernel_rfl) (.inl (fun h => absurd h (Nat.not_lt.2 hge_b790))) ?_
            clear H; intro w857 hN hC858 hz; clear a; intro a H; replace hS := hS.setBlk hN hC858; clear hN hz; replace hW := Nat.le_trans hW hC858.size
            refine k_done (by kernel_rfl) ?_
            refine then_normal ?_
            obtain rfl := Option.some.inj hm; replace hm := hm47; try dsimp only at hm
            replace hS := hS.pick 3 rfl; dsimp only [List.eraseIdx] at hS
            replace hS := hS.pick 2 rfl; dsimp only [List.eraseIdx] at hS
            replace hS := hS.pick 3 rfl; dsimp only [List.eraseIdx] at hS
            replace hS := hS.pick 3 rfl; dsimp only [List.eraseIdx] at hS
            replace hS := hS.pick 5 rfl; dsimp only [List.eraseIdx] at hS
            replace hS := hS.pick 6 rfl; dsimp only [List.eraseIdx] at hS
            replace hS := hS.take 6; simp only [List.take_succ_cons, List.take_zero] at hS
            exact join ((List.replicate a0.Events.toNat false), r564, (List.replicate a0.Ports.length (⟨([] : List ByteArray), 0⟩ : GPort)), .slice (some ⟨b848, 0, none⟩) a0.Events.toNat a0.Events.toNat, u852, .slice (some ⟨b844, 0, none⟩) a0.Ports.length a0.Ports.length, b790) H ⟨rfl, rfl, rfl, trivial⟩ ⟨hm, hS⟩
          · skip
            refine kk_call 7 H rfl rfl en86 (g_slices_Clone_int_w (A := A) (hrp0_3.ext (Flat.mono _) hS.x) hr564) rfl (fun v w hv => .inl (ChgF.of_ext (by obtain ⟨_, _, hE0⟩ := hv; exact hE0.x))) ?_
            clear H; intro u859 w861 hv; clear a; intro a H; obtain ⟨_, rfl, hE862⟩ := hv
            replace hS := hS.new hE862; simp only [List.cons_append, List.nil_append] at hS
            replace hW := Nat.le_trans hW hE862.x.size
            refine k_of_kk 4 (by kernel_rfl) ?_
            refine kk_makeL (e := eF) (z0 := false) (L := a0.Events.toNat) (C := a0.Events.toNat) 4 H rfl Tryd.underlying28 el4 rfl (by show _ = some (Value.int .i64 ((Int.toNat a0.Events : Nat) : Int)); rw [Int.toNat_of_nonneg hk562]; rfl) (by show _ = some (Value.int .i64 ((Int.toNat a0.Events : Nat) : Int)); rw [Int.toNat_of_nonneg hk562]; rfl) (Nat.le_refl _) hk563 (by simp only [maxLen]; omega) rfl ?_
            clear H; intro b864 w865 hN hE866 hs; clear a; intro a H; replace hS := hS.newOwn hN hE866 (by simp [blks]; omega); clear hN
            replace hW := Nat.le_trans hW hE866.size
            refine k_takeT 12 H rfl (q_build (cs := [.int .i64 a0.Id, .int .i64 0, .int .i64 0, .slice none 0 0, .slice none 0 0, .slice none 0 0, .slice (some ⟨b864, 0, none⟩) a0.Events.toNat a0.Events.toNat, u859, .slice (some ⟨b844, 0, none⟩) a0.Ports.length a0.Ports.length, .slice none 0 0]) ze74 bd74 pl74 rfl ((fill1 rfl rfl (by simp)).trans ((fill1 (((hS.own 0 rfl).slr rfl (fun _ _ => rfl))).one rfl (by simp)).trans ((fill1 (((hS.own 1 rfl).slr rfl (fun _ _ => rfl))).one rfl (by simp)).trans ((fill1 ((hS.deepSl 2 rfl)).one rfl (by simp)).trans rfl))))) rfl (by kernel_rfl) (by kernel_rfl) (by kernel_rfl) (by kernel_rfl) (fun _ _ _ h => h) ?_; clear H a; intro a H
            replace hS := hS.pick 3 rfl; dsimp only [List.eraseIdx] at hS
            refine k_storeAll 14 H rfl rfl rfl (vs := [.int .i64 a0.Id, .int .i64 0, .int .i64 0, .slice none 0 0, .slice none 0 0, .slice none 0 0, .slice (some ⟨b864, 0, none⟩) a0.Events.toNat a0.Events.toNat, u859, .slice (some ⟨b844, 0, none⟩) a0.Ports.length a0.Ports.length, .slice none 0 0]) rfl sz74 (hS.blk 0 rfl) rfl (by simp [(((hS.own 1 rfl).slr rfl (fun _ _ => rfl))).one, (((hS.own 2 rfl).slr rfl (fun _ _ => rfl))).one, ((hS.deepSl 3 rfl)).one]) (by kernel_rfl) (.inl (fun h => absurd h (Nat.not_lt.2 hge_b790))) ?_
            clear H; intro w868 hN hC869 hz; clear a; intro a H; replace hS := hS.setBlk hN hC869; clear hN hz; replace hW := Nat.le_trans hW hC869.size
            refine k_done (by kernel_rfl) ?_
            refine then_normal ?_
            obtain rfl := Option.some.inj hm; replace hm := hm47; try dsimp only at hm
            replace hS := hS.pick 3 rfl; dsimp only [List.eraseIdx] at hS
            replace hS := hS.pick 3 rfl; dsimp only [List.eraseIdx] at hS
            replace hS := hS.pick 3 rfl; dsimp only [List.eraseIdx] at hS
            replace hS := hS.pick 3 rfl; dsimp only [List.eraseIdx] at hS
            replace hS := hS.pick 5 rfl; dsimp only [List.eraseIdx] at hS
            replace hS := hS.pick 6 rfl; dsimp only [List.eraseIdx] at hS
            replace hS := hS.take 6; simp only [List.take_succ_cons, List.take_zero] at hS
            exact join ((List.replicate a0.Events.toNat false), r564, (List.replicate a0.Ports.length (⟨([] : List ByteArray), 0⟩ : GPort)), .slice (some ⟨b864, 0, none⟩) a0.Events.toNat a0.Events.toNat, u859, .slice (some ⟨b844, 0, none⟩) a0.Ports.length a0.Ports.length, b790) H ⟨rfl, rfl, rfl, trivial⟩ ⟨hm, hS⟩
    · clear H hS hm a; intro xx a w870 H hR
      obtain ⟨l548, l551, l554, v549, v552, v555, b557⟩ := xx
      simp only [ent, List.map_cons, List.map_nil] at H; (try dsimp only at hR); obtain ⟨hm, hS⟩ := hR; try dsimp only [g_plan_Boot_J9] at hm
      refine wp_seq (wp_seq (wp_region_lit (n_q H (q_fieldAddr0 rfl fo68_3) rfl (W_q (q_load rfl ((hS.blk 0 rfl).ld ag65 rfl)) rfl ?_)))); clear H a; intro a H
      obtain ⟨A871, c871, hv871, hl871, hm871⟩ := SlR.formV (hrp0_1.ext (Flat.mono _) hS.x)
      refine n_q H (q_lenV Tryd.underlying65 rfl hv871) rfl (W_q (q_move rfl) rfl ?_); clear H a; intro a H
      refine n_nil (then_normal (wp_block ?_))
      replace hS := hS.nilOwn 80 21
      replace hS := hS.nilOwn 3 1
      replace hS := hS.pick 7 rfl; dsimp only [List.eraseIdx] at hS
      replace hS := hS.pick 7 rfl; dsimp only [List.eraseIdx] at hS
      replace hS := hS.pick 7 rfl; dsimp only [List.eraseIdx] at hS
      replace hS := hS.pick 3 rfl; dsimp only [List.eraseIdx] at hS
      replace hS := hS.pick 4 rfl; dsimp only [List.eraseIdx] at hS
      replace hS := hS.pick 7 rfl; dsimp only [List.eraseIdx] at hS
      replace hS := hS.pick 7 rfl; dsimp only [List.eraseIdx] at hS
      replace hS := hS.pick 7 rfl; dsimp only [List.eraseIdx] at hS
      replace hm := bindS hm; obtain ⟨q872, hm, hm872⟩ := hm; replace hm := iter_some hm; obtain ⟨n872, hm⟩ := hm
      refine c_loop (σ := Nat × Nat × (List GProc) × (List Int) × Value × Value) (fun (m, i873, l874, l877, v875, v878) => [(1, .pointer (some ⟨b21, 0, none⟩)), (2, .pointer (some ⟨b24, 0, none⟩)), (4, .pointer (some ⟨b557, 0, none⟩)), (30, vp0_1), (31, .int .i64 ((a0.Procs.length : Nat) : Int)), (32, .int .i64 ((i873 : Nat) : Int))]) (fun (m, i873, l874, l877, v875, v878) wl => iterN (g_plan_Boot_L8 a0) m (i873, l874, l877) = some q872 ∧ St NB w wl [blkR b21 [.int .i64 a0.Id, .bool a0.Mobile, vp0_0, vp0_1, vp0_2, .int .i64 a0.Events, vp0_3] 68, blkR b24 [.int .i64 0, .int .i64 0, .int .i64 0, .slice none 0 0, .slice none 0 0, .slice none 0 0, .slice none 0 0, .slice none 0 0, .slice none 0 0, .slice none 0 0] 74, blkR b557 [.int .i64 a0.Id, .int .i64 0, .int .i64 0, v875, v878, .slice none 0 0, v549, v552, v555, .slice none 0 0] 74, ownR 80 21 v875 l874.length (l874.flatMap eGProc), ownR 3 1 v878 l877.length (l877.flatMap eI), ownR 4 1 v549 l548.length (l548.flatMap eF), ownR 3 1 v552 l551.length (l551.flatMap eI), deepR 120 2 RGPort v555 l554]) (fun (m, i873, l874, l877, v875, v878) => m) (n872, 0, ([] : List GProc), ([] : List Int), .slice none 0 0, .slice none 0 0) H ⟨rfl, rfl, rfl, rfl, rfl, rfl, trivial⟩ ⟨hm, hS⟩ ?_
      clear H hS hm a; intro xx a w882 H hR; obtain ⟨m, i873, l874, l877, v875, v878⟩ := xx; simp only [ent, List.map_cons, List.map_nil] at H; (try dsimp only at hR); obtain ⟨hm, hS⟩ := hR
      replace hm := iterN_step hm; obtain ⟨m872, o872, rfl, hm, hn872⟩ := hm; try dsimp only [g_plan_Boot_L8] at hm
      refine wp_seq (wp_region_lit (n_q H (q_lssN (i := i873) (j := a0.Procs.length) rfl rfl) rfl ?_)); clear H a; intro a H
      refine n_nil (then_normal (wp_seq (c_cond H rfl (fun hc883 => ?_) (fun hc883 => ?_))))
      · replace hm := condT hm hc883
        have hlt884 : i873 < a0.Procs.length := of_decide_eq_true hc883
        refine wp_skip (then_normal (wp_seq (wp_block (wp_seq (wp_region_lit (n_q H (q_move rfl) rfl ?_)))))); clear H a; intro a H
        replace hm := bindS hm; obtain ⟨x885, hx885, hm⟩ := hm
        obtain ⟨adx885, hAx885⟩ := SlR.adV (hrp0_1.ext (Flat.mono _) hS.x) hv871 hx885
        refine n_q H (q_ixV (i := i873) Tryd.underlying65 sz167 rfl hv871 hAx885 rfl (natI hx885)) rfl (W_q (q_load rfl (SlR.ldAggV (hrp0_1.ext (Flat.mono _) hS.x) hv871 hAx885 ag167 sz167 hx885)) rfl ?_); clear H a; intro a H
        refine n_alloc H ze167 rfl ?_
        clear H; intro b886 w887 hN hE888 hs; clear a; intro a H
        replace hS := hS.newBlk hN hE888 hs; clear hN hs
        refine n_q H (q_assign rfl) rfl ?_; clear H a; intro a H
        refine n_storeAll H rfl rfl (vs := [.int .i64 x885.Entry, .int .i64 x885.Prio, .bool x885.Auto]) rfl sz167 (hS.blk 0 rfl) rfl (by simp) ?_
        clear H; intro w889 hN hC890 hz; clear a; intro a H; replace hS := hS.setBlk hN hC890; clear hN hz
        refine n_nil (then_normal (wp_seq (wp_region_lit (n_q H (q_fieldAddr0 rfl fo167_0) rfl (W_q (q_load rfl ((hS.blk 0 rfl).ld ag3 rfl)) rfl (W_q (q_convI Tryd.underlying3 Tryd.underlying53 ⟨_, rfl⟩ rfl) rfl (W_q (q_fieldAddr0 rfl fo167_1) rfl (W_q (q_load rfl ((hS.blk 0 rfl).ld ag3 rfl)) rfl (W_q (q_build (cs := ((Vector.replicate 16 0).toList.map (Value.int .u32) ++ [.int .u32 (IntKind.u32.wrap x885.Entry), .int .i64 0, .int .i64 x885.Prio, .int .i64 0, .int .i64 0])) ze80 bd80 pl80 rfl (by kernel_rfl)) rfl ?_))))))))); clear H a; intro a H
        refine n_alloc H ze80 rfl ?_
        clear H; intro b891 w892 hN hE893 hs; clear a; intro a H
        replace hS := hS.newBlk hN hE893 hs; clear hN hs
        refine n_storeAll H rfl rfl (vs := ((Vector.replicate 16 0).toList.map (Value.int .u32) ++ [.int .u32 (IntKind.u32.wrap x885.Entry), .int .i64 0, .int .i64 x885.Prio, .int .i64 0, .int .i64 0])) rfl (sz80.trans (by simp)) (hS.blk 0 rfl) (by simp) (eGProc_one (⟨(Vector.replicate 16 0), (IntKind.u32.wrap x885.Entry), 0, x885.Prio, 0, 0⟩ : GProc)) ?_
        clear H; intro w894 hN hC895 hz; clear a; intro a H; replace hS := hS.setBlk hN hC895; clear hN hz
        refine n_nil (then_normal ?_)
        replace hm := bindS hm; obtain ⟨j896, hm, hm896⟩ := hm
        refine c_join (σ := (List Int) × GProc × Value) H (fun (l1397, t1400, v1398) => [(1, .pointer (some ⟨b21, 0, none⟩)), (2, .pointer (some ⟨b24, 0, none⟩)), (4, .pointer (some ⟨b557, 0, none⟩)), (7, .pointer (some ⟨b891, 0, none⟩)), (30, vp0_1), (31, .int .i64 ((a0.Procs.length : Nat) : Int)), (32, .int .i64 ((i873 : Nat) : Int))]) (fun (l1397, t1400, v1398) wl => (g_plan_Boot_J6 i873 l874) (l1397, t1400) = some o872 ∧ St NB w wl [blkR b21 [.int .i64 a0.Id, .bool a0.Mobile, vp0_0, vp0_1, vp0_2, .int .i64 a0.Events, vp0_3] 68, blkR b24 [.int .i64 0, .int .i64 0, .int .i64 0, .slice none 0 0, .slice none 0 0, .slice none 0 0, .slice none 0 0, .slice none 0 0, .slice none 0 0, .slice none 0 0] 74, blkR b557 [.int .i64 a0.Id, .int .i64 0, .int .i64 0, v875, v1398, .slice none 0 0, v549, v552, v555, .slice none 0 0] 74, ownR 80 21 v875 l874.length (l874.flatMap eGProc), ownR 3 1 v1398 l1397.length (l1397.flatMap eI), ownR 4 1 v549 l548.length (l548.flatMap eF), ownR 3 1 v552 l551.length (l551.flatMap eI), deepR 120 2 RGPort v555 l554, blkR b891 (t1400.Regs.toList.map (Value.int .u32) ++ [.int .u32 t1400.Pc, .int .i64 t1400.State, .int .i64 t1400.Prio, .int .i64 t1400.Wait, .int .i64 t1400.Obj]) 80]) ?_ ?_
        · skip
          refine wp_seq (wp_region_lit (n_q H (q_fieldAddr0 rfl fo167_2) rfl (W_q (q_load rfl ((hS.blk 1 rfl).ld ag4 rfl)) rfl ?_))); clear H a; intro a H
          refine n_nil (then_normal (c_cond H rfl (fun hc1401 => ?_) (fun hc1401 => ?_)))
          · replace hm := condT hm hc1401
            refine wp_seq (wp_region_lit (n_q H (q_fieldAddr0 rfl fo80_2) rfl ?_)); clear H a; intro a H
            refine n_store1 H rfl rfl sz3 (hS.blk 0 rfl) (by simp) rfl ?_
            clear H; intro w1402 hN hC1403 hz; clear a; intro a H; replace hS := hS.setBlk hN hC1403; clear hN hz
            try simp only [List.set_cons_succ, List.set_cons_zero] at hS
            refine n_nil (then_normal (wp_region_lit (n_q H (q_fieldAddr0 rfl fo74_4) rfl (W_q (q_load rfl ((hS.blk 4 rfl).ld ag23 rfl)) rfl (W_q (q_move rfl) rfl ?_))))); clear H a; intro a H
            refine n_buildSlice H Tryd.underlying23 sz3 ze3 rfl rfl rfl (cs := [.int .i64 ((i873 : Nat) : Int)]) (by kernel_rfl) rfl ?_
            clear H; intro b1406 w1404 hN hE1405 hs; clear a; intro a H
            replace hS := hS.newBlk hN hE1405 hs; clear hN hs
            replace hS := hS.blkOwnL (e := eI) (k := 1) [((i873 : Nat) : Int)] rfl rfl (by simp [maxLen])
            replace hS := hS.pick 7 rfl; dsimp only [List.eraseIdx] at hS
            replace hm := chkS hm; obtain ⟨hk1408, hm⟩ := hm
            refine n_app (e := eI) H rfl rfl Tryd.underlying23 Tryd.underlying23 (by simp) el3 (hS.own 0 rfl) (((hS.own 1 rfl).slr rfl (fun _ _ => rfl)).src (fun _ _ => rfl)) eI_one hk1408 (by simp only [maxLen]; omega) rfl ?_
            clear H; intro v1411 w1409 hN hC1410 hb; clear a; intro a H; replace hS := hS.setOwn hN hC1410 hb; clear hN hb
            refine n_q H (q_fieldAddr0 rfl fo74_4) rfl ?_; clear H a; intro a H
            replace hS := hS.pick 6 rfl; dsimp only [List.eraseIdx] at hS
            refine n_store1 H rfl rfl sz23 (hS.blk 0 rfl) (by simp) (((hS.own 1 rfl).slr rfl (fun _ _ => rfl))).one ?_
            clear H; intro w1413 hN hC1414 hz; clear a; intro a H; replace hS := hS.setBlk hN hC1414; clear hN hz
            try simp only [List.set_cons_succ, List.set_cons_zero] at hS
            refine n_nil (then_normal ?_)
            obtain rfl := Option.some.inj hm; replace hm := hm896; try dsimp only at hm
            replace hS := hS.pick 3 rfl; dsimp only [List.eraseIdx] at hS
            replace hS := hS.pick 10 rfl; dsimp only [List.eraseIdx] at hS
            replace hS := hS.pick 10 rfl; dsimp only [List.eraseIdx] at hS
            replace hS := hS.pick 10 rfl; dsimp only [List.eraseIdx] at hS
            replace hS := hS.pick 5 rfl; dsimp only [List.eraseIdx] at hS
            replace hS := hS.pick 10 rfl; dsimp only [List.eraseIdx] at hS
            replace hS := hS.pick 6 rfl; dsimp only [List.eraseIdx] at hS
            replace hS := hS.pick 10 rfl; dsimp only [List.eraseIdx] at hS
            replace hS := hS.pick 10 rfl; dsimp only [List.eraseIdx] at hS
            replace hS := hS.take 9; simp only [List.take_succ_cons, List.take_zero] at hS
            exact join ((l877 ++ [((i873 : Nat) : Int)]), (⟨(Vector.replicate 16 0), (IntKind.u32.wrap x885.Entry), 1, x885.Prio, 0, 0⟩ : GProc), v1411) H ⟨rfl, rfl, rfl, rfl, rfl, rfl, rfl, trivial⟩ ⟨hm, hS⟩
          · replace hm := condF hm hc1401
            refine wp_skip (then_normal ?_)
            obtain rfl := Option.some.inj hm; replace hm := hm896; try dsimp only at hm
            replace hS := hS.pick 9 rfl; dsimp only [List.eraseIdx] at hS
            replace hS := hS.pick 9 rfl; dsimp only [List.eraseIdx] at hS
            replace hS := hS.pick 9 rfl; dsimp only [List.eraseIdx] at hS
            replace hS := hS.pick 9 rfl; dsimp only [List.eraseIdx] at hS
            replace hS := hS.pick 9 rfl; dsimp only [List.eraseIdx] at hS
            replace hS := hS.pick 9 rfl; dsimp only [List.eraseIdx] at hS
            replace hS := hS.pick 9 rfl; dsimp only [List.eraseIdx] at hS
            replace hS := hS.pick 9 rfl; dsimp only [List.eraseIdx] at hS
            replace hS := hS.take 9; simp only [List.take_succ_cons, List.take_zero] at hS
            exact join (l877, (⟨(Vector.replicate 16 0), (IntKind.u32.wrap x885.Entry), 0, x885.Prio, 0, 0⟩ : GProc), v878) H ⟨rfl, rfl, rfl, rfl, rfl, rfl, rfl, trivial⟩ ⟨hm, hS⟩
        · clear H hS hm a; intro xx a w1415 H hR
          obtain ⟨l1397, t1400, v1398⟩ := xx
          simp only [ent, List.map_cons, List.map_nil] at H; (try dsimp only at hR); obtain ⟨hm, hS⟩ := hR; try dsimp only [g_plan_Boot_J6] at hm
          refine wp_region_lit (n_q H (q_fieldAddr0 rfl fo74_3) rfl (W_q (q_load rfl ((hS.blk 2 rfl).ld ag69 rfl)) rfl (W_q (q_load rfl ((hS.blk 8 rfl).ldAll ag80 (sz80.trans (by simp)))) rfl ?_))); clear H a; intro a H
          refine n_buildSlice H Tryd.underlying69 sz80 ze80 rfl rfl rfl (cs := [t1400].flatMap eGProc) ((fill_one (k := 21) (ds := eGProc t1400) (by rfl) (by simp [eGProc]) (by rfl)).trans (by simp)) rfl ?_
          clear H; intro b1418 w1416 hN hE1417 hs; clear a; intro a H
          replace hS := hS.newBlk hN hE1417 hs; clear hN hs
          replace hS := hS.blkOwnL (e := eGProc) (k := 21) [t1400] rfl (by simp [eGProc]) (by simp [maxLen])
          replace hS := hS.pick 4 rfl; dsimp only [List.eraseIdx] at hS
          replace hm := chkS hm; obtain ⟨hk1420, hm⟩ := hm
          refine n_app (e := eGProc) H rfl rfl Tryd.underlying69 Tryd.underlying69 (by simp) el80 (hS.own 0 rfl) (((hS.own 1 rfl).slr rfl (fun x _ => eGProc_len x)).src (fun x _ => eGProc_len x)) eGProc_one hk1420 (by simp only [maxLen]; omega) rfl ?_
          clear H; intro v1423 w1421 hN hC1422 hb; clear a; intro a H; replace hS := hS.setOwn hN hC1422 hb; clear hN hb
          refine n_q H (q_fieldAddr0 rfl fo74_3) rfl ?_; clear H a; intro a H
          replace hS := hS.pick 4 rfl; dsimp only [List.eraseIdx] at hS
          refine n_store1 H rfl rfl sz69 (hS.blk 0 rfl) (by simp) (((hS.own 1 rfl).slr rfl (fun x _ => eGProc_len x))).one ?_
          clear H; intro w1425 hN hC1426 hz; clear a; intro a H; replace hS := hS.setBlk hN hC1426; clear hN hz
          try simp only [List.set_cons_succ, List.set_cons_zero] at hS
          refine n_nil (block_normal (then_normal (wp_region_lit (n_q H (q_incr (i := i873) (j := 1) rfl rfl (by omega)) rfl (W_q (q_move rfl) rfl ?_))))); clear H a; intro a H
          refine n_nil (then_normal ?_)
          obtain rfl := Option.some.inj hm
          replace hS := hS.pick 8 rfl; dsimp only [List.eraseIdx] at hS
          replace hS := hS.pick 8 rfl; dsimp only [List.eraseIdx] at hS
          replace hS := hS.pick 8 rfl; dsimp only [List.eraseIdx] at hS
          replace hS := hS.pick 8 rfl; dsimp only [List.eraseIdx] at hS
          replace hS := hS.pick 5 rfl; dsimp only [List.eraseIdx] at hS
          replace hS := hS.pick 5 rfl; dsimp only [List.eraseIdx] at hS
          replace hS := hS.pick 8 rfl; dsimp only [List.eraseIdx] at hS
          replace hS := hS.pick 8 rfl; dsimp only [List.eraseIdx] at hS
          replace hS := hS.take 8; simp only [List.take_succ_cons, List.take_zero] at hS
          exact round (m872, i873 + 1, (l874 ++ [t1400]), l1397, v1423, v1398) H ⟨rfl, rfl, rfl, rfl, rfl, rfl, trivial⟩ ⟨hn872, hS⟩ (Nat.lt_succ_self _)
      · replace hm := condF hm hc883
        refine wp_exit (then_exit (then_exit (block_exit ?_)))
        obtain rfl := Option.some.inj hm; have hz : _ = q872 := hn872; subst hz; replace hm := hm872; try dsimp only at hm
        refine then_normal (wp_seq (wp_seq (wp_region_lit (n_q H (q_fieldAddr0 rfl fo68_2) rfl (W_q (q_load rfl ((hS.blk 0 rfl).ld ag64 rfl)) rfl ?_))))); clear H a; intro a H
        obtain ⟨A1427, c1427, hv1427, hl1427, hm1427⟩ := SlR.formV (hrp0_0.ext (Flat.mono _) hS.x)
        refine n_q H (q_lenV Tryd.underlying64 rfl hv1427) rfl (W_q (q_move rfl) rfl ?_); clear H a; intro a H
        refine n_nil (then_normal (wp_block ?_))
        replace hS := hS.nilOwn 96 66
        replace hS := hS.pick 8 rfl; dsimp only [List.eraseIdx] at hS
        replace hS := hS.pick 8 rfl; dsimp only [List.eraseIdx] at hS
        replace hS := hS.pick 8 rfl; dsimp only [List.eraseIdx] at hS
        replace hS := hS.pick 8 rfl; dsimp only [List.eraseIdx] at hS
        replace hS := hS.pick 8 rfl; dsimp only [List.eraseIdx] at hS
        replace hS := hS.pick 8 rfl; dsimp only [List.eraseIdx] at hS
        replace hS := hS.pick 8 rfl; dsimp only [List.eraseIdx] at hS
        replace hS := hS.take 8; simp only [List.take_succ_cons, List.take_zero] at hS
        replace hm := bindS hm; obtain ⟨q1428, hm, hm1428⟩ := hm; replace hm := iter_some hm; obtain ⟨n1428, hm⟩ := hm
        refine c_loop (σ := Nat × Nat × (List GPage) × Value) (fun (m, i1429, l1430, v1431) => [(2, .pointer (some ⟨b24, 0, none⟩)), (4, .pointer (some ⟨b557, 0, none⟩)), (60, vp0_0), (61, .int .i64 ((a0.Pages.length : Nat) : Int)), (62, .int .i64 ((i1429 : Nat) : Int))]) (fun (m, i1429, l1430, v1431) wl => iterN (g_plan_Boot_L7 a0) m (i1429, l1430) = some q1428 ∧ St NB w wl [blkR b24 [.int .i64 0, .int .i64 0, .int .i64 0, .slice none 0 0, .slice none 0 0, .slice none 0 0, .slice none 0 0, .slice none 0 0, .slice none 0 0, .slice none 0 0] 74, blkR b557 [.int .i64 a0.Id, .int .i64 0, .int .i64 0, v875, v878, .slice none 0 0, v549, v552, v555, v1431] 74, ownR 80 21 v875 l874.length (l874.flatMap eGProc), ownR 3 1 v878 l877.length (l877.flatMap eI), ownR 4 1 v549 l548.length (l548.flatMap eF), ownR 3 1 v552 l551.length (l551.flatMap eI), deepR 120 2 RGPort v555 l554, ownR 96 66 v1431 l1430.length (l1430.flatMap eGPage)]) (fun (m, i1429, l1430, v1431) => m) (n1428, 0, ([] : List GPage), .slice none 0 0) H ⟨rfl, rfl, rfl, rfl, rfl, trivial⟩ ⟨hm, hS⟩ ?_
        clear H hS hm a; intro xx a w1434 H hR; obtain ⟨m, i1429, l1430, v1431⟩ := xx; simp only [ent, List.map_cons, List.map_nil] at H; (try dsimp only at hR); obtain ⟨hm, hS⟩ := hR
        replace hm := iterN_step hm; obtain ⟨m1428, o1428, rfl, hm, hn1428⟩ := hm; try dsimp only [g_plan_Boot_L7] at hm
        refine wp_seq (wp_region_lit (n_q H (q_lssN (i := i1429) (j := a0.Pages.length) rfl rfl) rfl ?_)); clear H a; intro a H
        refine n_nil (then_normal (wp_seq (c_cond H rfl (fun hc1435 => ?_) (fun hc1435 => ?_))))
        · replace hm := condT hm hc1435
          have hlt1436 : i1429 < a0.Pages.length := of_decide_eq_true hc1435
          refine wp_skip (then_normal (wp_seq (wp_block (wp_seq (wp_region_lit ?_)))))
          replace hm := bindS hm; obtain ⟨x1437, hx1437, hm⟩ := hm
          obtain ⟨adx1437, hAx1437⟩ := SlR.adV (hrp0_0.ext (Flat.mono _) hS.x) hv1427 hx1437
          refine n_q H (q_ixV (i := i1429) Tryd.underlying64 sz87 rfl hv1427 hAx1437 rfl (natI hx1437)) rfl (W_q (q_load rfl (SlR.ldAggV (hrp0_0.ext (Flat.mono _) hS.x) hv1427 hAx1437 ag87 sz87 hx1437)) rfl ?_); clear H a; intro a H
          refine n_alloc H ze87 rfl ?_
          clear H; intro b1438 w1439 hN hE1440 hs; clear a; intro a H
          replace hS := hS.newBlk hN hE1440 hs; clear hN hs
          refine n_storeAll H rfl rfl (vs := [.int .i64 x1437.Rights, .string x1437.Init]) rfl sz87 (hS.blk 0 rfl) rfl (by simp) ?_
          clear H; intro w1441 hN hC1442 hz; clear a; intro a H; replace hS := hS.setBlk hN hC1442; clear hN hz
          refine n_nil (then_normal (wp_seq (wp_region_lit (n_q H (q_fieldAddr0 rfl fo87_0) rfl (W_q (q_load rfl ((hS.blk 0 rfl).ld ag3 rfl)) rfl (W_q (q_build (cs := ([.int .i64 x1437.Rights, .bool false] ++ (Vector.replicate 64 0).toList.map (fun b : UInt8 => Value.int .u8 (b.toNat : Int)))) ze96 bd96 pl96 rfl (by kernel_rfl)) rfl ?_)))))); clear H a; intro a H
          refine n_alloc H ze96 rfl ?_
          clear H; intro b1443 w1444 hN hE1445 hs; clear a; intro a H
          replace hS := hS.newBlk hN hE1445 hs; clear hN hs
          refine n_storeAll H rfl rfl (vs := ([.int .i64 x1437.Rights, .bool false] ++ (Vector.replicate 64 0).toList.map (fun b : UInt8 => Value.int .u8 (b.toNat : Int)))) rfl (sz96.trans (by simp)) (hS.blk 0 rfl) (by simp) (eGPage_one (⟨x1437.Rights, false, (Vector.replicate 64 0)⟩ : GPage)) ?_
          clear H; intro w1446 hN hC1447 hz; clear a; intro a H; replace hS := hS.setBlk hN hC1447; clear hN hz
          refine n_nil (then_normal (wp_seq (c_ord [] 4 (by kernel_rfl) ?_)))
          obtain ⟨w1448, hw1448⟩ : ∃ x, x = w1446.drew := ⟨_, rfl⟩; rw [← hw1448]; have hE1449 : Ext w1446 w1448 := by rw [hw1448]; exact Ext.drew' _
          clear hw1448
          replace hS := hS.ext hE1449
          have hS1450 := hS
          have hW := Nat.le_refl w1448.heap.size
          refine k_takeT 0 H rfl (q_fieldAddr0 rfl fo96_2) rfl (by kernel_rfl) (by kernel_rfl) (by kernel_rfl) (by kernel_rfl) (fun _ _ _ h => h) ?_; clear H a; intro a H
          refine k_takeT 1 H rfl (q_sliceArr Tryd.underlying94 sz5 rfl (by decide)) rfl (by kernel_rfl) (by kernel_rfl) (by kernel_rfl) (by kernel_rfl) (fun _ _ _ h => h) ?_; clear H a; intro a H
          refine k_takeT 2 H rfl (q_fieldAddr0 rfl fo87_1) rfl (by kernel_rfl) (by kernel_rfl) (by kernel_rfl) (by kernel_rfl) (fun _ _ _ h => h) ?_; clear H a; intro a H
          refine k_take 3 H rfl (q_load rfl (LdC.old ((hS1450.blk 1 rfl).ld ag9 rfl) Ext.rfl' (Nat.le_refl _) (by simp))) rfl (by kernel_rfl) (by kernel_rfl) (by kernel_rfl) (by kernel_rfl) (fun _ _ _ h => h) ?_; clear H a; intro a H
          refine k_copyStr 4 H rfl Tryd.underlying52 sz5 rfl rfl (hS.blk 0 rfl) (by simp) rfl (by kernel_rfl) (.inr (by kernel_rfl)) ?_
          clear H; intro w1451 hN hC1452 hz; clear a; intro a H; replace hN := (congrArg (fun z => Blk w1451 b1443 z 96) (cpy_cells (A := [Value.int .i64 x1437.Rights, Value.bool false]) (v := (Vector.replicate 64 0)) (s := x1437.Init))).mp hN; replace hS := hS.setBlk hN hC1452; clear hN hz; replace hW := Nat.le_trans hW hC1452.size
          refine k_done (by kernel_rfl) ?_
          refine then_normal (wp_region_lit (n_q H (q_fieldAddr0 rfl fo74_9) rfl (W_q (q_load rfl ((hS.blk 3 rfl).ld ag72 rfl)) rfl (W_q (q_load rfl ((hS.blk 0 rfl).ldAll ag96 (sz96.trans (by simp)))) rfl ?_)))); clear H a; intro a H
          refine n_buildSlice H Tryd.underlying72 sz96 ze96 rfl rfl rfl (cs := [(⟨x1437.Rights, false, (cpyV (Vector.replicate 64 0) x1437.Init)⟩ : GPage)].flatMap eGPage) ((fill_one (k := 66) (ds := eGPage (⟨x1437.Rights, false, (cpyV (Vector.replicate 64 0) x1437.Init)⟩ : GPage)) (by rfl) (by simp [eGPage]) (by rfl)).trans (by simp)) rfl ?_
          clear H; intro b1455 w1453 hN hE1454 hs; clear a; intro a H
          replace hS := hS.newBlk hN hE1454 hs; clear hN hs
          replace hS := hS.blkOwnL (e := eGPage) (k := 66) [(⟨x1437.Rights, false, (cpyV (Vector.replicate 64 0) x1437.Init)⟩ : GPage)] rfl (by simp [eGPage]) (by simp [maxLen])
          replace hS := hS.pick 10 rfl; dsimp only [List.eraseIdx] at hS
          replace hm := chkS hm; obtain ⟨hk1457, hm⟩ := hm
          refine n_app (e := eGPage) H rfl rfl Tryd.underlying72 Tryd.underlying72 (by simp) el96 (hS.own 0 rfl) (((hS.own 1 rfl).slr rfl (fun x _ => eGPage_len x)).src (fun x _ => eGPage_len x)) eGPage_one hk1457 (by simp only [maxLen]; omega) rfl ?_
          clear H; intro v1460 w1458 hN hC1459 hb; clear a; intro a H; replace hS := hS.setOwn hN hC1459 hb; clear hN hb
          refine n_q H (q_fieldAddr0 rfl fo74_9) rfl ?_; clear H a; intro a H
          replace hS := hS.pick 5 rfl; dsimp only [List.eraseIdx] at hS
          refine n_store1 H rfl rfl sz72 (hS.blk 0 rfl) (by simp) (((hS.own 1 rfl).slr rfl (fun x _ => eGPage_len x))).one ?_
          clear H; intro w1462 hN hC1463 hz; clear a; intro a H; replace hS := hS.setBlk hN hC1463; clear hN hz
          try simp only [List.set_cons_succ, List.set_cons_zero] at hS
          refine n_nil (block_normal (then_normal (wp_region_lit (n_q H (q_incr (i := i1429) (j := 1) rfl rfl (by omega)) rfl (W_q (q_move rfl) rfl ?_))))); clear H a; intro a H
          refine n_nil (then_normal ?_)
          obtain rfl := Option.some.inj hm
          replace hS := hS.pick 1 rfl; dsimp only [List.eraseIdx] at hS
          replace hS := hS.pick 10 rfl; dsimp only [List.eraseIdx] at hS
          replace hS := hS.pick 10 rfl; dsimp only [List.eraseIdx] at hS
          replace hS := hS.pick 10 rfl; dsimp only [List.eraseIdx] at hS
          replace hS := hS.pick 10 rfl; dsimp only [List.eraseIdx] at hS
          replace hS := hS.pick 10 rfl; dsimp only [List.eraseIdx] at hS
          replace hS := hS.pick 6 rfl; dsimp only [List.eraseIdx] at hS
          replace hS := hS.pick 10 rfl; dsimp only [List.eraseIdx] at hS
          replace hS := hS.take 8; simp only [List.take_succ_cons, List.take_zero] at hS
          exact round (m1428, i1429 + 1, (l1430 ++ [(⟨x1437.Rights, false, (cpyV (Vector.replicate 64 0) x1437.Init)⟩ : GPage)]), v1460) H ⟨rfl, rfl, rfl, rfl, rfl, trivial⟩ ⟨hn1428, hS⟩ (Nat.lt_succ_self _)
        · replace hm := condF hm hc1435
          refine wp_exit (then_exit (then_exit (block_exit ?_)))
          obtain rfl := Option.some.inj hm; have hz : _ = q1428 := hn1428; subst hz; replace hm := hm1428; try dsimp only at hm
          refine then_normal (wp_seq (wp_region_lit (n_q H (q_load rfl ((hS.blk 1 rfl).ldAll ag74 sz74)) rfl ?_))); clear H a; intro a H
          refine n_storeAll H rfl rfl (vs := [.int .i64 a0.Id, .int .i64 0, .int .i64 0, v875, v878, .slice none 0 0, v549, v552, v555, v1431]) rfl sz74 (hS.blk 0 rfl) rfl (by simp [(((hS.own 2 rfl).slr rfl (fun x _ => eGProc_len x))).one, (((hS.own 3 rfl).slr rfl (fun _ _ => rfl))).one, (((hS.own 4 rfl).slr rfl (fun _ _ => rfl))).one, (((hS.own 5 rfl).slr rfl (fun _ _ => rfl))).one, ((hS.deepSl 6 rfl)).one, (((hS.own 7 rfl).slr rfl (fun x _ => eGPage_len x))).one]) ?_
          clear H; intro w1464 hN hC1465 hz; clear a; intro a H; replace hS := hS.setBlk hN hC1465; clear hN hz
          refine n_q H (q_assign rfl) rfl ?_; clear H a; intro a H
          refine n_nil (then_normal (wp_ret ?_))
          obtain rfl := Option.some.inj hm
          replace hS := hS.nilOwn 254 2
          replace hS := hS.dNil (A := A)
          replace hS := hS.pick 2 rfl; dsimp only [List.eraseIdx] at hS
          replace hS := hS.pick 1 rfl; dsimp only [List.eraseIdx] at hS
          replace hS := hS.pick 9 rfl; dsimp only [List.eraseIdx] at hS
          replace hS := hS.pick 9 rfl; dsimp only [List.eraseIdx] at hS
          replace hS := hS.pick 9 rfl; dsimp only [List.eraseIdx] at hS
          replace hS := hS.pick 9 rfl; dsimp only [List.eraseIdx] at hS
          replace hS := hS.pick 6 rfl; dsimp only [List.eraseIdx] at hS
          replace hS := hS.pick 9 rfl; dsimp only [List.eraseIdx] at hS
          replace hS := hS.pick 9 rfl; dsimp only [List.eraseIdx] at hS
          replace hS := hS.take 9; simp only [List.take_succ_cons, List.take_zero] at hS
          refine retL H (.inr rfl) rfl (vs := [.agg #[.int .i64 a0.Id, .int .i64 0, .int .i64 0, v875, v878, .slice none 0 0, v549, v552, v555, v1431], .nilIface]) (resCell rfl ((hS.blk 8 rfl).ldAll ag74 sz74) (resTmp rfl resNil)) ?_
          replace hS := hS.take 8; simp only [List.take_succ_cons, List.take_zero] at hS
          exact ⟨_, _, _, _, _, _, _, _, rfl, hS⟩
end Go.Proofs.YtjoihegnjjjdaaaDoor
