/- Fy (written by wip/tools) -/
import Derived.Test.YtjoihegnjjjdaaaDoorFyC
set_option linter.unusedVariables false
set_option linter.unusedSimpArgs false
set_option maxRecDepth 10000
namespace Go.Proofs.YtjoihegnjjjdaaaDoor
open Go Go.RowKit
theorem ag28 : aggB Tryd.prog 28 = some false := by kernel_rfl
theorem ag29 : aggB Tryd.prog 29 = some false := by kernel_rfl
theorem en11 : entersB Tryd.prog 11 = true := by kernel_rfl
theorem en14 : entersB Tryd.prog 14 = true := by kernel_rfl
theorem en18 : entersB Tryd.prog 18 = true := by kernel_rfl
theorem fo31_0 : fOff Tryd.prog 31 0 = some 0 := by kernel_rfl
theorem fo31_3 : fOff Tryd.prog 31 3 = some 13 := by kernel_rfl
theorem fo31_4 : fOff Tryd.prog 31 4 = some 14 := by kernel_rfl

set_option maxHeartbeats 1000000 in
theorem g_law14_FrameLinks_w {w : World} {A : Nat → Addr} {cs0 : List Value} {a0 : GL14Case} {a1 : Int} (hG : EV A w) (hH : HE w) (h0 : RGL14Case w cs0 a0) {r : Bool} (hm : g_law14_FrameLinks a0 a1 = some r) :
    Calls Tryd.prog 4 [.agg cs0.toArray, .int .i64 a1].toArray w (Ret fun u w' => u = .bool r ∧ Ext w w') := by
  obtain ⟨vp0_0, vp0_1, vp0_2, vp0_3, vp0_4, vp0_5, vp0_6, vp0_7, vp0_8, vp0_9, vp0_10, rfl, hrp0_0, hrp0_1, hrp0_2, hrp0_3, hrp0_4, hrp0_5, hrp0_6, hrp0_7, hrp0_8, hrp0_9, hrp0_10⟩ := h0
  have hS := St.begin NB w
  unfold g_law14_FrameLinks at hm
  refine enter Tryd.func4 rfl rfl rfl ?_; intro a H; dsimp only [enumL, Nat.zero_add, Nat.reduceAdd] at H
  refine wp_seq (wp_region_lit (n_box H rfl (cs := [.int .i64 a0.C.Ticks, vp0_0, vp0_1, vp0_2, vp0_3, .int .i64 a0.C.Tries, .int .i64 a0.D.Ticks, vp0_4, vp0_5, vp0_6, vp0_7, .int .i64 a0.D.Tries, vp0_8, vp0_9, vp0_10]) rfl rfl ?_))
  clear H; intro b21 w22 hN hE23 hs; clear a; intro a H
  replace hS := hS.newBlk hN hE23 hs; clear hN hs
  refine n_q H (q_assign rfl) rfl ?_; clear H a; intro a H
  refine n_nil (then_normal (wp_seq (wp_seq (wp_region_lit ?_))))
  replace hm := bindS hm; obtain ⟨r24, hr24, hm⟩ := hm
  refine n_call H rfl en11 (g_law14_fixed_w (A := A) (hG.ext hS.x) (hH.ext hS.x) hr24) rfl ?_
  clear H; intro x27 w25 hv; clear a; intro a H; obtain ⟨rfl, hE26⟩ := hv
  replace hS := hS.ext hE26
  refine n_q H (q_not rfl) rfl ?_; clear H a; intro a H
  refine n_nil (then_normal (c_cond H rfl (fun hc28 => ?_) (fun hc28 => ?_)))
  · replace hm := condT hm hc28
    refine wp_seq (wp_region_lit (n_q H (q_assign rfl) rfl ?_)); clear H a; intro a H
    refine n_nil (then_normal (wp_ret (then_ret ?_)))
    obtain rfl := Option.some.inj hm
    replace hS := hS.take 0; simp only [List.take_succ_cons, List.take_zero] at hS
    refine ret1 H (.inr rfl) rfl rfl ?_
    exact ⟨rfl, hS.x⟩
  · replace hm := condF hm hc28
    refine wp_skip (then_normal (wp_seq (wp_region_lit (n_q H (q_fieldAddr0 rfl fo31_0) rfl (W_q (q_load rfl ((hS.blk 0 rfl).ldPart 0 6 ag27 sz27 (by simp))) rfl ?_))))); clear H a; intro a H
    replace hm := bindS hm; obtain ⟨r29, hr29, hm⟩ := hm
    refine n_call H rfl en14 (g_r14_Copy_w (A := A) (⟨_, _, _, _, rfl, (hrp0_0.ext RGPlan.mono hS.x), (hrp0_1.ext (Flat.mono _) hS.x), (hrp0_2.ext (Flat.mono _) hS.x), (hrp0_3.ext (Flat.mono _) hS.x)⟩ : RGConfig _ [.int .i64 a0.C.Ticks, vp0_0, vp0_1, vp0_2, vp0_3, .int .i64 a0.C.Tries] a0.C) hr29) rfl ?_
    clear H; intro x40 w38 hv; clear a; intro a H; obtain ⟨u30, u31, u32, u33, rfl, hE39⟩ := hv
    replace hS := hS.new hE39; simp only [List.cons_append, List.nil_append] at hS
    refine n_alloc H ze27 rfl ?_
    clear H; intro b41 w42 hN hE43 hs; clear a; intro a H
    replace hS := hS.newBlk hN hE43 hs; clear hN hs
    refine n_storeAll H rfl rfl (vs := [.int .i64 r29.Ticks, u30, u31, u32, u33, .int .i64 r29.Tries]) rfl sz27 (hS.blk 0 rfl) rfl (by simp [((hS.deepSl 1 rfl)).one, (((hS.own 2 rfl).slr rfl (fun _ _ => rfl))).one, (((hS.own 3 rfl).slr rfl (fun _ _ => rfl))).one, (((hS.own 4 rfl).slr rfl (fun _ _ => rfl))).one]) ?_
    clear H; intro w44 hN hC45 hz; clear a; intro a H; replace hS := hS.setBlk hN hC45; clear hN hz
    refine n_nil (then_normal (wp_seq ?_))
    replace hm := bindS hm; obtain ⟨j46, hm, hm46⟩ := hm
    refine c_join (σ := Bool) H (fun q547 => [(1, .int .i64 a1), (2, .pointer (some ⟨b21, 0, none⟩)), (5, .pointer (some ⟨b41, 0, none⟩)), (44, .bool q547)]) (fun q547 wl => (g_law14_FrameLinks_J62 a0 a1 r29) q547 = some r ∧ St NB w wl [blkR b21 [.int .i64 a0.C.Ticks, vp0_0, vp0_1, vp0_2, vp0_3, .int .i64 a0.C.Tries, .int .i64 a0.D.Ticks, vp0_4, vp0_5, vp0_6, vp0_7, .int .i64 a0.D.Tries, vp0_8, vp0_9, vp0_10] 31, blkR b41 [.int .i64 r29.Ticks, u30, u31, u32, u33, .int .i64 r29.Tries] 27, deepR 68 7 RGPlan u30 r29.Parts, ownR 3 1 u31 r29.Homes.length (r29.Homes.flatMap eI), ownR 105 3 u32 r29.Windows.length (r29.Windows.flatMap eGWindow), ownR 47 4 u33 r29.Links.length (r29.Links.flatMap eGLink)]) ?_ ?_
    · skip
      refine wp_region_lit (n_q H (q_fieldAddr0 rfl fo27_4) rfl (W_q (q_load rfl ((hS.blk 0 rfl).ld ag25 rfl)) rfl ?_)); clear H a; intro a H
      obtain ⟨A548, c548, hv548, hl548, hm548⟩ := SlR.formV ((hS.own 4 rfl).slr rfl (fun _ _ => rfl))
      refine n_q H (q_lenV Tryd.underlying25 rfl hv548) rfl (W_q (q_eqlN (i := r29.Links.length) (j := 0) rfl rfl) rfl (W_q (q_move rfl) rfl ?_)); clear H a; intro a H
      rcases Bool.eq_false_or_eq_true (decide (r29.Links.length = 0)) with hg549 | hg549
      · replace H := H.know 22 rfl hg549
        replace hm := condT hm hg549
        refine n_no H rfl rfl (by decide) rfl (W_no rfl rfl (by decide) rfl (W_no rfl rfl (by decide) rfl (W_q (q_pickT rfl rfl) rfl (W_q (q_move rfl) rfl (W_no rfl rfl (by decide) rfl (W_no rfl rfl (by decide) rfl (W_no rfl rfl (by decide) rfl (W_no rfl rfl (by decide) rfl (W_no rfl rfl (by decide) rfl (W_no rfl rfl (by decide) rfl (W_no rfl rfl (by decide) rfl ?_))))))))))); clear H a; intro a H
        refine n_q H (q_pickT rfl rfl) rfl (W_q (q_move rfl) rfl (W_no rfl rfl (by decide) rfl (W_no rfl rfl (by decide) rfl (W_no rfl rfl (by decide) rfl (W_no rfl rfl (by decide) rfl (W_no rfl rfl (by decide) rfl (W_no rfl rfl (by decide) rfl (W_no rfl rfl (by decide) rfl (W_q (q_pickT rfl rfl) rfl ?_))))))))); clear H a; intro a H
        refine n_nil (then_normal ?_)
        obtain rfl := Option.some.inj hm; replace hm := hm46; try dsimp only at hm
        replace hS := hS.pick 4 rfl; dsimp only [List.eraseIdx] at hS
        replace hS := hS.pick 4 rfl; dsimp only [List.eraseIdx] at hS
        replace hS := hS.pick 4 rfl; dsimp only [List.eraseIdx] at hS
        replace hS := hS.pick 4 rfl; dsimp only [List.eraseIdx] at hS
        replace hS := hS.pick 4 rfl; dsimp only [List.eraseIdx] at hS
        replace hS := hS.pick 5 rfl; dsimp only [List.eraseIdx] at hS
        exact join true H ⟨rfl, rfl, rfl, rfl, trivial⟩ ⟨hm, hS⟩
      · replace H := H.know 22 rfl hg549
        replace hm := condF hm hg549
        refine n_yes H rfl rfl (n_q H (q_load rfl ((hS.blk 0 rfl).ldAll ag27 sz27)) rfl (W_yes rfl rfl ?_)); clear H a; intro a H
        replace hm := bindS hm; obtain ⟨r550, hr550, hm⟩ := hm
        refine n_call H rfl en18 (g_r14_Good_w (A := A) (⟨_, _, _, _, rfl, (hS.deepSl 1 rfl), ((hS.own 2 rfl).slr rfl (fun _ _ => rfl)), ((hS.own 3 rfl).slr rfl (fun _ _ => rfl)), ((hS.own 4 rfl).slr rfl (fun _ _ => rfl))⟩ : RGConfig _ [.int .i64 r29.Ticks, u30, u31, u32, u33, .int .i64 r29.Tries] r29) hr550) rfl ?_
        clear H; intro x553 w551 hv; clear a; intro a H; obtain ⟨rfl, hE552⟩ := hv
        replace hS := hS.ext hE552
        refine n_yes H rfl rfl (n_q H (q_not rfl) rfl (W_q (q_pickF rfl rfl) rfl (W_q (q_move rfl) rfl ?_))); clear H a; intro a H
        rcases Bool.eq_false_or_eq_true (!r550) with hg554 | hg554
        · replace H := H.know 27 rfl hg554
          replace hm := condT hm hg554
          refine n_no H rfl rfl (by decide) rfl (W_no rfl rfl (by decide) rfl (W_no rfl rfl (by decide) rfl (W_no rfl rfl (by decide) rfl (W_no rfl rfl (by decide) rfl (W_no rfl rfl (by decide) rfl (W_no rfl rfl (by decide) rfl (W_q (q_pickT rfl rfl) rfl (W_q (q_move rfl) rfl (W_no rfl rfl (by decide) rfl (W_no rfl rfl (by decide) rfl (W_no rfl rfl (by decide) rfl ?_))))))))))); clear H a; intro a H
          refine n_no H rfl rfl (by decide) rfl (W_no rfl rfl (by decide) rfl (W_no rfl rfl (by decide) rfl (W_no rfl rfl (by decide) rfl (W_q (q_pickT rfl rfl) rfl ?_)))); clear H a; intro a H
          refine n_nil (then_normal ?_)
          obtain rfl := Option.some.inj hm; replace hm := hm46; try dsimp only at hm
          replace hS := hS.pick 4 rfl; dsimp only [List.eraseIdx] at hS
          replace hS := hS.pick 4 rfl; dsimp only [List.eraseIdx] at hS
          replace hS := hS.pick 4 rfl; dsimp only [List.eraseIdx] at hS
          replace hS := hS.pick 4 rfl; dsimp only [List.eraseIdx] at hS
          replace hS := hS.pick 4 rfl; dsimp only [List.eraseIdx] at hS
          replace hS := hS.pick 5 rfl; dsimp only [List.eraseIdx] at hS
          exact join true H ⟨rfl, rfl, rfl, rfl, trivial⟩ ⟨hm, hS⟩
        · replace H := H.know 27 rfl hg554
          replace hm := condF hm hg554
          refine n_yes H rfl rfl (n_q H (q_fieldAddr0 rfl fo31_4) rfl (W_yes rfl rfl (W_q (q_load rfl ((hS.blk 5 rfl).ld ag29 rfl)) rfl (W_yes rfl rfl ?_)))); clear H a; intro a H
          obtain ⟨A555, c555, hv555, hl555, hm555⟩ := SlR.formV (hrp0_10.ext (RSl.mono _ _) hS.x)
          refine n_q H (q_lenV Tryd.underlying29 rfl hv555) rfl (W_yes rfl rfl (W_q (q_fieldAddr0 rfl fo27_1) rfl (W_yes rfl rfl (W_q (q_load rfl ((hS.blk 0 rfl).ld ag22 rfl)) rfl (W_yes rfl rfl ?_))))); clear H a; intro a H
          obtain ⟨A556, c556, hv556, hl556, hm556⟩ := SlR.formV (hS.deepSl 1 rfl)
          refine n_q H (q_lenV Tryd.underlying22 rfl hv556) rfl (W_yes rfl rfl (W_q (q_neqN (i := a0.Emitted.length) (j := r29.Parts.length) rfl rfl) rfl (W_q (q_pickF rfl rfl) rfl (W_q (q_move rfl) rfl ?_)))); clear H a; intro a H
          rcases Bool.eq_false_or_eq_true (!decide (a0.Emitted.length = r29.Parts.length)) with hg557 | hg557
          · replace H := H.know 36 rfl hg557
            replace hm := condT hm hg557
            refine n_no H rfl rfl (by decide) rfl (W_no rfl rfl (by decide) rfl (W_no rfl rfl (by decide) rfl (W_no rfl rfl (by decide) rfl (W_no rfl rfl (by decide) rfl (W_no rfl rfl (by decide) rfl (W_no rfl rfl (by decide) rfl (W_q (q_pickT rfl rfl) rfl ?_))))))); clear H a; intro a H
            refine n_nil (then_normal ?_)
            obtain rfl := Option.some.inj hm; replace hm := hm46; try dsimp only at hm
            replace hS := hS.pick 4 rfl; dsimp only [List.eraseIdx] at hS
            replace hS := hS.pick 4 rfl; dsimp only [List.eraseIdx] at hS
            replace hS := hS.pick 4 rfl; dsimp only [List.eraseIdx] at hS
            replace hS := hS.pick 4 rfl; dsimp only [List.eraseIdx] at hS
            replace hS := hS.pick 4 rfl; dsimp only [List.eraseIdx] at hS
            replace hS := hS.pick 5 rfl; dsimp only [List.eraseIdx] at hS
            exact join true H ⟨rfl, rfl, rfl, rfl, trivial⟩ ⟨hm, hS⟩
          · replace H := H.know 36 rfl hg557
            replace hm := condF hm hg557
            refine n_yes H rfl rfl (n_q H (q_fieldAddr0 rfl fo31_3) rfl (W_yes rfl rfl (W_q (q_load rfl ((hS.blk 5 rfl).ld ag28 rfl)) rfl (W_yes rfl rfl ?_)))); clear H a; intro a H
            obtain ⟨A558, c558, hv558, hl558, hm558⟩ := SlR.formV (hrp0_9.ext (Flat.mono _) hS.x)
            refine n_q H (q_lenV Tryd.underlying28 rfl hv558) rfl (W_yes rfl rfl (W_q (q_fieldAddr0 rfl fo27_1) rfl (W_yes rfl rfl (W_q (q_load rfl ((hS.blk 0 rfl).ld ag22 rfl)) rfl (W_yes rfl rfl (W_q (q_lenV Tryd.underlying22 rfl hv556) rfl (W_yes rfl rfl (W_q (q_neqN (i := a0.Here.length) (j := r29.Parts.length) rfl rfl) rfl (W_q (q_pickF rfl rfl) rfl ?_))))))))); clear H a; intro a H
            refine n_nil (then_normal ?_)
            obtain rfl := Option.some.inj hm; replace hm := hm46; try dsimp only at hm
            replace hS := hS.pick 4 rfl; dsimp only [List.eraseIdx] at hS
            replace hS := hS.pick 4 rfl; dsimp only [List.eraseIdx] at hS
            replace hS := hS.pick 4 rfl; dsimp only [List.eraseIdx] at hS
            replace hS := hS.pick 4 rfl; dsimp only [List.eraseIdx] at hS
            replace hS := hS.pick 4 rfl; dsimp only [List.eraseIdx] at hS
            replace hS := hS.pick 5 rfl; dsimp only [List.eraseIdx] at hS
            exact join (!decide (a0.Here.length = r29.Parts.length)) H ⟨rfl, rfl, rfl, rfl, trivial⟩ ⟨hm, hS⟩
    · clear H hS hm a; intro q547 a w559 H hR
      simp only [ent, List.map_cons, List.map_nil] at H; (try dsimp only at hR); obtain ⟨hm, hS⟩ := hR; try dsimp only [g_law14_FrameLinks_J62] at hm
      refine c_cond H rfl (fun hc560 => ?_) (fun hc560 => ?_)
      · replace hm := condT hm hc560
        refine wp_seq (wp_region_lit (n_q H (q_assign rfl) rfl ?_)); clear H a; intro a H
        refine n_nil (then_normal (wp_ret (then_ret ?_)))
        obtain rfl := Option.some.inj hm
        replace hS := hS.take 0; simp only [List.take_succ_cons, List.take_zero] at hS
        refine ret1 H (.inr rfl) rfl rfl ?_
        exact ⟨rfl, hS.x⟩
      · replace hm := condF hm hc560
        refine wp_skip (then_normal (wp_seq (c_ord [] 14 (by kernel_rfl) ?_)))
        obtain ⟨w561, hw561⟩ : ∃ x, x = w559.drew := ⟨_, rfl⟩; rw [← hw561]; have hE562 : Ext w559 w561 := by rw [hw561]; exact Ext.drew' _
        clear hw561
        replace hS := hS.ext hE562
        have hS563 := hS
        have hW := Nat.le_refl w561.heap.size
        refine k_takeT 0 H rfl (q_fieldAddr0 rfl fo27_4) rfl (by kernel_rfl) (by kernel_rfl) (by kernel_rfl) (by kernel_rfl) (fun _ _ _ h => h) ?_; clear H a; intro a H
        refine k_take 1 H rfl (q_load rfl (LdC.old ((hS563.blk 1 rfl).ld ag25 rfl) Ext.rfl' (Nat.le_refl _) (by simp))) rfl (by kernel_rfl) (by kernel_rfl) (by kernel_rfl) (by kernel_rfl) (fun _ _ _ h => h) ?_; clear H a; intro a H
        refine k_takeT 2 H rfl (q_move rfl) rfl (by kernel_rfl) (by kernel_rfl) (by kernel_rfl) (by kernel_rfl) (fun _ _ _ h => h) ?_; clear H a; intro a H
        refine k_takeT 3 H rfl (q_convI Tryd.underlying3 Tryd.underlying48 ⟨_, rfl⟩ rfl) rfl (by kernel_rfl) (by kernel_rfl) (by kernel_rfl) (by kernel_rfl) (fun _ _ _ h => h) ?_; clear H a; intro a H
        refine k_takeT 4 H rfl (q_fieldAddr0 rfl fo27_4) rfl (by kernel_rfl) (by kernel_rfl) (by kernel_rfl) (by kernel_rfl) (fun _ _ _ h => h) ?_; clear H a; intro a H
        refine k_take 5 H rfl (q_load rfl (LdC.old ((hS563.blk 1 rfl).ld ag25 rfl) Ext.rfl' (Nat.le_refl _) (by simp))) rfl (by kernel_rfl) (by kernel_rfl) (by kernel_rfl) (by kernel_rfl) (fun _ _ _ h => h) ?_; clear H a; intro a H
        obtain ⟨A564, c564, hv564, hl564, hm564⟩ := SlR.formV ((hS.own 5 rfl).slr rfl (fun _ _ => rfl))
        refine k_takeT 6 H rfl (q_lenV Tryd.underlying25 rfl hv564) rfl (by kernel_rfl) (by kernel_rfl) (by kernel_rfl) (by kernel_rfl) (fun _ _ _ h => h) ?_; clear H a; intro a H
        refine k_takeT 7 H rfl (q_convI Tryd.underlying3 Tryd.underlying48 ⟨_, rfl⟩ rfl) rfl (by kernel_rfl) (by kernel_rfl) (by kernel_rfl) (by kernel_rfl) (fun _ _ _ h => h) ?_; clear H a; intro a H
        replace hm := chkS hm; obtain ⟨hk565, hm⟩ := hm
        refine k_takeT 8 H rfl (q_remW rfl rfl hk565) rfl (by kernel_rfl) (by kernel_rfl) (by kernel_rfl) (by kernel_rfl) (fun _ _ _ h => h) ?_; clear H a; intro a H
        refine k_takeT 9 H rfl (q_convI Tryd.underlying48 Tryd.underlying3 ⟨_, rfl⟩ rfl) rfl (by kernel_rfl) (by kernel_rfl) (by kernel_rfl) (by kernel_rfl) (fun _ _ _ h => h) ?_; clear H a; intro a H
        replace hm := bindS hm; obtain ⟨x566, hx566, hm⟩ := hm
        obtain ⟨h0x566, h1x566, hxx566⟩ := rdI_some hx566
        obtain ⟨adx566, hAx566⟩ := SlR.adV ((hS.own 5 rfl).slr rfl (fun _ _ => rfl)) hv564 hxx566
        refine k_takeT 10 H rfl (q_ixVI Tryd.underlying25 sz47 rfl hv564 hAx566 rfl h0x566 h1x566) rfl (by kernel_rfl) (by kernel_rfl) (by kernel_rfl) (by kernel_rfl) (fun _ _ _ h => h) ?_; clear H a; intro a H
        refine k_take 11 H rfl (q_load rfl (LdC.old (SlR.ldAggV ((hS563.own 5 rfl).slr rfl (fun _ _ => rfl)) hv564 hAx566 ag47 sz47 hxx566) Ext.rfl' (Nat.le_refl _) (by simp))) rfl (by kernel_rfl) (by kernel_rfl) (by kernel_rfl) (by kernel_rfl) (fun _ _ _ h => h) ?_; clear H a; intro a H
        refine k_alloc 12 H rfl ze47 rfl (by kernel_rfl) ?_
        clear H; intro b567 w568 hN hE569 hs; clear a; intro a H
        have hge_b567 : w561.heap.size ≤ b567 := hs ▸ hW
        replace hS := hS.newBlk hN hE569 hs; clear hN hs
        replace hW := Nat.le_trans hW hE569.size
        refine k_storeAll 13 H rfl rfl rfl (vs := [.int .i64 x566.From, .int .i64 x566.Out, .int .i64 x566.To, .int .i64 x566.In]) rfl sz47 (hS.blk 0 rfl) rfl (by simp) (by kernel_rfl) (.inl (fun h => absurd h (Nat.not_lt.2 hge_b567))) ?_
        clear H; intro w570 hN hC571 hz; clear a; intro a H; replace hS := hS.setBlk hN hC571; clear hN hz; replace hW := Nat.le_trans hW hC571.size
        refine k_done (by kernel_rfl) ?_
        refine then_normal (wp_seq (wp_region_lit (n_q H (q_load rfl ((hS.blk 0 rfl).ldAll ag47 sz47)) rfl ?_))); clear H a; intro a H
        refine n_buildSlice H Tryd.underlying25 sz47 ze47 rfl rfl rfl (cs := [.int .i64 x566.From, .int .i64 x566.Out, .int .i64 x566.To, .int .i64 x566.In]) (by kernel_rfl) rfl ?_
        clear H; intro b574 w572 hN hE573 hs; clear a; intro a H
        replace hS := hS.newBlk hN hE573 hs; clear hN hs
        replace hS := hS.blkOwnL (e := eGLink) (k := 4) [x566] rfl rfl (by simp [maxLen])
        refine n_q H (q_fieldAddr0 rfl fo27_4) rfl ?_; clear H a; intro a H
        replace hS := hS.pick 3 rfl; dsimp only [List.eraseIdx] at hS
        refine n_store1 H rfl rfl sz25 (hS.blk 0 rfl) (by simp) (((hS.own 1 rfl).slr rfl (fun _ _ => rfl))).one ?_
        clear H; intro w576 hN hC577 hz; clear a; intro a H; replace hS := hS.setBlk hN hC577; clear hN hz
        try simp only [List.set_cons_succ, List.set_cons_zero] at hS
        refine n_nil (then_normal (wp_seq (wp_region_lit (n_q H (q_load rfl ((hS.blk 0 rfl).ldAll ag27 sz27)) rfl (W_q (q_fieldAddr0 rfl fo31_3) rfl (W_q (q_load rfl ((hS.blk 3 rfl).ld ag28 rfl)) rfl (W_q (q_fieldAddr0 rfl fo31_4) rfl (W_q (q_load rfl ((hS.blk 3 rfl).ld ag29 rfl)) rfl ?_)))))))); clear H a; intro a H
        replace hm := bindS hm; obtain ⟨r578, hr578, hm⟩ := hm
        refine n_call H rfl en13 (g_frame_Carry_w (A := A) (hG.ext hS.x) (⟨_, _, _, _, rfl, (hS.deepSl 4 rfl), ((hS.own 5 rfl).slr rfl (fun _ _ => rfl)), ((hS.own 6 rfl).slr rfl (fun _ _ => rfl)), ((hS.own 1 rfl).slr rfl (fun _ _ => rfl))⟩ : RGConfig _ [.int .i64 r29.Ticks, u30, u31, u32, .slice (some ⟨b574, 0, none⟩) 1 1, .int .i64 r29.Tries] (⟨r29.Ticks, r29.Parts, r29.Homes, r29.Windows, [x566], r29.Tries⟩ : GConfig)) (hrp0_9.ext (Flat.mono _) hS.x) (hrp0_10.ext (RSl.mono _ _) hS.x) hr578) rfl ?_
        clear H; intro x585 w583 hv; clear a; intro a H; obtain ⟨u579, u580, rfl, hE584⟩ := hv
        replace hS := hS.new hE584; simp only [List.cons_append, List.nil_append] at hS
        refine n_q H (q_move rfl) rfl (W_q (q_extract rfl rfl) rfl (W_q (q_extract rfl rfl) rfl (W_q (q_assign rfl) rfl (W_q (q_assign rfl) rfl ?_)))); clear H a; intro a H
        refine n_nil (then_normal (wp_seq (wp_seq (wp_region_lit (n_c H (fun HC => ?_)))))); clear H
        refine nc_q HC (q_move rfl) rfl (by kernel_rfl) (V_q (q_cast (q_nnilI Tryd.underlying36 rfl rfl (hS.any 1 rfl : IsE A w583 u580 r578.2).form) (show _ = Value.bool (!decide (r578.2 = .nil)) by rw [IsErr.isNil (hS.any 1 rfl : IsE A w583 u580 r578.2)])) rfl (by kernel_rfl) (V_q (q_move rfl) rfl (by kernel_rfl) (V_g (q_move rfl) (by kernel_rfl) (by kernel_rfl) (by kernel_rfl) ?_))); clear HC a; intro a HC
        obtain ⟨A586, c586, hv586, hl586, hm586⟩ := SlR.formV (hS.nestSl 0 rfl (rowR_R (E := 50) (k := 2) (e := eGMsg) (fun _ _ => rfl)))
        refine nc_g HC (q_lenV Tryd.underlying29 rfl hv586) (by kernel_rfl) (by kernel_rfl) (by kernel_rfl) (V_g (q_fieldAddr0 rfl fo27_1) (by kernel_rfl) (by kernel_rfl) (by kernel_rfl) (V_g (q_load rfl ((hS.blk 2 rfl).ld ag22 rfl)) (by kernel_rfl) (by kernel_rfl) (by kernel_rfl) ?_)); clear HC a; intro a HC
        obtain ⟨A587, c587, hv587, hl587, hm587⟩ := SlR.formV (hS.deepSl 6 rfl)
        refine nc_g HC (q_lenV Tryd.underlying22 rfl hv587) (by kernel_rfl) (by kernel_rfl) (by kernel_rfl) (V_g (q_neqN (i := r578.1.length) (j := r29.Parts.length) rfl rfl) (by kernel_rfl) (by kernel_rfl) (by kernel_rfl) (V_or (j := 2) rfl rfl rfl (by kernel_rfl) (by kernel_rfl) ?_)); clear HC a; intro a HC
        have H := HC.has; clear HC
        refine n_nil (then_normal (c_cond H rfl (fun hc588 => ?_) (fun hc588 => ?_)))
        · replace hm := condT hm hc588
          refine wp_seq (wp_region_lit (n_q H (q_assign rfl) rfl ?_)); clear H a; intro a H
          refine n_nil (then_normal (wp_ret (then_ret ?_)))
          obtain rfl := Option.some.inj hm
          replace hS := hS.take 0; simp only [List.take_succ_cons, List.take_zero] at hS
          refine ret1 H (.inr rfl) rfl rfl ?_
          exact ⟨rfl, hS.x⟩
        · replace hm := condF hm hc588
          refine wp_skip (then_normal (wp_seq (wp_region_lit (n_q H (q_assign rfl) rfl ?_)))); clear H a; intro a H
          refine n_nil (then_normal (wp_seq (wp_seq (wp_region_lit (n_q H (q_assign rfl) rfl ?_))))); clear H a; intro a H
          refine n_nil (then_normal (wp_block ?_))
          replace hS := hS.pick 4 rfl; dsimp only [List.eraseIdx] at hS
          replace hS := hS.pick 5 rfl; dsimp only [List.eraseIdx] at hS
          replace hS := hS.pick 2 rfl; dsimp only [List.eraseIdx] at hS
          replace hS := hS.take 3; simp only [List.take_succ_cons, List.take_zero] at hS
          replace hm := bindS hm; obtain ⟨q589, hm, hm589⟩ := hm; replace hm := iter_some hm; obtain ⟨n589, hm⟩ := hm
          refine c_loop (σ := Nat × Int × Nat) (fun (m, z592, i591) => [(2, .pointer (some ⟨b21, 0, none⟩)), (6, .pointer (some ⟨b567, 0, none⟩)), (7, u579), (9, .int .i64 z592), (10, .int .i64 ((i591 : Nat) : Int))]) (fun (m, z592, i591) wl => iterN (g_law14_FrameLinks_L61 a0 x566 r578) m (z592, i591) = some q589 ∧ St NB w wl [nestR 43 1 (rowR 50 2 eGMsg) u579 r578.1, blkR b21 [.int .i64 a0.C.Ticks, vp0_0, vp0_1, vp0_2, vp0_3, .int .i64 a0.C.Tries, .int .i64 a0.D.Ticks, vp0_4, vp0_5, vp0_6, vp0_7, .int .i64 a0.D.Tries, vp0_8, vp0_9, vp0_10] 31, blkR b567 [.int .i64 x566.From, .int .i64 x566.Out, .int .i64 x566.To, .int .i64 x566.In] 47]) (fun (m, z592, i591) => m) (n589, 0, 0) H ⟨rfl, rfl, rfl, rfl, rfl, trivial⟩ ⟨hm, hS⟩ ?_
          clear H hS hm a; intro xx a w593 H hR; obtain ⟨m, z592, i591⟩ := xx; simp only [ent, List.map_cons, List.map_nil] at H; (try dsimp only at hR); obtain ⟨hm, hS⟩ := hR
          replace hm := iterN_step hm; obtain ⟨m589, o589, rfl, hm, hn589⟩ := hm; try dsimp only [g_law14_FrameLinks_L61] at hm
          refine wp_seq (wp_seq (wp_region_lit (n_q H (q_move rfl) rfl (W_q (q_fieldAddr0 rfl fo31_4) rfl (W_q (q_load rfl ((hS.blk 1 rfl).ld ag29 rfl)) rfl (W_q (q_fieldAddr0 rfl fo47_0) rfl (W_q (q_load rfl ((hS.blk 2 rfl).ld ag3 rfl)) rfl ?_))))))); clear H a; intro a H
          obtain ⟨A594, c594, hv594, hl594, hm594⟩ := SlR.formV (hrp0_10.ext (RSl.mono _ _) hS.x)
          replace hm := bindS hm; obtain ⟨x595, hx595, hm⟩ := hm
          obtain ⟨h0x595, h1x595, hxx595⟩ := rdI_some hx595
          obtain ⟨adx595, hAx595⟩ := SlR.adV (hrp0_10.ext (RSl.mono _ _) hS.x) hv594 hxx595
          obtain ⟨csx595, hclx595, ⟨vx595, rfl, hrx595⟩, hcx595⟩ := SlR.elV hrp0_10 hv594 hAx595 hxx595
          refine n_q H (q_ixVI Tryd.underlying29 sz43 rfl hv594 hAx595 rfl h0x595 h1x595) rfl (W_q (q_load rfl (LdX.ext (ldElH ag43 hcx595) hS.x)) rfl ?_); clear H a; intro a H
          obtain ⟨A596, c596, hv596, hl596, hm596⟩ := SlR.formV (hrx595.ext (Flat.mono _) hS.x)
          refine n_q H (q_lenV Tryd.underlying43 rfl hv596) rfl (W_q (q_lssN (i := i591) (j := x595.length) rfl rfl) rfl ?_); clear H a; intro a H
          refine n_nil (then_normal (c_cond H rfl (fun hc597 => ?_) (fun hc597 => ?_)))
          · replace hm := condT hm hc597
            have hlt598 : i591 < x595.length := of_decide_eq_true hc597
            refine wp_skip (then_normal ?_)
            replace hm := bindS hm; obtain ⟨j599, hm, hm599⟩ := hm
            refine c_join (σ := Int) H (fun z1100 => [(2, .pointer (some ⟨b21, 0, none⟩)), (6, .pointer (some ⟨b567, 0, none⟩)), (7, u579), (9, .int .i64 z1100), (10, .int .i64 ((i591 : Nat) : Int))]) (fun z1100 wl => (g_law14_FrameLinks_J53 i591) z1100 = some o589 ∧ St NB w wl [nestR 43 1 (rowR 50 2 eGMsg) u579 r578.1, blkR b21 [.int .i64 a0.C.Ticks, vp0_0, vp0_1, vp0_2, vp0_3, .int .i64 a0.C.Tries, .int .i64 a0.D.Ticks, vp0_4, vp0_5, vp0_6, vp0_7, .int .i64 a0.D.Tries, vp0_8, vp0_9, vp0_10] 31, blkR b567 [.int .i64 x566.From, .int .i64 x566.Out, .int .i64 x566.To, .int .i64 x566.In] 47]) ?_ ?_
            · skip
              refine wp_block (wp_seq (wp_region_lit (n_q H (q_fieldAddr0 rfl fo31_4) rfl (W_q (q_load rfl ((hS.blk 1 rfl).ld ag29 rfl)) rfl (W_q (q_fieldAddr0 rfl fo47_0) rfl (W_q (q_load rfl ((hS.blk 2 rfl).ld ag3 rfl)) rfl ?_)))))); clear H a; intro a H
              replace hm := bindS hm; obtain ⟨x1101, hx1101, hm⟩ := hm
              obtain ⟨h0x1101, h1x1101, hxx1101⟩ := rdI_some hx1101
              obtain ⟨adx1101, hAx1101⟩ := SlR.adV (hrp0_10.ext (RSl.mono _ _) hS.x) hv594 hxx1101
              obtain ⟨csx1101, hclx1101, ⟨vx1101, rfl, hrx1101⟩, hcx1101⟩ := SlR.elV hrp0_10 hv594 hAx1101 hxx1101
              refine n_q H (q_ixVI Tryd.underlying29 sz43 rfl hv594 hAx1101 rfl h0x1101 h1x1101) rfl (W_q (q_load rfl (LdX.ext (ldElH ag43 hcx1101) hS.x)) rfl (W_q (q_move rfl) rfl ?_)); clear H a; intro a H
              obtain ⟨A1102, c1102, hv1102, hl1102, hm1102⟩ := SlR.formV (hrx1101.ext (Flat.mono _) hS.x)
              replace hm := bindS hm; obtain ⟨x1103, hx1103, hm⟩ := hm
              obtain ⟨adx1103, hAx1103⟩ := SlR.adV (hrx1101.ext (Flat.mono _) hS.x) hv1102 hx1103
              refine n_q H (q_ixV (i := i591) Tryd.underlying43 sz50 rfl hv1102 hAx1103 rfl (natI hx1103)) rfl (W_q (q_load rfl (SlR.ldAggV (hrx1101.ext (Flat.mono _) hS.x) hv1102 hAx1103 ag50 sz50 hx1103)) rfl ?_); clear H a; intro a H
              refine n_alloc H ze50 rfl ?_
              clear H; intro b1104 w1105 hN hE1106 hs; clear a; intro a H
              replace hS := hS.newBlk hN hE1106 hs; clear hN hs
              refine n_storeAll H rfl rfl (vs := [.int .i64 x1103.Port, .string x1103.Data]) rfl sz50 (hS.blk 0 rfl) rfl (by simp) ?_
              clear H; intro w1107 hN hC1108 hz; clear a; intro a H; replace hS := hS.setBlk hN hC1108; clear hN hz
              refine n_nil (then_normal (wp_seq ?_))
              replace hm := bindS hm; obtain ⟨j1109, hm, hm1109⟩ := hm
              refine c_join (σ := Bool) H (fun q1610 => [(2, .pointer (some ⟨b21, 0, none⟩)), (6, .pointer (some ⟨b567, 0, none⟩)), (7, u579), (9, .int .i64 z592), (10, .int .i64 ((i591 : Nat) : Int)), (11, .pointer (some ⟨b1104, 0, none⟩)), (121, .bool q1610)]) (fun q1610 wl => (g_law14_FrameLinks_J52 x566 r578 z592 x1103) q1610 = some j599 ∧ St NB w wl [nestR 43 1 (rowR 50 2 eGMsg) u579 r578.1, blkR b21 [.int .i64 a0.C.Ticks, vp0_0, vp0_1, vp0_2, vp0_3, .int .i64 a0.C.Tries, .int .i64 a0.D.Ticks, vp0_4, vp0_5, vp0_6, vp0_7, .int .i64 a0.D.Tries, vp0_8, vp0_9, vp0_10] 31, blkR b567 [.int .i64 x566.From, .int .i64 x566.Out, .int .i64 x566.To, .int .i64 x566.In] 47, blkR b1104 [.int .i64 x1103.Port, .string x1103.Data] 50]) ?_ ?_
              · skip
                refine wp_region_lit (n_q H (q_fieldAddr0 rfl fo50_0) rfl (W_q (q_load rfl ((hS.blk 0 rfl).ld ag3 rfl)) rfl (W_q (q_fieldAddr0 rfl fo47_1) rfl (W_q (q_load rfl ((hS.blk 3 rfl).ld ag3 rfl)) rfl (W_q (q_neqD rfl rfl) rfl (W_q (q_move rfl) rfl ?_)))))); clear H a; intro a H
                rcases Bool.eq_false_or_eq_true (!decide (x1103.Port = x566.Out)) with hg1611 | hg1611
                · replace H := H.know 104 rfl hg1611
                  replace hm := condT hm hg1611
                  refine n_no H rfl rfl (by decide) rfl (W_no rfl rfl (by decide) rfl (W_no rfl rfl (by decide) rfl (W_no rfl rfl (by decide) rfl (W_no rfl rfl (by decide) rfl (W_no rfl rfl (by decide) rfl (W_no rfl rfl (by decide) rfl (W_q (q_pickT rfl rfl) rfl (W_q (q_move rfl) rfl (W_no rfl rfl (by decide) rfl (W_no rfl rfl (by decide) rfl (W_no rfl rfl (by decide) rfl ?_))))))))))); clear H a; intro a H
                  refine n_no H rfl rfl (by decide) rfl (W_no rfl rfl (by decide) rfl (W_no rfl rfl (by decide) rfl (W_no rfl rfl (by decide) rfl (W_q (q_pickT rfl rfl) rfl ?_)))); clear H a; intro a H
                  refine n_nil (then_normal ?_)
                  obtain rfl := Option.some.inj hm; replace hm := hm1109; try dsimp only at hm
                  replace hS := hS.pick 3 rfl; dsimp only [List.eraseIdx] at hS
                  replace hS := hS.pick 3 rfl; dsimp only [List.eraseIdx] at hS
                  replace hS := hS.pick 3 rfl; dsimp only [List.eraseIdx] at hS
                  exact join true H ⟨rfl, rfl, rfl, rfl, rfl, rfl, rfl, trivial⟩ ⟨hm, hS⟩
                · replace H := H.know 104 rfl hg1611
                  replace hm := condF hm hg1611
                  refine n_yes H rfl rfl (n_q H (q_fieldAddr0 rfl fo31_3) rfl (W_yes rfl rfl (W_q (q_load rfl ((hS.blk 2 rfl).ld ag28 rfl)) rfl (W_yes rfl rfl (W_q (q_fieldAddr0 rfl fo47_0) rfl (W_yes rfl rfl (W_q (q_load rfl ((hS.blk 3 rfl).ld ag3 rfl)) rfl (W_yes rfl rfl ?_)))))))); clear H a; intro a H
                  obtain ⟨A1612, c1612, hv1612, hl1612, hm1612⟩ := SlR.formV (hrp0_9.ext (Flat.mono _) hS.x)
                  replace hm := bindS hm; obtain ⟨x1613, hx1613, hm⟩ := hm
                  obtain ⟨h0x1613, h1x1613, hxx1613⟩ := rdI_some hx1613
                  obtain ⟨adx1613, hAx1613⟩ := SlR.adV (hrp0_9.ext (Flat.mono _) hS.x) hv1612 hxx1613
                  refine n_q H (q_ixVI Tryd.underlying28 sz4 rfl hv1612 hAx1613 rfl h0x1613 h1x1613) rfl (W_yes rfl rfl (W_q (q_load rfl (SlR.ldOneV (hrp0_9.ext (Flat.mono _) hS.x) hv1612 hAx1613 ag4 hxx1613 rfl)) rfl (W_yes rfl rfl (W_q (q_not rfl) rfl (W_q (q_pickF rfl rfl) rfl (W_q (q_move rfl) rfl ?_)))))); clear H a; intro a H
                  rcases Bool.eq_false_or_eq_true (!x1613) with hg1614 | hg1614
                  · replace H := H.know 113 rfl hg1614
                    replace hm := condT hm hg1614
                    refine n_no H rfl rfl (by decide) rfl (W_no rfl rfl (by decide) rfl (W_no rfl rfl (by decide) rfl (W_no rfl rfl (by decide) rfl (W_no rfl rfl (by decide) rfl (W_no rfl rfl (by decide) rfl (W_no rfl rfl (by decide) rfl (W_q (q_pickT rfl rfl) rfl ?_))))))); clear H a; intro a H
                    refine n_nil (then_normal ?_)
                    obtain rfl := Option.some.inj hm; replace hm := hm1109; try dsimp only at hm
                    replace hS := hS.pick 3 rfl; dsimp only [List.eraseIdx] at hS
                    replace hS := hS.pick 3 rfl; dsimp only [List.eraseIdx] at hS
                    replace hS := hS.pick 3 rfl; dsimp only [List.eraseIdx] at hS
                    exact join true H ⟨rfl, rfl, rfl, rfl, rfl, rfl, rfl, trivial⟩ ⟨hm, hS⟩
                  · replace H := H.know 113 rfl hg1614
                    replace hm := condF hm hg1614
                    refine n_yes H rfl rfl (n_q H (q_fieldAddr0 rfl fo31_3) rfl (W_yes rfl rfl (W_q (q_load rfl ((hS.blk 2 rfl).ld ag28 rfl)) rfl (W_yes rfl rfl (W_q (q_fieldAddr0 rfl fo47_2) rfl (W_yes rfl rfl (W_q (q_load rfl ((hS.blk 3 rfl).ld ag3 rfl)) rfl (W_yes rfl rfl ?_)))))))); clear H a; intro a H
                    replace hm := bindS hm; obtain ⟨x1615, hx1615, hm⟩ := hm
                    obtain ⟨h0x1615, h1x1615, hxx1615⟩ := rdI_some hx1615
                    obtain ⟨adx1615, hAx1615⟩ := SlR.adV (hrp0_9.ext (Flat.mono _) hS.x) hv1612 hxx1615
                    refine n_q H (q_ixVI Tryd.underlying28 sz4 rfl hv1612 hAx1615 rfl h0x1615 h1x1615) rfl (W_yes rfl rfl (W_q (q_load rfl (SlR.ldOneV (hrp0_9.ext (Flat.mono _) hS.x) hv1612 hAx1615 ag4 hxx1615 rfl)) rfl (W_yes rfl rfl (W_q (q_not rfl) rfl (W_q (q_pickF rfl rfl) rfl ?_))))); clear H a; intro a H
                    refine n_nil (then_normal ?_)
                    obtain rfl := Option.some.inj hm; replace hm := hm1109; try dsimp only at hm
                    replace hS := hS.pick 3 rfl; dsimp only [List.eraseIdx] at hS
                    replace hS := hS.pick 3 rfl; dsimp only [List.eraseIdx] at hS
                    replace hS := hS.pick 3 rfl; dsimp only [List.eraseIdx] at hS
                    exact join (!x1615) H ⟨rfl, rfl, rfl, rfl, rfl, rfl, rfl, trivial⟩ ⟨hm, hS⟩
              · clear H hS hm a; intro q1610 a w1616 H hR
                simp only [ent, List.map_cons, List.map_nil] at H; (try dsimp only at hR); obtain ⟨hm, hS⟩ := hR; try dsimp only [g_law14_FrameLinks_J52] at hm
                refine c_cond H rfl (fun hc1617 => ?_) (fun hc1617 => ?_)
                · replace hm := condT hm hc1617
                  refine wp_exit (then_exit (block_exit (then_normal ?_)))
                  obtain rfl := Option.some.inj hm; replace hm := hm599; try dsimp only at hm
                  replace hS := hS.take 3; simp only [List.take_succ_cons, List.take_zero] at hS
                  exact join z592 H ⟨rfl, rfl, rfl, rfl, rfl, trivial⟩ ⟨hm, hS⟩
                · replace hm := condF hm hc1617
                  refine wp_skip (then_normal (wp_seq ?_))
                  replace hm := bindS hm; obtain ⟨j1618, hm, hm1618⟩ := hm
                  refine c_join (σ := Bool) H (fun q2119 => [(2, .pointer (some ⟨b21, 0, none⟩)), (6, .pointer (some ⟨b567, 0, none⟩)), (7, u579), (9, .int .i64 z592), (10, .int .i64 ((i591 : Nat) : Int)), (145, .bool q2119)]) (fun q2119 wl => (g_law14_FrameLinks_J51 z592) q2119 = some j599 ∧ St NB w wl [nestR 43 1 (rowR 50 2 eGMsg) u579 r578.1, blkR b21 [.int .i64 a0.C.Ticks, vp0_0, vp0_1, vp0_2, vp0_3, .int .i64 a0.C.Tries, .int .i64 a0.D.Ticks, vp0_4, vp0_5, vp0_6, vp0_7, .int .i64 a0.D.Tries, vp0_8, vp0_9, vp0_10] 31, blkR b567 [.int .i64 x566.From, .int .i64 x566.Out, .int .i64 x566.To, .int .i64 x566.In] 47]) ?_ ?_
                  · skip
                    refine c_quiet (by kernel_rfl) (by kernel_rfl) ?_
                    refine qq_q H (q_move rfl) rfl ?_; clear H a; intro a H
                    refine qq_q H (q_move rfl) rfl ?_; clear H a; intro a H
                    refine qq_q H (q_fieldAddr0 rfl fo47_2) rfl ?_; clear H a; intro a H
                    refine qq_q H (q_load rfl ((hS.blk 2 rfl).ld ag3 rfl)) rfl ?_; clear H a; intro a H
                    replace hm := bindS hm; obtain ⟨x2120, hx2120, hm⟩ := hm
                    obtain ⟨h0x2120, h1x2120, hxx2120⟩ := rdI_some hx2120
                    obtain ⟨adx2120, hAx2120⟩ := SlR.adV (hS.nestSl 0 rfl (rowR_R (E := 50) (k := 2) (e := eGMsg) (fun _ _ => rfl))) hv586 hxx2120
                    obtain ⟨csx2120, hclx2120, ⟨vx2120, rfl, hrx2120⟩, hcx2120⟩ := SlR.elV (hS.nestSl 0 rfl (rowR_R (E := 50) (k := 2) (e := eGMsg) (fun _ _ => rfl))) hv586 hAx2120 hxx2120
                    refine qq_q H (q_ixVI Tryd.underlying29 sz43 rfl hv586 hAx2120 rfl h0x2120 h1x2120) rfl ?_; clear H a; intro a H
                    refine qq_q H (q_load rfl (LdX.ext (ldElH ag43 hcx2120) Ext.rfl')) rfl ?_; clear H a; intro a H
                    obtain ⟨A2121, c2121, hv2121, hl2121, hm2121⟩ := SlR.formV (hrx2120.ext (Flat.mono _) Ext.rfl')
                    refine qq_q H (q_lenV Tryd.underlying43 rfl hv2121) rfl ?_; clear H a; intro a H
                    refine qq_q H (q_geq rfl rfl) rfl ?_; clear H a; intro a H
                    refine qq_q H (q_move rfl) rfl ?_; clear H a; intro a H
                    rcases Bool.eq_false_or_eq_true (decide (((x2120.length : Nat) : Int) ≤ z592)) with hg2122 | hg2122
                    · replace H := H.know 130 rfl hg2122
                      replace hm := condT hm hg2122
                      refine qq_no H rfl rfl (by decide) rfl ?_; clear H a; intro a H
                      refine qq_no H rfl rfl (by decide) rfl ?_; clear H a; intro a H
                      refine qq_no H rfl rfl (by decide) rfl ?_; clear H a; intro a H
                      refine qq_no H rfl rfl (by decide) rfl ?_; clear H a; intro a H
                      refine qq_no H rfl rfl (by decide) rfl ?_; clear H a; intro a H
                      refine qq_no H rfl rfl (by decide) rfl ?_; clear H a; intro a H
                      refine qq_no H rfl rfl (by decide) rfl ?_; clear H a; intro a H
                      refine qq_no H rfl rfl (by decide) rfl ?_; clear H a; intro a H
                      refine qq_no H rfl rfl (by decide) rfl ?_; clear H a; intro a H
                      refine qq_no H rfl rfl (by decide) rfl ?_; clear H a; intro a H
                      refine qq_no H rfl rfl (by decide) rfl ?_; clear H a; intro a H
                      refine qq_no H rfl rfl (by decide) rfl ?_; clear H a; intro a H
                      refine qq_no H rfl rfl (by decide) rfl ?_; clear H a; intro a H
                      refine qq_no H rfl rfl (by decide) rfl ?_; clear H a; intro a H
                      refine qq_q H (q_pickT rfl rfl) rfl ?_; clear H a; intro a H
                      refine qq_nil ?_; intro w2123 hE2124
                      replace hS := hS.ext hE2124
                      refine then_normal ?_
                      obtain rfl := Option.some.inj hm; replace hm := hm1618; try dsimp only at hm
                      replace hS := hS.take 3; simp only [List.take_succ_cons, List.take_zero] at hS
                      exact join true H ⟨rfl, rfl, rfl, rfl, rfl, rfl, trivial⟩ ⟨hm, hS⟩
                    · replace H := H.know 130 rfl hg2122
                      replace hm := condF hm hg2122
                      refine qq_yes H rfl rfl ?_
                      refine qq_q H (q_move rfl) rfl ?_; clear H a; intro a H
                      refine qq_yes H rfl rfl ?_
                      refine qq_q H (q_fieldAddr0 rfl fo47_2) rfl ?_; clear H a; intro a H
                      refine qq_yes H rfl rfl ?_
                      refine qq_q H (q_load rfl ((hS.blk 2 rfl).ld ag3 rfl)) rfl ?_; clear H a; intro a H
                      refine qq_yes H rfl rfl ?_
                      replace hm := bindS hm; obtain ⟨x2125, hx2125, hm⟩ := hm
                      obtain ⟨h0x2125, h1x2125, hxx2125⟩ := rdI_some hx2125
                      obtain ⟨adx2125, hAx2125⟩ := SlR.adV (hS.nestSl 0 rfl (rowR_R (E := 50) (k := 2) (e := eGMsg) (fun _ _ => rfl))) hv586 hxx2125
                      obtain ⟨csx2125, hclx2125, ⟨vx2125, rfl, hrx2125⟩, hcx2125⟩ := SlR.elV (hS.nestSl 0 rfl (rowR_R (E := 50) (k := 2) (e := eGMsg) (fun _ _ => rfl))) hv586 hAx2125 hxx2125
                      refine qq_q H (q_ixVI Tryd.underlying29 sz43 rfl hv586 hAx2125 rfl h0x2125 h1x2125) rfl ?_; clear H a; intro a H
                      refine qq_yes H rfl rfl ?_
                      refine qq_q H (q_load rfl (LdX.ext (ldElH ag43 hcx2125) Ext.rfl')) rfl ?_; clear H a; intro a H
                      refine qq_yes H rfl rfl ?_
                      refine qq_q H (q_move rfl) rfl ?_; clear H a; intro a H
                      refine qq_yes H rfl rfl ?_
                      obtain ⟨A2126, c2126, hv2126, hl2126, hm2126⟩ := SlR.formV (hrx2125.ext (Flat.mono _) Ext.rfl')
                      replace hm := bindS hm; obtain ⟨x2127, hx2127, hm⟩ := hm
                      obtain ⟨h0x2127, h1x2127, hxx2127⟩ := rdI_some hx2127
                      obtain ⟨adx2127, hAx2127⟩ := SlR.adV (hrx2125.ext (Flat.mono _) Ext.rfl') hv2126 hxx2127
                      refine qq_q H (q_ixVI Tryd.underlying43 sz50 rfl hv2126 hAx2127 rfl h0x2127 h1x2127) rfl ?_; clear H a; intro a H
                      refine qq_yes H rfl rfl ?_
                      refine qq_q H (q_load rfl (SlR.ldAggV (hrx2125.ext (Flat.mono _) Ext.rfl') hv2126 hAx2127 ag50 sz50 hxx2127)) rfl ?_; clear H a; intro a H
                      refine qq_yes H rfl rfl ?_
                      refine qq_q H (q_fieldAddr0 rfl fo47_3) rfl ?_; clear H a; intro a H
                      refine qq_yes H rfl rfl ?_
                      refine qq_q H (q_load rfl ((hS.blk 2 rfl).ld ag3 rfl)) rfl ?_; clear H a; intro a H
                      refine qq_yes H rfl rfl ?_
                      refine qq_q H (q_fieldAddr0 rfl fo50_1) rfl ?_; clear H a; intro a H
                      refine qq_yes H rfl rfl ?_
                      refine qq_q H (q_load rfl ((hS.blk 3 rfl).ld ag9 rfl)) rfl ?_; clear H a; intro a H
                      refine qq_yes H rfl rfl ?_
                      refine qq_q H (q_build (cs := [.int .i64 x566.In, .string x1103.Data]) ze50 bd50 pl50 rfl (by kernel_rfl)) rfl ?_; clear H a; intro a H
                      refine qq_yes H rfl rfl ?_
                      refine qq_q H (q_neqG (structB_guard st50) (eqInGMsg x2127 (⟨x566.In, x1103.Data⟩ : GMsg)) (by omega) rfl rfl) rfl ?_; clear H a; intro a H
                      refine qq_q H (q_pickF rfl rfl) rfl ?_; clear H a; intro a H
                      refine qq_nil ?_; intro w2128 hE2129
                      replace hS := hS.ext hE2129
                      refine then_normal ?_
                      obtain rfl := Option.some.inj hm; replace hm := hm1618; try dsimp only at hm
                      replace hS := hS.take 3; simp only [List.take_succ_cons, List.take_zero] at hS
                      exact join (!decide (x2127 = (⟨x566.In, x1103.Data⟩ : GMsg))) H ⟨rfl, rfl, rfl, rfl, rfl, rfl, trivial⟩ ⟨hm, hS⟩
                  · clear H hS hm a; intro q2119 a w2130 H hR
                    simp only [ent, List.map_cons, List.map_nil] at H; (try dsimp only at hR); obtain ⟨hm, hS⟩ := hR; try dsimp only [g_law14_FrameLinks_J51] at hm
                    refine c_cond H rfl (fun hc2131 => ?_) (fun hc2131 => ?_)
                    · replace hm := condT hm hc2131
                      refine wp_seq (wp_region_lit (n_q H (q_assign rfl) rfl ?_)); clear H a; intro a H
                      refine n_nil (then_normal (wp_ret (then_ret (block_ret (then_ret (then_ret (block_ret (then_ret ?_))))))))
                      obtain rfl := Option.some.inj hm; replace hm := hm599; try dsimp only at hm
                      obtain rfl := Option.some.inj hm; have hz : _ = q589 := hn589; subst hz; replace hm := hm589; try dsimp only at hm
                      obtain rfl := Option.some.inj hm
                      replace hS := hS.take 0; simp only [List.take_succ_cons, List.take_zero] at hS
                      refine ret1 H (.inr rfl) rfl rfl ?_
                      exact ⟨rfl, hS.x⟩
                    · replace hm := condF hm hc2131
                      refine wp_skip (then_normal (wp_region_lit (n_q H (q_move rfl) rfl (W_q (q_addW rfl rfl) rfl (W_q (q_assign rfl) rfl ?_))))); clear H a; intro a H
                      refine n_nil (block_normal (then_normal ?_))
                      obtain rfl := Option.some.inj hm; replace hm := hm599; try dsimp only at hm
                      exact join (IntKind.i64.wrap (z592 + 1)) H ⟨rfl, rfl, rfl, rfl, rfl, trivial⟩ ⟨hm, hS⟩
            · clear H hS hm a; intro z1100 a w2132 H hR
              simp only [ent, List.map_cons, List.map_nil] at H; (try dsimp only at hR); obtain ⟨hm, hS⟩ := hR; try dsimp only [g_law14_FrameLinks_J53] at hm
              refine wp_region_lit (n_q H (q_move rfl) rfl (W_q (q_incr (i := i591) (j := 1) rfl rfl (by omega)) rfl (W_q (q_assign rfl) rfl ?_))); clear H a; intro a H
              refine n_nil (then_normal ?_)
              obtain rfl := Option.some.inj hm
              exact round (m589, z1100, i591 + 1) H ⟨rfl, rfl, rfl, rfl, rfl, trivial⟩ ⟨hn589, hS⟩ (Nat.lt_succ_self _)
          · replace hm := condF hm hc597
            refine wp_exit (then_exit (then_exit (block_exit ?_)))
            obtain rfl := Option.some.inj hm; have hz : _ = q589 := hn589; subst hz; replace hm := hm589; try dsimp only at hm
            refine then_normal (wp_seq (wp_seq (wp_region_lit (n_q H (q_assign rfl) rfl ?_)))); clear H a; intro a H
            refine n_nil (then_normal (wp_block ?_))
            replace hS := hS.pick 2 rfl; dsimp only [List.eraseIdx] at hS
            replace hS := hS.pick 1 rfl; dsimp only [List.eraseIdx] at hS
            replace hS := hS.take 2; simp only [List.take_succ_cons, List.take_zero] at hS
            replace hm := bindS hm; obtain ⟨q2133, hm, hm2133⟩ := hm; replace hm := iter_some hm; obtain ⟨n2133, hm⟩ := hm
            refine c_loop (σ := Nat × Nat) (fun (m, i2134) => [(6, .pointer (some ⟨b567, 0, none⟩)), (7, u579), (9, .int .i64 z592), (12, .int .i64 ((i2134 : Nat) : Int))]) (fun (m, i2134) wl => iterN (g_law14_FrameLinks_L60 x566 r578 z592) m i2134 = some q2133 ∧ St NB w wl [nestR 43 1 (rowR 50 2 eGMsg) u579 r578.1, blkR b567 [.int .i64 x566.From, .int .i64 x566.Out, .int .i64 x566.To, .int .i64 x566.In] 47]) (fun (m, i2134) => m) (n2133, 0) H ⟨rfl, rfl, rfl, rfl, trivial⟩ ⟨hm, hS⟩ ?_
            clear H hS hm a; intro xx a w2135 H hR; obtain ⟨m, i2134⟩ := xx; simp only [ent, List.map_cons, List.map_nil] at H; (try dsimp only at hR); obtain ⟨hm, hS⟩ := hR
            replace hm := iterN_step hm; obtain ⟨m2133, o2133, rfl, hm, hn2133⟩ := hm; try dsimp only [g_law14_FrameLinks_L60] at hm
            refine wp_seq (wp_seq (wp_region_lit (n_q H (q_move rfl) rfl (W_q (q_move rfl) rfl (W_q (q_lenV Tryd.underlying29 rfl hv586) rfl (W_q (q_lssN (i := i2134) (j := r578.1.length) rfl rfl) rfl ?_)))))); clear H a; intro a H
            refine n_nil (then_normal (c_cond H rfl (fun hc2136 => ?_) (fun hc2136 => ?_)))
            · replace hm := condT hm hc2136
              have hlt2137 : i2134 < r578.1.length := of_decide_eq_true hc2136
              refine wp_skip (then_normal (wp_seq (wp_block ?_)))
              replace hm := bindS hm; obtain ⟨j2138, hm, hm2138⟩ := hm
              refine c_join (σ := Bool) H (fun q2639 => [(6, .pointer (some ⟨b567, 0, none⟩)), (7, u579), (9, .int .i64 z592), (12, .int .i64 ((i2134 : Nat) : Int)), (180, .bool q2639)]) (fun q2639 wl => (g_law14_FrameLinks_J59 i2134) q2639 = some o2133 ∧ St NB w wl [nestR 43 1 (rowR 50 2 eGMsg) u579 r578.1, blkR b567 [.int .i64 x566.From, .int .i64 x566.Out, .int .i64 x566.To, .int .i64 x566.In] 47]) ?_ ?_
              · skip
                refine wp_region_lit (n_q H (q_move rfl) rfl (W_q (q_fieldAddr0 rfl fo47_2) rfl (W_q (q_load rfl ((hS.blk 1 rfl).ld ag3 rfl)) rfl (W_q (q_neqD rfl rfl) rfl (W_q (q_move rfl) rfl ?_))))); clear H a; intro a H
                rcases Bool.eq_false_or_eq_true (!decide (((i2134 : Nat) : Int) = x566.To)) with hg2640 | hg2640
                · replace H := H.know 158 rfl hg2640
                  replace hm := condT hm hg2640
                  refine n_yes H rfl rfl (n_q H (q_move rfl) rfl (W_yes rfl rfl (W_q (q_move rfl) rfl (W_yes rfl rfl ?_)))); clear H a; intro a H
                  replace hm := bindS hm; obtain ⟨x2641, hx2641, hm⟩ := hm
                  obtain ⟨adx2641, hAx2641⟩ := SlR.adV (hS.nestSl 0 rfl (rowR_R (E := 50) (k := 2) (e := eGMsg) (fun _ _ => rfl))) hv586 hx2641
                  obtain ⟨csx2641, hclx2641, ⟨vx2641, rfl, hrx2641⟩, hcx2641⟩ := SlR.elV (hS.nestSl 0 rfl (rowR_R (E := 50) (k := 2) (e := eGMsg) (fun _ _ => rfl))) hv586 hAx2641 hx2641
                  refine n_q H (q_ixV (i := i2134) Tryd.underlying29 sz43 rfl hv586 hAx2641 rfl (natI hx2641)) rfl (W_yes rfl rfl (W_q (q_load rfl (LdX.ext (ldElH ag43 hcx2641) Ext.rfl')) rfl (W_yes rfl rfl ?_))); clear H a; intro a H
                  obtain ⟨A2642, c2642, hv2642, hl2642, hm2642⟩ := SlR.formV (hrx2641.ext (Flat.mono _) Ext.rfl')
                  refine n_q H (q_lenV Tryd.underlying43 rfl hv2642) rfl (W_yes rfl rfl (W_q (q_neqN (i := x2641.length) (j := 0) rfl rfl) rfl (W_q (q_pickT rfl rfl) rfl (W_q (q_move rfl) rfl ?_)))); clear H a; intro a H
                  rcases Bool.eq_false_or_eq_true (!decide (x2641.length = 0)) with hg2643 | hg2643
                  · replace H := H.know 166 rfl hg2643
                    replace hm := condT hm hg2643
                    refine n_no H rfl rfl (by decide) rfl (W_no rfl rfl (by decide) rfl (W_no rfl rfl (by decide) rfl (W_no rfl rfl (by decide) rfl (W_no rfl rfl (by decide) rfl (W_noU rfl rfl rfl (W_noU rfl rfl rfl (W_noU rfl rfl rfl (W_noU rfl rfl rfl (W_noU rfl rfl rfl (W_noU rfl rfl rfl (W_noU rfl rfl rfl ?_))))))))))); clear H a; intro a H
                    refine n_no H rfl rfl (by decide) rfl (W_q (q_pickT rfl rfl) rfl ?_); clear H a; intro a H
                    refine n_nil (then_normal ?_)
                    obtain rfl := Option.some.inj hm; replace hm := hm2138; try dsimp only at hm
                    exact join true H ⟨rfl, rfl, rfl, rfl, rfl, trivial⟩ ⟨hm, hS⟩
                  · replace H := H.know 166 rfl hg2643
                    replace hm := condF hm hg2643
                    refine n_yes H rfl rfl (n_q H (q_move rfl) rfl (W_yes rfl rfl (W_q (q_fieldAddr0 rfl fo47_2) rfl (W_yes rfl rfl (W_q (q_load rfl ((hS.blk 1 rfl).ld ag3 rfl)) rfl (W_yes rfl rfl (W_q (q_eqlD rfl rfl) rfl (W_yes rfl rfl (W_q (q_move rfl) rfl ?_))))))))); clear H a; intro a H
                    rcases Bool.eq_false_or_eq_true (decide (((i2134 : Nat) : Int) = x566.To)) with hg2644 | hg2644
                    · replace H := H.know 171 rfl hg2644
                      replace hm := condT hm hg2644
                      refine n_yes H rfl rfl (n_q H (q_move rfl) rfl (W_yes rfl rfl (W_q (q_move rfl) rfl (W_yes rfl rfl ?_)))); clear H a; intro a H
                      replace hm := bindS hm; obtain ⟨x2645, hx2645, hm⟩ := hm
                      obtain ⟨adx2645, hAx2645⟩ := SlR.adV (hS.nestSl 0 rfl (rowR_R (E := 50) (k := 2) (e := eGMsg) (fun _ _ => rfl))) hv586 hx2645
                      obtain ⟨csx2645, hclx2645, ⟨vx2645, rfl, hrx2645⟩, hcx2645⟩ := SlR.elV (hS.nestSl 0 rfl (rowR_R (E := 50) (k := 2) (e := eGMsg) (fun _ _ => rfl))) hv586 hAx2645 hx2645
                      refine n_q H (q_ixV (i := i2134) Tryd.underlying29 sz43 rfl hv586 hAx2645 rfl (natI hx2645)) rfl (W_yes rfl rfl (W_q (q_load rfl (LdX.ext (ldElH ag43 hcx2645) Ext.rfl')) rfl (W_yes rfl rfl ?_))); clear H a; intro a H
                      obtain ⟨A2646, c2646, hv2646, hl2646, hm2646⟩ := SlR.formV (hrx2645.ext (Flat.mono _) Ext.rfl')
                      refine n_q H (q_lenV Tryd.underlying43 rfl hv2646) rfl (W_yes rfl rfl (W_q (q_move rfl) rfl (W_yes rfl rfl (W_q (q_neqD rfl rfl) rfl (W_yes rfl rfl (W_q (q_pickT rfl rfl) rfl (W_q (q_pickF rfl rfl) rfl ?_))))))); clear H a; intro a H
                      refine n_nil (then_normal ?_)
                      obtain rfl := Option.some.inj hm; replace hm := hm2138; try dsimp only at hm
                      exact join (!decide (((x2645.length : Nat) : Int) = z592)) H ⟨rfl, rfl, rfl, rfl, rfl, trivial⟩ ⟨hm, hS⟩
                    · replace H := H.know 171 rfl hg2644
                      replace hm := condF hm hg2644
                      refine n_no H rfl rfl (by decide) rfl (W_no rfl rfl (by decide) rfl (W_no rfl rfl (by decide) rfl (W_no rfl rfl (by decide) rfl (W_no rfl rfl (by decide) rfl (W_no rfl rfl (by decide) rfl (W_no rfl rfl (by decide) rfl (W_yes rfl rfl (W_q (q_pickF rfl rfl) rfl (W_q (q_pickF rfl rfl) rfl ?_))))))))); clear H a; intro a H
                      refine n_nil (then_normal ?_)
                      obtain rfl := Option.some.inj hm; replace hm := hm2138; try dsimp only at hm
                      exact join false H ⟨rfl, rfl, rfl, rfl, rfl, trivial⟩ ⟨hm, hS⟩
                · replace H := H.know 158 rfl hg2640
                  replace hm := condF hm hg2640
                  refine n_no H rfl rfl (by decide) rfl (W_no rfl rfl (by decide) rfl (W_no rfl rfl (by decide) rfl (W_no rfl rfl (by decide) rfl (W_no rfl rfl (by decide) rfl (W_no rfl rfl (by decide) rfl (W_q (q_pickF rfl rfl) rfl (W_q (q_move rfl) rfl (W_yes rfl rfl (W_q (q_move rfl) rfl (W_yes rfl rfl (W_q (q_fieldAddr0 rfl fo47_2) rfl ?_))))))))))); clear H a; intro a H
                  refine n_yes H rfl rfl (n_q H (q_load rfl ((hS.blk 1 rfl).ld ag3 rfl)) rfl (W_yes rfl rfl (W_q (q_eqlD rfl rfl) rfl (W_yes rfl rfl (W_q (q_move rfl) rfl ?_))))); clear H a; intro a H
                  rcases Bool.eq_false_or_eq_true (decide (((i2134 : Nat) : Int) = x566.To)) with hg2647 | hg2647
                  · replace H := H.know 171 rfl hg2647
                    replace hm := condT hm hg2647
                    refine n_yes H rfl rfl (n_q H (q_move rfl) rfl (W_yes rfl rfl (W_q (q_move rfl) rfl (W_yes rfl rfl ?_)))); clear H a; intro a H
                    replace hm := bindS hm; obtain ⟨x2648, hx2648, hm⟩ := hm
                    obtain ⟨adx2648, hAx2648⟩ := SlR.adV (hS.nestSl 0 rfl (rowR_R (E := 50) (k := 2) (e := eGMsg) (fun _ _ => rfl))) hv586 hx2648
                    obtain ⟨csx2648, hclx2648, ⟨vx2648, rfl, hrx2648⟩, hcx2648⟩ := SlR.elV (hS.nestSl 0 rfl (rowR_R (E := 50) (k := 2) (e := eGMsg) (fun _ _ => rfl))) hv586 hAx2648 hx2648
                    refine n_q H (q_ixV (i := i2134) Tryd.underlying29 sz43 rfl hv586 hAx2648 rfl (natI hx2648)) rfl (W_yes rfl rfl (W_q (q_load rfl (LdX.ext (ldElH ag43 hcx2648) Ext.rfl')) rfl (W_yes rfl rfl ?_))); clear H a; intro a H
                    obtain ⟨A2649, c2649, hv2649, hl2649, hm2649⟩ := SlR.formV (hrx2648.ext (Flat.mono _) Ext.rfl')
                    refine n_q H (q_lenV Tryd.underlying43 rfl hv2649) rfl (W_yes rfl rfl (W_q (q_move rfl) rfl (W_yes rfl rfl (W_q (q_neqD rfl rfl) rfl (W_yes rfl rfl (W_q (q_pickT rfl rfl) rfl (W_q (q_pickF rfl rfl) rfl ?_))))))); clear H a; intro a H
                    refine n_nil (then_normal ?_)
                    obtain rfl := Option.some.inj hm; replace hm := hm2138; try dsimp only at hm
                    exact join (!decide (((x2648.length : Nat) : Int) = z592)) H ⟨rfl, rfl, rfl, rfl, rfl, trivial⟩ ⟨hm, hS⟩
                  · replace H := H.know 171 rfl hg2647
                    replace hm := condF hm hg2647
                    refine n_no H rfl rfl (by decide) rfl (W_no rfl rfl (by decide) rfl (W_no rfl rfl (by decide) rfl (W_no rfl rfl (by decide) rfl (W_no rfl rfl (by decide) rfl (W_no rfl rfl (by decide) rfl (W_no rfl rfl (by decide) rfl (W_yes rfl rfl (W_q (q_pickF rfl rfl) rfl (W_q (q_pickF rfl rfl) rfl ?_))))))))); clear H a; intro a H
                    refine n_nil (then_normal ?_)
                    obtain rfl := Option.some.inj hm; replace hm := hm2138; try dsimp only at hm
                    exact join false H ⟨rfl, rfl, rfl, rfl, rfl, trivial⟩ ⟨hm, hS⟩
              · clear H hS hm a; intro q2639 a w2650 H hR
                simp only [ent, List.map_cons, List.map_nil] at H; (try dsimp only at hR); obtain ⟨hm, hS⟩ := hR; try dsimp only [g_law14_FrameLinks_J59] at hm
                refine c_cond H rfl (fun hc2651 => ?_) (fun hc2651 => ?_)
                · replace hm := condT hm hc2651
                  refine wp_seq (wp_region_lit (n_q H (q_assign rfl) rfl ?_)); clear H a; intro a H
                  refine n_nil (then_normal (wp_ret (block_ret (then_ret (then_ret (block_ret (then_ret ?_)))))))
                  obtain rfl := Option.some.inj hm; have hz : _ = q2133 := hn2133; subst hz; replace hm := hm2133; try dsimp only at hm
                  obtain rfl := Option.some.inj hm
                  replace hS := hS.take 0; simp only [List.take_succ_cons, List.take_zero] at hS
                  refine ret1 H (.inr rfl) rfl rfl ?_
                  exact ⟨rfl, hS.x⟩
                · replace hm := condF hm hc2651
                  refine wp_skip (block_normal (then_normal (wp_region_lit (n_q H (q_move rfl) rfl (W_q (q_incr (i := i2134) (j := 1) rfl rfl (by omega)) rfl (W_q (q_assign rfl) rfl ?_)))))); clear H a; intro a H
                  refine n_nil (then_normal ?_)
                  obtain rfl := Option.some.inj hm
                  exact round (m2133, i2134 + 1) H ⟨rfl, rfl, rfl, rfl, trivial⟩ ⟨hn2133, hS⟩ (Nat.lt_succ_self _)
            · replace hm := condF hm hc2136
              refine wp_exit (then_exit (then_exit (block_exit ?_)))
              obtain rfl := Option.some.inj hm; have hz : _ = q2133 := hn2133; subst hz; replace hm := hm2133; try dsimp only at hm
              refine then_normal (wp_seq (wp_region_lit (n_q H (q_assign rfl) rfl ?_))); clear H a; intro a H
              refine n_nil (then_normal (wp_ret ?_))
              obtain rfl := Option.some.inj hm
              replace hS := hS.take 0; simp only [List.take_succ_cons, List.take_zero] at hS
              refine ret1 H (.inr rfl) rfl rfl ?_
              exact ⟨rfl, hS.x⟩
end Go.Proofs.YtjoihegnjjjdaaaDoor
