/- Fy (written by wip/tools) -/
import Derived.Test.YtjoihegnjjjdaaaDoorFyC
set_option linter.unusedVariables false
set_option linter.unusedSimpArgs false
set_option maxRecDepth 10000
namespace Go.Proofs.YtjoihegnjjjdaaaDoor
open Go Go.RowKit
theorem ag28 : aggB Tryd.prog 28 = some false := by kernel_rfl
theorem ag29 : aggB Tryd.prog 29 = some false := by kernel_rfl
theorem el4 : ElemOk Tryd.prog 4 1 1 [.bool false] := ⟨by kernel_rfl, by kernel_rfl, by kernel_rfl, rfl, by decide⟩
theorem en11 : entersB Tryd.prog 11 = true := by kernel_rfl
theorem en12 : entersB Tryd.prog 12 = true := by kernel_rfl
theorem en14 : entersB Tryd.prog 14 = true := by kernel_rfl
theorem en15 : entersB Tryd.prog 15 = true := by kernel_rfl
theorem en16 : entersB Tryd.prog 16 = true := by kernel_rfl
theorem en17 : entersB Tryd.prog 17 = true := by kernel_rfl
theorem en18 : entersB Tryd.prog 18 = true := by kernel_rfl
theorem fo31_0 : fOff Tryd.prog 31 0 = some 0 := by kernel_rfl
theorem fo31_3 : fOff Tryd.prog 31 3 = some 13 := by kernel_rfl
theorem fo31_4 : fOff Tryd.prog 31 4 = some 14 := by kernel_rfl

theorem g_r14_Carry_w {w : World} {A : Nat → Addr} {cs0 : List Value} {a0 : GConfig} {v1 : Value} {a1 : List Bool} {v2 : Value} {a2 : List (List GMsg)} (h0 : RGConfig w cs0 a0) (h1 : SlR w 1 (Flat eF) v1 a1) (h2 : SlR w 1 (RSl 2 eGMsg) v2 a2) {r : List (List GMsg) × Int} (hm : g_r14_Carry a0 a1 a2 = some r) :
    Calls Tryd.prog 12 [.agg cs0.toArray, v1, v2].toArray w (Ret fun u w' => ∃ h_0, u = .tuple #[h_0, .int .i64 r.2] ∧ St NB w w' [nestR 43 1 (rowR 50 2 eGMsg) h_0 r.1]) := by
  obtain ⟨vp0_0, vp0_1, vp0_2, vp0_3, rfl, hrp0_0, hrp0_1, hrp0_2, hrp0_3⟩ := h0
  have hS := St.begin NB w
  unfold g_r14_Carry at hm
  refine enter Tryd.func12 rfl rfl rfl ?_; intro a H; dsimp only [enumL, Nat.zero_add, Nat.reduceAdd] at H
  refine wp_seq (wp_region_lit (n_box H rfl (cs := [.int .i64 a0.Ticks, vp0_0, vp0_1, vp0_2, vp0_3, .int .i64 a0.Tries]) rfl rfl ?_))
  clear H; intro b21 w22 hN hE23 hs; clear a; intro a H
  replace hS := hS.newBlk hN hE23 hs; clear hN hs
  refine n_q H (q_assign rfl) rfl (W_q (q_assign rfl) rfl ?_); clear H a; intro a H
  refine n_nil (then_normal (wp_seq (wp_seq (wp_region_lit (n_q H (q_load rfl ((hS.blk 0 rfl).ldAll ag27 sz27)) rfl ?_))))); clear H a; intro a H
  replace hm := bindS hm; obtain ⟨r24, hr24, hm⟩ := hm
  refine n_call H rfl en18 (g_r14_Good_w (A := A) (⟨_, _, _, _, rfl, (hrp0_0.ext RGPlan.mono hS.x), (hrp0_1.ext (Flat.mono _) hS.x), (hrp0_2.ext (Flat.mono _) hS.x), (hrp0_3.ext (Flat.mono _) hS.x)⟩ : RGConfig _ [.int .i64 a0.Ticks, vp0_0, vp0_1, vp0_2, vp0_3, .int .i64 a0.Tries] a0) hr24) rfl ?_
  clear H; intro x27 w25 hv; clear a; intro a H; obtain ⟨rfl, hE26⟩ := hv
  replace hS := hS.ext hE26
  refine n_q H (q_not rfl) rfl ?_; clear H a; intro a H
  refine n_nil (then_normal (c_cond H rfl (fun hc28 => ?_) (fun hc28 => ?_)))
  · replace hm := condT hm hc28
    refine wp_seq (wp_region_lit (n_q H (q_assign rfl) rfl (W_q (q_assign rfl) rfl ?_))); clear H a; intro a H
    refine n_nil (then_normal (wp_ret (then_ret ?_)))
    obtain rfl := Option.some.inj hm
    replace hS := hS.nestNil 43 1 (rowR 50 2 eGMsg)
    replace hS := hS.take 1; simp only [List.take_succ_cons, List.take_zero] at hS
    refine ret2 H (.inr rfl) rfl rfl rfl ?_
    exact ⟨_, rfl, hS⟩
  · replace hm := condF hm hc28
    refine wp_skip (then_normal (wp_seq (wp_seq (wp_region_lit (n_c H (fun HC => ?_)))))); clear H
    refine nc_q HC (q_move rfl) rfl (by kernel_rfl) ?_; clear HC a; intro a HC
    obtain ⟨A30, c30, hv30, hl30, hm30⟩ := SlR.formV (h1.ext (Flat.mono _) hS.x)
    refine nc_q HC (q_lenV Tryd.underlying28 rfl hv30) rfl (by kernel_rfl) (V_q (q_fieldAddr0 rfl fo27_1) rfl (by kernel_rfl) (V_q (q_load rfl ((hS.blk 0 rfl).ld ag22 rfl)) rfl (by kernel_rfl) ?_)); clear HC a; intro a HC
    obtain ⟨A31, c31, hv31, hl31, hm31⟩ := SlR.formV (hrp0_0.ext RGPlan.mono hS.x)
    refine nc_q HC (q_lenV Tryd.underlying22 rfl hv31) rfl (by kernel_rfl) (V_q (q_neqN (i := a1.length) (j := a0.Parts.length) rfl rfl) rfl (by kernel_rfl) (V_q (q_move rfl) rfl (by kernel_rfl) (V_g (q_move rfl) (by kernel_rfl) (by kernel_rfl) (by kernel_rfl) ?_))); clear HC a; intro a HC
    obtain ⟨A32, c32, hv32, hl32, hm32⟩ := SlR.formV (h2.ext (RSl.mono _ _) hS.x)
    refine nc_g HC (q_lenV Tryd.underlying29 rfl hv32) (by kernel_rfl) (by kernel_rfl) (by kernel_rfl) (V_g (q_fieldAddr0 rfl fo27_1) (by kernel_rfl) (by kernel_rfl) (by kernel_rfl) (V_g (q_load rfl ((hS.blk 0 rfl).ld ag22 rfl)) (by kernel_rfl) (by kernel_rfl) (by kernel_rfl) (V_g (q_lenV Tryd.underlying22 rfl hv31) (by kernel_rfl) (by kernel_rfl) (by kernel_rfl) (V_g (q_neqN (i := a2.length) (j := a0.Parts.length) rfl rfl) (by kernel_rfl) (by kernel_rfl) (by kernel_rfl) (V_or (j := 6) rfl rfl rfl (by kernel_rfl) (by kernel_rfl) ?_))))); clear HC a; intro a HC
    have H := HC.has; clear HC
    refine n_nil (then_normal (c_cond H rfl (fun hc33 => ?_) (fun hc33 => ?_)))
    · replace hm := condT hm hc33
      refine wp_seq (wp_region_lit (n_q H (q_assign rfl) rfl (W_q (q_assign rfl) rfl ?_))); clear H a; intro a H
      refine n_nil (then_normal (wp_ret (then_ret ?_)))
      obtain rfl := Option.some.inj hm
      replace hS := hS.nestNil 43 1 (rowR 50 2 eGMsg)
      replace hS := hS.take 1; simp only [List.take_succ_cons, List.take_zero] at hS
      refine ret2 H (.inr rfl) rfl rfl rfl ?_
      exact ⟨_, rfl, hS⟩
    · replace hm := condF hm hc33
      refine wp_skip (then_normal (wp_seq (wp_region_lit (n_q H (q_fieldAddr0 rfl fo27_1) rfl (W_q (q_load rfl ((hS.blk 0 rfl).ld ag22 rfl)) rfl (W_q (q_lenV Tryd.underlying22 rfl hv31) rfl ?_)))))); clear H a; intro a H
      replace hm := chkS hm; obtain ⟨hk35, hm⟩ := hm
      refine n_make (L := a0.Parts.length) (C := a0.Parts.length) H Tryd.underlying29 el43 rfl rfl (Nat.le_refl _) hk35 (by simp only [maxLen]; omega) rfl ?_
      clear H; intro b36 w37 hN hE38 hs; clear a; intro a H; replace hS := hS.newOwn hN hE38 (by simp [blks]; omega); clear hN
      replace hS := St.mkNest0 (El := (rowR 50 2 eGMsg)) (z0 := []) (n := a0.Parts.length) rfl (by simp) (fun h => h.row0) hS
      refine n_q H (q_assign rfl) rfl ?_; clear H a; intro a H
      refine n_nil (then_normal (wp_seq (wp_seq (wp_region_lit (n_q H (q_assign rfl) rfl ?_))))); clear H a; intro a H
      refine n_nil (then_normal (wp_block ?_))
      replace hm := bindS hm; obtain ⟨q40, hm, hm40⟩ := hm; replace hm := iter_some hm; obtain ⟨n40, hm⟩ := hm
      refine c_loop (σ := Nat × (List (List GMsg)) × Nat) (fun (m, l41, i44) => [(1, v1), (2, v2), (3, .pointer (some ⟨b21, 0, none⟩)), (8, .slice (some ⟨b36, 0, none⟩) a0.Parts.length a0.Parts.length), (9, .int .i64 ((i44 : Nat) : Int))]) (fun (m, l41, i44) wl => iterN (g_r14_Carry_L40 a0 a1 a2) m (l41, i44) = some q40 ∧ St NB w wl [nestR 43 1 (rowR 50 2 eGMsg) (.slice (some ⟨b36, 0, none⟩) a0.Parts.length a0.Parts.length) l41, blkR b21 [.int .i64 a0.Ticks, vp0_0, vp0_1, vp0_2, vp0_3, .int .i64 a0.Tries] 27]) (fun (m, l41, i44) => m) (n40, (List.replicate a0.Parts.length ([] : List GMsg)), 0) H ⟨rfl, rfl, rfl, rfl, rfl, trivial⟩ ⟨hm, hS⟩ ?_
      clear H hS hm a; intro xx a w45 H hR; obtain ⟨m, l41, i44⟩ := xx; simp only [ent, List.map_cons, List.map_nil] at H; (try dsimp only at hR); obtain ⟨hm, hS⟩ := hR
      replace hm := iterN_step hm; obtain ⟨m40, o40, rfl, hm, hn40⟩ := hm; try dsimp only [g_r14_Carry_L40] at hm
      refine wp_seq (wp_seq (wp_region_lit (n_q H (q_move rfl) rfl (W_q (q_fieldAddr0 rfl fo27_4) rfl (W_q (q_load rfl ((hS.blk 1 rfl).ld ag25 rfl)) rfl ?_))))); clear H a; intro a H
      obtain ⟨A46, c46, hv46, hl46, hm46⟩ := SlR.formV (hrp0_3.ext (Flat.mono _) hS.x)
      refine n_q H (q_lenV Tryd.underlying25 rfl hv46) rfl (W_q (q_lssN (i := i44) (j := a0.Links.length) rfl rfl) rfl ?_); clear H a; intro a H
      refine n_nil (then_normal (c_cond H rfl (fun hc47 => ?_) (fun hc47 => ?_)))
      · replace hm := condT hm hc47
        have hlt48 : i44 < a0.Links.length := of_decide_eq_true hc47
        refine wp_skip (then_normal (wp_seq (wp_block (wp_seq (wp_region_lit (n_q H (q_fieldAddr0 rfl fo27_4) rfl (W_q (q_load rfl ((hS.blk 1 rfl).ld ag25 rfl)) rfl (W_q (q_move rfl) rfl ?_)))))))); clear H a; intro a H
        replace hm := bindS hm; obtain ⟨x49, hx49, hm⟩ := hm
        obtain ⟨adx49, hAx49⟩ := SlR.adV (hrp0_3.ext (Flat.mono _) hS.x) hv46 hx49
        refine n_q H (q_ixV (i := i44) Tryd.underlying25 sz47 rfl hv46 hAx49 rfl (natI hx49)) rfl (W_q (q_load rfl (SlR.ldAggV (hrp0_3.ext (Flat.mono _) hS.x) hv46 hAx49 ag47 sz47 hx49)) rfl ?_); clear H a; intro a H
        refine n_alloc H ze47 rfl ?_
        clear H; intro b50 w51 hN hE52 hs; clear a; intro a H
        replace hS := hS.newBlk hN hE52 hs; clear hN hs
        refine n_storeAll H rfl rfl (vs := [.int .i64 x49.From, .int .i64 x49.Out, .int .i64 x49.To, .int .i64 x49.In]) rfl sz47 (hS.blk 0 rfl) rfl (by simp) ?_
        clear H; intro w53 hN hC54 hz; clear a; intro a H; replace hS := hS.setBlk hN hC54; clear hN hz
        refine n_nil (then_normal (wp_seq (wp_region_lit (n_q H (q_assign rfl) rfl ?_)))); clear H a; intro a H
        refine n_nil (then_normal (wp_block ?_))
        replace hS := hS.pick 2 rfl; dsimp only [List.eraseIdx] at hS
        replace hS := hS.pick 2 rfl; dsimp only [List.eraseIdx] at hS
        replace hm := bindS hm; obtain ⟨q55, hm, hm55⟩ := hm; replace hm := iter_some hm; obtain ⟨n55, hm⟩ := hm
        refine c_loop (σ := Nat × (List (List GMsg)) × Int) (fun (m, l56, z60) => [(1, v1), (2, v2), (3, .pointer (some ⟨b21, 0, none⟩)), (8, .slice (some ⟨b36, 0, none⟩) a0.Parts.length a0.Parts.length), (9, .int .i64 ((i44 : Nat) : Int)), (10, .pointer (some ⟨b50, 0, none⟩)), (11, .int .i64 z60)]) (fun (m, l56, z60) wl => iterN (g_r14_Carry_L39 a1 a2 x49) m (l56, z60) = some q55 ∧ St NB w wl [nestR 43 1 (rowR 50 2 eGMsg) (.slice (some ⟨b36, 0, none⟩) a0.Parts.length a0.Parts.length) l56, blkR b21 [.int .i64 a0.Ticks, vp0_0, vp0_1, vp0_2, vp0_3, .int .i64 a0.Tries] 27, blkR b50 [.int .i64 x49.From, .int .i64 x49.Out, .int .i64 x49.To, .int .i64 x49.In] 47]) (fun (m, l56, z60) => m) (n55, l41, 0) H ⟨rfl, rfl, rfl, rfl, rfl, rfl, rfl, trivial⟩ ⟨hm, hS⟩ ?_
        clear H hS hm a; intro xx a w61 H hR; obtain ⟨m, l56, z60⟩ := xx; simp only [ent, List.map_cons, List.map_nil] at H; (try dsimp only at hR); obtain ⟨hm, hS⟩ := hR
        replace hm := iterN_step hm; obtain ⟨m55, o55, rfl, hm, hn55⟩ := hm; try dsimp only [g_r14_Carry_L39] at hm
        refine wp_seq ?_
        replace hm := bindS hm; obtain ⟨j62, hm, hm62⟩ := hm
        refine c_join (σ := Bool) H (fun q563 => [(1, v1), (2, v2), (3, .pointer (some ⟨b21, 0, none⟩)), (8, .slice (some ⟨b36, 0, none⟩) a0.Parts.length a0.Parts.length), (9, .int .i64 ((i44 : Nat) : Int)), (10, .pointer (some ⟨b50, 0, none⟩)), (11, .int .i64 z60), (67, .bool q563)]) (fun q563 wl => (g_r14_Carry_J38 a2 x49 l56 z60) q563 = some o55 ∧ St NB w wl [nestR 43 1 (rowR 50 2 eGMsg) (.slice (some ⟨b36, 0, none⟩) a0.Parts.length a0.Parts.length) l56, blkR b21 [.int .i64 a0.Ticks, vp0_0, vp0_1, vp0_2, vp0_3, .int .i64 a0.Tries] 27, blkR b50 [.int .i64 x49.From, .int .i64 x49.Out, .int .i64 x49.To, .int .i64 x49.In] 47]) ?_ ?_
        · skip
          refine wp_region_lit (n_q H (q_move rfl) rfl (W_q (q_move rfl) rfl (W_q (q_fieldAddr0 rfl fo47_0) rfl (W_q (q_load rfl ((hS.blk 2 rfl).ld ag3 rfl)) rfl ?_)))); clear H a; intro a H
          replace hm := bindS hm; obtain ⟨x564, hx564, hm⟩ := hm
          obtain ⟨h0x564, h1x564, hxx564⟩ := rdI_some hx564
          obtain ⟨adx564, hAx564⟩ := SlR.adV (h2.ext (RSl.mono _ _) hS.x) hv32 hxx564
          obtain ⟨csx564, hclx564, ⟨vx564, rfl, hrx564⟩, hcx564⟩ := SlR.elV h2 hv32 hAx564 hxx564
          refine n_q H (q_ixVI Tryd.underlying29 sz43 rfl hv32 hAx564 rfl h0x564 h1x564) rfl (W_q (q_load rfl (LdX.ext (ldElH ag43 hcx564) hS.x)) rfl ?_); clear H a; intro a H
          obtain ⟨A565, c565, hv565, hl565, hm565⟩ := SlR.formV (hrx564.ext (Flat.mono _) hS.x)
          refine n_q H (q_lenV Tryd.underlying43 rfl hv565) rfl (W_q (q_lss rfl rfl) rfl (W_q (q_move rfl) rfl ?_)); clear H a; intro a H
          rcases Bool.eq_false_or_eq_true (decide (z60 < ((x564.length : Nat) : Int))) with hg566 | hg566
          · replace H := H.know 54 rfl hg566
            replace hm := condT hm hg566
            refine n_yes H rfl rfl (n_q H (q_move rfl) rfl (W_yes rfl rfl (W_q (q_fieldAddr0 rfl fo47_0) rfl (W_yes rfl rfl (W_q (q_load rfl ((hS.blk 2 rfl).ld ag3 rfl)) rfl (W_yes rfl rfl ?_)))))); clear H a; intro a H
            replace hm := bindS hm; obtain ⟨x567, hx567, hm⟩ := hm
            obtain ⟨h0x567, h1x567, hxx567⟩ := rdI_some hx567
            obtain ⟨adx567, hAx567⟩ := SlR.adV (h1.ext (Flat.mono _) hS.x) hv30 hxx567
            refine n_q H (q_ixVI Tryd.underlying28 sz4 rfl hv30 hAx567 rfl h0x567 h1x567) rfl (W_yes rfl rfl (W_q (q_load rfl (SlR.ldOneV (h1.ext (Flat.mono _) hS.x) hv30 hAx567 ag4 hxx567 rfl)) rfl (W_q (q_pickT rfl rfl) rfl (W_q (q_move rfl) rfl ?_)))); clear H a; intro a H
            rcases Bool.eq_false_or_eq_true x567 with hg568 | hg568
            · replace H := H.know 61 rfl hg568
              replace hm := condT hm hg568
              refine n_yes H rfl rfl (n_q H (q_move rfl) rfl (W_yes rfl rfl (W_q (q_fieldAddr0 rfl fo47_2) rfl (W_yes rfl rfl (W_q (q_load rfl ((hS.blk 2 rfl).ld ag3 rfl)) rfl (W_yes rfl rfl ?_)))))); clear H a; intro a H
              replace hm := bindS hm; obtain ⟨x569, hx569, hm⟩ := hm
              obtain ⟨h0x569, h1x569, hxx569⟩ := rdI_some hx569
              obtain ⟨adx569, hAx569⟩ := SlR.adV (h1.ext (Flat.mono _) hS.x) hv30 hxx569
              refine n_q H (q_ixVI Tryd.underlying28 sz4 rfl hv30 hAx569 rfl h0x569 h1x569) rfl (W_yes rfl rfl (W_q (q_load rfl (SlR.ldOneV (h1.ext (Flat.mono _) hS.x) hv30 hAx569 ag4 hxx569 rfl)) rfl (W_q (q_pickT rfl rfl) rfl ?_))); clear H a; intro a H
              refine n_nil (then_normal ?_)
              obtain rfl := Option.some.inj hm; replace hm := hm62; try dsimp only at hm
              exact join x569 H ⟨rfl, rfl, rfl, rfl, rfl, rfl, rfl, rfl, trivial⟩ ⟨hm, hS⟩
            · replace H := H.know 61 rfl hg568
              replace hm := condF hm hg568
              refine n_no H rfl rfl (by decide) rfl (W_no rfl rfl (by decide) rfl (W_no rfl rfl (by decide) rfl (W_no rfl rfl (by decide) rfl (W_no rfl rfl (by decide) rfl (W_q (q_pickF rfl rfl) rfl ?_))))); clear H a; intro a H
              refine n_nil (then_normal ?_)
              obtain rfl := Option.some.inj hm; replace hm := hm62; try dsimp only at hm
              exact join false H ⟨rfl, rfl, rfl, rfl, rfl, rfl, rfl, rfl, trivial⟩ ⟨hm, hS⟩
          · replace H := H.know 54 rfl hg566
            replace hm := condF hm hg566
            refine n_no H rfl rfl (by decide) rfl (W_no rfl rfl (by decide) rfl (W_no rfl rfl (by decide) rfl (W_no rfl rfl (by decide) rfl (W_no rfl rfl (by decide) rfl (W_q (q_pickF rfl rfl) rfl (W_q (q_move rfl) rfl (W_no rfl rfl (by decide) rfl (W_no rfl rfl (by decide) rfl (W_no rfl rfl (by decide) rfl (W_no rfl rfl (by decide) rfl (W_no rfl rfl (by decide) rfl ?_))))))))))); clear H a; intro a H
            refine n_q H (q_pickF rfl rfl) rfl ?_; clear H a; intro a H
            refine n_nil (then_normal ?_)
            obtain rfl := Option.some.inj hm; replace hm := hm62; try dsimp only at hm
            exact join false H ⟨rfl, rfl, rfl, rfl, rfl, rfl, rfl, rfl, trivial⟩ ⟨hm, hS⟩
        · clear H hS hm a; intro q563 a w570 H hR
          simp only [ent, List.map_cons, List.map_nil] at H; (try dsimp only at hR); obtain ⟨hm, hS⟩ := hR; try dsimp only [g_r14_Carry_J38] at hm
          refine c_cond H rfl (fun hc571 => ?_) (fun hc571 => ?_)
          · replace hm := condT hm hc571
            refine wp_skip (then_normal ?_)
            replace hm := bindS hm; obtain ⟨j572, hm, hm572⟩ := hm
            refine c_join (σ := (List (List GMsg))) H (fun l1073 => [(1, v1), (2, v2), (3, .pointer (some ⟨b21, 0, none⟩)), (8, .slice (some ⟨b36, 0, none⟩) a0.Parts.length a0.Parts.length), (9, .int .i64 ((i44 : Nat) : Int)), (10, .pointer (some ⟨b50, 0, none⟩)), (11, .int .i64 z60)]) (fun l1073 wl => (g_r14_Carry_J37 z60) l1073 = some o55 ∧ St NB w wl [nestR 43 1 (rowR 50 2 eGMsg) (.slice (some ⟨b36, 0, none⟩) a0.Parts.length a0.Parts.length) l1073, blkR b21 [.int .i64 a0.Ticks, vp0_0, vp0_1, vp0_2, vp0_3, .int .i64 a0.Tries] 27, blkR b50 [.int .i64 x49.From, .int .i64 x49.Out, .int .i64 x49.To, .int .i64 x49.In] 47]) ?_ ?_
            · skip
              refine wp_block (wp_seq (wp_region_lit (n_q H (q_move rfl) rfl (W_q (q_fieldAddr0 rfl fo47_0) rfl (W_q (q_load rfl ((hS.blk 2 rfl).ld ag3 rfl)) rfl ?_))))); clear H a; intro a H
              replace hm := bindS hm; obtain ⟨x1076, hx1076, hm⟩ := hm
              obtain ⟨h0x1076, h1x1076, hxx1076⟩ := rdI_some hx1076
              obtain ⟨adx1076, hAx1076⟩ := SlR.adV (h2.ext (RSl.mono _ _) hS.x) hv32 hxx1076
              obtain ⟨csx1076, hclx1076, ⟨vx1076, rfl, hrx1076⟩, hcx1076⟩ := SlR.elV h2 hv32 hAx1076 hxx1076
              refine n_q H (q_ixVI Tryd.underlying29 sz43 rfl hv32 hAx1076 rfl h0x1076 h1x1076) rfl (W_q (q_load rfl (LdX.ext (ldElH ag43 hcx1076) hS.x)) rfl (W_q (q_move rfl) rfl ?_)); clear H a; intro a H
              obtain ⟨A1077, c1077, hv1077, hl1077, hm1077⟩ := SlR.formV (hrx1076.ext (Flat.mono _) hS.x)
              replace hm := bindS hm; obtain ⟨x1078, hx1078, hm⟩ := hm
              obtain ⟨h0x1078, h1x1078, hxx1078⟩ := rdI_some hx1078
              obtain ⟨adx1078, hAx1078⟩ := SlR.adV (hrx1076.ext (Flat.mono _) hS.x) hv1077 hxx1078
              refine n_q H (q_ixVI Tryd.underlying43 sz50 rfl hv1077 hAx1078 rfl h0x1078 h1x1078) rfl (W_q (q_load rfl (SlR.ldAggV (hrx1076.ext (Flat.mono _) hS.x) hv1077 hAx1078 ag50 sz50 hxx1078)) rfl ?_); clear H a; intro a H
              refine n_alloc H ze50 rfl ?_
              clear H; intro b1079 w1080 hN hE1081 hs; clear a; intro a H
              replace hS := hS.newBlk hN hE1081 hs; clear hN hs
              refine n_storeAll H rfl rfl (vs := [.int .i64 x1078.Port, .string x1078.Data]) rfl sz50 (hS.blk 0 rfl) rfl (by simp) ?_
              clear H; intro w1082 hN hC1083 hz; clear a; intro a H; replace hS := hS.setBlk hN hC1083; clear hN hz
              refine n_nil (then_normal (wp_seq (wp_region_lit (n_q H (q_fieldAddr0 rfl fo50_0) rfl (W_q (q_load rfl ((hS.blk 0 rfl).ld ag3 rfl)) rfl (W_q (q_fieldAddr0 rfl fo47_1) rfl (W_q (q_load rfl ((hS.blk 3 rfl).ld ag3 rfl)) rfl (W_q (q_eqlD rfl rfl) rfl ?_)))))))); clear H a; intro a H
              refine n_nil (then_normal (c_cond H rfl (fun hc1084 => ?_) (fun hc1084 => ?_)))
              · replace hm := condT hm hc1084
                refine c_ord (kB w.heap.size (b1079 :: (b21 :: (b50 :: (blks (.slice (some ⟨b36, 0, none⟩) a0.Parts.length a0.Parts.length) ++ [])))) w1082.drew.heap.size) 16 (by kernel_rfl) ?_
                obtain ⟨w1085, hw1085⟩ : ∃ x, x = w1082.drew := ⟨_, rfl⟩; rw [← hw1085]; have hE1086 : Ext w1082 w1085 := by rw [hw1085]; exact Ext.drew' _
                clear hw1085
                replace hS := hS.ext hE1086
                have hh_b1079 := (hS.blk 0 rfl).lt
                have hh_b21 := (hS.blk 2 rfl).lt
                have hh_b50 := (hS.blk 3 rfl).lt
                have hh_o58 := hS.nestLt 1 rfl
                have hh1087 := hS.x.size
                have hW := Nat.le_refl w1085.heap.size
                refine k_takeT 0 H rfl (q_move rfl) rfl (by kernel_rfl) (by kernel_rfl) (by kernel_rfl) (by kernel_rfl) (fun _ _ _ h => h) ?_; clear H a; intro a H
                refine k_takeT 1 H rfl (q_fieldAddr0 rfl fo47_2) rfl (by kernel_rfl) (by kernel_rfl) (by kernel_rfl) (by kernel_rfl) (fun _ _ _ h => h) ?_; clear H a; intro a H
                refine k_take 2 H rfl (q_load rfl ((hS.blk 3 rfl).ldB hh_b50 (kB_not (by simp)) ag3 rfl)) rfl (by kernel_rfl) (by kernel_rfl) (by kernel_rfl) (by kernel_rfl) (fun _ _ _ h => h) ?_; clear H a; intro a H
                refine k_takeT 3 H rfl (q_move rfl) rfl (by kernel_rfl) (by kernel_rfl) (by kernel_rfl) (by kernel_rfl) (fun _ _ _ h => h) ?_; clear H a; intro a H
                refine k_takeT 4 H rfl (q_fieldAddr0 rfl fo47_2) rfl (by kernel_rfl) (by kernel_rfl) (by kernel_rfl) (by kernel_rfl) (fun _ _ _ h => h) ?_; clear H a; intro a H
                refine k_take 5 H rfl (q_load rfl ((hS.blk 3 rfl).ldB hh_b50 (kB_not (by simp)) ag3 rfl)) rfl (by kernel_rfl) (by kernel_rfl) (by kernel_rfl) (by kernel_rfl) (fun _ _ _ h => h) ?_; clear H a; intro a H
                obtain ⟨A1088, c1088, hv1088, hl1088, hm1088⟩ := SlR.formV (hS.nestSl 1 rfl (rowR_R (E := 50) (k := 2) (e := eGMsg) (fun _ _ => rfl)))
                replace hm := bindS hm; obtain ⟨x1089, hx1089, hm⟩ := hm
                obtain ⟨h0x1089, h1x1089, hxx1089⟩ := rdI_some hx1089
                obtain ⟨adx1089, hAx1089⟩ := SlR.adV (hS.nestSl 1 rfl (rowR_R (E := 50) (k := 2) (e := eGMsg) (fun _ _ => rfl))) hv1088 hxx1089
                obtain ⟨csx1089, hclx1089, ⟨vx1089, rfl, hrx1089⟩, hcx1089⟩ := SlR.elV (hS.nestSl 1 rfl (rowR_R (E := 50) (k := 2) (e := eGMsg) (fun _ _ => rfl))) hv1088 hAx1089 hxx1089
                refine k_takeT 6 H rfl (q_ixVI Tryd.underlying29 sz43 rfl hv1088 hAx1089 rfl h0x1089 h1x1089) rfl (by kernel_rfl) (by kernel_rfl) (by kernel_rfl) (by kernel_rfl) (fun _ _ _ h => h) ?_; clear H a; intro a H
                refine k_take 7 H rfl (q_load rfl (LdC.cellB ag43 (cell_ext (hcx1089 0 _ rfl) Ext.rfl') (hh_o58 _ (blk_of hv1088 hAx1089)) (kB_not (by simp [(blk_of hv1088 hAx1089)])))) rfl (by kernel_rfl) (by kernel_rfl) (by kernel_rfl) (by kernel_rfl) (fun _ _ _ h => h) ?_; clear H a; intro a H
                refine k_takeT 8 H rfl (q_fieldAddr0 rfl fo47_3) rfl (by kernel_rfl) (by kernel_rfl) (by kernel_rfl) (by kernel_rfl) (fun _ _ _ h => h) ?_; clear H a; intro a H
                refine k_take 9 H rfl (q_load rfl ((hS.blk 3 rfl).ldB hh_b50 (kB_not (by simp)) ag3 rfl)) rfl (by kernel_rfl) (by kernel_rfl) (by kernel_rfl) (by kernel_rfl) (fun _ _ _ h => h) ?_; clear H a; intro a H
                refine k_takeT 10 H rfl (q_fieldAddr0 rfl fo50_1) rfl (by kernel_rfl) (by kernel_rfl) (by kernel_rfl) (by kernel_rfl) (fun _ _ _ h => h) ?_; clear H a; intro a H
                refine k_take 11 H rfl (q_load rfl ((hS.blk 0 rfl).ldB hh_b1079 (kB_not (by simp)) ag9 rfl)) rfl (by kernel_rfl) (by kernel_rfl) (by kernel_rfl) (by kernel_rfl) (fun _ _ _ h => h) ?_; clear H a; intro a H
                refine k_takeT 12 H rfl (q_build (cs := [.int .i64 x49.In, .string x1078.Data]) ze50 bd50 pl50 rfl (by kernel_rfl)) rfl (by kernel_rfl) (by kernel_rfl) (by kernel_rfl) (by kernel_rfl) (fun _ _ _ h => h) ?_; clear H a; intro a H
                refine k_buildSlice 13 H rfl Tryd.underlying43 sz50 ze50 rfl rfl rfl (cs := [.int .i64 x49.In, .string x1078.Data]) (by kernel_rfl) rfl (by kernel_rfl) ?_
                clear H; intro b1092 w1090 hN hE1091 hs; clear a; intro a H
                have hge_b1092 : w1085.heap.size ≤ b1092 := hs ▸ hW
                replace hS := hS.newBlk hN hE1091 hs; clear hN hs
                replace hW := Nat.le_trans hW hE1091.size
                replace hS := hS.blkOwnL (e := eGMsg) (k := 2) [(⟨x49.In, x1078.Data⟩ : GMsg)] rfl rfl (by simp [maxLen])
                replace hS := hS.pick 2 rfl; dsimp only [List.eraseIdx] at hS
                obtain ⟨css1094, hok1094, hS⟩ := hS.rowAt hxx1089 hv1088 hAx1089 (cell_ext (hcx1089 0 _ rfl) hE1091)
                replace hm := chkS hm; obtain ⟨hk1095, hm⟩ := hm
                refine k_app (e := eGMsg) 14 H rfl rfl rfl Tryd.underlying43 Tryd.underlying43 (by simp) el50 (hS.own 0 rfl) (((hS.own 3 rfl).slr rfl (fun _ _ => rfl)).src (fun _ _ => rfl)) eGMsg_one hk1095 (by simp only [maxLen]; omega) rfl (by kernel_rfl) (.inl (fun c hc hlt => mem_kB hlt (hS.geOwn 0 rfl c hc) (notin_cons (hS.neOwn' 0 4 (by decide) rfl rfl c hc) (notin_cons (hS.neOwn' 0 5 (by decide) rfl rfl c hc) (notin_cons (hS.neOwn' 0 6 (by decide) rfl rfl c hc) (notin_app (hS.disjOwn 0 1 (by decide) rfl rfl c hc) notin_nil)))))) ?_
                clear H; intro v1098 w1096 hN hC1097 hb; clear a; intro a H; replace hS := hS.setOwn hN hC1097 hb; clear hN hb
                replace hW := Nat.le_trans hW hC1097.size
                refine k_takeT 15 H rfl (q_ixVI Tryd.underlying29 sz43 rfl hv1088 hAx1089 rfl h0x1089 h1x1089) rfl (by kernel_rfl) (by kernel_rfl) (by kernel_rfl) (by kernel_rfl) (fun _ _ _ h => h) ?_; clear H a; intro a H
                replace hS := hS.pick 1 rfl; dsimp only [List.eraseIdx] at hS
                refine k_storeR 16 H rfl rfl rfl sz43 (hS.own 0 rfl) hv1088 hAx1089 (natI hxx1089) (((hS.own 1 rfl).slr rfl (fun _ _ => rfl))).one (by kernel_rfl) (by kernel_rfl) ?_
                clear H; intro w1100 hN hC1101; clear a; intro a H; replace hS := hS.setOwn hN hC1101 (.inl rfl); clear hN
                replace hS := hS.pick 2 rfl; dsimp only [List.eraseIdx] at hS
                replace hS := hS.pick 2 rfl; dsimp only [List.eraseIdx] at hS
                replace hS := hS.pick 2 rfl; dsimp only [List.eraseIdx] at hS
                replace hS := St.rowSet hok1094 (natI hxx1089) (((hS.own 1 rfl).slr rfl (fun _ _ => rfl))).one hS
                refine k_done (by kernel_rfl) ?_
                refine block_normal (then_normal ?_)
                obtain rfl := Option.some.inj hm; replace hm := hm572; try dsimp only at hm
                replace hS := hS.pick 4 rfl; dsimp only [List.eraseIdx] at hS
                replace hS := hS.pick 4 rfl; dsimp only [List.eraseIdx] at hS
                replace hS := hS.pick 2 rfl; dsimp only [List.eraseIdx] at hS
                replace hS := hS.take 3; simp only [List.take_succ_cons, List.take_zero] at hS
                exact join (l56.set x49.To.toNat (x1089 ++ [(⟨x49.In, x1078.Data⟩ : GMsg)])) H ⟨rfl, rfl, rfl, rfl, rfl, rfl, rfl, trivial⟩ ⟨hm, hS⟩
              · replace hm := condF hm hc1084
                refine wp_skip (block_normal (then_normal ?_))
                obtain rfl := Option.some.inj hm; replace hm := hm572; try dsimp only at hm
                replace hS := hS.pick 3 rfl; dsimp only [List.eraseIdx] at hS
                replace hS := hS.pick 3 rfl; dsimp only [List.eraseIdx] at hS
                replace hS := hS.pick 3 rfl; dsimp only [List.eraseIdx] at hS
                replace hS := hS.take 3; simp only [List.take_succ_cons, List.take_zero] at hS
                exact join l56 H ⟨rfl, rfl, rfl, rfl, rfl, rfl, rfl, trivial⟩ ⟨hm, hS⟩
            · clear H hS hm a; intro l1073 a w1102 H hR
              simp only [ent, List.map_cons, List.map_nil] at H; (try dsimp only at hR); obtain ⟨hm, hS⟩ := hR; try dsimp only [g_r14_Carry_J37] at hm
              refine wp_region_lit (n_q H (q_move rfl) rfl (W_q (q_addW rfl rfl) rfl (W_q (q_assign rfl) rfl ?_))); clear H a; intro a H
              refine n_nil (then_normal ?_)
              obtain rfl := Option.some.inj hm
              exact round (m55, l1073, (IntKind.i64.wrap (z60 + 1))) H ⟨rfl, rfl, rfl, rfl, rfl, rfl, rfl, trivial⟩ ⟨hn55, hS⟩ (Nat.lt_succ_self _)
          · replace hm := condF hm hc571
            refine wp_exit (then_exit (then_exit (block_exit ?_)))
            obtain rfl := Option.some.inj hm; have hz : _ = q55 := hn55; subst hz; replace hm := hm55; try dsimp only at hm
            refine block_normal (then_normal (wp_region_lit (n_q H (q_move rfl) rfl (W_q (q_incr (i := i44) (j := 1) rfl rfl (by omega)) rfl (W_q (q_assign rfl) rfl ?_))))); clear H a; intro a H
            refine n_nil (then_normal ?_)
            obtain rfl := Option.some.inj hm
            replace hS := hS.take 2; simp only [List.take_succ_cons, List.take_zero] at hS
            exact round (m40, l56, i44 + 1) H ⟨rfl, rfl, rfl, rfl, rfl, trivial⟩ ⟨hn40, hS⟩ (Nat.lt_succ_self _)
      · replace hm := condF hm hc47
        refine wp_exit (then_exit (then_exit (block_exit ?_)))
        obtain rfl := Option.some.inj hm; have hz : _ = q40 := hn40; subst hz; replace hm := hm40; try dsimp only at hm
        refine then_normal (wp_seq (wp_region_lit (n_q H (q_move rfl) rfl (W_q (q_assign rfl) rfl (W_q (q_assign rfl) rfl ?_))))); clear H a; intro a H
        refine n_nil (then_normal (wp_ret ?_))
        obtain rfl := Option.some.inj hm
        replace hS := hS.take 1; simp only [List.take_succ_cons, List.take_zero] at hS
        refine ret2 H (.inr rfl) rfl rfl rfl ?_
        exact ⟨_, rfl, hS⟩
theorem g_law14_copied_w {w : World} {A : Nat → Addr} {v0 : Value} {a0 : List (List GMsg)} (h0 : SlR w 1 (RSl 2 eGMsg) v0 a0) {r : List (List GMsg)} (hm : g_law14_copied a0 = some r) :
    Calls Tryd.prog 15 [v0].toArray w (Ret fun u w' => ∃ h_0, u = h_0 ∧ St NB w w' [nestR 43 1 (rowR 50 2 eGMsg) h_0 r]) := by
  have hS := St.begin NB w
  unfold g_law14_copied at hm
  refine enter Tryd.func15 rfl rfl rfl ?_; intro a H; dsimp only [enumL, Nat.zero_add, Nat.reduceAdd] at H
  refine wp_seq (wp_region_lit (n_q H (q_assign rfl) rfl ?_)); clear H a; intro a H
  refine n_nil (then_normal (wp_seq (wp_region_lit (n_q H (q_assign rfl) rfl ?_)))); clear H a; intro a H
  refine n_nil (then_normal (wp_seq (wp_seq (wp_region_lit (n_q H (q_assign rfl) rfl ?_))))); clear H a; intro a H
  refine n_nil (then_normal (wp_block ?_))
  replace hS := hS.nestNil 43 1 (rowR 50 2 eGMsg)
  replace hm := bindS hm; obtain ⟨q21, hm, hm21⟩ := hm; replace hm := iter_some hm; obtain ⟨n21, hm⟩ := hm
  refine c_loop (σ := Nat × (List (List GMsg)) × Nat × Value) (fun (m, l22, i25, v23) => [(0, v0), (3, v23), (4, .int .i64 ((i25 : Nat) : Int))]) (fun (m, l22, i25, v23) wl => iterN (g_law14_copied_L1 a0) m (l22, i25) = some q21 ∧ St NB w wl [nestR 43 1 (rowR 50 2 eGMsg) v23 l22]) (fun (m, l22, i25, v23) => m) (n21, ([] : List (List GMsg)), 0, .slice none 0 0) H ⟨rfl, rfl, rfl, trivial⟩ ⟨hm, hS⟩ ?_
  clear H hS hm a; intro xx a w27 H hR; obtain ⟨m, l22, i25, v23⟩ := xx; simp only [ent, List.map_cons, List.map_nil] at H; (try dsimp only at hR); obtain ⟨hm, hS⟩ := hR
  replace hm := iterN_step hm; obtain ⟨m21, o21, rfl, hm, hn21⟩ := hm; try dsimp only [g_law14_copied_L1] at hm
  refine wp_seq (wp_seq (wp_region_lit (n_q H (q_move rfl) rfl (W_q (q_move rfl) rfl ?_)))); clear H a; intro a H
  obtain ⟨A28, c28, hv28, hl28, hm28⟩ := SlR.formV (h0.ext (RSl.mono _ _) hS.x)
  refine n_q H (q_lenV Tryd.underlying29 rfl hv28) rfl (W_q (q_lssN (i := i25) (j := a0.length) rfl rfl) rfl ?_); clear H a; intro a H
  refine n_nil (then_normal (c_cond H rfl (fun hc29 => ?_) (fun hc29 => ?_)))
  · replace hm := condT hm hc29
    have hlt30 : i25 < a0.length := of_decide_eq_true hc29
    refine wp_skip (then_normal (wp_seq (wp_block (wp_region_lit (n_q H (q_move rfl) rfl ?_))))); clear H a; intro a H
    refine n_buildSlice H Tryd.underlying43 sz50 ze50 rfl rfl rfl (cs := []) rfl rfl ?_
    clear H; intro b33 w31 hN hE32 hs; clear a; intro a H
    replace hS := hS.newBlk hN hE32 hs; clear hN hs
    replace hS := hS.blkOwnL (e := eGMsg) (k := 2) ([] : List GMsg) rfl rfl (by simp [maxLen])
    refine n_q H (q_move rfl) rfl (W_q (q_move rfl) rfl ?_); clear H a; intro a H
    replace hm := bindS hm; obtain ⟨x35, hx35, hm⟩ := hm
    obtain ⟨adx35, hAx35⟩ := SlR.adV (h0.ext (RSl.mono _ _) hS.x) hv28 hx35
    obtain ⟨csx35, hclx35, ⟨vx35, rfl, hrx35⟩, hcx35⟩ := SlR.elV h0 hv28 hAx35 hx35
    refine n_q H (q_ixV (i := i25) Tryd.underlying29 sz43 rfl hv28 hAx35 rfl (natI hx35)) rfl (W_q (q_load rfl (LdX.ext (ldElH ag43 hcx35) hS.x)) rfl ?_); clear H a; intro a H
    replace hm := chkS hm; obtain ⟨hk36, hm⟩ := hm
    refine n_app (e := eGMsg) H rfl rfl Tryd.underlying43 Tryd.underlying43 (by simp) el50 (hS.own 0 rfl) ((hrx35.ext (Flat.mono _) hS.x).src (fun _ _ => rfl)) eGMsg_one hk36 (by simp only [maxLen]; omega) rfl ?_
    clear H; intro v39 w37 hN hC38 hb; clear a; intro a H; replace hS := hS.setOwn hN hC38 hb; clear hN hb
    refine n_buildSlice H Tryd.underlying29 sz43 ze43 rfl rfl rfl (cs := [v39]) ((fill1 (((hS.own 0 rfl).slr rfl (fun _ _ => rfl))).one rfl (by simp)).trans rfl) rfl ?_
    clear H; intro b43 w41 hN hE42 hs; clear a; intro a H
    replace hS := hS.newBlk hN hE42 hs; clear hN hs
    replace hS := hS.pick 1 rfl; dsimp only [List.eraseIdx] at hS
    replace hS := hS.pick 2 rfl; dsimp only [List.eraseIdx] at hS
    replace hm := chkS hm; obtain ⟨hk44, hm⟩ := hm
    refine n_appN hS H rfl rfl Tryd.underlying29 Tryd.underlying29 (by simp) el43 (Src.blk (m := 1) (k := 1) (hS.blk 2 rfl) rfl) (((hS.own 1 rfl).slr rfl (fun _ _ => rfl))).one hk44 (by simp only [maxLen]; omega) rfl ?_
    clear H hS; intro v46 w45 hS; clear a; intro a H
    refine n_q H (q_assign rfl) rfl ?_; clear H a; intro a H
    refine n_nil (block_normal (then_normal (wp_region_lit (n_q H (q_move rfl) rfl (W_q (q_incr (i := i25) (j := 1) rfl rfl (by omega)) rfl (W_q (q_assign rfl) rfl ?_)))))); clear H a; intro a H
    refine n_nil (then_normal ?_)
    obtain rfl := Option.some.inj hm
    replace hS := hS.take 1; simp only [List.take_succ_cons, List.take_zero] at hS
    exact round (m21, (l22 ++ [(([] : List GMsg) ++ x35)]), i25 + 1, v46) H ⟨rfl, rfl, rfl, trivial⟩ ⟨hn21, hS⟩ (Nat.lt_succ_self _)
  · replace hm := condF hm hc29
    refine wp_exit (then_exit (then_exit (block_exit ?_)))
    obtain rfl := Option.some.inj hm; have hz : _ = q21 := hn21; subst hz; replace hm := hm21; try dsimp only at hm
    refine then_normal (wp_seq (wp_region_lit (n_q H (q_move rfl) rfl (W_q (q_assign rfl) rfl ?_)))); clear H a; intro a H
    refine n_nil (then_normal (wp_ret ?_))
    obtain rfl := Option.some.inj hm
    refine ret1 H (.inr rfl) rfl rfl ?_
    exact ⟨_, rfl, hS⟩
theorem g_law14_same_w {w : World} {A : Nat → Addr} {v0 : Value} {a0 : ErrM} {a1 : Int} (hG : EV A w) (hH : HE w) (h0 : IsE A w v0 a0) {r : Bool} (hm : g_law14_same a0 a1 = some r) :
    Calls Tryd.prog 16 [v0, .int .i64 a1].toArray w (Ret fun u w' => u = .bool r ∧ Ext w w') := by
  have hS := St.begin NB w
  unfold g_law14_same at hm
  refine enter Tryd.func16 rfl rfl rfl ?_; intro a H; dsimp only [enumL, Nat.zero_add, Nat.reduceAdd] at H
  refine wp_seq (wp_region_lit (n_q H (q_assign rfl) rfl ?_)); clear H a; intro a H
  refine n_nil (then_normal (wp_seq (wp_region_lit (n_q H (q_move rfl) rfl ?_)))); clear H a; intro a H
  refine n_call H rfl en23 (code_w (hG.ext hS.x) (IsErr.ext h0 hS.x)) rfl ?_
  clear H; intro x23 w21 hv; clear a; intro a H; obtain ⟨rfl, hE22⟩ := hv; replace hS := hS.ext hE22
  refine n_q H (q_move rfl) rfl (W_q (q_eqlD rfl rfl) rfl (W_q (q_move rfl) rfl ?_)); clear H a; intro a H
  rcases Bool.eq_false_or_eq_true (decide ((ErrM.code a0) = a1)) with hg24 | hg24
  · replace H := H.know 9 rfl hg24
    replace hm := condT hm hg24
    refine n_yes H rfl rfl (n_q H (q_move rfl) rfl (W_yes rfl rfl ?_)); clear H a; intro a H
    refine n_call H rfl en29 (place_w (hH.ext hS.x) (IsErr.ext h0 hS.x)) rfl ?_
    clear H; intro x27 w25 hv; clear a; intro a H; obtain ⟨rfl, hE26⟩ := hv; replace hS := hS.ext hE26
    refine n_yes H rfl rfl (n_q H (q_eqlD rfl rfl) rfl (W_q (q_pickT rfl rfl) rfl (W_q (q_assign rfl) rfl ?_))); clear H a; intro a H
    refine n_nil (then_normal (wp_ret ?_))
    obtain rfl := Option.some.inj hm
    refine ret1 H (.inr rfl) rfl rfl ?_
    exact ⟨rfl, hS.x⟩
  · replace H := H.know 9 rfl hg24
    replace hm := condF hm hg24
    refine n_no H rfl rfl (by decide) rfl (W_no rfl rfl (by decide) rfl (W_no rfl rfl (by decide) rfl (W_q (q_pickF rfl rfl) rfl (W_q (q_assign rfl) rfl ?_)))); clear H a; intro a H
    refine n_nil (then_normal (wp_ret ?_))
    obtain rfl := Option.some.inj hm
    refine ret1 H (.inr rfl) rfl rfl ?_
    exact ⟨rfl, hS.x⟩
theorem g_r14_SameMsgs_w {w : World} {A : Nat → Addr} {v0 : Value} {a0 : List GMsg} {v1 : Value} {a1 : List GMsg} (h0 : SlR w 2 (Flat eGMsg) v0 a0) (h1 : SlR w 2 (Flat eGMsg) v1 a1) {r : Bool} (hm : g_r14_SameMsgs a0 a1 = some r) :
    Calls Tryd.prog 17 [v0, v1].toArray w (Ret fun u w' => u = .bool r ∧ Ext w w') := by
  have hS := St.begin NB w
  unfold g_r14_SameMsgs at hm
  refine enter Tryd.func17 rfl rfl rfl ?_; intro a H; dsimp only [enumL, Nat.zero_add, Nat.reduceAdd] at H
  refine wp_seq (wp_region_lit (n_q H (q_assign rfl) rfl ?_)); clear H a; intro a H
  refine n_nil (then_normal (wp_seq (wp_seq (wp_region_lit (n_q H (q_move rfl) rfl ?_))))); clear H a; intro a H
  obtain ⟨A21, c21, hv21, hl21, hm21⟩ := SlR.formV (h0.ext (Flat.mono _) hS.x)
  refine n_q H (q_lenV Tryd.underlying43 rfl hv21) rfl (W_q (q_move rfl) rfl ?_); clear H a; intro a H
  obtain ⟨A22, c22, hv22, hl22, hm22⟩ := SlR.formV (h1.ext (Flat.mono _) hS.x)
  refine n_q H (q_lenV Tryd.underlying43 rfl hv22) rfl (W_q (q_neqN (i := a0.length) (j := a1.length) rfl rfl) rfl ?_); clear H a; intro a H
  refine n_nil (then_normal (c_cond H rfl (fun hc23 => ?_) (fun hc23 => ?_)))
  · replace hm := condT hm hc23
    refine wp_seq (wp_region_lit (n_q H (q_assign rfl) rfl ?_)); clear H a; intro a H
    refine n_nil (then_normal (wp_ret (then_ret ?_)))
    obtain rfl := Option.some.inj hm
    refine ret1 H (.inr rfl) rfl rfl ?_
    exact ⟨rfl, hS.x⟩
  · replace hm := condF hm hc23
    refine wp_skip (then_normal (wp_seq (wp_seq (wp_region_lit (n_q H (q_assign rfl) rfl ?_))))); clear H a; intro a H
    refine n_nil (then_normal (wp_block ?_))
    replace hm := bindS hm; obtain ⟨q24, hm, hm24⟩ := hm; replace hm := iter_some hm; obtain ⟨n24, hm⟩ := hm
    refine c_loop (σ := Nat × Nat) (fun (m, i25) => [(0, v0), (1, v1), (5, .int .i64 ((i25 : Nat) : Int))]) (fun (m, i25) wl => iterN (g_r14_SameMsgs_L1 a0 a1) m i25 = some q24 ∧ St NB w wl []) (fun (m, i25) => m) (n24, 0) H ⟨rfl, rfl, rfl, trivial⟩ ⟨hm, hS⟩ ?_
    clear H hS hm a; intro xx a w26 H hR; obtain ⟨m, i25⟩ := xx; simp only [ent, List.map_cons, List.map_nil] at H; (try dsimp only at hR); obtain ⟨hm, hS⟩ := hR
    replace hm := iterN_step hm; obtain ⟨m24, o24, rfl, hm, hn24⟩ := hm; try dsimp only [g_r14_SameMsgs_L1] at hm
    refine wp_seq (wp_seq (wp_region_lit (n_q H (q_move rfl) rfl (W_q (q_move rfl) rfl (W_q (q_lenV Tryd.underlying43 rfl hv21) rfl (W_q (q_lssN (i := i25) (j := a0.length) rfl rfl) rfl ?_)))))); clear H a; intro a H
    refine n_nil (then_normal (c_cond H rfl (fun hc27 => ?_) (fun hc27 => ?_)))
    · replace hm := condT hm hc27
      have hlt28 : i25 < a0.length := of_decide_eq_true hc27
      refine wp_skip (then_normal (wp_seq (wp_block (wp_seq (c_quiet (by kernel_rfl) (by kernel_rfl) ?_)))))
      refine qq_q H (q_move rfl) rfl ?_; clear H a; intro a H
      refine qq_q H (q_move rfl) rfl ?_; clear H a; intro a H
      replace hm := bindS hm; obtain ⟨x29, hx29, hm⟩ := hm
      obtain ⟨adx29, hAx29⟩ := SlR.adV (h0.ext (Flat.mono _) hS.x) hv21 hx29
      refine qq_q H (q_ixV (i := i25) Tryd.underlying43 sz50 rfl hv21 hAx29 rfl (natI hx29)) rfl ?_; clear H a; intro a H
      refine qq_q H (q_load rfl (SlR.ldAggV (h0.ext (Flat.mono _) hS.x) hv21 hAx29 ag50 sz50 hx29)) rfl ?_; clear H a; intro a H
      refine qq_q H (q_move rfl) rfl ?_; clear H a; intro a H
      refine qq_q H (q_move rfl) rfl ?_; clear H a; intro a H
      replace hm := bindS hm; obtain ⟨x30, hx30, hm⟩ := hm
      obtain ⟨adx30, hAx30⟩ := SlR.adV (h1.ext (Flat.mono _) hS.x) hv22 hx30
      refine qq_q H (q_ixV (i := i25) Tryd.underlying43 sz50 rfl hv22 hAx30 rfl (natI hx30)) rfl ?_; clear H a; intro a H
      refine qq_q H (q_load rfl (SlR.ldAggV (h1.ext (Flat.mono _) hS.x) hv22 hAx30 ag50 sz50 hx30)) rfl ?_; clear H a; intro a H
      refine qq_q H (q_neqG (structB_guard st50) (eqInGMsg x29 x30) (by omega) rfl rfl) rfl ?_; clear H a; intro a H
      refine qq_nil ?_; intro w31 hE32
      replace hS := hS.ext hE32
      refine then_normal (c_cond H rfl (fun hc33 => ?_) (fun hc33 => ?_))
      · replace hm := condT hm hc33
        refine wp_seq (wp_region_lit (n_q H (q_assign rfl) rfl ?_)); clear H a; intro a H
        refine n_nil (then_normal (wp_ret (block_ret (then_ret (then_ret (block_ret (then_ret ?_)))))))
        obtain rfl := Option.some.inj hm; have hz : _ = q24 := hn24; subst hz; replace hm := hm24; try dsimp only at hm
        obtain rfl := Option.some.inj hm
        refine ret1 H (.inr rfl) rfl rfl ?_
        exact ⟨rfl, hS.x⟩
      · replace hm := condF hm hc33
        refine wp_skip (block_normal (then_normal (wp_region_lit (n_q H (q_move rfl) rfl (W_q (q_incr (i := i25) (j := 1) rfl rfl (by omega)) rfl (W_q (q_assign rfl) rfl ?_)))))); clear H a; intro a H
        refine n_nil (then_normal ?_)
        obtain rfl := Option.some.inj hm
        exact round (m24, i25 + 1) H ⟨rfl, rfl, rfl, trivial⟩ ⟨hn24, hS⟩ (Nat.lt_succ_self _)
    · replace hm := condF hm hc27
      refine wp_exit (then_exit (then_exit (block_exit ?_)))
      obtain rfl := Option.some.inj hm; have hz : _ = q24 := hn24; subst hz; replace hm := hm24; try dsimp only at hm
      refine then_normal (wp_seq (wp_region_lit (n_q H (q_assign rfl) rfl ?_))); clear H a; intro a H
      refine n_nil (then_normal (wp_ret ?_))
      obtain rfl := Option.some.inj hm
      refine ret1 H (.inr rfl) rfl rfl ?_
      exact ⟨rfl, hS.x⟩
theorem g_law14_FrameCarries_w {w : World} {A : Nat → Addr} {cs0 : List Value} {a0 : GL14Case} (hG : EV A w) (hH : HE w) (h0 : RGL14Case w cs0 a0) {r : Bool} (hm : g_law14_FrameCarries a0 = some r) :
    Calls Tryd.prog 3 [.agg cs0.toArray].toArray w (Ret fun u w' => u = .bool r ∧ Ext w w') := by
  obtain ⟨vp0_0, vp0_1, vp0_2, vp0_3, vp0_4, vp0_5, vp0_6, vp0_7, vp0_8, vp0_9, vp0_10, rfl, hrp0_0, hrp0_1, hrp0_2, hrp0_3, hrp0_4, hrp0_5, hrp0_6, hrp0_7, hrp0_8, hrp0_9, hrp0_10⟩ := h0
  have hS := St.begin NB w
  unfold g_law14_FrameCarries at hm
  refine enter Tryd.func3 rfl rfl rfl ?_; intro a H; dsimp only [enumL, Nat.zero_add, Nat.reduceAdd] at H
  refine wp_seq (wp_region_lit (n_box H rfl (cs := [.int .i64 a0.C.Ticks, vp0_0, vp0_1, vp0_2, vp0_3, .int .i64 a0.C.Tries, .int .i64 a0.D.Ticks, vp0_4, vp0_5, vp0_6, vp0_7, .int .i64 a0.D.Tries, vp0_8, vp0_9, vp0_10]) rfl rfl ?_))
  clear H; intro b21 w22 hN hE23 hs; clear a; intro a H
  replace hS := hS.newBlk hN hE23 hs; clear hN hs
  refine n_q H (q_assign rfl) rfl ?_; clear H a; intro a H
  refine n_nil (then_normal (wp_seq (wp_seq (wp_region_lit ?_))))
  replace hm := bindS hm; obtain ⟨r24, hr24, hm⟩ := hm
  refine n_call H rfl en11 (g_law14_fixed_w (A := A) (hG.ext hS.x) (hH.ext hS.x) hr24) rfl ?_
  clear H; intro x27 w25 hv; clear a; intro a H; obtain ⟨rfl, hE26⟩ := hv
  replace hS := hS.ext hE26
  refine n_q H (q_not rfl) rfl ?_; clear H a; intro a H
  refine n_nil (then_normal (c_cond H rfl (fun hc28 => ?_) (fun hc28 => ?_)))
  · replace hm := condT hm hc28
    refine wp_seq (wp_region_lit (n_q H (q_assign rfl) rfl ?_)); clear H a; intro a H
    refine n_nil (then_normal (wp_ret (then_ret ?_)))
    obtain rfl := Option.some.inj hm
    replace hS := hS.take 0; simp only [List.take_succ_cons, List.take_zero] at hS
    refine ret1 H (.inr rfl) rfl rfl ?_
    exact ⟨rfl, hS.x⟩
  · replace hm := condF hm hc28
    refine wp_skip (then_normal (wp_seq (wp_region_lit (n_q H (q_fieldAddr0 rfl fo31_0) rfl (W_q (q_load rfl ((hS.blk 0 rfl).ldPart 0 6 ag27 sz27 (by simp))) rfl (W_q (q_fieldAddr0 rfl fo31_3) rfl (W_q (q_load rfl ((hS.blk 0 rfl).ld ag28 rfl)) rfl (W_q (q_fieldAddr0 rfl fo31_4) rfl (W_q (q_load rfl ((hS.blk 0 rfl).ld ag29 rfl)) rfl ?_))))))))); clear H a; intro a H
    replace hm := bindS hm; obtain ⟨r29, hr29, hm⟩ := hm
    refine n_call H rfl en12 (g_r14_Carry_w (A := A) (⟨_, _, _, _, rfl, (hrp0_0.ext RGPlan.mono hS.x), (hrp0_1.ext (Flat.mono _) hS.x), (hrp0_2.ext (Flat.mono _) hS.x), (hrp0_3.ext (Flat.mono _) hS.x)⟩ : RGConfig _ [.int .i64 a0.C.Ticks, vp0_0, vp0_1, vp0_2, vp0_3, .int .i64 a0.C.Tries] a0.C) (hrp0_9.ext (Flat.mono _) hS.x) (hrp0_10.ext (RSl.mono _ _) hS.x) hr29) rfl ?_
    clear H; intro x34 w32 hv; clear a; intro a H; obtain ⟨u30, rfl, hE33⟩ := hv
    replace hS := hS.new hE33; simp only [List.cons_append, List.nil_append] at hS
    refine n_q H (q_move rfl) rfl (W_q (q_extract rfl rfl) rfl (W_q (q_extract rfl rfl) rfl (W_q (q_assign rfl) rfl (W_q (q_assign rfl) rfl ?_)))); clear H a; intro a H
    refine n_nil (then_normal ?_)
    replace hm := bindS hm; obtain ⟨j35, hm, hm35⟩ := hm
    refine c_join (σ := (List (List GMsg)) × ErrM × Value × Value) H (fun (l536, e539, v537, u540) => [(3, u30), (4, .int .i64 r29.2), (5, v537), (6, u540)]) (fun (l536, e539, v537, u540) wl => (g_law14_FrameCarries_J4 r29) (l536, e539) = some r ∧ St NB w wl [nestR 43 1 (rowR 50 2 eGMsg) u30 r29.1, nestR 43 1 (rowR 50 2 eGMsg) v537 l536, erQ A u540 e539]) ?_ ?_
    · skip
      refine c_ord [] 16 (by kernel_rfl) ?_
      obtain ⟨w542, hw542⟩ : ∃ x, x = w32.drew := ⟨_, rfl⟩; rw [← hw542]; have hE543 : Ext w32 w542 := by rw [hw542]; exact Ext.drew' _
      clear hw542
      replace hS := hS.ext hE543
      have hS544 := hS
      have hW := Nat.le_refl w542.heap.size
      refine k_takeT 0 H rfl (q_fieldAddr0 rfl fo31_0) rfl (by kernel_rfl) (by kernel_rfl) (by kernel_rfl) (by kernel_rfl) (fun _ _ _ h => h) ?_; clear H a; intro a H
      refine k_take 1 H rfl (q_load rfl (LdC.old ((hS544.blk 1 rfl).ldPart 0 6 ag27 sz27 (by simp)) Ext.rfl' (Nat.le_refl _) (by simp))) rfl (by kernel_rfl) (by kernel_rfl) (by kernel_rfl) (by kernel_rfl) (fun _ _ _ h => h) ?_; clear H a; intro a H
      refine k_takeT 4 H rfl (q_fieldAddr0 rfl fo31_3) rfl (by kernel_rfl) (by kernel_rfl) (by kernel_rfl) (by kernel_rfl) (fun _ _ _ h => h) ?_; clear H a; intro a H
      refine k_take 5 H rfl (q_load rfl (LdC.old ((hS544.blk 1 rfl).ld ag28 rfl) Ext.rfl' (Nat.le_refl _) (by simp))) rfl (by kernel_rfl) (by kernel_rfl) (by kernel_rfl) (by kernel_rfl) (fun _ _ _ h => h) ?_; clear H a; intro a H
      refine k_takeT 7 H rfl (q_fieldAddr0 rfl fo31_4) rfl (by kernel_rfl) (by kernel_rfl) (by kernel_rfl) (by kernel_rfl) (fun _ _ _ h => h) ?_; clear H a; intro a H
      refine k_take 8 H rfl (q_load rfl (LdC.old ((hS544.blk 1 rfl).ld ag29 rfl) Ext.rfl' (Nat.le_refl _) (by simp))) rfl (by kernel_rfl) (by kernel_rfl) (by kernel_rfl) (by kernel_rfl) (fun _ _ _ h => h) ?_; clear H a; intro a H
      replace hm := bindS hm; obtain ⟨r545, hr545, hm⟩ := hm
      refine k_two 2 3 (by kernel_rfl) ?_ ?_
      · skip
        refine kk_call 2 H rfl rfl en14 (g_r14_Copy_w (A := A) (⟨_, _, _, _, rfl, (hrp0_0.ext RGPlan.mono hS.x), (hrp0_1.ext (Flat.mono _) hS.x), (hrp0_2.ext (Flat.mono _) hS.x), (hrp0_3.ext (Flat.mono _) hS.x)⟩ : RGConfig _ [.int .i64 a0.C.Ticks, vp0_0, vp0_1, vp0_2, vp0_3, .int .i64 a0.C.Tries] a0.C) hr545) rfl (fun v w hv => .inl (ChgF.of_ext (by obtain ⟨_, _, _, _, _, hE0⟩ := hv; exact hE0.x))) ?_
        clear H; intro x556 w554 hv; clear a; intro a H; obtain ⟨u546, u547, u548, u549, rfl, hE555⟩ := hv
        replace hS := hS.new hE555; simp only [List.cons_append, List.nil_append] at hS
        replace hW := Nat.le_trans hW hE555.x.size
        refine k_buildSlice 3 H rfl Tryd.underlying28 sz4 ze4 rfl rfl rfl (cs := []) rfl rfl (by kernel_rfl) ?_
        clear H; intro b559 w557 hN hE558 hs; clear a; intro a H
        have hge_b559 : w542.heap.size ≤ b559 := hs ▸ hW
        replace hS := hS.newBlk hN hE558 hs; clear hN hs
        replace hW := Nat.le_trans hW hE558.size
        replace hS := hS.blkOwnL (e := eF) (k := 1) ([] : List Bool) rfl rfl (by simp [maxLen])
        replace hm := chkS hm; obtain ⟨hk561, hm⟩ := hm
        refine k_app (e := eF) 6 H rfl rfl rfl Tryd.underlying28 Tryd.underlying28 (by simp) el4 (hS.own 0 rfl) ((hrp0_9.ext (Flat.mono _) hS.x).src (fun _ _ => rfl)) eF_one hk561 (by simp only [maxLen]; omega) rfl (by kernel_rfl) (.inl (fun c hc h => absurd ((show c = b559 from List.mem_singleton.1 hc) ▸ h) (Nat.not_lt.2 hge_b559))) ?_
        clear H; intro v564 w562 hN hC563 hb; clear a; intro a H; replace hS := hS.setOwn hN hC563 hb; clear hN hb
        replace hW := Nat.le_trans hW hC563.size
        replace hm := bindS hm; obtain ⟨r566, hr566, hm⟩ := hm
        refine k_of_kk 9 (by kernel_rfl) ?_
        refine kk_call 9 H rfl rfl en15 (g_law14_copied_w (A := A) (hrp0_10.ext (RSl.mono _ _) hS.x) hr566) rfl (fun v w hv => .inl (ChgF.of_ext (by obtain ⟨_, _, hE0⟩ := hv; exact hE0.x))) ?_
        clear H; intro u567 w569 hv; clear a; intro a H; obtain ⟨_, rfl, hE570⟩ := hv
        replace hS := hS.new hE570; simp only [List.cons_append, List.nil_append] at hS
        replace hW := Nat.le_trans hW hE570.x.size
        replace hm := bindS hm; obtain ⟨r572, hr572, hm⟩ := hm
        refine k_of_kk 10 (by kernel_rfl) ?_
        refine kk_call 10 H rfl rfl en13 (g_frame_Carry_w (A := A) (hG.ext hS.x) (⟨_, _, _, _, rfl, (hS.deepSl 2 rfl), ((hS.own 3 rfl).slr rfl (fun _ _ => rfl)), ((hS.own 4 rfl).slr rfl (fun _ _ => rfl)), ((hS.own 5 rfl).slr rfl (fun _ _ => rfl))⟩ : RGConfig _ [.int .i64 r545.Ticks, u546, u547, u548, u549, .int .i64 r545.Tries] r545) ((hS.own 1 rfl).slr rfl (fun _ _ => rfl)) (hS.nestSl 0 rfl (rowR_R (E := 50) (k := 2) (e := eGMsg) (fun _ _ => rfl))) hr572) rfl (fun v w hv => .inl (ChgF.of_ext (by obtain ⟨_, _, _, hE0⟩ := hv; exact hE0.x))) ?_
        clear H; intro x579 w577 hv; clear a; intro a H; obtain ⟨u573, u574, rfl, hE578⟩ := hv
        replace hS := hS.new hE578; simp only [List.cons_append, List.nil_append] at hS
        replace hW := Nat.le_trans hW hE578.x.size
        refine k_takeT 11 H rfl (q_move rfl) rfl (by kernel_rfl) (by kernel_rfl) (by kernel_rfl) (by kernel_rfl) (fun _ _ _ h => h) ?_; clear H a; intro a H
        refine k_takeT 12 H rfl (q_extract rfl rfl) rfl (by kernel_rfl) (by kernel_rfl) (by kernel_rfl) (by kernel_rfl) (fun _ _ _ h => h) ?_; clear H a; intro a H
        refine k_takeT 13 H rfl (q_extract rfl rfl) rfl (by kernel_rfl) (by kernel_rfl) (by kernel_rfl) (by kernel_rfl) (fun _ _ _ h => h) ?_; clear H a; intro a H
        refine k_takeT 14 H rfl (q_assign rfl) rfl (by kernel_rfl) (by kernel_rfl) (by kernel_rfl) (by kernel_rfl) (fun _ _ _ h => h) ?_; clear H a; intro a H
        refine k_takeT 15 H rfl (q_assign rfl) rfl (by kernel_rfl) (by kernel_rfl) (by kernel_rfl) (by kernel_rfl) (fun _ _ _ h => h) ?_; clear H a; intro a H
        refine k_done (by kernel_rfl) ?_
        refine then_normal ?_
        obtain rfl := Option.some.inj hm; replace hm := hm35; try dsimp only at hm
        replace hS := hS.pick 1 rfl; dsimp only [List.eraseIdx] at hS
        replace hS := hS.pick 1 rfl; dsimp only [List.eraseIdx] at hS
        replace hS := hS.pick 8 rfl; dsimp only [List.eraseIdx] at hS
        replace hS := hS.take 3; simp only [List.take_succ_cons, List.take_zero] at hS
        exact join (r572.1, r572.2, u573, u574) H ⟨rfl, rfl, rfl, rfl, trivial⟩ ⟨hm, hS⟩
      · skip
        refine kk_buildSlice 3 H rfl Tryd.underlying28 sz4 ze4 rfl rfl rfl (cs := []) rfl rfl ?_
        clear H; intro b582 w580 hN hE581 hs; clear a; intro a H
        have hge_b582 : w542.heap.size ≤ b582 := hs ▸ hW
        replace hS := hS.newBlk hN hE581 hs; clear hN hs
        replace hW := Nat.le_trans hW hE581.size
        replace hS := hS.blkOwnL (e := eF) (k := 1) ([] : List Bool) rfl rfl (by simp [maxLen])
        refine k_of_kk 2 (by kernel_rfl) ?_
        refine kk_call 2 H rfl rfl en14 (g_r14_Copy_w (A := A) (⟨_, _, _, _, rfl, (hrp0_0.ext RGPlan.mono hS.x), (hrp0_1.ext (Flat.mono _) hS.x), (hrp0_2.ext (Flat.mono _) hS.x), (hrp0_3.ext (Flat.mono _) hS.x)⟩ : RGConfig _ [.int .i64 a0.C.Ticks, vp0_0, vp0_1, vp0_2, vp0_3, .int .i64 a0.C.Tries] a0.C) hr545) rfl (fun v w hv => .inl (ChgF.of_ext (by obtain ⟨_, _, _, _, _, hE0⟩ := hv; exact hE0.x))) ?_
        clear H; intro x594 w592 hv; clear a; intro a H; obtain ⟨u584, u585, u586, u587, rfl, hE593⟩ := hv
        replace hS := hS.new hE593; simp only [List.cons_append, List.nil_append] at hS
        replace hW := Nat.le_trans hW hE593.x.size
        replace hS := hS.pick 4 rfl; dsimp only [List.eraseIdx] at hS
        replace hm := chkS hm; obtain ⟨hk595, hm⟩ := hm
        refine k_app (e := eF) 6 H rfl rfl rfl Tryd.underlying28 Tryd.underlying28 (by simp) el4 (hS.own 0 rfl) ((hrp0_9.ext (Flat.mono _) hS.x).src (fun _ _ => rfl)) eF_one hk595 (by simp only [maxLen]; omega) rfl (by kernel_rfl) (.inl (fun c hc h => absurd ((show c = b582 from List.mem_singleton.1 hc) ▸ h) (Nat.not_lt.2 hge_b582))) ?_
        clear H; intro v598 w596 hN hC597 hb; clear a; intro a H; replace hS := hS.setOwn hN hC597 hb; clear hN hb
        replace hW := Nat.le_trans hW hC597.size
        replace hm := bindS hm; obtain ⟨r600, hr600, hm⟩ := hm
        refine k_of_kk 9 (by kernel_rfl) ?_
        refine kk_call 9 H rfl rfl en15 (g_law14_copied_w (A := A) (hrp0_10.ext (RSl.mono _ _) hS.x) hr600) rfl (fun v w hv => .inl (ChgF.of_ext (by obtain ⟨_, _, hE0⟩ := hv; exact hE0.x))) ?_
        clear H; intro u601 w603 hv; clear a; intro a H; obtain ⟨_, rfl, hE604⟩ := hv
        replace hS := hS.new hE604; simp only [List.cons_append, List.nil_append] at hS
        replace hW := Nat.le_trans hW hE604.x.size
        replace hm := bindS hm; obtain ⟨r606, hr606, hm⟩ := hm
        refine k_of_kk 10 (by kernel_rfl) ?_
        refine kk_call 10 H rfl rfl en13 (g_frame_Carry_w (A := A) (hG.ext hS.x) (⟨_, _, _, _, rfl, (hS.deepSl 2 rfl), ((hS.own 3 rfl).slr rfl (fun _ _ => rfl)), ((hS.own 4 rfl).slr rfl (fun _ _ => rfl)), ((hS.own 5 rfl).slr rfl (fun _ _ => rfl))⟩ : RGConfig _ [.int .i64 r545.Ticks, u584, u585, u586, u587, .int .i64 r545.Tries] r545) ((hS.own 1 rfl).slr rfl (fun _ _ => rfl)) (hS.nestSl 0 rfl (rowR_R (E := 50) (k := 2) (e := eGMsg) (fun _ _ => rfl))) hr606) rfl (fun v w hv => .inl (ChgF.of_ext (by obtain ⟨_, _, _, hE0⟩ := hv; exact hE0.x))) ?_
        clear H; intro x613 w611 hv; clear a; intro a H; obtain ⟨u607, u608, rfl, hE612⟩ := hv
        replace hS := hS.new hE612; simp only [List.cons_append, List.nil_append] at hS
        replace hW := Nat.le_trans hW hE612.x.size
        refine k_takeT 11 H rfl (q_move rfl) rfl (by kernel_rfl) (by kernel_rfl) (by kernel_rfl) (by kernel_rfl) (fun _ _ _ h => h) ?_; clear H a; intro a H
        refine k_takeT 12 H rfl (q_extract rfl rfl) rfl (by kernel_rfl) (by kernel_rfl) (by kernel_rfl) (by kernel_rfl) (fun _ _ _ h => h) ?_; clear H a; intro a H
        refine k_takeT 13 H rfl (q_extract rfl rfl) rfl (by kernel_rfl) (by kernel_rfl) (by kernel_rfl) (by kernel_rfl) (fun _ _ _ h => h) ?_; clear H a; intro a H
        refine k_takeT 14 H rfl (q_assign rfl) rfl (by kernel_rfl) (by kernel_rfl) (by kernel_rfl) (by kernel_rfl) (fun _ _ _ h => h) ?_; clear H a; intro a H
        refine k_takeT 15 H rfl (q_assign rfl) rfl (by kernel_rfl) (by kernel_rfl) (by kernel_rfl) (by kernel_rfl) (fun _ _ _ h => h) ?_; clear H a; intro a H
        refine k_done (by kernel_rfl) ?_
        refine then_normal ?_
        obtain rfl := Option.some.inj hm; replace hm := hm35; try dsimp only at hm
        replace hS := hS.pick 1 rfl; dsimp only [List.eraseIdx] at hS
        replace hS := hS.pick 1 rfl; dsimp only [List.eraseIdx] at hS
        replace hS := hS.pick 8 rfl; dsimp only [List.eraseIdx] at hS
        replace hS := hS.take 3; simp only [List.take_succ_cons, List.take_zero] at hS
        exact join (r606.1, r606.2, u607, u608) H ⟨rfl, rfl, rfl, rfl, trivial⟩ ⟨hm, hS⟩
    · clear H hS hm a; intro xx a w614 H hR
      obtain ⟨l536, e539, v537, u540⟩ := xx
      simp only [ent, List.map_cons, List.map_nil] at H; (try dsimp only at hR); obtain ⟨hm, hS⟩ := hR; try dsimp only [g_law14_FrameCarries_J4] at hm
      refine wp_seq ?_
      replace hm := bindS hm; obtain ⟨j615, hm, hm615⟩ := hm
      refine c_join (σ := Bool) H (fun q1116 => [(3, u30), (5, v537), (44, .bool q1116)]) (fun q1116 wl => (g_law14_FrameCarries_J3 r29 l536) q1116 = some r ∧ St NB w wl [nestR 43 1 (rowR 50 2 eGMsg) u30 r29.1, nestR 43 1 (rowR 50 2 eGMsg) v537 l536]) ?_ ?_
      · skip
        refine wp_region_lit (n_q H (q_move rfl) rfl (W_q (q_move rfl) rfl ?_)); clear H a; intro a H
        replace hm := bindS hm; obtain ⟨r1117, hr1117, hm⟩ := hm
        refine n_call H rfl en16 (g_law14_same_w (A := A) (hG.ext hS.x) (hH.ext hS.x) (hS.any 2 rfl : IsE A w614 u540 e539) hr1117) rfl ?_
        clear H; intro x1120 w1118 hv; clear a; intro a H; obtain ⟨rfl, hE1119⟩ := hv
        replace hS := hS.ext hE1119
        refine n_q H (q_not rfl) rfl (W_q (q_move rfl) rfl ?_); clear H a; intro a H
        rcases Bool.eq_false_or_eq_true (!r1117) with hg1121 | hg1121
        · replace H := H.know 38 rfl hg1121
          replace hm := condT hm hg1121
          refine n_no H rfl rfl (by decide) rfl (W_no rfl rfl (by decide) rfl (W_no rfl rfl (by decide) rfl (W_no rfl rfl (by decide) rfl (W_no rfl rfl (by decide) rfl (W_q (q_pickT rfl rfl) rfl ?_))))); clear H a; intro a H
          refine n_nil (then_normal ?_)
          obtain rfl := Option.some.inj hm; replace hm := hm615; try dsimp only at hm
          replace hS := hS.take 2; simp only [List.take_succ_cons, List.take_zero] at hS
          exact join true H ⟨rfl, rfl, rfl, trivial⟩ ⟨hm, hS⟩
        · replace H := H.know 38 rfl hg1121
          replace hm := condF hm hg1121
          refine n_yes H rfl rfl (n_q H (q_move rfl) rfl (W_yes rfl rfl ?_)); clear H a; intro a H
          obtain ⟨A1122, c1122, hv1122, hl1122, hm1122⟩ := SlR.formV (hS.nestSl 1 rfl (rowR_R (E := 50) (k := 2) (e := eGMsg) (fun _ _ => rfl)))
          refine n_q H (q_lenV Tryd.underlying29 rfl hv1122) rfl (W_yes rfl rfl (W_q (q_move rfl) rfl (W_yes rfl rfl ?_))); clear H a; intro a H
          obtain ⟨A1123, c1123, hv1123, hl1123, hm1123⟩ := SlR.formV (hS.nestSl 0 rfl (rowR_R (E := 50) (k := 2) (e := eGMsg) (fun _ _ => rfl)))
          refine n_q H (q_lenV Tryd.underlying29 rfl hv1123) rfl (W_yes rfl rfl (W_q (q_neqN (i := l536.length) (j := r29.1.length) rfl rfl) rfl (W_q (q_pickF rfl rfl) rfl ?_))); clear H a; intro a H
          refine n_nil (then_normal ?_)
          obtain rfl := Option.some.inj hm; replace hm := hm615; try dsimp only at hm
          replace hS := hS.take 2; simp only [List.take_succ_cons, List.take_zero] at hS
          exact join (!decide (l536.length = r29.1.length)) H ⟨rfl, rfl, rfl, trivial⟩ ⟨hm, hS⟩
      · clear H hS hm a; intro q1116 a w1124 H hR
        simp only [ent, List.map_cons, List.map_nil] at H; (try dsimp only at hR); obtain ⟨hm, hS⟩ := hR; try dsimp only [g_law14_FrameCarries_J3] at hm
        refine c_cond H rfl (fun hc1125 => ?_) (fun hc1125 => ?_)
        · replace hm := condT hm hc1125
          refine wp_seq (wp_region_lit (n_q H (q_assign rfl) rfl ?_)); clear H a; intro a H
          refine n_nil (then_normal (wp_ret (then_ret ?_)))
          obtain rfl := Option.some.inj hm
          replace hS := hS.take 0; simp only [List.take_succ_cons, List.take_zero] at hS
          refine ret1 H (.inr rfl) rfl rfl ?_
          exact ⟨rfl, hS.x⟩
        · replace hm := condF hm hc1125
          refine wp_skip (then_normal (wp_seq (wp_seq (wp_region_lit (n_q H (q_assign rfl) rfl ?_))))); clear H a; intro a H
          refine n_nil (then_normal (wp_block ?_))
          replace hm := bindS hm; obtain ⟨q1126, hm, hm1126⟩ := hm; replace hm := iter_some hm; obtain ⟨n1126, hm⟩ := hm
          refine c_loop (σ := Nat × Nat) (fun (m, i1127) => [(3, u30), (5, v537), (7, .int .i64 ((i1127 : Nat) : Int))]) (fun (m, i1127) wl => iterN (g_law14_FrameCarries_L2 r29 l536) m i1127 = some q1126 ∧ St NB w wl [nestR 43 1 (rowR 50 2 eGMsg) u30 r29.1, nestR 43 1 (rowR 50 2 eGMsg) v537 l536]) (fun (m, i1127) => m) (n1126, 0) H ⟨rfl, rfl, rfl, trivial⟩ ⟨hm, hS⟩ ?_
          clear H hS hm a; intro xx a w1128 H hR; obtain ⟨m, i1127⟩ := xx; simp only [ent, List.map_cons, List.map_nil] at H; (try dsimp only at hR); obtain ⟨hm, hS⟩ := hR
          replace hm := iterN_step hm; obtain ⟨m1126, o1126, rfl, hm, hn1126⟩ := hm; try dsimp only [g_law14_FrameCarries_L2] at hm
          refine wp_seq (wp_seq (wp_region_lit (n_q H (q_move rfl) rfl (W_q (q_move rfl) rfl ?_)))); clear H a; intro a H
          obtain ⟨A1129, c1129, hv1129, hl1129, hm1129⟩ := SlR.formV (hS.nestSl 1 rfl (rowR_R (E := 50) (k := 2) (e := eGMsg) (fun _ _ => rfl)))
          refine n_q H (q_lenV Tryd.underlying29 rfl hv1129) rfl (W_q (q_lssN (i := i1127) (j := l536.length) rfl rfl) rfl ?_); clear H a; intro a H
          refine n_nil (then_normal (c_cond H rfl (fun hc1130 => ?_) (fun hc1130 => ?_)))
          · replace hm := condT hm hc1130
            have hlt1131 : i1127 < l536.length := of_decide_eq_true hc1130
            refine wp_skip (then_normal (wp_seq (wp_block (wp_seq (c_quiet (by kernel_rfl) (by kernel_rfl) ?_)))))
            refine qq_q H (q_move rfl) rfl ?_; clear H a; intro a H
            refine qq_q H (q_move rfl) rfl ?_; clear H a; intro a H
            replace hm := bindS hm; obtain ⟨x1132, hx1132, hm⟩ := hm
            obtain ⟨adx1132, hAx1132⟩ := SlR.adV (hS.nestSl 1 rfl (rowR_R (E := 50) (k := 2) (e := eGMsg) (fun _ _ => rfl))) hv1129 hx1132
            obtain ⟨csx1132, hclx1132, ⟨vx1132, rfl, hrx1132⟩, hcx1132⟩ := SlR.elV (hS.nestSl 1 rfl (rowR_R (E := 50) (k := 2) (e := eGMsg) (fun _ _ => rfl))) hv1129 hAx1132 hx1132
            refine qq_q H (q_ixV (i := i1127) Tryd.underlying29 sz43 rfl hv1129 hAx1132 rfl (natI hx1132)) rfl ?_; clear H a; intro a H
            refine qq_q H (q_load rfl (LdX.ext (ldElH ag43 hcx1132) Ext.rfl')) rfl ?_; clear H a; intro a H
            refine qq_q H (q_move rfl) rfl ?_; clear H a; intro a H
            refine qq_q H (q_move rfl) rfl ?_; clear H a; intro a H
            obtain ⟨A1133, c1133, hv1133, hl1133, hm1133⟩ := SlR.formV (hS.nestSl 0 rfl (rowR_R (E := 50) (k := 2) (e := eGMsg) (fun _ _ => rfl)))
            replace hm := bindS hm; obtain ⟨x1134, hx1134, hm⟩ := hm
            obtain ⟨adx1134, hAx1134⟩ := SlR.adV (hS.nestSl 0 rfl (rowR_R (E := 50) (k := 2) (e := eGMsg) (fun _ _ => rfl))) hv1133 hx1134
            obtain ⟨csx1134, hclx1134, ⟨vx1134, rfl, hrx1134⟩, hcx1134⟩ := SlR.elV (hS.nestSl 0 rfl (rowR_R (E := 50) (k := 2) (e := eGMsg) (fun _ _ => rfl))) hv1133 hAx1134 hx1134
            refine qq_q H (q_ixV (i := i1127) Tryd.underlying29 sz43 rfl hv1133 hAx1134 rfl (natI hx1134)) rfl ?_; clear H a; intro a H
            refine qq_q H (q_load rfl (LdX.ext (ldElH ag43 hcx1134) Ext.rfl')) rfl ?_; clear H a; intro a H
            replace hm := bindS hm; obtain ⟨r1135, hr1135, hm⟩ := hm
            refine qq_call H rfl en17 (fun w' hw => g_r14_SameMsgs_w (A := A) ((hrx1132.ext (Flat.mono _) Ext.rfl').ext (Flat.mono _) hw) ((hrx1134.ext (Flat.mono _) Ext.rfl').ext (Flat.mono _) hw) hr1135) rfl ?_; clear H a; intro a H
            refine qq_q H (q_not rfl) rfl ?_; clear H a; intro a H
            refine qq_nil ?_; intro w1136 hE1137
            replace hS := hS.ext hE1137
            refine then_normal (c_cond H rfl (fun hc1138 => ?_) (fun hc1138 => ?_))
            · replace hm := condT hm hc1138
              refine wp_seq (wp_region_lit (n_q H (q_assign rfl) rfl ?_)); clear H a; intro a H
              refine n_nil (then_normal (wp_ret (block_ret (then_ret (then_ret (block_ret (then_ret ?_)))))))
              obtain rfl := Option.some.inj hm; have hz : _ = q1126 := hn1126; subst hz; replace hm := hm1126; try dsimp only at hm
              obtain rfl := Option.some.inj hm
              replace hS := hS.take 0; simp only [List.take_succ_cons, List.take_zero] at hS
              refine ret1 H (.inr rfl) rfl rfl ?_
              exact ⟨rfl, hS.x⟩
            · replace hm := condF hm hc1138
              refine wp_skip (block_normal (then_normal (wp_region_lit (n_q H (q_move rfl) rfl (W_q (q_incr (i := i1127) (j := 1) rfl rfl (by omega)) rfl (W_q (q_assign rfl) rfl ?_)))))); clear H a; intro a H
              refine n_nil (then_normal ?_)
              obtain rfl := Option.some.inj hm
              exact round (m1126, i1127 + 1) H ⟨rfl, rfl, rfl, trivial⟩ ⟨hn1126, hS⟩ (Nat.lt_succ_self _)
          · replace hm := condF hm hc1130
            refine wp_exit (then_exit (then_exit (block_exit ?_)))
            obtain rfl := Option.some.inj hm; have hz : _ = q1126 := hn1126; subst hz; replace hm := hm1126; try dsimp only at hm
            refine then_normal (wp_seq (wp_region_lit (n_q H (q_assign rfl) rfl ?_))); clear H a; intro a H
            refine n_nil (then_normal (wp_ret ?_))
            obtain rfl := Option.some.inj hm
            replace hS := hS.take 0; simp only [List.take_succ_cons, List.take_zero] at hS
            refine ret1 H (.inr rfl) rfl rfl ?_
            exact ⟨rfl, hS.x⟩
end Go.Proofs.YtjoihegnjjjdaaaDoor
