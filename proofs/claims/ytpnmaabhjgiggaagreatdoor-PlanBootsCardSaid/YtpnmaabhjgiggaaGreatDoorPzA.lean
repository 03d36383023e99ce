/- Pz (written by wip/tools) -/
import Derived.Test.YtpnmaabhjgiggaaGreatDoorPzD
set_option linter.unusedVariables false
set_option linter.unusedSimpArgs false
set_option maxRecDepth 10000
namespace Go.Proofs.YtpnmaabhjgiggaaGreatDoor
open Go Go.RowKit
theorem ag22 : aggB Tryz.prog 22 = some false := by kernel_rfl
theorem ag23 : aggB Tryz.prog 23 = some false := by kernel_rfl
theorem ag24 : aggB Tryz.prog 24 = some false := by kernel_rfl
theorem ag25 : aggB Tryz.prog 25 = some false := by kernel_rfl
theorem ag27 : aggB Tryz.prog 27 = some true := by kernel_rfl
theorem ag33 : aggB Tryz.prog 33 = some false := by kernel_rfl
theorem ag37 : aggB Tryz.prog 37 = some false := by kernel_rfl
theorem ag39 : aggB Tryz.prog 39 = some true := by kernel_rfl
theorem ag55 : aggB Tryz.prog 55 = some false := by kernel_rfl
theorem ag60 : aggB Tryz.prog 60 = some true := by kernel_rfl
theorem ag62 : aggB Tryz.prog 62 = some true := by kernel_rfl
theorem ag67 : aggB Tryz.prog 67 = some true := by kernel_rfl
theorem ag69 : aggB Tryz.prog 69 = some true := by kernel_rfl
theorem ag78 : aggB Tryz.prog 78 = some true := by kernel_rfl
theorem ag9 : aggB Tryz.prog 9 = some false := by kernel_rfl
theorem bd39 : bdB Tryz.prog 39 = true := by kernel_rfl
theorem pl39 : placesB Tryz.prog 39 = some #[(0, 1), (1, 1), (2, 1), (3, 1), (4, 1), (5, 1), (6, 1), (7, 1), (8, 1), (9, 1)] := by kernel_rfl
theorem bd60 : bdB Tryz.prog 60 = true := by kernel_rfl
theorem pl60 : placesB Tryz.prog 60 = some #[(0, 1), (1, 1), (2, 64)] := by kernel_rfl
theorem bd67 : bdB Tryz.prog 67 = true := by kernel_rfl
theorem pl67 : placesB Tryz.prog 67 = some #[(0, 16), (16, 1), (17, 1), (18, 1), (19, 1), (20, 1)] := by kernel_rfl
theorem bd94 : bdB Tryz.prog 94 = true := by kernel_rfl
theorem pl94 : placesB Tryz.prog 94 = some #[(0, 1), (1, 1)] := by kernel_rfl
theorem el3 : ElemOk Tryz.prog 3 1 8 [.int .i64 0] := ⟨by kernel_rfl, by kernel_rfl, by kernel_rfl, rfl, by decide⟩
theorem el4 : ElemOk Tryz.prog 4 1 1 [.bool false] := ⟨by kernel_rfl, by kernel_rfl, by kernel_rfl, rfl, by decide⟩
theorem el60 : ElemOk Tryz.prog 60 66 80 [.int .i64 0, .bool false, .int .u8 0, .int .u8 0, .int .u8 0, .int .u8 0, .int .u8 0, .int .u8 0, .int .u8 0, .int .u8 0, .int .u8 0, .int .u8 0, .int .u8 0, .int .u8 0, .int .u8 0, .int .u8 0, .int .u8 0, .int .u8 0, .int .u8 0, .int .u8 0, .int .u8 0, .int .u8 0, .int .u8 0, .int .u8 0, .int .u8 0, .int .u8 0, .int .u8 0, .int .u8 0, .int .u8 0, .int .u8 0, .int .u8 0, .int .u8 0, .int .u8 0, .int .u8 0, .int .u8 0, .int .u8 0, .int .u8 0, .int .u8 0, .int .u8 0, .int .u8 0, .int .u8 0, .int .u8 0, .int .u8 0, .int .u8 0, .int .u8 0, .int .u8 0, .int .u8 0, .int .u8 0, .int .u8 0, .int .u8 0, .int .u8 0, .int .u8 0, .int .u8 0, .int .u8 0, .int .u8 0, .int .u8 0, .int .u8 0, .int .u8 0, .int .u8 0, .int .u8 0, .int .u8 0, .int .u8 0, .int .u8 0, .int .u8 0, .int .u8 0, .int .u8 0] := ⟨by kernel_rfl, by kernel_rfl, by kernel_rfl, rfl, by decide⟩
theorem el67 : ElemOk Tryz.prog 67 21 104 [.int .u32 0, .int .u32 0, .int .u32 0, .int .u32 0, .int .u32 0, .int .u32 0, .int .u32 0, .int .u32 0, .int .u32 0, .int .u32 0, .int .u32 0, .int .u32 0, .int .u32 0, .int .u32 0, .int .u32 0, .int .u32 0, .int .u32 0, .int .i64 0, .int .i64 0, .int .i64 0, .int .i64 0] := ⟨by kernel_rfl, by kernel_rfl, by kernel_rfl, rfl, by decide⟩
theorem el76 : ElemOk Tryz.prog 76 2 32 [.slice none 0 0, .int .i64 0] := ⟨by kernel_rfl, by kernel_rfl, by kernel_rfl, rfl, by decide⟩
theorem en14 : entersB Tryz.prog 14 = true := by kernel_rfl
theorem en18 : entersB Tryz.prog 18 = true := by kernel_rfl
theorem en22 : entersB Tryz.prog 22 = true := by kernel_rfl
theorem en23 : entersB Tryz.prog 23 = true := by kernel_rfl
theorem en24 : entersB Tryz.prog 24 = true := by kernel_rfl
theorem en25 : entersB Tryz.prog 25 = true := by kernel_rfl
theorem en46 : entersB Tryz.prog 46 = true := by kernel_rfl
theorem en47 : entersB Tryz.prog 47 = true := by kernel_rfl
theorem en48 : entersB Tryz.prog 48 = true := by kernel_rfl
theorem en71 : entersB Tryz.prog 71 = true := by kernel_rfl
theorem en72 : entersB Tryz.prog 72 = true := by kernel_rfl
theorem en73 : entersB Tryz.prog 73 = true := by kernel_rfl
theorem fo27_0 : fOff Tryz.prog 27 0 = some 0 := by kernel_rfl
theorem fo27_2 : fOff Tryz.prog 27 2 = some 2 := by kernel_rfl
theorem fo27_3 : fOff Tryz.prog 27 3 = some 3 := by kernel_rfl
theorem fo27_4 : fOff Tryz.prog 27 4 = some 4 := by kernel_rfl
theorem fo27_5 : fOff Tryz.prog 27 5 = some 5 := by kernel_rfl
theorem fo27_6 : fOff Tryz.prog 27 6 = some 6 := by kernel_rfl
theorem fo39_3 : fOff Tryz.prog 39 3 = some 3 := by kernel_rfl
theorem fo39_4 : fOff Tryz.prog 39 4 = some 4 := by kernel_rfl
theorem fo39_9 : fOff Tryz.prog 39 9 = some 9 := by kernel_rfl
theorem fo60_2 : fOff Tryz.prog 60 2 = some 2 := by kernel_rfl
theorem fo62_0 : fOff Tryz.prog 62 0 = some 0 := by kernel_rfl
theorem fo62_1 : fOff Tryz.prog 62 1 = some 1 := by kernel_rfl
theorem fo62_2 : fOff Tryz.prog 62 2 = some 2 := by kernel_rfl
theorem fo67_2 : fOff Tryz.prog 67 2 = some 17 := by kernel_rfl
theorem fo69_0 : fOff Tryz.prog 69 0 = some 0 := by kernel_rfl
theorem fo69_1 : fOff Tryz.prog 69 1 = some 1 := by kernel_rfl
theorem fo78_0 : fOff Tryz.prog 78 0 = some 0 := by kernel_rfl
theorem fo78_1 : fOff Tryz.prog 78 1 = some 1 := by kernel_rfl
theorem fo78_2 : fOff Tryz.prog 78 2 = some 2 := by kernel_rfl
theorem fo78_3 : fOff Tryz.prog 78 3 = some 3 := by kernel_rfl
theorem sz25 : sizeB Tryz.prog 25 = some 1 := by kernel_rfl
theorem sz27 : sizeB Tryz.prog 27 = some 7 := by kernel_rfl
theorem sz3 : sizeB Tryz.prog 3 = some 1 := by kernel_rfl
theorem sz33 : sizeB Tryz.prog 33 = some 1 := by kernel_rfl
theorem sz37 : sizeB Tryz.prog 37 = some 1 := by kernel_rfl
theorem sz39 : sizeB Tryz.prog 39 = some 10 := by kernel_rfl
theorem sz55 : sizeB Tryz.prog 55 = some 1 := by kernel_rfl
theorem sz60 : sizeB Tryz.prog 60 = some 66 := by kernel_rfl
theorem sz62 : sizeB Tryz.prog 62 = some 3 := by kernel_rfl
theorem sz67 : sizeB Tryz.prog 67 = some 21 := by kernel_rfl
theorem sz69 : sizeB Tryz.prog 69 = some 2 := by kernel_rfl
theorem sz78 : sizeB Tryz.prog 78 = some 4 := by kernel_rfl
theorem ze3 : zeroB Tryz.prog 3 = some [.int .i64 0] := by kernel_rfl
theorem ze39 : zeroB Tryz.prog 39 = some [.int .i64 0, .int .i64 0, .int .i64 0, .slice none 0 0, .slice none 0 0, .slice none 0 0, .slice none 0 0, .slice none 0 0, .slice none 0 0, .slice none 0 0] := by kernel_rfl
theorem ze55 : zeroB Tryz.prog 55 = some [.nilFunc] := by kernel_rfl
theorem ze60 : zeroB Tryz.prog 60 = some [.int .i64 0, .bool false, .int .u8 0, .int .u8 0, .int .u8 0, .int .u8 0, .int .u8 0, .int .u8 0, .int .u8 0, .int .u8 0, .int .u8 0, .int .u8 0, .int .u8 0, .int .u8 0, .int .u8 0, .int .u8 0, .int .u8 0, .int .u8 0, .int .u8 0, .int .u8 0, .int .u8 0, .int .u8 0, .int .u8 0, .int .u8 0, .int .u8 0, .int .u8 0, .int .u8 0, .int .u8 0, .int .u8 0, .int .u8 0, .int .u8 0, .int .u8 0, .int .u8 0, .int .u8 0, .int .u8 0, .int .u8 0, .int .u8 0, .int .u8 0, .int .u8 0, .int .u8 0, .int .u8 0, .int .u8 0, .int .u8 0, .int .u8 0, .int .u8 0, .int .u8 0, .int .u8 0, .int .u8 0, .int .u8 0, .int .u8 0, .int .u8 0, .int .u8 0, .int .u8 0, .int .u8 0, .int .u8 0, .int .u8 0, .int .u8 0, .int .u8 0, .int .u8 0, .int .u8 0, .int .u8 0, .int .u8 0, .int .u8 0, .int .u8 0, .int .u8 0, .int .u8 0] := by kernel_rfl
theorem ze62 : zeroB Tryz.prog 62 = some [.int .i64 0, .int .i64 0, .bool false] := by kernel_rfl
theorem ze67 : zeroB Tryz.prog 67 = some [.int .u32 0, .int .u32 0, .int .u32 0, .int .u32 0, .int .u32 0, .int .u32 0, .int .u32 0, .int .u32 0, .int .u32 0, .int .u32 0, .int .u32 0, .int .u32 0, .int .u32 0, .int .u32 0, .int .u32 0, .int .u32 0, .int .u32 0, .int .i64 0, .int .i64 0, .int .i64 0, .int .i64 0] := by kernel_rfl
theorem ze69 : zeroB Tryz.prog 69 = some [.int .i64 0, .string ⟨#[]⟩] := by kernel_rfl
theorem ze78 : zeroB Tryz.prog 78 = some [.int .i64 0, .int .i64 0, .int .i64 0, .int .i64 0] := by kernel_rfl
theorem ze94 : zeroB Tryz.prog 94 = some [.int .i64 0, .nilIface] := by kernel_rfl

theorem g_plan_at_w {w : World} {A : Nat → Addr} {a0 : Int} {v1 : Value} {a1 : ErrM} (h1 : IsE A w v1 a1) {r : ErrM} (hm : g_plan_at a0 a1 = some r) :
    Calls Tryz.prog 47 [.int .i64 a0, v1].toArray w (Ret fun u w' => ∃ h_0, u = h_0 ∧ St NB w w' [erQ A h_0 r]) := by
  have hS := St.begin NB w
  unfold g_plan_at at hm
  refine enter Tryz.func47 rfl rfl rfl ?_; intro a H; dsimp only [enumL, Nat.zero_add, Nat.reduceAdd] at H
  refine wp_seq (wp_region_lit (n_q H (q_assign rfl) rfl ?_)); clear H a; intro a H
  refine n_nil (then_normal (wp_seq (wp_region_lit (n_q H (q_move rfl) rfl (W_q (q_move rfl) rfl (W_q (q_build (cs := [.int .i64 a0, v1]) ze94 bd94 pl94 rfl ((fill1 rfl rfl (by simp)).trans ((fill1 (IsErr.ext h1 hS.x).one rfl (by simp)).trans rfl))) rfl ?_)))))); clear H a; intro a H
  refine n_box H rfl (cs := [.int .i64 a0, v1]) rfl rfl ?_
  clear H; intro b21 w22 hN hE23 hs; clear a; intro a H
  replace hS := hS.newBlk hN hE23 hs; clear hN hs
  replace hm := bindS hm; obtain ⟨r24, hr24, hm⟩ := hm
  have hIr24 := (IsErr.ext h1 hS.x)
  refine n_q H (q_makeInterface Tryz.underlying90 (by simp) rfl) rfl ?_; clear H a; intro a H
  replace hS := hS.dAtE hIr24 hr24
  refine n_q H (q_assign rfl) rfl ?_; clear H a; intro a H
  refine n_nil (then_normal (wp_ret ?_))
  obtain rfl := Option.some.inj hm
  refine ret1 H (.inr rfl) rfl rfl ?_
  exact ⟨_, rfl, hS⟩
theorem g_plan_checkPages_w {w : World} {A : Nat → Addr} {cs0 : List Value} {a0 : GPlan} (hG : EV A w) (h0 : RGPlan w cs0 a0) {r : ErrM} (hm : g_plan_checkPages a0 = some r) :
    Calls Tryz.prog 23 [.agg cs0.toArray].toArray w (Ret fun u w' => ∃ h_0, u = h_0 ∧ St NB w w' [erQ A h_0 r]) := by
  obtain ⟨vp0_0, vp0_1, vp0_2, vp0_3, rfl, hrp0_0, hrp0_1, hrp0_2, hrp0_3⟩ := h0
  have hS := St.begin NB w
  unfold g_plan_checkPages at hm
  refine enter Tryz.func23 rfl rfl rfl ?_; intro a H; dsimp only [enumL, Nat.zero_add, Nat.reduceAdd] at H
  refine wp_seq (wp_region_lit (n_box H rfl (cs := [.int .i64 a0.Id, .bool a0.Mobile, vp0_0, vp0_1, vp0_2, .int .i64 a0.Events, vp0_3]) rfl rfl ?_))
  clear H; intro b21 w22 hN hE23 hs; clear a; intro a H
  replace hS := hS.newBlk hN hE23 hs; clear hN hs
  refine n_q H (q_assign rfl) rfl ?_; clear H a; intro a H
  refine n_nil (then_normal (wp_seq (wp_seq (wp_region_lit (n_c H (fun HC => ?_)))))); clear H
  refine nc_q HC (q_fieldAddr0 rfl fo27_2) rfl (by kernel_rfl) (V_q (q_load rfl ((hS.blk 0 rfl).ld ag22 rfl)) rfl (by kernel_rfl) ?_); clear HC a; intro a HC
  obtain ⟨A24, c24, hv24, hl24, hm24⟩ := SlR.formV (hrp0_0.ext (Flat.mono _) hS.x)
  refine nc_q HC (q_lenV Tryz.underlying22 rfl hv24) rfl (by kernel_rfl) (V_q (q_lssN (i := a0.Pages.length) (j := 1) rfl rfl) rfl (by kernel_rfl) (V_q (q_move rfl) rfl (by kernel_rfl) (V_g (q_fieldAddr0 rfl fo27_2) (by kernel_rfl) (by kernel_rfl) (by kernel_rfl) (V_g (q_load rfl ((hS.blk 0 rfl).ld ag22 rfl)) (by kernel_rfl) (by kernel_rfl) (by kernel_rfl) (V_g (q_lenV Tryz.underlying22 rfl hv24) (by kernel_rfl) (by kernel_rfl) (by kernel_rfl) (V_g (q_gtrN (i := a0.Pages.length) (j := 32) rfl rfl) (by kernel_rfl) (by kernel_rfl) (by kernel_rfl) (V_or (j := 4) rfl rfl rfl (by kernel_rfl) (by kernel_rfl) ?_))))))); clear HC a; intro a HC
  have H := HC.has; clear HC
  refine n_nil (then_normal (c_cond H rfl (fun hc25 => ?_) (fun hc25 => ?_)))
  · replace hm := condT hm hc25
    refine wp_seq (wp_region_lit (n_q H (q_load rfl ((hG.ext hS.x).ld gSize (by decide) ag41)) rfl (W_q (q_assign rfl) rfl ?_))); clear H a; intro a H
    refine n_nil (then_normal (wp_ret (then_ret ?_)))
    obtain rfl := Option.some.inj hm
    replace hS := hS.dVar (A := A) (g := gSize) (by decide)
    replace hS := hS.tk1
    refine ret1 H (.inr rfl) rfl rfl ?_
    exact ⟨_, rfl, hS⟩
  · replace hm := condF hm hc25
    refine wp_skip (then_normal (wp_seq (wp_seq (wp_region_lit (n_q H (q_fieldAddr0 rfl fo27_2) rfl (W_q (q_load rfl ((hS.blk 0 rfl).ld ag22 rfl)) rfl (W_q (q_lenV Tryz.underlying22 rfl hv24) rfl (W_q (q_move rfl) rfl ?_)))))))); clear H a; intro a H
    refine n_nil (then_normal (wp_block ?_))
    replace hS := hS.tk0
    replace hm := bindS hm; obtain ⟨q27, hm, hm27⟩ := hm; replace hm := iter_some hm; obtain ⟨n27, hm⟩ := hm
    refine c_loop (σ := Nat × Nat) (fun (m, i28) => [(17, vp0_0), (18, .int .i64 ((a0.Pages.length : Nat) : Int)), (19, .int .i64 ((i28 : Nat) : Int))]) (fun (m, i28) wl => iterN (g_plan_checkPages_L1 a0) m i28 = some q27 ∧ St NB w wl []) (fun (m, i28) => m) (n27, 0) H ⟨rfl, rfl, rfl, trivial⟩ ⟨hm, hS⟩ ?_
    clear H hS hm a; intro xx a w29 H hR; obtain ⟨m, i28⟩ := xx; simp only [ent, List.map_cons, List.map_nil] at H; (try dsimp only at hR); obtain ⟨hm, hS⟩ := hR
    replace hm := iterN_step hm; obtain ⟨m27, o27, rfl, hm, hn27⟩ := hm; try dsimp only [g_plan_checkPages_L1] at hm
    refine wp_seq (wp_region_lit (n_q H (q_lssN (i := i28) (j := a0.Pages.length) rfl rfl) rfl ?_)); clear H a; intro a H
    refine n_nil (then_normal (wp_seq (c_cond H rfl (fun hc30 => ?_) (fun hc30 => ?_))))
    · replace hm := condT hm hc30
      have hlt31 : i28 < a0.Pages.length := of_decide_eq_true hc30
      refine wp_skip (then_normal (wp_seq (wp_block (wp_seq (wp_region_lit (n_q H (q_move rfl) rfl ?_)))))); clear H a; intro a H
      replace hm := bindS hm; obtain ⟨x32, hx32, hm⟩ := hm
      obtain ⟨adx32, hAx32⟩ := SlR.adV (hrp0_0.ext (Flat.mono _) hS.x) hv24 hx32
      refine n_q H (q_ixV (i := i28) Tryz.underlying22 sz69 rfl hv24 hAx32 rfl (natI hx32)) rfl (W_q (q_load rfl (SlR.ldAggV (hrp0_0.ext (Flat.mono _) hS.x) hv24 hAx32 ag69 sz69 hx32)) rfl ?_); clear H a; intro a H
      refine n_alloc H ze69 rfl ?_
      clear H; intro b33 w34 hN hE35 hs; clear a; intro a H
      replace hS := hS.newBlk hN hE35 hs; clear hN hs
      refine n_q H (q_assign rfl) rfl ?_; clear H a; intro a H
      refine n_storeAll H rfl rfl (vs := [.int .i64 x32.Rights, .string x32.Init]) rfl sz69 (hS.blk 0 rfl) rfl (by simp) ?_
      clear H; intro w36 hN hC37 hz; clear a; intro a H; replace hS := hS.setBlk hN hC37; clear hN hz
      refine n_nil (then_normal (wp_seq (wp_seq (wp_region_lit (n_c H (fun HC => ?_)))))); clear H
      refine nc_q HC (q_fieldAddr0 rfl fo69_0) rfl (by kernel_rfl) (V_q (q_load rfl ((hS.blk 0 rfl).ld ag3 rfl)) rfl (by kernel_rfl) (V_q (q_lss rfl rfl) rfl (by kernel_rfl) (V_q (q_move rfl) rfl (by kernel_rfl) (V_g (q_fieldAddr0 rfl fo69_0) (by kernel_rfl) (by kernel_rfl) (by kernel_rfl) (V_g (q_load rfl ((hS.blk 0 rfl).ld ag3 rfl)) (by kernel_rfl) (by kernel_rfl) (by kernel_rfl) (V_g (q_gtr rfl rfl) (by kernel_rfl) (by kernel_rfl) (by kernel_rfl) (V_or (j := 3) rfl rfl rfl (by kernel_rfl) (by kernel_rfl) ?_))))))); clear HC a; intro a HC
      have H := HC.has; clear HC
      refine n_nil (then_normal (c_cond H rfl (fun hc38 => ?_) (fun hc38 => ?_)))
      · replace hm := condT hm hc38
        refine wp_seq (wp_region_lit (n_q H (q_move rfl) rfl (W_q (q_load rfl ((hG.ext hS.x).ld gRange (by decide) ag41)) rfl ?_))); clear H a; intro a H
        replace hm := bindS hm; obtain ⟨r39, hr39, hm⟩ := hm
        refine n_call H rfl en47 (g_plan_at_w (A := A) (IsErr.var (by decide) : IsE A w36 _ (.v gRange)) hr39) rfl ?_
        clear H; intro u40 w42 hv; clear a; intro a H; obtain ⟨_, rfl, hE43⟩ := hv
        replace hS := hS.new hE43; simp only [List.cons_append, List.nil_append] at hS
        refine n_q H (q_assign rfl) rfl ?_; clear H a; intro a H
        refine n_nil (then_normal (wp_ret (then_ret (block_ret (then_ret (then_ret (block_ret (then_ret ?_))))))))
        obtain rfl := Option.some.inj hm; have hz : _ = q27 := hn27; subst hz; replace hm := hm27; try dsimp only at hm
        obtain rfl := Option.some.inj hm
        replace hS := hS.tk1
        refine ret1 H (.inr rfl) rfl rfl ?_
        exact ⟨_, rfl, hS⟩
      · replace hm := condF hm hc38
        refine wp_skip (then_normal (wp_seq (wp_region_lit (n_q H (q_fieldAddr0 rfl fo69_1) rfl (W_q (q_load rfl ((hS.blk 0 rfl).ld ag9 rfl)) rfl (W_q (q_lenS Tryz.underlying9 rfl) rfl (W_q (q_gtrN (i := x32.Init.size) (j := 64) rfl rfl) rfl ?_))))))); clear H a; intro a H
        refine n_nil (then_normal (c_cond H rfl (fun hc45 => ?_) (fun hc45 => ?_)))
        · replace hm := condT hm hc45
          refine wp_seq (wp_region_lit (n_q H (q_move rfl) rfl (W_q (q_load rfl ((hG.ext hS.x).ld gLength (by decide) ag41)) rfl ?_))); clear H a; intro a H
          replace hm := bindS hm; obtain ⟨r46, hr46, hm⟩ := hm
          refine n_call H rfl en47 (g_plan_at_w (A := A) (IsErr.var (by decide) : IsE A w36 _ (.v gLength)) hr46) rfl ?_
          clear H; intro u47 w49 hv; clear a; intro a H; obtain ⟨_, rfl, hE50⟩ := hv
          replace hS := hS.new hE50; simp only [List.cons_append, List.nil_append] at hS
          refine n_q H (q_assign rfl) rfl ?_; clear H a; intro a H
          refine n_nil (then_normal (wp_ret (block_ret (then_ret (then_ret (block_ret (then_ret ?_)))))))
          obtain rfl := Option.some.inj hm; have hz : _ = q27 := hn27; subst hz; replace hm := hm27; try dsimp only at hm
          obtain rfl := Option.some.inj hm
          replace hS := hS.tk1
          refine ret1 H (.inr rfl) rfl rfl ?_
          exact ⟨_, rfl, hS⟩
        · replace hm := condF hm hc45
          refine wp_skip (block_normal (then_normal (wp_region_lit (n_q H (q_incr (i := i28) (j := 1) rfl rfl (by omega)) rfl (W_q (q_move rfl) rfl ?_))))); clear H a; intro a H
          refine n_nil (then_normal ?_)
          obtain rfl := Option.some.inj hm
          replace hS := hS.tk0
          exact round (m27, i28 + 1) H ⟨rfl, rfl, rfl, trivial⟩ ⟨hn27, hS⟩ (Nat.lt_succ_self _)
    · replace hm := condF hm hc30
      refine wp_exit (then_exit (then_exit (block_exit ?_)))
      obtain rfl := Option.some.inj hm; have hz : _ = q27 := hn27; subst hz; replace hm := hm27; try dsimp only at hm
      refine then_normal (wp_seq (wp_region_lit (n_q H (q_assign rfl) rfl ?_))); clear H a; intro a H
      refine n_nil (then_normal (wp_ret ?_))
      obtain rfl := Option.some.inj hm
      replace hS := hS.dNil (A := A)
      refine ret1 H (.inr rfl) rfl rfl ?_
      exact ⟨_, rfl, hS⟩
theorem g_plan_checkProcs_w {w : World} {A : Nat → Addr} {cs0 : List Value} {a0 : GPlan} (hG : EV A w) (h0 : RGPlan w cs0 a0) {r : ErrM} (hm : g_plan_checkProcs a0 = some r) :
    Calls Tryz.prog 24 [.agg cs0.toArray].toArray w (Ret fun u w' => ∃ h_0, u = h_0 ∧ St NB w w' [erQ A h_0 r]) := by
  obtain ⟨vp0_0, vp0_1, vp0_2, vp0_3, rfl, hrp0_0, hrp0_1, hrp0_2, hrp0_3⟩ := h0
  have hS := St.begin NB w
  unfold g_plan_checkProcs at hm
  refine enter Tryz.func24 rfl rfl rfl ?_; intro a H; dsimp only [enumL, Nat.zero_add, Nat.reduceAdd] at H
  refine wp_seq (wp_region_lit (n_box H rfl (cs := [.int .i64 a0.Id, .bool a0.Mobile, vp0_0, vp0_1, vp0_2, .int .i64 a0.Events, vp0_3]) rfl rfl ?_))
  clear H; intro b21 w22 hN hE23 hs; clear a; intro a H
  replace hS := hS.newBlk hN hE23 hs; clear hN hs
  refine n_q H (q_assign rfl) rfl ?_; clear H a; intro a H
  refine n_nil (then_normal (wp_seq (wp_seq (wp_region_lit (n_c H (fun HC => ?_)))))); clear H
  refine nc_q HC (q_fieldAddr0 rfl fo27_3) rfl (by kernel_rfl) (V_q (q_load rfl ((hS.blk 0 rfl).ld ag23 rfl)) rfl (by kernel_rfl) ?_); clear HC a; intro a HC
  obtain ⟨A24, c24, hv24, hl24, hm24⟩ := SlR.formV (hrp0_1.ext (Flat.mono _) hS.x)
  refine nc_q HC (q_lenV Tryz.underlying23 rfl hv24) rfl (by kernel_rfl) (V_q (q_lssN (i := a0.Procs.length) (j := 1) rfl rfl) rfl (by kernel_rfl) (V_q (q_move rfl) rfl (by kernel_rfl) (V_g (q_fieldAddr0 rfl fo27_3) (by kernel_rfl) (by kernel_rfl) (by kernel_rfl) (V_g (q_load rfl ((hS.blk 0 rfl).ld ag23 rfl)) (by kernel_rfl) (by kernel_rfl) (by kernel_rfl) (V_g (q_lenV Tryz.underlying23 rfl hv24) (by kernel_rfl) (by kernel_rfl) (by kernel_rfl) (V_g (q_gtrN (i := a0.Procs.length) (j := 8) rfl rfl) (by kernel_rfl) (by kernel_rfl) (by kernel_rfl) (V_or (j := 4) rfl rfl rfl (by kernel_rfl) (by kernel_rfl) ?_))))))); clear HC a; intro a HC
  have H := HC.has; clear HC
  refine n_nil (then_normal (c_cond H rfl (fun hc25 => ?_) (fun hc25 => ?_)))
  · replace hm := condT hm hc25
    refine wp_seq (wp_region_lit (n_q H (q_load rfl ((hG.ext hS.x).ld gSize (by decide) ag41)) rfl (W_q (q_assign rfl) rfl ?_))); clear H a; intro a H
    refine n_nil (then_normal (wp_ret (then_ret ?_)))
    obtain rfl := Option.some.inj hm
    replace hS := hS.dVar (A := A) (g := gSize) (by decide)
    replace hS := hS.tk1
    refine ret1 H (.inr rfl) rfl rfl ?_
    exact ⟨_, rfl, hS⟩
  · replace hm := condF hm hc25
    refine wp_skip (then_normal (wp_seq (wp_seq (wp_region_lit (n_q H (q_fieldAddr0 rfl fo27_3) rfl (W_q (q_load rfl ((hS.blk 0 rfl).ld ag23 rfl)) rfl (W_q (q_lenV Tryz.underlying23 rfl hv24) rfl (W_q (q_move rfl) rfl ?_)))))))); clear H a; intro a H
    refine n_nil (then_normal (wp_block ?_))
    replace hm := bindS hm; obtain ⟨q27, hm, hm27⟩ := hm; replace hm := iter_some hm; obtain ⟨n27, hm⟩ := hm
    refine c_loop (σ := Nat × Nat) (fun (m, i28) => [(1, .pointer (some ⟨b21, 0, none⟩)), (17, vp0_1), (18, .int .i64 ((a0.Procs.length : Nat) : Int)), (19, .int .i64 ((i28 : Nat) : Int))]) (fun (m, i28) wl => iterN (g_plan_checkProcs_L7 a0) m i28 = some q27 ∧ St NB w wl [blkR b21 [.int .i64 a0.Id, .bool a0.Mobile, vp0_0, vp0_1, vp0_2, .int .i64 a0.Events, vp0_3] 27]) (fun (m, i28) => m) (n27, 0) H ⟨rfl, rfl, rfl, rfl, trivial⟩ ⟨hm, hS⟩ ?_
    clear H hS hm a; intro xx a w29 H hR; obtain ⟨m, i28⟩ := xx; simp only [ent, List.map_cons, List.map_nil] at H; (try dsimp only at hR); obtain ⟨hm, hS⟩ := hR
    replace hm := iterN_step hm; obtain ⟨m27, o27, rfl, hm, hn27⟩ := hm; try dsimp only [g_plan_checkProcs_L7] at hm
    refine wp_seq (wp_region_lit (n_q H (q_lssN (i := i28) (j := a0.Procs.length) rfl rfl) rfl ?_)); clear H a; intro a H
    refine n_nil (then_normal (wp_seq (c_cond H rfl (fun hc30 => ?_) (fun hc30 => ?_))))
    · replace hm := condT hm hc30
      have hlt31 : i28 < a0.Procs.length := of_decide_eq_true hc30
      refine wp_skip (then_normal (wp_seq (wp_block (wp_seq (wp_region_lit (n_q H (q_move rfl) rfl ?_)))))); clear H a; intro a H
      replace hm := bindS hm; obtain ⟨x32, hx32, hm⟩ := hm
      obtain ⟨adx32, hAx32⟩ := SlR.adV (hrp0_1.ext (Flat.mono _) hS.x) hv24 hx32
      refine n_q H (q_ixV (i := i28) Tryz.underlying23 sz62 rfl hv24 hAx32 rfl (natI hx32)) rfl (W_q (q_load rfl (SlR.ldAggV (hrp0_1.ext (Flat.mono _) hS.x) hv24 hAx32 ag62 sz62 hx32)) rfl ?_); clear H a; intro a H
      refine n_alloc H ze62 rfl ?_
      clear H; intro b33 w34 hN hE35 hs; clear a; intro a H
      replace hS := hS.newBlk hN hE35 hs; clear hN hs
      refine n_q H (q_assign rfl) rfl ?_; clear H a; intro a H
      refine n_storeAll H rfl rfl (vs := [.int .i64 x32.Entry, .int .i64 x32.Prio, .bool x32.Auto]) rfl sz62 (hS.blk 0 rfl) rfl (by simp) ?_
      clear H; intro w36 hN hC37 hz; clear a; intro a H; replace hS := hS.setBlk hN hC37; clear hN hz
      refine n_nil (then_normal ?_)
      replace hm := bindS hm; obtain ⟨j38, hm, hm38⟩ := hm
      refine c_join (σ := Bool) H (fun q539 => [(1, .pointer (some ⟨b21, 0, none⟩)), (3, .int .i64 ((i28 : Nat) : Int)), (17, vp0_1), (18, .int .i64 ((a0.Procs.length : Nat) : Int)), (19, .int .i64 ((i28 : Nat) : Int)), (51, .bool q539)]) (fun q539 wl => (g_plan_checkProcs_J6 i28) q539 = some o27 ∧ St NB w wl [blkR b21 [.int .i64 a0.Id, .bool a0.Mobile, vp0_0, vp0_1, vp0_2, .int .i64 a0.Events, vp0_3] 27]) ?_ ?_
      · skip
        refine wp_region_lit (n_q H (q_fieldAddr0 rfl fo62_0) rfl (W_q (q_load rfl ((hS.blk 0 rfl).ld ag3 rfl)) rfl (W_q (q_lss rfl rfl) rfl (W_q (q_move rfl) rfl ?_)))); clear H a; intro a H
        rcases Bool.eq_false_or_eq_true (decide (x32.Entry < 0)) with hg540 | hg540
        · replace H := H.know 27 rfl hg540
          replace hm := condT hm hg540
          refine n_no H rfl rfl (by decide) rfl (W_no rfl rfl (by decide) rfl (W_no rfl rfl (by decide) rfl (W_no rfl rfl (by decide) rfl (W_no rfl rfl (by decide) rfl (W_no rfl rfl (by decide) rfl (W_no rfl rfl (by decide) rfl (W_q (q_pickT rfl rfl) rfl (W_q (q_move rfl) rfl (W_no rfl rfl (by decide) rfl (W_no rfl rfl (by decide) rfl (W_no rfl rfl (by decide) rfl ?_))))))))))); clear H a; intro a H
          refine n_no H rfl rfl (by decide) rfl (W_q (q_pickT rfl rfl) rfl (W_q (q_move rfl) rfl (W_no rfl rfl (by decide) rfl (W_no rfl rfl (by decide) rfl (W_no rfl rfl (by decide) rfl (W_q (q_pickT rfl rfl) rfl (W_q (q_move rfl) rfl (W_no rfl rfl (by decide) rfl (W_no rfl rfl (by decide) rfl (W_no rfl rfl (by decide) rfl (W_q (q_pickT rfl rfl) rfl ?_))))))))))); clear H a; intro a H
          refine n_nil (then_normal ?_)
          obtain rfl := Option.some.inj hm; replace hm := hm38; try dsimp only at hm
          replace hS := hS.pk1
          replace hS := hS.tk1
          exact join true H ⟨rfl, rfl, rfl, rfl, rfl, rfl, trivial⟩ ⟨hm, hS⟩
        · replace H := H.know 27 rfl hg540
          replace hm := condF hm hg540
          refine n_yes H rfl rfl (n_q H (q_fieldAddr0 rfl fo62_0) rfl (W_yes rfl rfl (W_q (q_load rfl ((hS.blk 0 rfl).ld ag3 rfl)) rfl (W_yes rfl rfl (W_q (q_fieldAddr0 rfl fo27_2) rfl (W_yes rfl rfl (W_q (q_load rfl ((hS.blk 1 rfl).ld ag22 rfl)) rfl (W_yes rfl rfl ?_)))))))); clear H a; intro a H
          obtain ⟨A541, c541, hv541, hl541, hm541⟩ := SlR.formV (hrp0_0.ext (Flat.mono _) hS.x)
          refine n_q H (q_lenV Tryz.underlying22 rfl hv541) rfl (W_yes rfl rfl (W_q (q_mulW rfl rfl) rfl (W_yes rfl rfl (W_q (q_geq rfl rfl) rfl (W_q (q_pickF rfl rfl) rfl (W_q (q_move rfl) rfl ?_)))))); clear H a; intro a H
          rcases Bool.eq_false_or_eq_true (decide ((IntKind.i64.wrap (64 * ((a0.Pages.length : Nat) : Int))) ≤ x32.Entry)) with hg542 | hg542
          · replace H := H.know 36 rfl hg542
            replace hm := condT hm hg542
            refine n_no H rfl rfl (by decide) rfl (W_no rfl rfl (by decide) rfl (W_no rfl rfl (by decide) rfl (W_no rfl rfl (by decide) rfl (W_q (q_pickT rfl rfl) rfl (W_q (q_move rfl) rfl (W_no rfl rfl (by decide) rfl (W_no rfl rfl (by decide) rfl (W_no rfl rfl (by decide) rfl (W_q (q_pickT rfl rfl) rfl (W_q (q_move rfl) rfl (W_no rfl rfl (by decide) rfl ?_))))))))))); clear H a; intro a H
            refine n_no H rfl rfl (by decide) rfl (W_no rfl rfl (by decide) rfl (W_q (q_pickT rfl rfl) rfl ?_)); clear H a; intro a H
            refine n_nil (then_normal ?_)
            obtain rfl := Option.some.inj hm; replace hm := hm38; try dsimp only at hm
            replace hS := hS.pk1
            replace hS := hS.tk1
            exact join true H ⟨rfl, rfl, rfl, rfl, rfl, rfl, trivial⟩ ⟨hm, hS⟩
          · replace H := H.know 36 rfl hg542
            replace hm := condF hm hg542
            refine n_yes H rfl rfl (n_q H (q_fieldAddr0 rfl fo62_0) rfl (W_yes rfl rfl (W_q (q_load rfl ((hS.blk 0 rfl).ld ag3 rfl)) rfl (W_yes rfl rfl (W_q (q_remW rfl rfl (by decide)) rfl (W_yes rfl rfl (W_q (q_neqD rfl rfl) rfl (W_q (q_pickF rfl rfl) rfl (W_q (q_move rfl) rfl ?_))))))))); clear H a; intro a H
            rcases Bool.eq_false_or_eq_true (!decide ((Int.tmod x32.Entry 4) = 0)) with hg543 | hg543
            · replace H := H.know 42 rfl hg543
              replace hm := condT hm hg543
              refine n_no H rfl rfl (by decide) rfl (W_no rfl rfl (by decide) rfl (W_no rfl rfl (by decide) rfl (W_q (q_pickT rfl rfl) rfl (W_q (q_move rfl) rfl (W_no rfl rfl (by decide) rfl (W_no rfl rfl (by decide) rfl (W_no rfl rfl (by decide) rfl (W_q (q_pickT rfl rfl) rfl ?_)))))))); clear H a; intro a H
              refine n_nil (then_normal ?_)
              obtain rfl := Option.some.inj hm; replace hm := hm38; try dsimp only at hm
              replace hS := hS.pk1
              replace hS := hS.tk1
              exact join true H ⟨rfl, rfl, rfl, rfl, rfl, rfl, trivial⟩ ⟨hm, hS⟩
            · replace H := H.know 42 rfl hg543
              replace hm := condF hm hg543
              refine n_yes H rfl rfl (n_q H (q_fieldAddr0 rfl fo62_1) rfl (W_yes rfl rfl (W_q (q_load rfl ((hS.blk 0 rfl).ld ag3 rfl)) rfl (W_yes rfl rfl (W_q (q_lss rfl rfl) rfl (W_q (q_pickF rfl rfl) rfl (W_q (q_move rfl) rfl ?_))))))); clear H a; intro a H
              rcases Bool.eq_false_or_eq_true (decide (x32.Prio < 0)) with hg544 | hg544
              · replace H := H.know 47 rfl hg544
                replace hm := condT hm hg544
                refine n_no H rfl rfl (by decide) rfl (W_no rfl rfl (by decide) rfl (W_no rfl rfl (by decide) rfl (W_q (q_pickT rfl rfl) rfl ?_))); clear H a; intro a H
                refine n_nil (then_normal ?_)
                obtain rfl := Option.some.inj hm; replace hm := hm38; try dsimp only at hm
                replace hS := hS.pk1
                replace hS := hS.tk1
                exact join true H ⟨rfl, rfl, rfl, rfl, rfl, rfl, trivial⟩ ⟨hm, hS⟩
              · replace H := H.know 47 rfl hg544
                replace hm := condF hm hg544
                refine n_yes H rfl rfl (n_q H (q_fieldAddr0 rfl fo62_1) rfl (W_yes rfl rfl (W_q (q_load rfl ((hS.blk 0 rfl).ld ag3 rfl)) rfl (W_yes rfl rfl (W_q (q_gtr rfl rfl) rfl (W_q (q_pickF rfl rfl) rfl ?_)))))); clear H a; intro a H
                refine n_nil (then_normal ?_)
                obtain rfl := Option.some.inj hm; replace hm := hm38; try dsimp only at hm
                replace hS := hS.pk1
                replace hS := hS.tk1
                exact join (decide (255 < x32.Prio)) H ⟨rfl, rfl, rfl, rfl, rfl, rfl, trivial⟩ ⟨hm, hS⟩
      · clear H hS hm a; intro q539 a w545 H hR
        simp only [ent, List.map_cons, List.map_nil] at H; (try dsimp only at hR); obtain ⟨hm, hS⟩ := hR; try dsimp only [g_plan_checkProcs_J6] at hm
        refine c_cond H rfl (fun hc546 => ?_) (fun hc546 => ?_)
        · replace hm := condT hm hc546
          refine wp_seq (wp_region_lit (n_q H (q_move rfl) rfl (W_q (q_load rfl ((hG.ext hS.x).ld gRange (by decide) ag41)) rfl ?_))); clear H a; intro a H
          replace hm := bindS hm; obtain ⟨r547, hr547, hm⟩ := hm
          refine n_call H rfl en47 (g_plan_at_w (A := A) (IsErr.var (by decide) : IsE A w545 _ (.v gRange)) hr547) rfl ?_
          clear H; intro u548 w550 hv; clear a; intro a H; obtain ⟨_, rfl, hE551⟩ := hv
          replace hS := hS.new hE551; simp only [List.cons_append, List.nil_append] at hS
          refine n_q H (q_assign rfl) rfl ?_; clear H a; intro a H
          refine n_nil (then_normal (wp_ret (block_ret (then_ret (then_ret (block_ret (then_ret ?_)))))))
          obtain rfl := Option.some.inj hm; have hz : _ = q27 := hn27; subst hz; replace hm := hm27; try dsimp only at hm
          obtain rfl := Option.some.inj hm
          replace hS := hS.tk1
          refine ret1 H (.inr rfl) rfl rfl ?_
          exact ⟨_, rfl, hS⟩
        · replace hm := condF hm hc546
          refine wp_skip (block_normal (then_normal (wp_region_lit (n_q H (q_incr (i := i28) (j := 1) rfl rfl (by omega)) rfl (W_q (q_move rfl) rfl ?_))))); clear H a; intro a H
          refine n_nil (then_normal ?_)
          obtain rfl := Option.some.inj hm
          exact round (m27, i28 + 1) H ⟨rfl, rfl, rfl, rfl, trivial⟩ ⟨hn27, hS⟩ (Nat.lt_succ_self _)
    · replace hm := condF hm hc30
      refine wp_exit (then_exit (then_exit (block_exit ?_)))
      obtain rfl := Option.some.inj hm; have hz : _ = q27 := hn27; subst hz; replace hm := hm27; try dsimp only at hm
      refine then_normal (wp_seq (wp_region_lit (n_q H (q_assign rfl) rfl ?_))); clear H a; intro a H
      refine n_nil (then_normal (wp_ret ?_))
      obtain rfl := Option.some.inj hm
      replace hS := hS.dNil (A := A)
      replace hS := hS.tk1
      refine ret1 H (.inr rfl) rfl rfl ?_
      exact ⟨_, rfl, hS⟩
theorem g_port_isOut_w {w : World} {A : Nat → Addr} {a0 : GPortPlan} {r : Bool} (hm : g_port_isOut a0 = some r) :
    Calls Tryz.prog 71 [.agg (eGPortPlan a0).toArray].toArray w (Ret fun u w' => u = .bool r ∧ Ext w w') := by
  have hS := St.begin NB w
  unfold g_port_isOut at hm
  refine enter Tryz.func71 rfl rfl rfl ?_; intro a H; dsimp only [enumL, Nat.zero_add, Nat.reduceAdd] at H
  refine wp_seq (wp_region_lit (n_box H rfl (cs := [.int .i64 a0.Kind, .int .i64 a0.Size, .int .i64 a0.Depth, .int .i64 a0.Refresh]) rfl rfl ?_))
  clear H; intro b21 w22 hN hE23 hs; clear a; intro a H
  replace hS := hS.newBlk hN hE23 hs; clear hN hs
  refine n_q H (q_assign rfl) rfl ?_; clear H a; intro a H
  refine n_nil (then_normal (wp_seq (wp_region_lit (n_c H (fun HC => ?_))))); clear H
  refine nc_q HC (q_fieldAddr0 rfl fo78_0) rfl (by kernel_rfl) (V_q (q_load rfl ((hS.blk 0 rfl).ld ag3 rfl)) rfl (by kernel_rfl) (V_q (q_eqlD rfl rfl) rfl (by kernel_rfl) (V_q (q_move rfl) rfl (by kernel_rfl) (V_g (q_fieldAddr0 rfl fo78_0) (by kernel_rfl) (by kernel_rfl) (by kernel_rfl) (V_g (q_load rfl ((hS.blk 0 rfl).ld ag3 rfl)) (by kernel_rfl) (by kernel_rfl) (by kernel_rfl) (V_g (q_eqlD rfl rfl) (by kernel_rfl) (by kernel_rfl) (by kernel_rfl) (V_or (j := 3) rfl rfl rfl (by kernel_rfl) (by kernel_rfl) (V_q (q_assign rfl) rfl (by kernel_rfl) ?_)))))))); clear HC a; intro a HC
  have H := HC.has; clear HC
  refine n_nil (then_normal (wp_ret ?_))
  obtain rfl := Option.some.inj hm
  replace hS := hS.tk0
  refine ret1 H (.inr rfl) rfl rfl ?_
  exact ⟨rfl, hS.x⟩
theorem g_port_isQueue_w {w : World} {A : Nat → Addr} {a0 : GPortPlan} {r : Bool} (hm : g_port_isQueue a0 = some r) :
    Calls Tryz.prog 72 [.agg (eGPortPlan a0).toArray].toArray w (Ret fun u w' => u = .bool r ∧ Ext w w') := by
  have hS := St.begin NB w
  unfold g_port_isQueue at hm
  refine enter Tryz.func72 rfl rfl rfl ?_; intro a H; dsimp only [enumL, Nat.zero_add, Nat.reduceAdd] at H
  refine wp_seq (wp_region_lit (n_box H rfl (cs := [.int .i64 a0.Kind, .int .i64 a0.Size, .int .i64 a0.Depth, .int .i64 a0.Refresh]) rfl rfl ?_))
  clear H; intro b21 w22 hN hE23 hs; clear a; intro a H
  replace hS := hS.newBlk hN hE23 hs; clear hN hs
  refine n_q H (q_assign rfl) rfl ?_; clear H a; intro a H
  refine n_nil (then_normal (wp_seq (wp_region_lit (n_c H (fun HC => ?_))))); clear H
  refine nc_q HC (q_fieldAddr0 rfl fo78_0) rfl (by kernel_rfl) (V_q (q_load rfl ((hS.blk 0 rfl).ld ag3 rfl)) rfl (by kernel_rfl) (V_q (q_eqlD rfl rfl) rfl (by kernel_rfl) (V_q (q_move rfl) rfl (by kernel_rfl) (V_g (q_fieldAddr0 rfl fo78_0) (by kernel_rfl) (by kernel_rfl) (by kernel_rfl) (V_g (q_load rfl ((hS.blk 0 rfl).ld ag3 rfl)) (by kernel_rfl) (by kernel_rfl) (by kernel_rfl) (V_g (q_eqlD rfl rfl) (by kernel_rfl) (by kernel_rfl) (by kernel_rfl) (V_or (j := 3) rfl rfl rfl (by kernel_rfl) (by kernel_rfl) (V_q (q_assign rfl) rfl (by kernel_rfl) ?_)))))))); clear HC a; intro a HC
  have H := HC.has; clear HC
  refine n_nil (then_normal (wp_ret ?_))
  obtain rfl := Option.some.inj hm
  replace hS := hS.tk0
  refine ret1 H (.inr rfl) rfl rfl ?_
  exact ⟨rfl, hS.x⟩
theorem g_port_isIn_w {w : World} {A : Nat → Addr} {a0 : GPortPlan} {r : Bool} (hm : g_port_isIn a0 = some r) :
    Calls Tryz.prog 73 [.agg (eGPortPlan a0).toArray].toArray w (Ret fun u w' => u = .bool r ∧ Ext w w') := by
  have hS := St.begin NB w
  unfold g_port_isIn at hm
  refine enter Tryz.func73 rfl rfl rfl ?_; intro a H; dsimp only [enumL, Nat.zero_add, Nat.reduceAdd] at H
  refine wp_seq (wp_region_lit (n_box H rfl (cs := [.int .i64 a0.Kind, .int .i64 a0.Size, .int .i64 a0.Depth, .int .i64 a0.Refresh]) rfl rfl ?_))
  clear H; intro b21 w22 hN hE23 hs; clear a; intro a H
  replace hS := hS.newBlk hN hE23 hs; clear hN hs
  refine n_q H (q_assign rfl) rfl ?_; clear H a; intro a H
  refine n_nil (then_normal (wp_seq (wp_region_lit (n_c H (fun HC => ?_))))); clear H
  refine nc_q HC (q_fieldAddr0 rfl fo78_0) rfl (by kernel_rfl) (V_q (q_load rfl ((hS.blk 0 rfl).ld ag3 rfl)) rfl (by kernel_rfl) (V_q (q_eqlD rfl rfl) rfl (by kernel_rfl) (V_q (q_move rfl) rfl (by kernel_rfl) (V_g (q_fieldAddr0 rfl fo78_0) (by kernel_rfl) (by kernel_rfl) (by kernel_rfl) (V_g (q_load rfl ((hS.blk 0 rfl).ld ag3 rfl)) (by kernel_rfl) (by kernel_rfl) (by kernel_rfl) (V_g (q_eqlD rfl rfl) (by kernel_rfl) (by kernel_rfl) (by kernel_rfl) (V_or (j := 3) rfl rfl rfl (by kernel_rfl) (by kernel_rfl) (V_q (q_assign rfl) rfl (by kernel_rfl) ?_)))))))); clear HC a; intro a HC
  have H := HC.has; clear HC
  refine n_nil (then_normal (wp_ret ?_))
  obtain rfl := Option.some.inj hm
  replace hS := hS.tk0
  refine ret1 H (.inr rfl) rfl rfl ?_
  exact ⟨rfl, hS.x⟩
theorem g_port_CheckPlan_w {w : World} {A : Nat → Addr} {a0 : GPortPlan} (hG : EV A w) {r : ErrM} (hm : g_port_CheckPlan a0 = some r) :
    Calls Tryz.prog 48 [.agg (eGPortPlan a0).toArray].toArray w (Ret fun u w' => ∃ h_0, u = h_0 ∧ St NB w w' [erQ A h_0 r]) := by
  have hS := St.begin NB w
  unfold g_port_CheckPlan at hm
  refine enter Tryz.func48 rfl rfl rfl ?_; intro a H; dsimp only [enumL, Nat.zero_add, Nat.reduceAdd] at H
  refine wp_seq (wp_region_lit (n_box H rfl (cs := [.int .i64 a0.Kind, .int .i64 a0.Size, .int .i64 a0.Depth, .int .i64 a0.Refresh]) rfl rfl ?_))
  clear H; intro b21 w22 hN hE23 hs; clear a; intro a H
  replace hS := hS.newBlk hN hE23 hs; clear hN hs
  refine n_q H (q_assign rfl) rfl ?_; clear H a; intro a H
  refine n_nil (then_normal (wp_seq (wp_region_lit (n_q H (q_assign rfl) rfl (W_q (q_assign rfl) rfl ?_))))); clear H a; intro a H
  refine n_nil (then_normal ?_)
  replace hm := bindS hm; obtain ⟨j24, hm, hm24⟩ := hm
  refine c_join (σ := Nat) H (fun i525 => [(1, .pointer (some ⟨b21, 0, none⟩)), (3, .int .i64 ((i525 : Nat) : Int)), (4, .int .i64 0)]) (fun i525 wl => (g_port_CheckPlan_J3 a0) i525 = some r ∧ St NB w wl [blkR b21 [.int .i64 a0.Kind, .int .i64 a0.Size, .int .i64 a0.Depth, .int .i64 a0.Refresh] 78]) ?_ ?_
  · skip
    refine wp_seq (wp_region_lit (n_q H (q_load rfl ((hS.blk 0 rfl).ldAll ag78 sz78)) rfl ?_)); clear H a; intro a H
    replace hm := bindS hm; obtain ⟨r526, hr526, hm⟩ := hm
    refine n_call H rfl en72 (g_port_isQueue_w (A := A) hr526) rfl ?_
    clear H; intro x529 w527 hv; clear a; intro a H; obtain ⟨rfl, hE528⟩ := hv
    replace hS := hS.ext hE528
    refine n_nil (then_normal (c_cond H rfl (fun hc530 => ?_) (fun hc530 => ?_)))
    · replace hm := condT hm hc530
      refine wp_region_lit (n_q H (q_assign rfl) rfl ?_); clear H a; intro a H
      refine n_nil (then_normal ?_)
      obtain rfl := Option.some.inj hm; replace hm := hm24; try dsimp only at hm
      exact join 8 H ⟨rfl, rfl, rfl, trivial⟩ ⟨hm, hS⟩
    · replace hm := condF hm hc530
      refine wp_skip (then_normal ?_)
      obtain rfl := Option.some.inj hm; replace hm := hm24; try dsimp only at hm
      exact join 1 H ⟨rfl, rfl, rfl, trivial⟩ ⟨hm, hS⟩
  · clear H hS hm a; intro i525 a w531 H hR
    simp only [ent, List.map_cons, List.map_nil] at H; (try dsimp only at hR); obtain ⟨hm, hS⟩ := hR; try dsimp only [g_port_CheckPlan_J3] at hm
    replace hm := bindS hm; obtain ⟨j532, hm, hm532⟩ := hm
    refine c_join (σ := Nat) H (fun i1033 => [(1, .pointer (some ⟨b21, 0, none⟩)), (3, .int .i64 ((i525 : Nat) : Int)), (4, .int .i64 ((i1033 : Nat) : Int))]) (fun i1033 wl => (g_port_CheckPlan_J2 a0 i525) i1033 = some r ∧ St NB w wl [blkR b21 [.int .i64 a0.Kind, .int .i64 a0.Size, .int .i64 a0.Depth, .int .i64 a0.Refresh] 78]) ?_ ?_
    · skip
      refine wp_seq (wp_region_lit (n_q H (q_fieldAddr0 rfl fo78_0) rfl (W_q (q_load rfl ((hS.blk 0 rfl).ld ag3 rfl)) rfl (W_q (q_eqlD rfl rfl) rfl ?_)))); clear H a; intro a H
      refine n_nil (then_normal (c_cond H rfl (fun hc1034 => ?_) (fun hc1034 => ?_)))
      · replace hm := condT hm hc1034
        refine wp_region_lit (n_q H (q_assign rfl) rfl ?_); clear H a; intro a H
        refine n_nil (then_normal ?_)
        obtain rfl := Option.some.inj hm; replace hm := hm532; try dsimp only at hm
        exact join 255 H ⟨rfl, rfl, rfl, trivial⟩ ⟨hm, hS⟩
      · replace hm := condF hm hc1034
        refine wp_skip (then_normal ?_)
        obtain rfl := Option.some.inj hm; replace hm := hm532; try dsimp only at hm
        exact join 0 H ⟨rfl, rfl, rfl, trivial⟩ ⟨hm, hS⟩
    · clear H hS hm a; intro i1033 a w1035 H hR
      simp only [ent, List.map_cons, List.map_nil] at H; (try dsimp only at hR); obtain ⟨hm, hS⟩ := hR; try dsimp only [g_port_CheckPlan_J2] at hm
      refine wp_seq (wp_block ?_)
      replace hm := bindS hm; obtain ⟨j1036, hm, hm1036⟩ := hm
      refine c_join (σ := Bool) H (fun q1537 => [(1, .pointer (some ⟨b21, 0, none⟩)), (3, .int .i64 ((i525 : Nat) : Int)), (4, .int .i64 ((i1033 : Nat) : Int)), (10, .bool q1537)]) (fun q1537 wl => (g_port_CheckPlan_J1 a0 i525 i1033) q1537 = some r ∧ St NB w wl [blkR b21 [.int .i64 a0.Kind, .int .i64 a0.Size, .int .i64 a0.Depth, .int .i64 a0.Refresh] 78]) ?_ ?_
      · skip
        refine wp_region_lit (n_q H (q_load rfl ((hS.blk 0 rfl).ldAll ag78 sz78)) rfl ?_); clear H a; intro a H
        replace hm := bindS hm; obtain ⟨r1538, hr1538, hm⟩ := hm
        refine n_call H rfl en73 (g_port_isIn_w (A := A) hr1538) rfl ?_
        clear H; intro x1541 w1539 hv; clear a; intro a H; obtain ⟨rfl, hE1540⟩ := hv
        replace hS := hS.ext hE1540
        refine n_q H (q_not rfl) rfl (W_q (q_move rfl) rfl ?_); clear H a; intro a H
        rcases Bool.eq_false_or_eq_true (!r1538) with hg1542 | hg1542
        · replace H := H.know 14 rfl hg1542
          replace hm := condT hm hg1542
          refine n_yes H rfl rfl (n_q H (q_load rfl ((hS.blk 0 rfl).ldAll ag78 sz78)) rfl (W_yes rfl rfl ?_)); clear H a; intro a H
          replace hm := bindS hm; obtain ⟨r1543, hr1543, hm⟩ := hm
          refine n_call H rfl en71 (g_port_isOut_w (A := A) hr1543) rfl ?_
          clear H; intro x1546 w1544 hv; clear a; intro a H; obtain ⟨rfl, hE1545⟩ := hv
          replace hS := hS.ext hE1545
          refine n_yes H rfl rfl (n_q H (q_not rfl) rfl (W_q (q_pickT rfl rfl) rfl (W_q (q_assign rfl) rfl ?_))); clear H a; intro a H
          refine n_nil (then_normal ?_)
          obtain rfl := Option.some.inj hm; replace hm := hm1036; try dsimp only at hm
          exact join (!r1543) H ⟨rfl, rfl, rfl, rfl, trivial⟩ ⟨hm, hS⟩
        · replace H := H.know 14 rfl hg1542
          replace hm := condF hm hg1542
          refine n_no H rfl rfl (by decide) rfl (W_no rfl rfl (by decide) rfl (W_no rfl rfl (by decide) rfl (W_q (q_pickF rfl rfl) rfl (W_q (q_assign rfl) rfl ?_)))); clear H a; intro a H
          refine n_nil (then_normal ?_)
          obtain rfl := Option.some.inj hm; replace hm := hm1036; try dsimp only at hm
          exact join false H ⟨rfl, rfl, rfl, rfl, trivial⟩ ⟨hm, hS⟩
      · clear H hS hm a; intro q1537 a w1547 H hR
        simp only [ent, List.map_cons, List.map_nil] at H; (try dsimp only at hR); obtain ⟨hm, hS⟩ := hR; try dsimp only [g_port_CheckPlan_J1] at hm
        refine c_cond H rfl (fun hc1548 => ?_) (fun hc1548 => ?_)
        · replace hm := condT hm hc1548
          refine wp_seq (wp_region_lit (n_q H (q_load rfl ((hG.ext hS.x).ld gKind (by decide) ag41)) rfl (W_q (q_assign rfl) rfl ?_))); clear H a; intro a H
          refine n_nil (then_normal (wp_ret (block_ret (then_ret ?_))))
          obtain rfl := Option.some.inj hm
          replace hS := hS.dVar (A := A) (g := gKind) (by decide)
          replace hS := hS.tk1
          refine ret1 H (.inr rfl) rfl rfl ?_
          exact ⟨_, rfl, hS⟩
        · replace hm := condF hm hc1548
          refine wp_seq (wp_region_lit (n_c H (fun HC => ?_))); clear H
          refine nc_q HC (q_fieldAddr0 rfl fo78_1) rfl (by kernel_rfl) (V_q (q_load rfl ((hS.blk 0 rfl).ld ag3 rfl)) rfl (by kernel_rfl) (V_q (q_lss rfl rfl) rfl (by kernel_rfl) (V_q (q_move rfl) rfl (by kernel_rfl) (V_g (q_fieldAddr0 rfl fo78_1) (by kernel_rfl) (by kernel_rfl) (by kernel_rfl) (V_g (q_load rfl ((hS.blk 0 rfl).ld ag3 rfl)) (by kernel_rfl) (by kernel_rfl) (by kernel_rfl) (V_g (q_gtr rfl rfl) (by kernel_rfl) (by kernel_rfl) (by kernel_rfl) (V_or (j := 3) rfl rfl rfl (by kernel_rfl) (by kernel_rfl) (V_q (q_assign rfl) rfl (by kernel_rfl) ?_)))))))); clear HC a; intro a HC
          have H := HC.has; clear HC
          refine n_nil (then_normal (c_cond H rfl (fun hc1550 => ?_) (fun hc1550 => ?_)))
          · replace hm := condT hm hc1550
            refine wp_seq (wp_region_lit (n_q H (q_load rfl ((hG.ext hS.x).ld gSize (by decide) ag41)) rfl (W_q (q_assign rfl) rfl ?_))); clear H a; intro a H
            refine n_nil (then_normal (wp_ret (block_ret (then_ret ?_))))
            obtain rfl := Option.some.inj hm
            replace hS := hS.dVar (A := A) (g := gSize) (by decide)
            replace hS := hS.tk1
            refine ret1 H (.inr rfl) rfl rfl ?_
            exact ⟨_, rfl, hS⟩
          · replace hm := condF hm hc1550
            refine wp_seq (wp_region_lit (n_c H (fun HC => ?_))); clear H
            refine nc_q HC (q_fieldAddr0 rfl fo78_2) rfl (by kernel_rfl) (V_q (q_load rfl ((hS.blk 0 rfl).ld ag3 rfl)) rfl (by kernel_rfl) (V_q (q_lss rfl rfl) rfl (by kernel_rfl) (V_q (q_move rfl) rfl (by kernel_rfl) (V_g (q_fieldAddr0 rfl fo78_2) (by kernel_rfl) (by kernel_rfl) (by kernel_rfl) (V_g (q_load rfl ((hS.blk 0 rfl).ld ag3 rfl)) (by kernel_rfl) (by kernel_rfl) (by kernel_rfl) (V_g (q_move rfl) (by kernel_rfl) (by kernel_rfl) (by kernel_rfl) (V_g (q_gtr rfl rfl) (by kernel_rfl) (by kernel_rfl) (by kernel_rfl) (V_or (j := 3) rfl rfl rfl (by kernel_rfl) (by kernel_rfl) (V_q (q_move rfl) rfl (by kernel_rfl) (V_g (q_fieldAddr0 rfl fo78_3) (by kernel_rfl) (by kernel_rfl) (by kernel_rfl) (V_g (q_load rfl ((hS.blk 0 rfl).ld ag3 rfl)) (by kernel_rfl) (by kernel_rfl) (by kernel_rfl) ?_))))))))))); clear HC a; intro a HC
            refine nc_g HC (q_lss rfl rfl) (by kernel_rfl) (by kernel_rfl) (by kernel_rfl) (V_or (j := 9) rfl rfl rfl (by kernel_rfl) (by kernel_rfl) (V_q (q_move rfl) rfl (by kernel_rfl) (V_g (q_fieldAddr0 rfl fo78_3) (by kernel_rfl) (by kernel_rfl) (by kernel_rfl) (V_g (q_load rfl ((hS.blk 0 rfl).ld ag3 rfl)) (by kernel_rfl) (by kernel_rfl) (by kernel_rfl) (V_g (q_move rfl) (by kernel_rfl) (by kernel_rfl) (by kernel_rfl) (V_g (q_gtr rfl rfl) (by kernel_rfl) (by kernel_rfl) (by kernel_rfl) (V_or (j := 14) rfl rfl rfl (by kernel_rfl) (by kernel_rfl) (V_q (q_assign rfl) rfl (by kernel_rfl) ?_)))))))); clear HC a; intro a HC
            have H := HC.has; clear HC
            refine n_nil (then_normal (c_cond H rfl (fun hc1552 => ?_) (fun hc1552 => ?_)))
            · replace hm := condT hm hc1552
              refine wp_seq (wp_region_lit (n_q H (q_load rfl ((hG.ext hS.x).ld gRange (by decide) ag41)) rfl (W_q (q_assign rfl) rfl ?_))); clear H a; intro a H
              refine n_nil (then_normal (wp_ret (block_ret (then_ret ?_))))
              obtain rfl := Option.some.inj hm
              replace hS := hS.dVar (A := A) (g := gRange) (by decide)
              replace hS := hS.tk1
              refine ret1 H (.inr rfl) rfl rfl ?_
              exact ⟨_, rfl, hS⟩
            · replace hm := condF hm hc1552
              refine wp_skip (block_normal (then_normal (wp_seq (wp_region_lit (n_q H (q_assign rfl) rfl ?_))))); clear H a; intro a H
              refine n_nil (then_normal (wp_ret ?_))
              obtain rfl := Option.some.inj hm
              replace hS := hS.dNil (A := A)
              replace hS := hS.tk1
              refine ret1 H (.inr rfl) rfl rfl ?_
              exact ⟨_, rfl, hS⟩
theorem g_port_Most_w {w : World} {A : Nat → Addr} {a0 : GPortPlan} (hG : EV A w) {r : Int × ErrM} (hm : g_port_Most a0 = some r) :
    Calls Tryz.prog 46 [.agg (eGPortPlan a0).toArray].toArray w (Ret fun u w' => ∃ h_0, u = .tuple #[.int .i64 r.1, h_0] ∧ St NB w w' [erQ A h_0 r.2]) := by
  have hS := St.begin NB w
  unfold g_port_Most at hm
  refine enter Tryz.func46 rfl rfl rfl ?_; intro a H; dsimp only [enumL, Nat.zero_add, Nat.reduceAdd] at H
  refine wp_seq (wp_region_lit (n_box H rfl (cs := [.int .i64 a0.Kind, .int .i64 a0.Size, .int .i64 a0.Depth, .int .i64 a0.Refresh]) rfl rfl ?_))
  clear H; intro b21 w22 hN hE23 hs; clear a; intro a H
  replace hS := hS.newBlk hN hE23 hs; clear hN hs
  refine n_q H (q_assign rfl) rfl (W_q (q_assign rfl) rfl ?_); clear H a; intro a H
  refine n_nil (then_normal (wp_seq (wp_seq (wp_region_lit (n_q H (q_load rfl ((hS.blk 0 rfl).ldAll ag78 sz78)) rfl ?_))))); clear H a; intro a H
  replace hm := bindS hm; obtain ⟨r24, hr24, hm⟩ := hm
  refine n_call H rfl en48 (g_port_CheckPlan_w (A := A) (hG.ext hS.x) hr24) rfl ?_
  clear H; intro u25 w27 hv; clear a; intro a H; obtain ⟨_, rfl, hE28⟩ := hv
  replace hS := hS.new hE28; simp only [List.cons_append, List.nil_append] at hS
  refine n_q H (q_cast (q_nnilI Tryz.underlying41 rfl rfl (hS.any 0 rfl : IsE A w27 u25 r24).form) (show _ = Value.bool (!decide (r24 = .nil)) by rw [IsErr.isNil (hS.any 0 rfl : IsE A w27 u25 r24)])) rfl ?_; clear H a; intro a H
  refine n_nil (then_normal (c_cond H rfl (fun hc30 => ?_) (fun hc30 => ?_)))
  · replace hm := condT hm hc30
    refine wp_seq (c_quiet (by kernel_rfl) (by kernel_rfl) ?_)
    refine qq_q H (q_load rfl ((hG.ext hS.x).ld gPlan (by decide) ag41)) rfl ?_; clear H a; intro a H
    refine qq_q H (q_assign rfl) rfl ?_; clear H a; intro a H
    refine qq_q H (q_assign rfl) rfl ?_; clear H a; intro a H
    refine qq_nil ?_; intro w31 hE32
    replace hS := hS.ext hE32
    refine then_normal (wp_ret (then_ret ?_))
    obtain rfl := Option.some.inj hm
    replace hS := hS.dVar (A := A) (g := gPlan) (by decide)
    replace hS := hS.tk1
    refine ret2 H (.inr rfl) rfl rfl rfl ?_
    exact ⟨_, rfl, hS⟩
  · replace hm := condF hm hc30
    refine wp_skip (then_normal (wp_seq (wp_seq (wp_region_lit (n_q H (q_load rfl ((hS.blk 1 rfl).ldAll ag78 sz78)) rfl ?_))))); clear H a; intro a H
    replace hm := bindS hm; obtain ⟨r34, hr34, hm⟩ := hm
    refine n_call H rfl en71 (g_port_isOut_w (A := A) hr34) rfl ?_
    clear H; intro x37 w35 hv; clear a; intro a H; obtain ⟨rfl, hE36⟩ := hv
    replace hS := hS.ext hE36
    refine n_nil (then_normal (c_cond H rfl (fun hc38 => ?_) (fun hc38 => ?_)))
    · replace hm := condT hm hc38
      refine wp_seq (wp_region_lit (n_q H (q_assign rfl) rfl (W_q (q_assign rfl) rfl ?_))); clear H a; intro a H
      refine n_nil (then_normal (wp_ret (then_ret ?_)))
      obtain rfl := Option.some.inj hm
      replace hS := hS.dNil (A := A)
      replace hS := hS.tk1
      refine ret2 H (.inr rfl) rfl rfl rfl ?_
      exact ⟨_, rfl, hS⟩
    · replace hm := condF hm hc38
      refine wp_skip (then_normal (wp_seq (wp_region_lit (n_q H (q_fieldAddr0 rfl fo78_2) rfl (W_q (q_load rfl ((hS.blk 1 rfl).ld ag3 rfl)) rfl (W_q (q_fieldAddr0 rfl fo78_1) rfl (W_q (q_load rfl ((hS.blk 1 rfl).ld ag3 rfl)) rfl (W_q (q_addW rfl rfl) rfl (W_q (q_mulW rfl rfl) rfl (W_q (q_addW rfl rfl) rfl (W_q (q_assign rfl) rfl (W_q (q_assign rfl) rfl ?_)))))))))))); clear H a; intro a H
      refine n_nil (then_normal (wp_ret ?_))
      obtain rfl := Option.some.inj hm
      replace hS := hS.dNil (A := A)
      replace hS := hS.tk1
      refine ret2 H (.inr rfl) rfl rfl rfl ?_
      exact ⟨_, rfl, hS⟩
theorem g_plan_bound_w {w : World} {A : Nat → Addr} {cs0 : List Value} {a0 : GPlan} (hG : EV A w) (h0 : RGPlan w cs0 a0) {r : Int} (hm : g_plan_bound a0 = some r) :
    Calls Tryz.prog 22 [.agg cs0.toArray].toArray w (Ret fun u w' => u = .int .i64 r ∧ Ext w w') := by
  obtain ⟨vp0_0, vp0_1, vp0_2, vp0_3, rfl, hrp0_0, hrp0_1, hrp0_2, hrp0_3⟩ := h0
  have hS := St.begin NB w
  unfold g_plan_bound at hm
  refine enter Tryz.func22 rfl rfl rfl ?_; intro a H; dsimp only [enumL, Nat.zero_add, Nat.reduceAdd] at H
  refine wp_seq (wp_region_lit (n_box H rfl (cs := [.int .i64 a0.Id, .bool a0.Mobile, vp0_0, vp0_1, vp0_2, .int .i64 a0.Events, vp0_3]) rfl rfl ?_))
  clear H; intro b21 w22 hN hE23 hs; clear a; intro a H
  replace hS := hS.newBlk hN hE23 hs; clear hN hs
  refine n_q H (q_assign rfl) rfl ?_; clear H a; intro a H
  refine n_nil (then_normal (wp_seq (wp_region_lit (n_q H (q_fieldAddr0 rfl fo27_3) rfl (W_q (q_load rfl ((hS.blk 0 rfl).ld ag23 rfl)) rfl ?_))))); clear H a; intro a H
  obtain ⟨A24, c24, hv24, hl24, hm24⟩ := SlR.formV (hrp0_1.ext (Flat.mono _) hS.x)
  refine n_q H (q_lenV Tryz.underlying23 rfl hv24) rfl (W_q (q_mulW rfl rfl) rfl (W_q (q_addW rfl rfl) rfl (W_q (q_fieldAddr0 rfl fo27_2) rfl (W_q (q_load rfl ((hS.blk 0 rfl).ld ag22 rfl)) rfl ?_)))); clear H a; intro a H
  obtain ⟨A25, c25, hv25, hl25, hm25⟩ := SlR.formV (hrp0_0.ext (Flat.mono _) hS.x)
  refine n_q H (q_lenV Tryz.underlying22 rfl hv25) rfl (W_q (q_mulW rfl rfl) rfl (W_q (q_addW rfl rfl) rfl (W_q (q_fieldAddr0 rfl fo27_5) rfl (W_q (q_load rfl ((hS.blk 0 rfl).ld ag3 rfl)) rfl (W_q (q_addW rfl rfl) rfl (W_q (q_fieldAddr0 rfl fo27_6) rfl (W_q (q_load rfl ((hS.blk 0 rfl).ld ag25 rfl)) rfl ?_))))))); clear H a; intro a H
  obtain ⟨A26, c26, hv26, hl26, hm26⟩ := SlR.formV (hrp0_3.ext (Flat.mono _) hS.x)
  refine n_q H (q_lenV Tryz.underlying25 rfl hv26) rfl (W_q (q_addW rfl rfl) rfl (W_q (q_assign rfl) rfl ?_)); clear H a; intro a H
  refine n_nil (then_normal (wp_seq (wp_seq (wp_region_lit (n_q H (q_fieldAddr0 rfl fo27_4) rfl (W_q (q_load rfl ((hS.blk 0 rfl).ld ag24 rfl)) rfl ?_)))))); clear H a; intro a H
  obtain ⟨A27, c27, hv27, hl27, hm27⟩ := SlR.formV (hrp0_2.ext (Flat.mono _) hS.x)
  refine n_q H (q_lenV Tryz.underlying24 rfl hv27) rfl (W_q (q_move rfl) rfl ?_); clear H a; intro a H
  refine n_nil (then_normal (wp_block ?_))
  replace hS := hS.tk0
  replace hm := bindS hm; obtain ⟨q28, hm, hm28⟩ := hm; replace hm := iter_some hm; obtain ⟨n28, hm⟩ := hm
  refine c_loop (σ := Nat × Int × Nat) (fun (m, z29, i30) => [(3, .int .i64 z29), (26, vp0_2), (27, .int .i64 ((a0.Ports.length : Nat) : Int)), (28, .int .i64 ((i30 : Nat) : Int))]) (fun (m, z29, i30) wl => iterN (g_plan_bound_L1 a0) m (z29, i30) = some q28 ∧ St NB w wl []) (fun (m, z29, i30) => m) (n28, (IntKind.i64.wrap ((IntKind.i64.wrap ((IntKind.i64.wrap ((IntKind.i64.wrap (58 + (IntKind.i64.wrap (76 * ((a0.Procs.length : Nat) : Int))))) + (IntKind.i64.wrap (68 * ((a0.Pages.length : Nat) : Int))))) + a0.Events)) + ((a0.Sems.length : Nat) : Int))), 0) H ⟨rfl, rfl, rfl, rfl, trivial⟩ ⟨hm, hS⟩ ?_
  clear H hS hm a; intro xx a w31 H hR; obtain ⟨m, z29, i30⟩ := xx; simp only [ent, List.map_cons, List.map_nil] at H; (try dsimp only at hR); obtain ⟨hm, hS⟩ := hR
  replace hm := iterN_step hm; obtain ⟨m28, o28, rfl, hm, hn28⟩ := hm; try dsimp only [g_plan_bound_L1] at hm
  refine wp_seq (wp_region_lit (n_q H (q_lssN (i := i30) (j := a0.Ports.length) rfl rfl) rfl ?_)); clear H a; intro a H
  refine n_nil (then_normal (wp_seq (c_cond H rfl (fun hc32 => ?_) (fun hc32 => ?_))))
  · replace hm := condT hm hc32
    have hlt33 : i30 < a0.Ports.length := of_decide_eq_true hc32
    refine wp_skip (then_normal (wp_seq (wp_block (wp_seq (wp_region_lit ?_)))))
    replace hm := bindS hm; obtain ⟨x34, hx34, hm⟩ := hm
    obtain ⟨adx34, hAx34⟩ := SlR.adV (hrp0_2.ext (Flat.mono _) hS.x) hv27 hx34
    refine n_q H (q_ixV (i := i30) Tryz.underlying24 sz78 rfl hv27 hAx34 rfl (natI hx34)) rfl (W_q (q_load rfl (SlR.ldAggV (hrp0_2.ext (Flat.mono _) hS.x) hv27 hAx34 ag78 sz78 hx34)) rfl ?_); clear H a; intro a H
    refine n_alloc H ze78 rfl ?_
    clear H; intro b35 w36 hN hE37 hs; clear a; intro a H
    replace hS := hS.newBlk hN hE37 hs; clear hN hs
    refine n_storeAll H rfl rfl (vs := [.int .i64 x34.Kind, .int .i64 x34.Size, .int .i64 x34.Depth, .int .i64 x34.Refresh]) rfl sz78 (hS.blk 0 rfl) rfl (by simp) ?_
    clear H; intro w38 hN hC39 hz; clear a; intro a H; replace hS := hS.setBlk hN hC39; clear hN hz
    refine n_nil (then_normal (wp_seq (wp_region_lit (n_q H (q_load rfl ((hS.blk 0 rfl).ldAll ag78 sz78)) rfl ?_)))); clear H a; intro a H
    replace hm := bindS hm; obtain ⟨r40, hr40, hm⟩ := hm
    refine n_call H rfl en46 (g_port_Most_w (A := A) (hG.ext hS.x) hr40) rfl ?_
    clear H; intro x45 w43 hv; clear a; intro a H; obtain ⟨u41, rfl, hE44⟩ := hv
    replace hS := hS.new hE44; simp only [List.cons_append, List.nil_append] at hS
    refine n_q H (q_move rfl) rfl (W_q (q_extract rfl rfl) rfl (W_q (q_extract rfl rfl) rfl (W_q (q_assign rfl) rfl (W_q (q_assign rfl) rfl ?_)))); clear H a; intro a H
    refine n_nil (then_normal (wp_region_lit (n_q H (q_move rfl) rfl (W_q (q_move rfl) rfl (W_q (q_addW rfl rfl) rfl (W_q (q_addW rfl rfl) rfl (W_q (q_assign rfl) rfl ?_))))))); clear H a; intro a H
    refine n_nil (block_normal (then_normal (wp_region_lit (n_q H (q_incr (i := i30) (j := 1) rfl rfl (by omega)) rfl (W_q (q_move rfl) rfl ?_))))); clear H a; intro a H
    refine n_nil (then_normal ?_)
    obtain rfl := Option.some.inj hm
    replace hS := hS.tk0
    exact round (m28, (IntKind.i64.wrap (z29 + (IntKind.i64.wrap (3 + r40.1)))), i30 + 1) H ⟨rfl, rfl, rfl, rfl, trivial⟩ ⟨hn28, hS⟩ (Nat.lt_succ_self _)
  · replace hm := condF hm hc32
    refine wp_exit (then_exit (then_exit (block_exit ?_)))
    obtain rfl := Option.some.inj hm; have hz : _ = q28 := hn28; subst hz; replace hm := hm28; try dsimp only at hm
    refine then_normal (wp_seq (wp_region_lit (n_q H (q_move rfl) rfl (W_q (q_assign rfl) rfl ?_)))); clear H a; intro a H
    refine n_nil (then_normal (wp_ret ?_))
    obtain rfl := Option.some.inj hm
    refine ret1 H (.inr rfl) rfl rfl ?_
    exact ⟨rfl, hS.x⟩
theorem g_plan_checkRest_w {w : World} {A : Nat → Addr} {cs0 : List Value} {a0 : GPlan} (hG : EV A w) (h0 : RGPlan w cs0 a0) {r : ErrM} (hm : g_plan_checkRest a0 = some r) :
    Calls Tryz.prog 25 [.agg cs0.toArray].toArray w (Ret fun u w' => ∃ h_0, u = h_0 ∧ St NB w w' [erQ A h_0 r]) := by
  obtain ⟨vp0_0, vp0_1, vp0_2, vp0_3, rfl, hrp0_0, hrp0_1, hrp0_2, hrp0_3⟩ := h0
  have hS := St.begin NB w
  unfold g_plan_checkRest at hm
  refine enter Tryz.func25 rfl rfl rfl ?_; intro a H; dsimp only [enumL, Nat.zero_add, Nat.reduceAdd] at H
  refine wp_seq (wp_region_lit (n_box H rfl (cs := [.int .i64 a0.Id, .bool a0.Mobile, vp0_0, vp0_1, vp0_2, .int .i64 a0.Events, vp0_3]) rfl rfl ?_))
  clear H; intro b21 w22 hN hE23 hs; clear a; intro a H
  replace hS := hS.newBlk hN hE23 hs; clear hN hs
  refine n_q H (q_assign rfl) rfl ?_; clear H a; intro a H
  refine n_nil (then_normal (wp_seq (wp_seq (wp_region_lit (n_q H (q_fieldAddr0 rfl fo27_4) rfl (W_q (q_load rfl ((hS.blk 0 rfl).ld ag24 rfl)) rfl ?_)))))); clear H a; intro a H
  obtain ⟨A24, c24, hv24, hl24, hm24⟩ := SlR.formV (hrp0_2.ext (Flat.mono _) hS.x)
  refine n_q H (q_lenV Tryz.underlying24 rfl hv24) rfl (W_q (q_gtrN (i := a0.Ports.length) (j := 8) rfl rfl) rfl ?_); clear H a; intro a H
  refine n_nil (then_normal (c_cond H rfl (fun hc25 => ?_) (fun hc25 => ?_)))
  · replace hm := condT hm hc25
    refine wp_seq (wp_region_lit (n_q H (q_load rfl ((hG.ext hS.x).ld gSize (by decide) ag41)) rfl (W_q (q_assign rfl) rfl ?_))); clear H a; intro a H
    refine n_nil (then_normal (wp_ret (then_ret ?_)))
    obtain rfl := Option.some.inj hm
    replace hS := hS.dVar (A := A) (g := gSize) (by decide)
    replace hS := hS.tk1
    refine ret1 H (.inr rfl) rfl rfl ?_
    exact ⟨_, rfl, hS⟩
  · replace hm := condF hm hc25
    refine wp_skip (then_normal (wp_seq (wp_seq (wp_region_lit (n_q H (q_fieldAddr0 rfl fo27_4) rfl (W_q (q_load rfl ((hS.blk 0 rfl).ld ag24 rfl)) rfl (W_q (q_lenV Tryz.underlying24 rfl hv24) rfl (W_q (q_move rfl) rfl ?_)))))))); clear H a; intro a H
    refine n_nil (then_normal (wp_block ?_))
    replace hm := bindS hm; obtain ⟨q27, hm, hm27⟩ := hm; replace hm := iter_some hm; obtain ⟨n27, hm⟩ := hm
    refine c_loop (σ := Nat × Nat) (fun (m, i28) => [(1, .pointer (some ⟨b21, 0, none⟩)), (14, vp0_2), (15, .int .i64 ((a0.Ports.length : Nat) : Int)), (16, .int .i64 ((i28 : Nat) : Int))]) (fun (m, i28) wl => iterN (g_plan_checkRest_L2 a0) m i28 = some q27 ∧ St NB w wl [blkR b21 [.int .i64 a0.Id, .bool a0.Mobile, vp0_0, vp0_1, vp0_2, .int .i64 a0.Events, vp0_3] 27]) (fun (m, i28) => m) (n27, 0) H ⟨rfl, rfl, rfl, rfl, trivial⟩ ⟨hm, hS⟩ ?_
    clear H hS hm a; intro xx a w29 H hR; obtain ⟨m, i28⟩ := xx; simp only [ent, List.map_cons, List.map_nil] at H; (try dsimp only at hR); obtain ⟨hm, hS⟩ := hR
    replace hm := iterN_step hm; obtain ⟨m27, o27, rfl, hm, hn27⟩ := hm; try dsimp only [g_plan_checkRest_L2] at hm
    refine wp_seq (wp_region_lit (n_q H (q_lssN (i := i28) (j := a0.Ports.length) rfl rfl) rfl ?_)); clear H a; intro a H
    refine n_nil (then_normal (wp_seq (c_cond H rfl (fun hc30 => ?_) (fun hc30 => ?_))))
    · replace hm := condT hm hc30
      have hlt31 : i28 < a0.Ports.length := of_decide_eq_true hc30
      refine wp_skip (then_normal (wp_seq (wp_block (wp_seq (wp_region_lit (n_q H (q_move rfl) rfl ?_)))))); clear H a; intro a H
      replace hm := bindS hm; obtain ⟨x32, hx32, hm⟩ := hm
      obtain ⟨adx32, hAx32⟩ := SlR.adV (hrp0_2.ext (Flat.mono _) hS.x) hv24 hx32
      refine n_q H (q_ixV (i := i28) Tryz.underlying24 sz78 rfl hv24 hAx32 rfl (natI hx32)) rfl (W_q (q_load rfl (SlR.ldAggV (hrp0_2.ext (Flat.mono _) hS.x) hv24 hAx32 ag78 sz78 hx32)) rfl ?_); clear H a; intro a H
      refine n_alloc H ze78 rfl ?_
      clear H; intro b33 w34 hN hE35 hs; clear a; intro a H
      replace hS := hS.newBlk hN hE35 hs; clear hN hs
      refine n_q H (q_assign rfl) rfl ?_; clear H a; intro a H
      refine n_storeAll H rfl rfl (vs := [.int .i64 x32.Kind, .int .i64 x32.Size, .int .i64 x32.Depth, .int .i64 x32.Refresh]) rfl sz78 (hS.blk 0 rfl) rfl (by simp) ?_
      clear H; intro w36 hN hC37 hz; clear a; intro a H; replace hS := hS.setBlk hN hC37; clear hN hz
      refine n_nil (then_normal (wp_seq (wp_region_lit (n_q H (q_load rfl ((hS.blk 0 rfl).ldAll ag78 sz78)) rfl ?_)))); clear H a; intro a H
      replace hm := bindS hm; obtain ⟨r38, hr38, hm⟩ := hm
      refine n_call H rfl en48 (g_port_CheckPlan_w (A := A) (hG.ext hS.x) hr38) rfl ?_
      clear H; intro u39 w41 hv; clear a; intro a H; obtain ⟨_, rfl, hE42⟩ := hv
      replace hS := hS.new hE42; simp only [List.cons_append, List.nil_append] at hS
      refine n_q H (q_assign rfl) rfl ?_; clear H a; intro a H
      refine n_nil (then_normal (wp_seq (wp_region_lit (n_q H (q_move rfl) rfl (W_q (q_cast (q_nnilI Tryz.underlying41 rfl rfl (hS.any 0 rfl : IsE A w41 u39 r38).form) (show _ = Value.bool (!decide (r38 = .nil)) by rw [IsErr.isNil (hS.any 0 rfl : IsE A w41 u39 r38)])) rfl ?_))))); clear H a; intro a H
      refine n_nil (then_normal (c_cond H rfl (fun hc44 => ?_) (fun hc44 => ?_)))
      · replace hm := condT hm hc44
        refine wp_seq (wp_region_lit (n_q H (q_move rfl) rfl (W_q (q_move rfl) rfl ?_))); clear H a; intro a H
        replace hm := bindS hm; obtain ⟨r45, hr45, hm⟩ := hm
        refine n_call H rfl en47 (g_plan_at_w (A := A) (hS.any 0 rfl : IsE A w41 u39 r38) hr45) rfl ?_
        clear H; intro u46 w48 hv; clear a; intro a H; obtain ⟨_, rfl, hE49⟩ := hv
        replace hS := hS.new hE49; simp only [List.cons_append, List.nil_append] at hS
        refine n_q H (q_assign rfl) rfl ?_; clear H a; intro a H
        refine n_nil (then_normal (wp_ret (block_ret (then_ret (then_ret (block_ret (then_ret ?_)))))))
        obtain rfl := Option.some.inj hm; have hz : _ = q27 := hn27; subst hz; replace hm := hm27; try dsimp only at hm
        obtain rfl := Option.some.inj hm
        replace hS := hS.tk1
        refine ret1 H (.inr rfl) rfl rfl ?_
        exact ⟨_, rfl, hS⟩
      · replace hm := condF hm hc44
        refine wp_skip (block_normal (then_normal (wp_region_lit (n_q H (q_incr (i := i28) (j := 1) rfl rfl (by omega)) rfl (W_q (q_move rfl) rfl ?_))))); clear H a; intro a H
        refine n_nil (then_normal ?_)
        obtain rfl := Option.some.inj hm
        replace hS := hS.pk2
        replace hS := hS.tk1
        exact round (m27, i28 + 1) H ⟨rfl, rfl, rfl, rfl, trivial⟩ ⟨hn27, hS⟩ (Nat.lt_succ_self _)
    · replace hm := condF hm hc30
      refine wp_exit (then_exit (then_exit (block_exit ?_)))
      obtain rfl := Option.some.inj hm; have hz : _ = q27 := hn27; subst hz; replace hm := hm27; try dsimp only at hm
      refine then_normal (wp_seq (wp_seq (wp_region_lit (n_c H (fun HC => ?_))))); clear H
      refine nc_q HC (q_fieldAddr0 rfl fo27_5) rfl (by kernel_rfl) (V_q (q_load rfl ((hS.blk 0 rfl).ld ag3 rfl)) rfl (by kernel_rfl) (V_q (q_lss rfl rfl) rfl (by kernel_rfl) (V_q (q_move rfl) rfl (by kernel_rfl) (V_g (q_fieldAddr0 rfl fo27_5) (by kernel_rfl) (by kernel_rfl) (by kernel_rfl) (V_g (q_load rfl ((hS.blk 0 rfl).ld ag3 rfl)) (by kernel_rfl) (by kernel_rfl) (by kernel_rfl) (V_g (q_gtr rfl rfl) (by kernel_rfl) (by kernel_rfl) (by kernel_rfl) (V_or (j := 3) rfl rfl rfl (by kernel_rfl) (by kernel_rfl) ?_))))))); clear HC a; intro a HC
      have H := HC.has; clear HC
      refine n_nil (then_normal (c_cond H rfl (fun hc51 => ?_) (fun hc51 => ?_)))
      · replace hm := condT hm hc51
        refine wp_seq (wp_region_lit (n_q H (q_load rfl ((hG.ext hS.x).ld gRange (by decide) ag41)) rfl (W_q (q_assign rfl) rfl ?_))); clear H a; intro a H
        refine n_nil (then_normal (wp_ret (then_ret ?_)))
        obtain rfl := Option.some.inj hm
        replace hS := hS.dVar (A := A) (g := gRange) (by decide)
        replace hS := hS.tk1
        refine ret1 H (.inr rfl) rfl rfl ?_
        exact ⟨_, rfl, hS⟩
      · replace hm := condF hm hc51
        refine wp_skip (then_normal (wp_seq (wp_seq (wp_region_lit (n_q H (q_fieldAddr0 rfl fo27_6) rfl (W_q (q_load rfl ((hS.blk 0 rfl).ld ag25 rfl)) rfl ?_)))))); clear H a; intro a H
        obtain ⟨A53, c53, hv53, hl53, hm53⟩ := SlR.formV (hrp0_3.ext (Flat.mono _) hS.x)
        refine n_q H (q_lenV Tryz.underlying25 rfl hv53) rfl (W_q (q_gtrN (i := a0.Sems.length) (j := 8) rfl rfl) rfl ?_); clear H a; intro a H
        refine n_nil (then_normal (c_cond H rfl (fun hc54 => ?_) (fun hc54 => ?_)))
        · replace hm := condT hm hc54
          refine wp_seq (wp_region_lit (n_q H (q_load rfl ((hG.ext hS.x).ld gSize (by decide) ag41)) rfl (W_q (q_assign rfl) rfl ?_))); clear H a; intro a H
          refine n_nil (then_normal (wp_ret (then_ret ?_)))
          obtain rfl := Option.some.inj hm
          replace hS := hS.dVar (A := A) (g := gSize) (by decide)
          replace hS := hS.tk1
          refine ret1 H (.inr rfl) rfl rfl ?_
          exact ⟨_, rfl, hS⟩
        · replace hm := condF hm hc54
          refine wp_skip (then_normal (wp_seq (wp_seq (wp_region_lit (n_q H (q_fieldAddr0 rfl fo27_6) rfl (W_q (q_load rfl ((hS.blk 0 rfl).ld ag25 rfl)) rfl (W_q (q_lenV Tryz.underlying25 rfl hv53) rfl (W_q (q_move rfl) rfl ?_)))))))); clear H a; intro a H
          refine n_nil (then_normal (wp_block ?_))
          replace hm := bindS hm; obtain ⟨q56, hm, hm56⟩ := hm; replace hm := iter_some hm; obtain ⟨n56, hm⟩ := hm
          refine c_loop (σ := Nat × Nat) (fun (m, i57) => [(1, .pointer (some ⟨b21, 0, none⟩)), (44, vp0_3), (45, .int .i64 ((a0.Sems.length : Nat) : Int)), (46, .int .i64 ((i57 : Nat) : Int))]) (fun (m, i57) wl => iterN (g_plan_checkRest_L1 a0) m i57 = some q56 ∧ St NB w wl [blkR b21 [.int .i64 a0.Id, .bool a0.Mobile, vp0_0, vp0_1, vp0_2, .int .i64 a0.Events, vp0_3] 27]) (fun (m, i57) => m) (n56, 0) H ⟨rfl, rfl, rfl, rfl, trivial⟩ ⟨hm, hS⟩ ?_
          clear H hS hm a; intro xx a w58 H hR; obtain ⟨m, i57⟩ := xx; simp only [ent, List.map_cons, List.map_nil] at H; (try dsimp only at hR); obtain ⟨hm, hS⟩ := hR
          replace hm := iterN_step hm; obtain ⟨m56, o56, rfl, hm, hn56⟩ := hm; try dsimp only [g_plan_checkRest_L1] at hm
          refine wp_seq (wp_region_lit (n_q H (q_lssN (i := i57) (j := a0.Sems.length) rfl rfl) rfl ?_)); clear H a; intro a H
          refine n_nil (then_normal (wp_seq (c_cond H rfl (fun hc59 => ?_) (fun hc59 => ?_))))
          · replace hm := condT hm hc59
            have hlt60 : i57 < a0.Sems.length := of_decide_eq_true hc59
            refine wp_skip (then_normal (wp_seq (wp_block (wp_seq (wp_region_lit (n_q H (q_move rfl) rfl ?_)))))); clear H a; intro a H
            replace hm := bindS hm; obtain ⟨x61, hx61, hm⟩ := hm
            obtain ⟨adx61, hAx61⟩ := SlR.adV (hrp0_3.ext (Flat.mono _) hS.x) hv53 hx61
            refine n_q H (q_ixV (i := i57) Tryz.underlying25 sz3 rfl hv53 hAx61 rfl (natI hx61)) rfl (W_q (q_load rfl (SlR.ldOneV (hrp0_3.ext (Flat.mono _) hS.x) hv53 hAx61 ag3 hx61 rfl)) rfl (W_q (q_assign rfl) rfl (W_q (q_assign rfl) rfl ?_))); clear H a; intro a H
            refine n_nil (then_normal (wp_seq (wp_region_lit (n_c H (fun HC => ?_))))); clear H
            refine nc_q HC (q_move rfl) rfl (by kernel_rfl) (V_q (q_lss rfl rfl) rfl (by kernel_rfl) (V_q (q_move rfl) rfl (by kernel_rfl) (V_g (q_move rfl) (by kernel_rfl) (by kernel_rfl) (by kernel_rfl) (V_g (q_gtr rfl rfl) (by kernel_rfl) (by kernel_rfl) (by kernel_rfl) (V_or (j := 2) rfl rfl rfl (by kernel_rfl) (by kernel_rfl) ?_))))); clear HC a; intro a HC
            have H := HC.has; clear HC
            refine n_nil (then_normal (c_cond H rfl (fun hc62 => ?_) (fun hc62 => ?_)))
            · replace hm := condT hm hc62
              refine wp_seq (wp_region_lit (n_q H (q_move rfl) rfl (W_q (q_load rfl ((hG.ext hS.x).ld gRange (by decide) ag41)) rfl ?_))); clear H a; intro a H
              replace hm := bindS hm; obtain ⟨r63, hr63, hm⟩ := hm
              refine n_call H rfl en47 (g_plan_at_w (A := A) (IsErr.var (by decide) : IsE A w58 _ (.v gRange)) hr63) rfl ?_
              clear H; intro u64 w66 hv; clear a; intro a H; obtain ⟨_, rfl, hE67⟩ := hv
              replace hS := hS.new hE67; simp only [List.cons_append, List.nil_append] at hS
              refine n_q H (q_assign rfl) rfl ?_; clear H a; intro a H
              refine n_nil (then_normal (wp_ret (block_ret (then_ret (then_ret (block_ret (then_ret ?_)))))))
              obtain rfl := Option.some.inj hm; have hz : _ = q56 := hn56; subst hz; replace hm := hm56; try dsimp only at hm
              obtain rfl := Option.some.inj hm
              replace hS := hS.tk1
              refine ret1 H (.inr rfl) rfl rfl ?_
              exact ⟨_, rfl, hS⟩
            · replace hm := condF hm hc62
              refine wp_skip (block_normal (then_normal (wp_region_lit (n_q H (q_incr (i := i57) (j := 1) rfl rfl (by omega)) rfl (W_q (q_move rfl) rfl ?_))))); clear H a; intro a H
              refine n_nil (then_normal ?_)
              obtain rfl := Option.some.inj hm
              exact round (m56, i57 + 1) H ⟨rfl, rfl, rfl, rfl, trivial⟩ ⟨hn56, hS⟩ (Nat.lt_succ_self _)
          · replace hm := condF hm hc59
            refine wp_exit (then_exit (then_exit (block_exit ?_)))
            obtain rfl := Option.some.inj hm; have hz : _ = q56 := hn56; subst hz; replace hm := hm56; try dsimp only at hm
            refine then_normal (wp_seq (wp_seq (wp_region_lit (n_q H (q_load rfl ((hS.blk 0 rfl).ldAll ag27 sz27)) rfl ?_)))); clear H a; intro a H
            replace hm := bindS hm; obtain ⟨r69, hr69, hm⟩ := hm
            refine n_call H rfl en22 (g_plan_bound_w (A := A) (hG.ext hS.x) (⟨_, _, _, _, rfl, (hrp0_0.ext (Flat.mono _) hS.x), (hrp0_1.ext (Flat.mono _) hS.x), (hrp0_2.ext (Flat.mono _) hS.x), (hrp0_3.ext (Flat.mono _) hS.x)⟩ : RGPlan _ [.int .i64 a0.Id, .bool a0.Mobile, vp0_0, vp0_1, vp0_2, .int .i64 a0.Events, vp0_3] a0) hr69) rfl ?_
            clear H; intro x72 w70 hv; clear a; intro a H; obtain ⟨rfl, hE71⟩ := hv
            replace hS := hS.ext hE71
            refine n_q H (q_gtr rfl rfl) rfl ?_; clear H a; intro a H
            refine n_nil (then_normal (c_cond H rfl (fun hc73 => ?_) (fun hc73 => ?_)))
            · replace hm := condT hm hc73
              refine wp_seq (wp_region_lit (n_q H (q_load rfl ((hG.ext hS.x).ld gSize (by decide) ag41)) rfl (W_q (q_assign rfl) rfl ?_))); clear H a; intro a H
              refine n_nil (then_normal (wp_ret (then_ret ?_)))
              obtain rfl := Option.some.inj hm
              replace hS := hS.dVar (A := A) (g := gSize) (by decide)
              replace hS := hS.tk1
              refine ret1 H (.inr rfl) rfl rfl ?_
              exact ⟨_, rfl, hS⟩
            · replace hm := condF hm hc73
              refine wp_skip (then_normal (wp_seq (wp_region_lit (n_q H (q_assign rfl) rfl ?_)))); clear H a; intro a H
              refine n_nil (then_normal (wp_ret ?_))
              obtain rfl := Option.some.inj hm
              replace hS := hS.dNil (A := A)
              replace hS := hS.tk1
              refine ret1 H (.inr rfl) rfl rfl ?_
              exact ⟨_, rfl, hS⟩
theorem g_plan_Check_w {w : World} {A : Nat → Addr} {cs0 : List Value} {a0 : GPlan} (hG : EV A w) (h0 : RGPlan w cs0 a0) {r : ErrM} (hm : g_plan_Check a0 = some r) :
    Calls Tryz.prog 14 [.agg cs0.toArray].toArray w (Ret fun u w' => ∃ h_0, u = h_0 ∧ St NB w w' [erQ A h_0 r]) := by
  obtain ⟨vp0_0, vp0_1, vp0_2, vp0_3, rfl, hrp0_0, hrp0_1, hrp0_2, hrp0_3⟩ := h0
  have hS := St.begin NB w
  unfold g_plan_Check at hm
  refine enter Tryz.func14 rfl rfl rfl ?_; intro a H; dsimp only [enumL, Nat.zero_add, Nat.reduceAdd] at H
  refine wp_seq (wp_region_lit (n_box H rfl (cs := [.int .i64 a0.Id, .bool a0.Mobile, vp0_0, vp0_1, vp0_2, .int .i64 a0.Events, vp0_3]) rfl rfl ?_))
  clear H; intro b21 w22 hN hE23 hs; clear a; intro a H
  replace hS := hS.newBlk hN hE23 hs; clear hN hs
  refine n_q H (q_assign rfl) rfl ?_; clear H a; intro a H
  refine n_nil (then_normal (wp_seq (wp_seq (wp_region_lit (n_c H (fun HC => ?_)))))); clear H
  refine nc_q HC (q_fieldAddr0 rfl fo27_0) rfl (by kernel_rfl) (V_q (q_load rfl ((hS.blk 0 rfl).ld ag3 rfl)) rfl (by kernel_rfl) (V_q (q_lss rfl rfl) rfl (by kernel_rfl) (V_q (q_move rfl) rfl (by kernel_rfl) (V_g (q_fieldAddr0 rfl fo27_0) (by kernel_rfl) (by kernel_rfl) (by kernel_rfl) (V_g (q_load rfl ((hS.blk 0 rfl).ld ag3 rfl)) (by kernel_rfl) (by kernel_rfl) (by kernel_rfl) (V_g (q_gtr rfl rfl) (by kernel_rfl) (by kernel_rfl) (by kernel_rfl) (V_or (j := 3) rfl rfl rfl (by kernel_rfl) (by kernel_rfl) ?_))))))); clear HC a; intro a HC
  have H := HC.has; clear HC
  refine n_nil (then_normal (c_cond H rfl (fun hc24 => ?_) (fun hc24 => ?_)))
  · replace hm := condT hm hc24
    refine wp_seq (wp_region_lit (n_q H (q_load rfl ((hG.ext hS.x).ld gRange (by decide) ag41)) rfl (W_q (q_assign rfl) rfl ?_))); clear H a; intro a H
    refine n_nil (then_normal (wp_ret (then_ret ?_)))
    obtain rfl := Option.some.inj hm
    replace hS := hS.dVar (A := A) (g := gRange) (by decide)
    replace hS := hS.tk1
    refine ret1 H (.inr rfl) rfl rfl ?_
    exact ⟨_, rfl, hS⟩
  · replace hm := condF hm hc24
    refine wp_skip (then_normal (wp_seq (wp_seq (wp_region_lit (n_buildSlice H Tryz.underlying80 sz55 ze55 rfl rfl rfl (cs := [.func (.func 23) [].toArray [].toArray, .func (.func 24) [].toArray [].toArray, .func (.func 25) [].toArray [].toArray]) (by kernel_rfl) rfl ?_)))))
    clear H; intro b28 w26 hN hE27 hs; clear a; intro a H
    replace hS := hS.newBlk hN hE27 hs; clear hN hs
    refine n_q H (q_lenSl Tryz.underlying80 rfl) rfl (W_q (q_move rfl) rfl ?_); clear H a; intro a H
    refine n_nil (then_normal (wp_block (wp_loop_rounds 4 ?_)))
    refine Eq.mpr (rounds_succ (n := 3)) ?_
    refine wp_seq (wp_region_lit (n_q H (q_cast (q_lss rfl rfl) (show _ = Value.bool true from rfl)) rfl ?_)); clear H a; intro a H
    refine n_nil (then_normal (wp_seq (c_condKT H rfl ?_)))
    refine wp_skip (then_normal (wp_seq (wp_block (wp_seq (wp_region_lit (n_q H (q_cast (q_indexAddr Tryz.underlying80 sz55 rfl rfl (by decide) (by decide)) (show _ = Value.pointer (some ⟨b28, 0, none⟩) by simp [plain_add])) rfl (W_q (q_load rfl ((hS.blk 0 rfl).ld ag55 rfl)) rfl (W_q (q_assign rfl) rfl ?_)))))))); clear H a; intro a H
    refine n_nil (then_normal (wp_seq (wp_region_lit (n_q H (q_move rfl) rfl (W_q (q_load rfl ((hS.blk 1 rfl).ldAll ag27 sz27)) rfl ?_))))); clear H a; intro a H
    replace hm := bindS hm; obtain ⟨r30, hr30, hm⟩ := hm
    refine n_callv H rfl rfl en23 (g_plan_checkPages_w (A := A) (hG.ext hS.x) (⟨_, _, _, _, rfl, (hrp0_0.ext (Flat.mono _) hS.x), (hrp0_1.ext (Flat.mono _) hS.x), (hrp0_2.ext (Flat.mono _) hS.x), (hrp0_3.ext (Flat.mono _) hS.x)⟩ : RGPlan _ [.int .i64 a0.Id, .bool a0.Mobile, vp0_0, vp0_1, vp0_2, .int .i64 a0.Events, vp0_3] a0) hr30) rfl ?_
    clear H; intro u31 w33 hv; clear a; intro a H; obtain ⟨_, rfl, hE34⟩ := hv
    replace hS := hS.new hE34; simp only [List.cons_append, List.nil_append] at hS
    refine n_q H (q_assign rfl) rfl ?_; clear H a; intro a H
    refine n_nil (then_normal (wp_seq (wp_region_lit (n_q H (q_move rfl) rfl (W_q (q_cast (q_nnilI Tryz.underlying41 rfl rfl (hS.any 0 rfl : IsE A w33 u31 r30).form) (show _ = Value.bool (!decide (r30 = .nil)) by rw [IsErr.isNil (hS.any 0 rfl : IsE A w33 u31 r30)])) rfl ?_))))); clear H a; intro a H
    refine n_nil (then_normal (c_cond H rfl (fun hc36 => ?_) (fun hc36 => ?_)))
    · replace hm := condT hm hc36
      refine wp_seq (wp_region_lit (n_q H (q_move rfl) rfl (W_q (q_assign rfl) rfl ?_))); clear H a; intro a H
      refine n_nil (then_normal (wp_ret (block_ret (then_ret (then_ret (block_ret (then_ret ?_)))))))
      obtain rfl := Option.some.inj hm
      replace hS := hS.tk1
      refine ret1 H (.inr rfl) rfl rfl ?_
      exact ⟨_, rfl, hS⟩
    · replace hm := condF hm hc36
      refine wp_skip (block_normal (then_normal (wp_region_lit (n_q H (q_cast (q_addW rfl rfl) (show _ = Value.int .i64 1 from rfl)) rfl (W_q (q_move rfl) rfl ?_))))); clear H a; intro a H
      refine n_nil (then_normal (Eq.mpr (rounds_succ (n := 2)) ?_))
      refine wp_seq (wp_region_lit (n_q H (q_cast (q_lss rfl rfl) (show _ = Value.bool true from rfl)) rfl ?_)); clear H a; intro a H
      refine n_nil (then_normal (wp_seq (c_condKT H rfl ?_)))
      refine wp_skip (then_normal (wp_seq (wp_block (wp_seq (wp_region_lit (n_q H (q_cast (q_indexAddr Tryz.underlying80 sz55 rfl rfl (by decide) (by decide)) (show _ = Value.pointer (some ⟨b28, 1, none⟩) by simp [plain_add])) rfl (W_q (q_load rfl ((hS.blk 1 rfl).ld ag55 rfl)) rfl (W_q (q_assign rfl) rfl ?_)))))))); clear H a; intro a H
      refine n_nil (then_normal (wp_seq (wp_region_lit (n_q H (q_move rfl) rfl (W_q (q_load rfl ((hS.blk 2 rfl).ldAll ag27 sz27)) rfl ?_))))); clear H a; intro a H
      replace hm := bindS hm; obtain ⟨r38, hr38, hm⟩ := hm
      refine n_callv H rfl rfl en24 (g_plan_checkProcs_w (A := A) (hG.ext hS.x) (⟨_, _, _, _, rfl, (hrp0_0.ext (Flat.mono _) hS.x), (hrp0_1.ext (Flat.mono _) hS.x), (hrp0_2.ext (Flat.mono _) hS.x), (hrp0_3.ext (Flat.mono _) hS.x)⟩ : RGPlan _ [.int .i64 a0.Id, .bool a0.Mobile, vp0_0, vp0_1, vp0_2, .int .i64 a0.Events, vp0_3] a0) hr38) rfl ?_
      clear H; intro u39 w41 hv; clear a; intro a H; obtain ⟨_, rfl, hE42⟩ := hv
      replace hS := hS.new hE42; simp only [List.cons_append, List.nil_append] at hS
      refine n_q H (q_assign rfl) rfl ?_; clear H a; intro a H
      refine n_nil (then_normal (wp_seq (wp_region_lit (n_q H (q_move rfl) rfl (W_q (q_cast (q_nnilI Tryz.underlying41 rfl rfl (hS.any 0 rfl : IsE A w41 u39 r38).form) (show _ = Value.bool (!decide (r38 = .nil)) by rw [IsErr.isNil (hS.any 0 rfl : IsE A w41 u39 r38)])) rfl ?_))))); clear H a; intro a H
      refine n_nil (then_normal (c_cond H rfl (fun hc44 => ?_) (fun hc44 => ?_)))
      · replace hm := condT hm hc44
        refine wp_seq (wp_region_lit (n_q H (q_move rfl) rfl (W_q (q_assign rfl) rfl ?_))); clear H a; intro a H
        refine n_nil (then_normal (wp_ret (block_ret (then_ret (then_ret (block_ret (then_ret ?_)))))))
        obtain rfl := Option.some.inj hm
        replace hS := hS.tk1
        refine ret1 H (.inr rfl) rfl rfl ?_
        exact ⟨_, rfl, hS⟩
      · replace hm := condF hm hc44
        refine wp_skip (block_normal (then_normal (wp_region_lit (n_q H (q_cast (q_addW rfl rfl) (show _ = Value.int .i64 2 from rfl)) rfl (W_q (q_move rfl) rfl ?_))))); clear H a; intro a H
        refine n_nil (then_normal (Eq.mpr (rounds_succ (n := 1)) ?_))
        refine wp_seq (wp_region_lit (n_q H (q_cast (q_lss rfl rfl) (show _ = Value.bool true from rfl)) rfl ?_)); clear H a; intro a H
        refine n_nil (then_normal (wp_seq (c_condKT H rfl ?_)))
        refine wp_skip (then_normal (wp_seq (wp_block (wp_seq (wp_region_lit (n_q H (q_cast (q_indexAddr Tryz.underlying80 sz55 rfl rfl (by decide) (by decide)) (show _ = Value.pointer (some ⟨b28, 2, none⟩) by simp [plain_add])) rfl (W_q (q_load rfl ((hS.blk 2 rfl).ld ag55 rfl)) rfl (W_q (q_assign rfl) rfl ?_)))))))); clear H a; intro a H
        refine n_nil (then_normal (wp_seq (wp_region_lit (n_q H (q_move rfl) rfl (W_q (q_load rfl ((hS.blk 3 rfl).ldAll ag27 sz27)) rfl ?_))))); clear H a; intro a H
        replace hm := bindS hm; obtain ⟨r46, hr46, hm⟩ := hm
        refine n_callv H rfl rfl en25 (g_plan_checkRest_w (A := A) (hG.ext hS.x) (⟨_, _, _, _, rfl, (hrp0_0.ext (Flat.mono _) hS.x), (hrp0_1.ext (Flat.mono _) hS.x), (hrp0_2.ext (Flat.mono _) hS.x), (hrp0_3.ext (Flat.mono _) hS.x)⟩ : RGPlan _ [.int .i64 a0.Id, .bool a0.Mobile, vp0_0, vp0_1, vp0_2, .int .i64 a0.Events, vp0_3] a0) hr46) rfl ?_
        clear H; intro u47 w49 hv; clear a; intro a H; obtain ⟨_, rfl, hE50⟩ := hv
        replace hS := hS.new hE50; simp only [List.cons_append, List.nil_append] at hS
        refine n_q H (q_assign rfl) rfl ?_; clear H a; intro a H
        refine n_nil (then_normal (wp_seq (wp_region_lit (n_q H (q_move rfl) rfl (W_q (q_cast (q_nnilI Tryz.underlying41 rfl rfl (hS.any 0 rfl : IsE A w49 u47 r46).form) (show _ = Value.bool (!decide (r46 = .nil)) by rw [IsErr.isNil (hS.any 0 rfl : IsE A w49 u47 r46)])) rfl ?_))))); clear H a; intro a H
        refine n_nil (then_normal (c_cond H rfl (fun hc52 => ?_) (fun hc52 => ?_)))
        · replace hm := condT hm hc52
          refine wp_seq (wp_region_lit (n_q H (q_move rfl) rfl (W_q (q_assign rfl) rfl ?_))); clear H a; intro a H
          refine n_nil (then_normal (wp_ret (block_ret (then_ret (then_ret (block_ret (then_ret ?_)))))))
          obtain rfl := Option.some.inj hm
          replace hS := hS.tk1
          refine ret1 H (.inr rfl) rfl rfl ?_
          exact ⟨_, rfl, hS⟩
        · replace hm := condF hm hc52
          refine wp_skip (block_normal (then_normal (wp_region_lit (n_q H (q_cast (q_addW rfl rfl) (show _ = Value.int .i64 3 from rfl)) rfl (W_q (q_move rfl) rfl ?_))))); clear H a; intro a H
          refine n_nil (then_normal (Eq.mpr (rounds_succ (n := 0)) ?_))
          refine wp_seq (wp_region_lit (n_q H (q_cast (q_lss rfl rfl) (show _ = Value.bool false from rfl)) rfl ?_)); clear H a; intro a H
          refine n_nil (then_normal (wp_seq (c_condKF H rfl ?_)))
          refine wp_exit (then_exit (then_exit (block_exit (then_normal (wp_seq (wp_region_lit (n_q H (q_assign rfl) rfl ?_))))))); clear H a; intro a H
          refine n_nil (then_normal (wp_ret ?_))
          obtain rfl := Option.some.inj hm
          replace hS := hS.dNil (A := A)
          replace hS := hS.tk1
          refine ret1 H (.inr rfl) rfl rfl ?_
          exact ⟨_, rfl, hS⟩
theorem g_slices_Clone_int_w {w : World} {A : Nat → Addr} {v0 : Value} {a0 : List Int} (h0 : SlR w 1 (Flat eI) v0 a0) {r : List Int} (hm : g_slices_Clone_int a0 = some r) :
    Calls Tryz.prog 18 [v0].toArray w (Ret fun u w' => ∃ h_0, u = h_0 ∧ St NB w w' [ownR 3 1 h_0 r.length (r.flatMap eI)]) := by
  have hS := St.begin NB w
  unfold g_slices_Clone_int at hm
  refine enter Tryz.func18 rfl rfl rfl ?_; intro a H; dsimp only [enumL, Nat.zero_add, Nat.reduceAdd] at H
  refine wp_seq (wp_region_lit (n_q H (q_assign rfl) rfl ?_)); clear H a; intro a H
  refine n_nil (then_normal (wp_seq (wp_seq (wp_region_lit (n_q H (q_move rfl) rfl ?_))))); clear H a; intro a H
  obtain ⟨A21, c21, hv21, hl21, hm21⟩ := SlR.formV (h0.ext (Flat.mono _) hS.x)
  refine n_q H (q_nilV Tryz.underlying25 rfl hv21 rfl) rfl ?_; clear H a; intro a H
  refine n_nil (then_normal (c_cond H rfl (fun hc22 => ?_) (fun hc22 => ?_)))
  · obtain rfl := SlR.nilV (h0.ext (Flat.mono _) hS.x) hv21 hc22; replace hm := chkS hm; obtain ⟨_, hm⟩ := hm
    refine wp_seq (wp_region_lit (n_q H (q_assign rfl) rfl ?_)); clear H a; intro a H
    refine n_nil (then_normal (wp_ret (then_ret ?_)))
    obtain rfl := Option.some.inj hm
    replace hS := hS.nilOwn 3 1
    refine ret1 H (.inr rfl) rfl rfl ?_
    exact ⟨_, rfl, hS⟩
  · skip
    refine wp_skip (then_normal (wp_seq (wp_region_lit (n_buildSlice H Tryz.underlying25 sz3 ze3 rfl rfl rfl (cs := []) rfl rfl ?_))))
    clear H; intro b26 w24 hN hE25 hs; clear a; intro a H
    replace hS := hS.newBlk hN hE25 hs; clear hN hs
    replace hS := hS.blkOwnL (e := eI) (k := 1) ([] : List Int) rfl rfl (by simp [maxLen])
    refine n_q H (q_move rfl) rfl ?_; clear H a; intro a H
    replace hm := chkS hm; obtain ⟨hk28, hm⟩ := hm
    refine n_app (e := eI) H rfl rfl Tryz.underlying25 Tryz.underlying25 (by simp) el3 (hS.own 0 rfl) ((h0.ext (Flat.mono _) hS.x).src (fun _ _ => rfl)) eI_one hk28 (by simp only [maxLen]; omega) rfl ?_
    clear H; intro v31 w29 hN hC30 hb; clear a; intro a H; replace hS := hS.setOwn hN hC30 hb; clear hN hb
    refine n_q H (q_assign rfl) rfl ?_; clear H a; intro a H
    refine n_nil (then_normal (wp_ret ?_))
    obtain rfl := Option.some.inj hm
    refine ret1 H (.inr rfl) rfl rfl ?_
    exact ⟨_, rfl, hS⟩
set_option maxHeartbeats 4000000 in
theorem g_plan_Boot_w {w : World} {A : Nat → Addr} {cs0 : List Value} {a0 : GPlan} (hG : EV A w) (h0 : RGPlan w cs0 a0) {r : GState × ErrM} (hm : g_plan_Boot a0 = some r) :
    Calls Tryz.prog 5 [.agg cs0.toArray].toArray w (Ret fun u w' => ∃ h_0 h_1 h_2 h_3 h_4 h_5 h_6 h_7, u = .tuple #[.agg #[.int .i64 r.1.Id, .int .i64 r.1.Frame, .int .i64 r.1.Epoch, h_0, h_1, h_2, h_3, h_4, h_5, h_6], h_7] ∧ St NB w w' [ownR 67 21 h_0 r.1.Procs.length (r.1.Procs.flatMap eGProc), ownR 3 1 h_1 r.1.Ready.length (r.1.Ready.flatMap eI), ownR 99 2 h_2 r.1.Timers.length (r.1.Timers.flatMap eGTimer), ownR 4 1 h_3 r.1.Up.length (r.1.Up.flatMap eF), ownR 3 1 h_4 r.1.Sems.length (r.1.Sems.flatMap eI), deepR 76 2 RGPort h_5 r.1.Ports, ownR 60 66 h_6 r.1.Pages.length (r.1.Pages.flatMap eGPage), erQ A h_7 r.2]) := by
  obtain ⟨vp0_0, vp0_1, vp0_2, vp0_3, rfl, hrp0_0, hrp0_1, hrp0_2, hrp0_3⟩ := h0
  have hS := St.begin NB w
  unfold g_plan_Boot at hm
  refine enter Tryz.func5 rfl rfl rfl ?_; intro a H; dsimp only [enumL, Nat.zero_add, Nat.reduceAdd] at H
  refine wp_seq (wp_region_lit (n_box H rfl (cs := [.int .i64 a0.Id, .bool a0.Mobile, vp0_0, vp0_1, vp0_2, .int .i64 a0.Events, vp0_3]) rfl rfl ?_))
  clear H; intro b21 w22 hN hE23 hs; clear a; intro a H
  replace hS := hS.newBlk hN hE23 hs; clear hN hs
  refine n_alloc H ze39 rfl ?_
  clear H; intro b24 w25 hN hE26 hs; clear a; intro a H
  replace hS := hS.newBlk hN hE26 hs; clear hN hs
  refine n_q H (q_assign rfl) rfl ?_; clear H a; intro a H
  refine n_nil (then_normal (wp_seq (wp_seq (wp_region_lit (n_q H (q_load rfl ((hS.blk 1 rfl).ldAll ag27 sz27)) rfl ?_))))); clear H a; intro a H
  replace hm := bindS hm; obtain ⟨r27, hr27, hm⟩ := hm
  refine n_call H rfl en14 (g_plan_Check_w (A := A) (hG.ext hS.x) (⟨_, _, _, _, rfl, (hrp0_0.ext (Flat.mono _) hS.x), (hrp0_1.ext (Flat.mono _) hS.x), (hrp0_2.ext (Flat.mono _) hS.x), (hrp0_3.ext (Flat.mono _) hS.x)⟩ : RGPlan _ [.int .i64 a0.Id, .bool a0.Mobile, vp0_0, vp0_1, vp0_2, .int .i64 a0.Events, vp0_3] a0) hr27) rfl ?_
  clear H; intro u28 w30 hv; clear a; intro a H; obtain ⟨_, rfl, hE31⟩ := hv
  replace hS := hS.new hE31; simp only [List.cons_append, List.nil_append] at hS
  refine n_q H (q_cast (q_nnilI Tryz.underlying41 rfl rfl (hS.any 0 rfl : IsE A w30 u28 r27).form) (show _ = Value.bool (!decide (r27 = .nil)) by rw [IsErr.isNil (hS.any 0 rfl : IsE A w30 u28 r27)])) rfl ?_; clear H a; intro a H
  refine n_nil (then_normal (c_cond H rfl (fun hc33 => ?_) (fun hc33 => ?_)))
  · replace hm := condT hm hc33
    refine wp_seq (c_ord (kB w.heap.size (b21 :: []) w30.drew.heap.size) 4 (by kernel_rfl) ?_)
    obtain ⟨w34, hw34⟩ : ∃ x, x = w30.drew := ⟨_, rfl⟩; rw [← hw34]; have hE35 : Ext w30 w34 := by rw [hw34]; exact Ext.drew' _
    clear hw34
    replace hS := hS.ext hE35
    have hh_b21 := (hS.blk 2 rfl).lt
    have hh36 := hS.x.size
    have hW := Nat.le_refl w34.heap.size
    refine k_takeT 0 H rfl (q_build (cs := [.int .i64 0, .int .i64 0, .int .i64 0, .slice none 0 0, .slice none 0 0, .slice none 0 0, .slice none 0 0, .slice none 0 0, .slice none 0 0, .slice none 0 0]) ze39 bd39 pl39 rfl (by kernel_rfl)) rfl (by kernel_rfl) (by kernel_rfl) (by kernel_rfl) (by kernel_rfl) (fun _ _ _ h => h) ?_; clear H a; intro a H
    refine k_take 1 H rfl (q_load rfl (LdC.old (hG.ld gPlan (by decide) ag41) hS.x hh36 kB_old)) rfl (by kernel_rfl) (by kernel_rfl) (by kernel_rfl) (by kernel_rfl) (fun _ _ _ h => h) ?_; clear H a; intro a H
    replace hS := hS.pk1
    refine k_storeAll 2 H rfl rfl rfl (vs := [.int .i64 0, .int .i64 0, .int .i64 0, .slice none 0 0, .slice none 0 0, .slice none 0 0, .slice none 0 0, .slice none 0 0, .slice none 0 0, .slice none 0 0]) rfl sz39 (hS.blk 0 rfl) rfl (by simp) (by kernel_rfl) (.inl (fun h => mem_kB h (hS.ge (i := 0) rfl) (notin_cons (hS.ne (i := 0) (j := 2) (by decide) rfl rfl) notin_nil))) ?_
    clear H; intro w37 hN hC38 hz; clear a; intro a H; replace hS := hS.setBlk hN hC38; clear hN hz; replace hW := Nat.le_trans hW hC38.size
    refine k_takeT 3 H rfl (q_assign rfl) rfl (by kernel_rfl) (by kernel_rfl) (by kernel_rfl) (by kernel_rfl) (fun _ _ _ h => h) ?_; clear H a; intro a H
    refine k_done (by kernel_rfl) ?_
    refine then_normal (wp_ret (then_ret ?_))
    obtain rfl := Option.some.inj hm
    replace hS := hS.nilOwn 67 21
    replace hS := hS.nilOwn 3 1
    replace hS := hS.nilOwn 99 2
    replace hS := hS.nilOwn 4 1
    replace hS := hS.nilOwn 3 1
    replace hS := hS.deepNil 76 2 RGPort
    replace hS := hS.nilOwn 60 66
    replace hS := hS.dVar (A := A) (g := gPlan) (by decide)
    replace hS := hS.pk8
    replace hS := hS.pk1
    replace hS := hS.pk2
    replace hS := hS.pk3
    replace hS := hS.pk4
    replace hS := hS.pk5
    replace hS := hS.pk6
    replace hS := hS.pk7
    replace hS := hS.pk8
    replace hS := hS.tk9
    refine retL H (.inr rfl) rfl (vs := [.agg #[.int .i64 0, .int .i64 0, .int .i64 0, .slice none 0 0, .slice none 0 0, .slice none 0 0, .slice none 0 0, .slice none 0 0, .slice none 0 0, .slice none 0 0], sv 161 A gPlan]) (resCell rfl ((hS.blk 8 rfl).ldAll ag39 sz39) (resTmp rfl resNil)) ?_
    replace hS := hS.tk8
    exact ⟨_, _, _, _, _, _, _, _, rfl, hS⟩
  · replace hm := condF hm hc33
    refine wp_skip (then_normal ?_)
    replace hm := bindS hm; obtain ⟨j47, hm, hm47⟩ := hm
    refine c_join (σ := (List Bool) × (List Int) × (List GPort) × Value × Value × Value × Nat) H (fun (l548, l551, l554, v549, v552, v555, b557) => [(1, .pointer (some ⟨b21, 0, none⟩)), (2, .pointer (some ⟨b24, 0, none⟩)), (4, .pointer (some ⟨b557, 0, none⟩))]) (fun (l548, l551, l554, v549, v552, v555, b557) wl => (g_plan_Boot_J9 a0) (l548, l551, l554) = some r ∧ St NB w wl [blkR b21 [.int .i64 a0.Id, .bool a0.Mobile, vp0_0, vp0_1, vp0_2, .int .i64 a0.Events, vp0_3] 27, blkR b24 [.int .i64 0, .int .i64 0, .int .i64 0, .slice none 0 0, .slice none 0 0, .slice none 0 0, .slice none 0 0, .slice none 0 0, .slice none 0 0, .slice none 0 0] 39, blkR b557 [.int .i64 a0.Id, .int .i64 0, .int .i64 0, .slice none 0 0, .slice none 0 0, .slice none 0 0, v549, v552, v555, .slice none 0 0] 39, ownR 4 1 v549 l548.length (l548.flatMap eF), ownR 3 1 v552 l551.length (l551.flatMap eI), deepR 76 2 RGPort v555 l554]) ?_ ?_
    · skip
      refine c_ord [] 15 (by kernel_rfl) ?_
      obtain ⟨w558, hw558⟩ : ∃ x, x = w30.drew := ⟨_, rfl⟩; rw [← hw558]; have hE559 : Ext w30 w558 := by rw [hw558]; exact Ext.drew' _
      clear hw558
      replace hS := hS.ext hE559
      have hS560 := hS
      have hW := Nat.le_refl w558.heap.size
      refine k_takeT 0 H rfl (q_fieldAddr0 rfl fo27_0) rfl (by kernel_rfl) (by kernel_rfl) (by kernel_rfl) (by kernel_rfl) (fun _ _ _ h => h) ?_; clear H a; intro a H
      refine k_take 1 H rfl (q_load rfl (LdC.old ((hS560.blk 2 rfl).ld ag3 rfl) Ext.rfl' (Nat.le_refl _) (by simp))) rfl (by kernel_rfl) (by kernel_rfl) (by kernel_rfl) (by kernel_rfl) (fun _ _ _ h => h) ?_; clear H a; intro a H
      refine k_takeT 2 H rfl (q_fieldAddr0 rfl fo27_5) rfl (by kernel_rfl) (by kernel_rfl) (by kernel_rfl) (by kernel_rfl) (fun _ _ _ h => h) ?_; clear H a; intro a H
      refine k_take 3 H rfl (q_load rfl (LdC.old ((hS560.blk 2 rfl).ld ag3 rfl) Ext.rfl' (Nat.le_refl _) (by simp))) rfl (by kernel_rfl) (by kernel_rfl) (by kernel_rfl) (by kernel_rfl) (fun _ _ _ h => h) ?_; clear H a; intro a H
      refine k_takeT 5 H rfl (q_fieldAddr0 rfl fo27_6) rfl (by kernel_rfl) (by kernel_rfl) (by kernel_rfl) (by kernel_rfl) (fun _ _ _ h => h) ?_; clear H a; intro a H
      refine k_take 6 H rfl (q_load rfl (LdC.old ((hS560.blk 2 rfl).ld ag25 rfl) Ext.rfl' (Nat.le_refl _) (by simp))) rfl (by kernel_rfl) (by kernel_rfl) (by kernel_rfl) (by kernel_rfl) (fun _ _ _ h => h) ?_; clear H a; intro a H
      refine k_takeT 8 H rfl (q_fieldAddr0 rfl fo27_4) rfl (by kernel_rfl) (by kernel_rfl) (by kernel_rfl) (by kernel_rfl) (fun _ _ _ h => h) ?_; clear H a; intro a H
      refine k_take 9 H rfl (q_load rfl (LdC.old ((hS560.blk 2 rfl).ld ag24 rfl) Ext.rfl' (Nat.le_refl _) (by simp))) rfl (by kernel_rfl) (by kernel_rfl) (by kernel_rfl) (by kernel_rfl) (fun _ _ _ h => h) ?_; clear H a; intro a H
      obtain ⟨A561, c561, hv561, hl561, hm561⟩ := SlR.formV (hrp0_2.ext (Flat.mono _) hS.x)
      refine k_takeT 10 H rfl (q_lenV Tryz.underlying24 rfl hv561) rfl (by kernel_rfl) (by kernel_rfl) (by kernel_rfl) (by kernel_rfl) (fun _ _ _ h => h) ?_; clear H a; intro a H
      replace hm := chkS hm; obtain ⟨hk562, hm⟩ := hm
      replace hm := chkS hm; obtain ⟨hk563, hm⟩ := hm
      replace hm := bindS hm; obtain ⟨r564, hr564, hm⟩ := hm
      replace hm := chkS hm; obtain ⟨hk565, hm⟩ := hm
      refine k_four 4 7 11 13 (by kernel_rfl) ?_ ?_ ?_ ?_
      · skip
        refine kk_makeL (e := eF) (z0 := false) (L := a0.Events.toNat) (C := a0.Events.toNat) 4 H rfl Tryz.underlying35 el4 rfl (by show _ = some (Value.int .i64 ((Int.toNat a0.Events : Nat) : Int)); rw [Int.toNat_of_nonneg hk562]; rfl) (by show _ = some (Value.int .i64 ((Int.toNat a0.Events : Nat) : Int)); rw [Int.toNat_of_nonneg hk562]; rfl) (Nat.le_refl _) hk563 (by simp only [maxLen]; omega) rfl ?_
        clear H; intro b566 w567 hN hE568 hs; clear a; intro a H; replace hS := hS.newOwn hN hE568 (by simp [blks]; omega); clear hN
        replace hW := Nat.le_trans hW hE568.size
        refine k_three 7 11 13 (by kernel_rfl) ?_ ?_ ?_
        · skip
          refine kk_call 7 H rfl rfl en18 (g_slices_Clone_int_w (A := A) (hrp0_3.ext (Flat.mono _) hS.x) hr564) rfl (fun v w hv => .inl (ChgF.of_ext (by obtain ⟨_, _, hE0⟩ := hv; exact hE0.x))) ?_
          clear H; intro u570 w572 hv; clear a; intro a H; obtain ⟨_, rfl, hE573⟩ := hv
          replace hS := hS.new hE573; simp only [List.cons_append, List.nil_append] at hS
          replace hW := Nat.le_trans hW hE573.x.size
          refine k_two 11 13 (by kernel_rfl) ?_ ?_
          · skip
            refine kk_make (L := a0.Ports.length) (C := a0.Ports.length) 11 H rfl Tryz.underlying36 el76 rfl rfl (Nat.le_refl _) hk565 (by simp only [maxLen]; omega) rfl ?_
            clear H; intro b575 w576 hN hE577 hs; clear a; intro a H; replace hS := hS.newOwn hN hE577 (by simp [blks]; omega); clear hN
            replace hS := St.mkDeep0 (R := RGPort) (z0 := (⟨([] : List ByteArray), 0⟩ : GPort)) (n := a0.Ports.length) rfl (by simp) (fun w => ⟨_, rfl, SlR.nil _ _ _⟩) hS
            replace hW := Nat.le_trans hW hE577.size
            refine k_takeT 12 H rfl (q_build (cs := [.int .i64 a0.Id, .int .i64 0, .int .i64 0, .slice none 0 0, .slice none 0 0, .slice none 0 0, .slice (some ⟨b566, 0, none⟩) a0.Events.toNat a0.Events.toNat, u570, .slice (some ⟨b575, 0, none⟩) a0.Ports.length a0.Ports.length, .slice none 0 0]) ze39 bd39 pl39 rfl ((fill1 rfl rfl (by simp)).trans ((fill1 (((hS.own 2 rfl).slr rfl (fun _ _ => rfl))).one rfl (by simp)).trans ((fill1 (((hS.own 1 rfl).slr rfl (fun _ _ => rfl))).one rfl (by simp)).trans ((fill1 ((hS.deepSl 0 rfl)).one rfl (by simp)).trans rfl))))) rfl (by kernel_rfl) (by kernel_rfl) (by kernel_rfl) (by kernel_rfl) (fun _ _ _ h => h) ?_; clear H a; intro a H
            refine k_alloc 13 H rfl ze39 rfl (by kernel_rfl) ?_
            clear H; intro b579 w580 hN hE581 hs; clear a; intro a H
            have hge_b579 : w558.heap.size ≤ b579 := hs ▸ hW
            replace hS := hS.newBlk hN hE581 hs; clear hN hs
            replace hW := Nat.le_trans hW hE581.size
            refine k_storeAll 14 H rfl rfl rfl (vs := [.int .i64 a0.Id, .int .i64 0, .int .i64 0, .slice none 0 0, .slice none 0 0, .slice none 0 0, .slice (some ⟨b566, 0, none⟩) a0.Events.toNat a0.Events.toNat, u570, .slice (some ⟨b575, 0, none⟩) a0.Ports.length a0.Ports.length, .slice none 0 0]) rfl sz39 (hS.blk 0 rfl) rfl (by simp [(((hS.own 3 rfl).slr rfl (fun _ _ => rfl))).one, (((hS.own 2 rfl).slr rfl (fun _ _ => rfl))).one, ((hS.deepSl 1 rfl)).one]) (by kernel_rfl) (.inl (fun h => absurd h (Nat.not_lt.2 hge_b579))) ?_
            clear H; intro w582 hN hC583 hz; clear a; intro a H; replace hS := hS.setBlk hN hC583; clear hN hz; replace hW := Nat.le_trans hW hC583.size
            refine k_done (by kernel_rfl) ?_
            refine then_normal ?_
            obtain rfl := Option.some.inj hm; replace hm := hm47; try dsimp only at hm
            replace hS := hS.pk1
            replace hS := hS.pk2
            replace hS := hS.pk3
            replace hS := hS.pk3
            replace hS := hS.pk5
            replace hS := hS.pk6
            replace hS := hS.tk6
            exact join ((List.replicate a0.Events.toNat false), r564, (List.replicate a0.Ports.length (⟨([] : List ByteArray), 0⟩ : GPort)), .slice (some ⟨b566, 0, none⟩) a0.Events.toNat a0.Events.toNat, u570, .slice (some ⟨b575, 0, none⟩) a0.Ports.length a0.Ports.length, b579) H ⟨rfl, rfl, rfl, trivial⟩ ⟨hm, hS⟩
          · skip
            refine kk_alloc 13 H rfl ze39 rfl ?_
            clear H; intro b584 w585 hN hE586 hs; clear a; intro a H
            have hge_b584 : w558.heap.size ≤ b584 := hs ▸ hW
            replace hS := hS.newBlk hN hE586 hs; clear hN hs
            replace hW := Nat.le_trans hW hE586.size
            refine k_of_kk 11 (by kernel_rfl) ?_
            refine kk_make (L := a0.Ports.length) (C := a0.Ports.length) 11 H rfl Tryz.underlying36 el76 rfl rfl (Nat.le_refl _) hk565 (by simp only [maxLen]; omega) rfl ?_
            clear H; intro b587 w588 hN hE589 hs; clear a; intro a H; replace hS := hS.newOwn hN hE589 (by simp [blks]; omega); clear hN
            replace hS := St.mkDeep0 (R := RGPort) (z0 := (⟨([] : List ByteArray), 0⟩ : GPort)) (n := a0.Ports.length) rfl (by simp) (fun w => ⟨_, rfl, SlR.nil _ _ _⟩) hS
            replace hW := Nat.le_trans hW hE589.size
            refine k_takeT 12 H rfl (q_build (cs := [.int .i64 a0.Id, .int .i64 0, .int .i64 0, .slice none 0 0, .slice none 0 0, .slice none 0 0, .slice (some ⟨b566, 0, none⟩) a0.Events.toNat a0.Events.toNat, u570, .slice (some ⟨b587, 0, none⟩) a0.Ports.length a0.Ports.length, .slice none 0 0]) ze39 bd39 pl39 rfl ((fill1 rfl rfl (by simp)).trans ((fill1 (((hS.own 3 rfl).slr rfl (fun _ _ => rfl))).one rfl (by simp)).trans ((fill1 (((hS.own 2 rfl).slr rfl (fun _ _ => rfl))).one rfl (by simp)).trans ((fill1 ((hS.deepSl 0 rfl)).one rfl (by simp)).trans rfl))))) rfl (by kernel_rfl) (by kernel_rfl) (by kernel_rfl) (by kernel_rfl) (fun _ _ _ h => h) ?_; clear H a; intro a H
            replace hS := hS.pk1
            refine k_storeAll 14 H rfl rfl rfl (vs := [.int .i64 a0.Id, .int .i64 0, .int .i64 0, .slice none 0 0, .slice none 0 0, .slice none 0 0, .slice (some ⟨b566, 0, none⟩) a0.Events.toNat a0.Events.toNat, u570, .slice (some ⟨b587, 0, none⟩) a0.Ports.length a0.Ports.length, .slice none 0 0]) rfl sz39 (hS.blk 0 rfl) rfl (by simp [(((hS.own 3 rfl).slr rfl (fun _ _ => rfl))).one, (((hS.own 2 rfl).slr rfl (fun _ _ => rfl))).one, ((hS.deepSl 1 rfl)).one]) (by kernel_rfl) (.inl (fun h => absurd h (Nat.not_lt.2 hge_b584))) ?_
            clear H; intro w591 hN hC592 hz; clear a; intro a H; replace hS := hS.setBlk hN hC592; clear hN hz; replace hW := Nat.le_trans hW hC592.size
            refine k_done (by kernel_rfl) ?_
            refine then_normal ?_
            obtain rfl := Option.some.inj hm; replace hm := hm47; try dsimp only at hm
            replace hS := hS.pk1
            replace hS := hS.pk2
            replace hS := hS.pk3
            replace hS := hS.pk3
            replace hS := hS.pk5
            replace hS := hS.pk6
            replace hS := hS.tk6
            exact join ((List.replicate a0.Events.toNat false), r564, (List.replicate a0.Ports.length (⟨([] : List ByteArray), 0⟩ : GPort)), .slice (some ⟨b566, 0, none⟩) a0.Events.toNat a0.Events.toNat, u570, .slice (some ⟨b587, 0, none⟩) a0.Ports.length a0.Ports.length, b584) H ⟨rfl, rfl, rfl, trivial⟩ ⟨hm, hS⟩
        · skip
          refine kk_make (L := a0.Ports.length) (C := a0.Ports.length) 11 H rfl Tryz.underlying36 el76 rfl rfl (Nat.le_refl _) hk565 (by simp only [maxLen]; omega) rfl ?_
          clear H; intro b593 w594 hN hE595 hs; clear a; intro a H; replace hS := hS.newOwn hN hE595 (by simp [blks]; omega); clear hN
          replace hS := St.mkDeep0 (R := RGPort) (z0 := (⟨([] : List ByteArray), 0⟩ : GPort)) (n := a0.Ports.length) rfl (by simp) (fun w => ⟨_, rfl, SlR.nil _ _ _⟩) hS
          replace hW := Nat.le_trans hW hE595.size
          refine k_two 7 13 (by kernel_rfl) ?_ ?_
          · skip
            refine kk_call 7 H rfl rfl en18 (g_slices_Clone_int_w (A := A) (hrp0_3.ext (Flat.mono _) hS.x) hr564) rfl (fun v w hv => .inl (ChgF.of_ext (by obtain ⟨_, _, hE0⟩ := hv; exact hE0.x))) ?_
            clear H; intro u597 w599 hv; clear a; intro a H; obtain ⟨_, rfl, hE600⟩ := hv
            replace hS := hS.new hE600; simp only [List.cons_append, List.nil_append] at hS
            replace hW := Nat.le_trans hW hE600.x.size
            refine k_takeT 12 H rfl (q_build (cs := [.int .i64 a0.Id, .int .i64 0, .int .i64 0, .slice none 0 0, .slice none 0 0, .slice none 0 0, .slice (some ⟨b566, 0, none⟩) a0.Events.toNat a0.Events.toNat, u597, .slice (some ⟨b593, 0, none⟩) a0.Ports.length a0.Ports.length, .slice none 0 0]) ze39 bd39 pl39 rfl ((fill1 rfl rfl (by simp)).trans ((fill1 (((hS.own 2 rfl).slr rfl (fun _ _ => rfl))).one rfl (by simp)).trans ((fill1 (((hS.own 0 rfl).slr rfl (fun _ _ => rfl))).one rfl (by simp)).trans ((fill1 ((hS.deepSl 1 rfl)).one rfl (by simp)).trans rfl))))) rfl (by kernel_rfl) (by kernel_rfl) (by kernel_rfl) (by kernel_rfl) (fun _ _ _ h => h) ?_; clear H a; intro a H
            refine k_alloc 13 H rfl ze39 rfl (by kernel_rfl) ?_
            clear H; intro b602 w603 hN hE604 hs; clear a; intro a H
            have hge_b602 : w558.heap.size ≤ b602 := hs ▸ hW
            replace hS := hS.newBlk hN hE604 hs; clear hN hs
            replace hW := Nat.le_trans hW hE604.size
            refine k_storeAll 14 H rfl rfl rfl (vs := [.int .i64 a0.Id, .int .i64 0, .int .i64 0, .slice none 0 0, .slice none 0 0, .slice none 0 0, .slice (some ⟨b566, 0, none⟩) a0.Events.toNat a0.Events.toNat, u597, .slice (some ⟨b593, 0, none⟩) a0.Ports.length a0.Ports.length, .slice none 0 0]) rfl sz39 (hS.blk 0 rfl) rfl (by simp [(((hS.own 3 rfl).slr rfl (fun _ _ => rfl))).one, (((hS.own 1 rfl).slr rfl (fun _ _ => rfl))).one, ((hS.deepSl 2 rfl)).one]) (by kernel_rfl) (.inl (fun h => absurd h (Nat.not_lt.2 hge_b602))) ?_
            clear H; intro w605 hN hC606 hz; clear a; intro a H; replace hS := hS.setBlk hN hC606; clear hN hz; replace hW := Nat.le_trans hW hC606.size
            refine k_done (by kernel_rfl) ?_
            refine then_normal ?_
            obtain rfl := Option.some.inj hm; replace hm := hm47; try dsimp only at hm
            replace hS := hS.pk2
            replace hS := hS.pk2
            replace hS := hS.pk3
            replace hS := hS.pk3
            replace hS := hS.pk5
            replace hS := hS.pk6
            replace hS := hS.tk6
            exact join ((List.replicate a0.Events.toNat false), r564, (List.replicate a0.Ports.length (⟨([] : List ByteArray), 0⟩ : GPort)), .slice (some ⟨b566, 0, none⟩) a0.Events.toNat a0.Events.toNat, u597, .slice (some ⟨b593, 0, none⟩) a0.Ports.length a0.Ports.length, b602) H ⟨rfl, rfl, rfl, trivial⟩ ⟨hm, hS⟩
          · skip
            refine kk_alloc 13 H rfl ze39 rfl ?_
            clear H; intro b607 w608 hN hE609 hs; clear a; intro a H
            have hge_b607 : w558.heap.size ≤ b607 := hs ▸ hW
            replace hS := hS.newBlk hN hE609 hs; clear hN hs
            replace hW := Nat.le_trans hW hE609.size
            refine k_of_kk 7 (by kernel_rfl) ?_
            refine kk_call 7 H rfl rfl en18 (g_slices_Clone_int_w (A := A) (hrp0_3.ext (Flat.mono _) hS.x) hr564) rfl (fun v w hv => .inl (ChgF.of_ext (by obtain ⟨_, _, hE0⟩ := hv; exact hE0.x))) ?_
            clear H; intro u610 w612 hv; clear a; intro a H; obtain ⟨_, rfl, hE613⟩ := hv
            replace hS := hS.new hE613; simp only [List.cons_append, List.nil_append] at hS
            replace hW := Nat.le_trans hW hE613.x.size
            refine k_takeT 12 H rfl (q_build (cs := [.int .i64 a0.Id, .int .i64 0, .int .i64 0, .slice none 0 0, .slice none 0 0, .slice none 0 0, .slice (some ⟨b566, 0, none⟩) a0.Events.toNat a0.Events.toNat, u610, .slice (some ⟨b593, 0, none⟩) a0.Ports.length a0.Ports.length, .slice none 0 0]) ze39 bd39 pl39 rfl ((fill1 rfl rfl (by simp)).trans ((fill1 (((hS.own 3 rfl).slr rfl (fun _ _ => rfl))).one rfl (by simp)).trans ((fill1 (((hS.own 0 rfl).slr rfl (fun _ _ => rfl))).one rfl (by simp)).trans ((fill1 ((hS.deepSl 2 rfl)).one rfl (by simp)).trans rfl))))) rfl (by kernel_rfl) (by kernel_rfl) (by kernel_rfl) (by kernel_rfl) (fun _ _ _ h => h) ?_; clear H a; intro a H
            replace hS := hS.pk1
            refine k_storeAll 14 H rfl rfl rfl (vs := [.int .i64 a0.Id, .int .i64 0, .int .i64 0, .slice none 0 0, .slice none 0 0, .slice none 0 0, .slice (some ⟨b566, 0, none⟩) a0.Events.toNat a0.Events.toNat, u610, .slice (some ⟨b593, 0, none⟩) a0.Ports.length a0.Ports.length, .slice none 0 0]) rfl sz39 (hS.blk 0 rfl) rfl (by simp [(((hS.own 3 rfl).slr rfl (fun _ _ => rfl))).one, (((hS.own 1 rfl).slr rfl (fun _ _ => rfl))).one, ((hS.deepSl 2 rfl)).one]) (by kernel_rfl) (.inl (fun h => absurd h (Nat.not_lt.2 hge_b607))) ?_
            clear H; intro w615 hN hC616 hz; clear a; intro a H; replace hS := hS.setBlk hN hC616; clear hN hz; replace hW := Nat.le_trans hW hC616.size
            refine k_done (by kernel_rfl) ?_
            refine then_normal ?_
            obtain rfl := Option.some.inj hm; replace hm := hm47; try dsimp only at hm
            replace hS := hS.pk2
            replace hS := hS.pk2
            replace hS := hS.pk3
            replace hS := hS.pk3
            replace hS := hS.pk5
            replace hS := hS.pk6
            replace hS := hS.tk6
            exact join ((List.replicate a0.Events.toNat false), r564, (List.replicate a0.Ports.length (⟨([] : List ByteArray), 0⟩ : GPort)), .slice (some ⟨b566, 0, none⟩) a0.Events.toNat a0.Events.toNat, u610, .slice (some ⟨b593, 0, none⟩) a0.Ports.length a0.Ports.length, b607) H ⟨rfl, rfl, rfl, trivial⟩ ⟨hm, hS⟩
        · skip
          refine kk_alloc 13 H rfl ze39 rfl ?_
          clear H; intro b617 w618 hN hE619 hs; clear a; intro a H
          have hge_b617 : w558.heap.size ≤ b617 := hs ▸ hW
          replace hS := hS.newBlk hN hE619 hs; clear hN hs
          replace hW := Nat.le_trans hW hE619.size
          refine k_two 7 11 (by kernel_rfl) ?_ ?_
          · skip
            refine kk_call 7 H rfl rfl en18 (g_slices_Clone_int_w (A := A) (hrp0_3.ext (Flat.mono _) hS.x) hr564) rfl (fun v w hv => .inl (ChgF.of_ext (by obtain ⟨_, _, hE0⟩ := hv; exact hE0.x))) ?_
            clear H; intro u620 w622 hv; clear a; intro a H; obtain ⟨_, rfl, hE623⟩ := hv
            replace hS := hS.new hE623; simp only [List.cons_append, List.nil_append] at hS
            replace hW := Nat.le_trans hW hE623.x.size
            refine k_of_kk 11 (by kernel_rfl) ?_
            refine kk_make (L := a0.Ports.length) (C := a0.Ports.length) 11 H rfl Tryz.underlying36 el76 rfl rfl (Nat.le_refl _) hk565 (by simp only [maxLen]; omega) rfl ?_
            clear H; intro b625 w626 hN hE627 hs; clear a; intro a H; replace hS := hS.newOwn hN hE627 (by simp [blks]; omega); clear hN
            replace hS := St.mkDeep0 (R := RGPort) (z0 := (⟨([] : List ByteArray), 0⟩ : GPort)) (n := a0.Ports.length) rfl (by simp) (fun w => ⟨_, rfl, SlR.nil _ _ _⟩) hS
            replace hW := Nat.le_trans hW hE627.size
            refine k_takeT 12 H rfl (q_build (cs := [.int .i64 a0.Id, .int .i64 0, .int .i64 0, .slice none 0 0, .slice none 0 0, .slice none 0 0, .slice (some ⟨b566, 0, none⟩) a0.Events.toNat a0.Events.toNat, u620, .slice (some ⟨b625, 0, none⟩) a0.Ports.length a0.Ports.length, .slice none 0 0]) ze39 bd39 pl39 rfl ((fill1 rfl rfl (by simp)).trans ((fill1 (((hS.own 3 rfl).slr rfl (fun _ _ => rfl))).one rfl (by simp)).trans ((fill1 (((hS.own 1 rfl).slr rfl (fun _ _ => rfl))).one rfl (by simp)).trans ((fill1 ((hS.deepSl 0 rfl)).one rfl (by simp)).trans rfl))))) rfl (by kernel_rfl) (by kernel_rfl) (by kernel_rfl) (by kernel_rfl) (fun _ _ _ h => h) ?_; clear H a; intro a H
            replace hS := hS.pk2
            refine k_storeAll 14 H rfl rfl rfl (vs := [.int .i64 a0.Id, .int .i64 0, .int .i64 0, .slice none 0 0, .slice none 0 0, .slice none 0 0, .slice (some ⟨b566, 0, none⟩) a0.Events.toNat a0.Events.toNat, u620, .slice (some ⟨b625, 0, none⟩) a0.Ports.length a0.Ports.length, .slice none 0 0]) rfl sz39 (hS.blk 0 rfl) rfl (by simp [(((hS.own 3 rfl).slr rfl (fun _ _ => rfl))).one, (((hS.own 2 rfl).slr rfl (fun _ _ => rfl))).one, ((hS.deepSl 1 rfl)).one]) (by kernel_rfl) (.inl (fun h => absurd h (Nat.not_lt.2 hge_b617))) ?_
            clear H; intro w629 hN hC630 hz; clear a; intro a H; replace hS := hS.setBlk hN hC630; clear hN hz; replace hW := Nat.le_trans hW hC630.size
            refine k_done (by kernel_rfl) ?_
            refine then_normal ?_
            obtain rfl := Option.some.inj hm; replace hm := hm47; try dsimp only at hm
            replace hS := hS.pk1
            replace hS := hS.pk2
            replace hS := hS.pk3
            replace hS := hS.pk3
            replace hS := hS.pk5
            replace hS := hS.pk6
            replace hS := hS.tk6
            exact join ((List.replicate a0.Events.toNat false), r564, (List.replicate a0.Ports.length (⟨([] : List ByteArray), 0⟩ : GPort)), .slice (some ⟨b566, 0, none⟩) a0.Events.toNat a0.Events.toNat, u620, .slice (some ⟨b625, 0, none⟩) a0.Ports.length a0.Ports.length, b617) H ⟨rfl, rfl, rfl, trivial⟩ ⟨hm, hS⟩
          · skip
            refine kk_make (L := a0.Ports.length) (C := a0.Ports.length) 11 H rfl Tryz.underlying36 el76 rfl rfl (Nat.le_refl _) hk565 (by simp only [maxLen]; omega) rfl ?_
            clear H; intro b631 w632 hN hE633 hs; clear a; intro a H; replace hS := hS.newOwn hN hE633 (by simp [blks]; omega); clear hN
            replace hS := St.mkDeep0 (R := RGPort) (z0 := (⟨([] : List ByteArray), 0⟩ : GPort)) (n := a0.Ports.length) rfl (by simp) (fun w => ⟨_, rfl, SlR.nil _ _ _⟩) hS
            replace hW := Nat.le_trans hW hE633.size
            refine k_of_kk 7 (by kernel_rfl) ?_
            refine kk_call 7 H rfl rfl en18 (g_slices_Clone_int_w (A := A) (hrp0_3.ext (Flat.mono _) hS.x) hr564) rfl (fun v w hv => .inl (ChgF.of_ext (by obtain ⟨_, _, hE0⟩ := hv; exact hE0.x))) ?_
            clear H; intro u635 w637 hv; clear a; intro a H; obtain ⟨_, rfl, hE638⟩ := hv
            replace hS := hS.new hE638; simp only [List.cons_append, List.nil_append] at hS
            replace hW := Nat.le_trans hW hE638.x.size
            refine k_takeT 12 H rfl (q_build (cs := [.int .i64 a0.Id, .int .i64 0, .int .i64 0, .slice none 0 0, .slice none 0 0, .slice none 0 0, .slice (some ⟨b566, 0, none⟩) a0.Events.toNat a0.Events.toNat, u635, .slice (some ⟨b631, 0, none⟩) a0.Ports.length a0.Ports.length, .slice none 0 0]) ze39 bd39 pl39 rfl ((fill1 rfl rfl (by simp)).trans ((fill1 (((hS.own 3 rfl).slr rfl (fun _ _ => rfl))).one rfl (by simp)).trans ((fill1 (((hS.own 0 rfl).slr rfl (fun _ _ => rfl))).one rfl (by simp)).trans ((fill1 ((hS.deepSl 1 rfl)).one rfl (by simp)).trans rfl))))) rfl (by kernel_rfl) (by kernel_rfl) (by kernel_rfl) (by kernel_rfl) (fun _ _ _ h => h) ?_; clear H a; intro a H
            replace hS := hS.pk2
            refine k_storeAll 14 H rfl rfl rfl (vs := [.int .i64 a0.Id, .int .i64 0, .int .i64 0, .slice none 0 0, .slice none 0 0, .slice none 0 0, .slice (some ⟨b566, 0, none⟩) a0.Events.toNat a0.Events.toNat, u635, .slice (some ⟨b631, 0, none⟩) a0.Ports.length a0.Ports.length, .slice none 0 0]) rfl sz39 (hS.blk 0 rfl) rfl (by simp [(((hS.own 3 rfl).slr rfl (fun _ _ => rfl))).one, (((hS.own 1 rfl).slr rfl (fun _ _ => rfl))).one, ((hS.deepSl 2 rfl)).one]) (by kernel_rfl) (.inl (fun h => absurd h (Nat.not_lt.2 hge_b617))) ?_
            clear H; intro w640 hN hC641 hz; clear a; intro a H; replace hS := hS.setBlk hN hC641; clear hN hz; replace hW := Nat.le_trans hW hC641.size
            refine k_done (by kernel_rfl) ?_
            refine then_normal ?_
            obtain rfl := Option.some.inj hm; replace hm := hm47; try dsimp only at hm
            replace hS := hS.pk2
            replace hS := hS.pk2
            replace hS := hS.pk3
            replace hS := hS.pk3
            replace hS := hS.pk5
            replace hS := hS.pk6
            replace hS := hS.tk6
            exact join ((List.replicate a0.Events.toNat false), r564, (List.replicate a0.Ports.length (⟨([] : List ByteArray), 0⟩ : GPort)), .slice (some ⟨b566, 0, none⟩) a0.Events.toNat a0.Events.toNat, u635, .slice (some ⟨b631, 0, none⟩) a0.Ports.length a0.Ports.length, b617) H ⟨rfl, rfl, rfl, trivial⟩ ⟨hm, hS⟩
      · skip
        refine kk_call 7 H rfl rfl en18 (g_slices_Clone_int_w (A := A) (hrp0_3.ext (Flat.mono _) hS.x) hr564) rfl (fun v w hv => .inl (ChgF.of_ext (by obtain ⟨_, _, hE0⟩ := hv; exact hE0.x))) ?_
        clear H; intro u642 w644 hv; clear a; intro a H; obtain ⟨_, rfl, hE645⟩ := hv
        replace hS := hS.new hE645; simp only [List.cons_append, List.nil_append] at hS
        replace hW := Nat.le_trans hW hE645.x.size
        refine k_three 4 11 13 (by kernel_rfl) ?_ ?_ ?_
        · skip
          refine kk_makeL (e := eF) (z0 := false) (L := a0.Events.toNat) (C := a0.Events.toNat) 4 H rfl Tryz.underlying35 el4 rfl (by show _ = some (Value.int .i64 ((Int.toNat a0.Events : Nat) : Int)); rw [Int.toNat_of_nonneg hk562]; rfl) (by show _ = some (Value.int .i64 ((Int.toNat a0.Events : Nat) : Int)); rw [Int.toNat_of_nonneg hk562]; rfl) (Nat.le_refl _) hk563 (by simp only [maxLen]; omega) rfl ?_
          clear H; intro b647 w648 hN hE649 hs; clear a; intro a H; replace hS := hS.newOwn hN hE649 (by simp [blks]; omega); clear hN
          replace hW := Nat.le_trans hW hE649.size
          refine k_two 11 13 (by kernel_rfl) ?_ ?_
          · skip
            refine kk_make (L := a0.Ports.length) (C := a0.Ports.length) 11 H rfl Tryz.underlying36 el76 rfl rfl (Nat.le_refl _) hk565 (by simp only [maxLen]; omega) rfl ?_
            clear H; intro b651 w652 hN hE653 hs; clear a; intro a H; replace hS := hS.newOwn hN hE653 (by simp [blks]; omega); clear hN
            replace hS := St.mkDeep0 (R := RGPort) (z0 := (⟨([] : List ByteArray), 0⟩ : GPort)) (n := a0.Ports.length) rfl (by simp) (fun w => ⟨_, rfl, SlR.nil _ _ _⟩) hS
            replace hW := Nat.le_trans hW hE653.size
            refine k_takeT 12 H rfl (q_build (cs := [.int .i64 a0.Id, .int .i64 0, .int .i64 0, .slice none 0 0, .slice none 0 0, .slice none 0 0, .slice (some ⟨b647, 0, none⟩) a0.Events.toNat a0.Events.toNat, u642, .slice (some ⟨b651, 0, none⟩) a0.Ports.length a0.Ports.length, .slice none 0 0]) ze39 bd39 pl39 rfl ((fill1 rfl rfl (by simp)).trans ((fill1 (((hS.own 1 rfl).slr rfl (fun _ _ => rfl))).one rfl (by simp)).trans ((fill1 (((hS.own 2 rfl).slr rfl (fun _ _ => rfl))).one rfl (by simp)).trans ((fill1 ((hS.deepSl 0 rfl)).one rfl (by simp)).trans rfl))))) rfl (by kernel_rfl) (by kernel_rfl) (by kernel_rfl) (by kernel_rfl) (fun _ _ _ h => h) ?_; clear H a; intro a H
            refine k_alloc 13 H rfl ze39 rfl (by kernel_rfl) ?_
            clear H; intro b655 w656 hN hE657 hs; clear a; intro a H
            have hge_b655 : w558.heap.size ≤ b655 := hs ▸ hW
            replace hS := hS.newBlk hN hE657 hs; clear hN hs
            replace hW := Nat.le_trans hW hE657.size
            refine k_storeAll 14 H rfl rfl rfl (vs := [.int .i64 a0.Id, .int .i64 0, .int .i64 0, .slice none 0 0, .slice none 0 0, .slice none 0 0, .slice (some ⟨b647, 0, none⟩) a0.Events.toNat a0.Events.toNat, u642, .slice (some ⟨b651, 0, none⟩) a0.Ports.length a0.Ports.length, .slice none 0 0]) rfl sz39 (hS.blk 0 rfl) rfl (by simp [(((hS.own 2 rfl).slr rfl (fun _ _ => rfl))).one, (((hS.own 3 rfl).slr rfl (fun _ _ => rfl))).one, ((hS.deepSl 1 rfl)).one]) (by kernel_rfl) (.inl (fun h => absurd h (Nat.not_lt.2 hge_b655))) ?_
            clear H; intro w658 hN hC659 hz; clear a; intro a H; replace hS := hS.setBlk hN hC659; clear hN hz; replace hW := Nat.le_trans hW hC659.size
            refine k_done (by kernel_rfl) ?_
            refine then_normal ?_
            obtain rfl := Option.some.inj hm; replace hm := hm47; try dsimp only at hm
            replace hS := hS.pk1
            replace hS := hS.pk3
            replace hS := hS.pk3
            replace hS := hS.pk3
            replace hS := hS.pk5
            replace hS := hS.pk6
            replace hS := hS.tk6
            exact join ((List.replicate a0.Events.toNat false), r564, (List.replicate a0.Ports.length (⟨([] : List ByteArray), 0⟩ : GPort)), .slice (some ⟨b647, 0, none⟩) a0.Events.toNat a0.Events.toNat, u642, .slice (some ⟨b651, 0, none⟩) a0.Ports.length a0.Ports.length, b655) H ⟨rfl, rfl, rfl, trivial⟩ ⟨hm, hS⟩
          · skip
            refine kk_alloc 13 H rfl ze39 rfl ?_
            clear H; intro b660 w661 hN hE662 hs; clear a; intro a H
            have hge_b660 : w558.heap.size ≤ b660 := hs ▸ hW
            replace hS := hS.newBlk hN hE662 hs; clear hN hs
            replace hW := Nat.le_trans hW hE662.size
            refine k_of_kk 11 (by kernel_rfl) ?_
            refine kk_make (L := a0.Ports.length) (C := a0.Ports.length) 11 H rfl Tryz.underlying36 el76 rfl rfl (Nat.le_refl _) hk565 (by simp only [maxLen]; omega) rfl ?_
            clear H; intro b663 w664 hN hE665 hs; clear a; intro a H; replace hS := hS.newOwn hN hE665 (by simp [blks]; omega); clear hN
            replace hS := St.mkDeep0 (R := RGPort) (z0 := (⟨([] : List ByteArray), 0⟩ : GPort)) (n := a0.Ports.length) rfl (by simp) (fun w => ⟨_, rfl, SlR.nil _ _ _⟩) hS
            replace hW := Nat.le_trans hW hE665.size
            refine k_takeT 12 H rfl (q_build (cs := [.int .i64 a0.Id, .int .i64 0, .int .i64 0, .slice none 0 0, .slice none 0 0, .slice none 0 0, .slice (some ⟨b647, 0, none⟩) a0.Events.toNat a0.Events.toNat, u642, .slice (some ⟨b663, 0, none⟩) a0.Ports.length a0.Ports.length, .slice none 0 0]) ze39 bd39 pl39 rfl ((fill1 rfl rfl (by simp)).trans ((fill1 (((hS.own 2 rfl).slr rfl (fun _ _ => rfl))).one rfl (by simp)).trans ((fill1 (((hS.own 3 rfl).slr rfl (fun _ _ => rfl))).one rfl (by simp)).trans ((fill1 ((hS.deepSl 0 rfl)).one rfl (by simp)).trans rfl))))) rfl (by kernel_rfl) (by kernel_rfl) (by kernel_rfl) (by kernel_rfl) (fun _ _ _ h => h) ?_; clear H a; intro a H
            replace hS := hS.pk1
            refine k_storeAll 14 H rfl rfl rfl (vs := [.int .i64 a0.Id, .int .i64 0, .int .i64 0, .slice none 0 0, .slice none 0 0, .slice none 0 0, .slice (some ⟨b647, 0, none⟩) a0.Events.toNat a0.Events.toNat, u642, .slice (some ⟨b663, 0, none⟩) a0.Ports.length a0.Ports.length, .slice none 0 0]) rfl sz39 (hS.blk 0 rfl) rfl (by simp [(((hS.own 2 rfl).slr rfl (fun _ _ => rfl))).one, (((hS.own 3 rfl).slr rfl (fun _ _ => rfl))).one, ((hS.deepSl 1 rfl)).one]) (by kernel_rfl) (.inl (fun h => absurd h (Nat.not_lt.2 hge_b660))) ?_
            clear H; intro w667 hN hC668 hz; clear a; intro a H; replace hS := hS.setBlk hN hC668; clear hN hz; replace hW := Nat.le_trans hW hC668.size
            refine k_done (by kernel_rfl) ?_
            refine then_normal ?_
            obtain rfl := Option.some.inj hm; replace hm := hm47; try dsimp only at hm
            replace hS := hS.pk1
            replace hS := hS.pk3
            replace hS := hS.pk3
            replace hS := hS.pk3
            replace hS := hS.pk5
            replace hS := hS.pk6
            replace hS := hS.tk6
            exact join ((List.replicate a0.Events.toNat false), r564, (List.replicate a0.Ports.length (⟨([] : List ByteArray), 0⟩ : GPort)), .slice (some ⟨b647, 0, none⟩) a0.Events.toNat a0.Events.toNat, u642, .slice (some ⟨b663, 0, none⟩) a0.Ports.length a0.Ports.length, b660) H ⟨rfl, rfl, rfl, trivial⟩ ⟨hm, hS⟩
        · skip
          refine kk_make (L := a0.Ports.length) (C := a0.Ports.length) 11 H rfl Tryz.underlying36 el76 rfl rfl (Nat.le_refl _) hk565 (by simp only [maxLen]; omega) rfl ?_
          clear H; intro b669 w670 hN hE671 hs; clear a; intro a H; replace hS := hS.newOwn hN hE671 (by simp [blks]; omega); clear hN
          replace hS := St.mkDeep0 (R := RGPort) (z0 := (⟨([] : List ByteArray), 0⟩ : GPort)) (n := a0.Ports.length) rfl (by simp) (fun w => ⟨_, rfl, SlR.nil _ _ _⟩) hS
          replace hW := Nat.le_trans hW hE671.size
          refine k_two 4 13 (by kernel_rfl) ?_ ?_
          · skip
            refine kk_makeL (e := eF) (z0 := false) (L := a0.Events.toNat) (C := a0.Events.toNat) 4 H rfl Tryz.underlying35 el4 rfl (by show _ = some (Value.int .i64 ((Int.toNat a0.Events : Nat) : Int)); rw [Int.toNat_of_nonneg hk562]; rfl) (by show _ = some (Value.int .i64 ((Int.toNat a0.Events : Nat) : Int)); rw [Int.toNat_of_nonneg hk562]; rfl) (Nat.le_refl _) hk563 (by simp only [maxLen]; omega) rfl ?_
            clear H; intro b673 w674 hN hE675 hs; clear a; intro a H; replace hS := hS.newOwn hN hE675 (by simp [blks]; omega); clear hN
            replace hW := Nat.le_trans hW hE675.size
            refine k_takeT 12 H rfl (q_build (cs := [.int .i64 a0.Id, .int .i64 0, .int .i64 0, .slice none 0 0, .slice none 0 0, .slice none 0 0, .slice (some ⟨b673, 0, none⟩) a0.Events.toNat a0.Events.toNat, u642, .slice (some ⟨b669, 0, none⟩) a0.Ports.length a0.Ports.length, .slice none 0 0]) ze39 bd39 pl39 rfl ((fill1 rfl rfl (by simp)).trans ((fill1 (((hS.own 0 rfl).slr rfl (fun _ _ => rfl))).one rfl (by simp)).trans ((fill1 (((hS.own 2 rfl).slr rfl (fun _ _ => rfl))).one rfl (by simp)).trans ((fill1 ((hS.deepSl 1 rfl)).one rfl (by simp)).trans rfl))))) rfl (by kernel_rfl) (by kernel_rfl) (by kernel_rfl) (by kernel_rfl) (fun _ _ _ h => h) ?_; clear H a; intro a H
            refine k_alloc 13 H rfl ze39 rfl (by kernel_rfl) ?_
            clear H; intro b677 w678 hN hE679 hs; clear a; intro a H
            have hge_b677 : w558.heap.size ≤ b677 := hs ▸ hW
            replace hS := hS.newBlk hN hE679 hs; clear hN hs
            replace hW := Nat.le_trans hW hE679.size
            refine k_storeAll 14 H rfl rfl rfl (vs := [.int .i64 a0.Id, .int .i64 0, .int .i64 0, .slice none 0 0, .slice none 0 0, .slice none 0 0, .slice (some ⟨b673, 0, none⟩) a0.Events.toNat a0.Events.toNat, u642, .slice (some ⟨b669, 0, none⟩) a0.Ports.length a0.Ports.length, .slice none 0 0]) rfl sz39 (hS.blk 0 rfl) rfl (by simp [(((hS.own 1 rfl).slr rfl (fun _ _ => rfl))).one, (((hS.own 3 rfl).slr rfl (fun _ _ => rfl))).one, ((hS.deepSl 2 rfl)).one]) (by kernel_rfl) (.inl (fun h => absurd h (Nat.not_lt.2 hge_b677))) ?_
            clear H; intro w680 hN hC681 hz; clear a; intro a H; replace hS := hS.setBlk hN hC681; clear hN hz; replace hW := Nat.le_trans hW hC681.size
            refine k_done (by kernel_rfl) ?_
            refine then_normal ?_
            obtain rfl := Option.some.inj hm; replace hm := hm47; try dsimp only at hm
            replace hS := hS.pk2
            replace hS := hS.pk3
            replace hS := hS.pk3
            replace hS := hS.pk3
            replace hS := hS.pk5
            replace hS := hS.pk6
            replace hS := hS.tk6
            exact join ((List.replicate a0.Events.toNat false), r564, (List.replicate a0.Ports.length (⟨([] : List ByteArray), 0⟩ : GPort)), .slice (some ⟨b673, 0, none⟩) a0.Events.toNat a0.Events.toNat, u642, .slice (some ⟨b669, 0, none⟩) a0.Ports.length a0.Ports.length, b677) H ⟨rfl, rfl, rfl, trivial⟩ ⟨hm, hS⟩
          · skip
            refine kk_alloc 13 H rfl ze39 rfl ?_
            clear H; intro b682 w683 hN hE684 hs; clear a; intro a H
            have hge_b682 : w558.heap.size ≤ b682 := hs ▸ hW
            replace hS := hS.newBlk hN hE684 hs; clear hN hs
            replace hW := Nat.le_trans hW hE684.size
            refine k_of_kk 4 (by kernel_rfl) ?_
            refine kk_makeL (e := eF) (z0 := false) (L := a0.Events.toNat) (C := a0.Events.toNat) 4 H rfl Tryz.underlying35 el4 rfl (by show _ = some (Value.int .i64 ((Int.toNat a0.Events : Nat) : Int)); rw [Int.toNat_of_nonneg hk562]; rfl) (by show _ = some (Value.int .i64 ((Int.toNat a0.Events : Nat) : Int)); rw [Int.toNat_of_nonneg hk562]; rfl) (Nat.le_refl _) hk563 (by simp only [maxLen]; omega) rfl ?_
            clear H; intro b685 w686 hN hE687 hs; clear a; intro a H; replace hS := hS.newOwn hN hE687 (by simp [blks]; omega); clear hN
            replace hW := Nat.le_trans hW hE687.size
            refine k_takeT 12 H rfl (q_build (cs := [.int .i64 a0.Id, .int .i64 0, .int .i64 0, .slice none 0 0, .slice none 0 0, .slice none 0 0, .slice (some ⟨b685, 0, none⟩) a0.Events.toNat a0.Events.toNat, u642, .slice (some ⟨b669, 0, none⟩) a0.Ports.length a0.Ports.length, .slice none 0 0]) ze39 bd39 pl39 rfl ((fill1 rfl rfl (by simp)).trans ((fill1 (((hS.own 0 rfl).slr rfl (fun _ _ => rfl))).one rfl (by simp)).trans ((fill1 (((hS.own 3 rfl).slr rfl (fun _ _ => rfl))).one rfl (by simp)).trans ((fill1 ((hS.deepSl 2 rfl)).one rfl (by simp)).trans rfl))))) rfl (by kernel_rfl) (by kernel_rfl) (by kernel_rfl) (by kernel_rfl) (fun _ _ _ h => h) ?_; clear H a; intro a H
            replace hS := hS.pk1
            refine k_storeAll 14 H rfl rfl rfl (vs := [.int .i64 a0.Id, .int .i64 0, .int .i64 0, .slice none 0 0, .slice none 0 0, .slice none 0 0, .slice (some ⟨b685, 0, none⟩) a0.Events.toNat a0.Events.toNat, u642, .slice (some ⟨b669, 0, none⟩) a0.Ports.length a0.Ports.length, .slice none 0 0]) rfl sz39 (hS.blk 0 rfl) rfl (by simp [(((hS.own 1 rfl).slr rfl (fun _ _ => rfl))).one, (((hS.own 3 rfl).slr rfl (fun _ _ => rfl))).one, ((hS.deepSl 2 rfl)).one]) (by kernel_rfl) (.inl (fun h => absurd h (Nat.not_lt.2 hge_b682))) ?_
            clear H; intro w689 hN hC690 hz; clear a; intro a H; replace hS := hS.setBlk hN hC690; clear hN hz; replace hW := Nat.le_trans hW hC690.size
            refine k_done (by kernel_rfl) ?_
            refine then_normal ?_
            obtain rfl := Option.some.inj hm; replace hm := hm47; try dsimp only at hm
            replace hS := hS.pk2
            replace hS := hS.pk3
            replace hS := hS.pk3
            replace hS := hS.pk3
            replace hS := hS.pk5
            replace hS := hS.pk6
            replace hS := hS.tk6
            exact join ((List.replicate a0.Events.toNat false), r564, (List.replicate a0.Ports.length (⟨([] : List ByteArray), 0⟩ : GPort)), .slice (some ⟨b685, 0, none⟩) a0.Events.toNat a0.Events.toNat, u642, .slice (some ⟨b669, 0, none⟩) a0.Ports.length a0.Ports.length, b682) H ⟨rfl, rfl, rfl, trivial⟩ ⟨hm, hS⟩
        · skip
          refine kk_alloc 13 H rfl ze39 rfl ?_
          clear H; intro b691 w692 hN hE693 hs; clear a; intro a H
          have hge_b691 : w558.heap.size ≤ b691 := hs ▸ hW
          replace hS := hS.newBlk hN hE693 hs; clear hN hs
          replace hW := Nat.le_trans hW hE693.size
          refine k_two 4 11 (by kernel_rfl) ?_ ?_
          · skip
            refine kk_makeL (e := eF) (z0 := false) (L := a0.Events.toNat) (C := a0.Events.toNat) 4 H rfl Tryz.underlying35 el4 rfl (by show _ = some (Value.int .i64 ((Int.toNat a0.Events : Nat) : Int)); rw [Int.toNat_of_nonneg hk562]; rfl) (by show _ = some (Value.int .i64 ((Int.toNat a0.Events : Nat) : Int)); rw [Int.toNat_of_nonneg hk562]; rfl) (Nat.le_refl _) hk563 (by simp only [maxLen]; omega) rfl ?_
            clear H; intro b694 w695 hN hE696 hs; clear a; intro a H; replace hS := hS.newOwn hN hE696 (by simp [blks]; omega); clear hN
            replace hW := Nat.le_trans hW hE696.size
            refine k_of_kk 11 (by kernel_rfl) ?_
            refine kk_make (L := a0.Ports.length) (C := a0.Ports.length) 11 H rfl Tryz.underlying36 el76 rfl rfl (Nat.le_refl _) hk565 (by simp only [maxLen]; omega) rfl ?_
            clear H; intro b698 w699 hN hE700 hs; clear a; intro a H; replace hS := hS.newOwn hN hE700 (by simp [blks]; omega); clear hN
            replace hS := St.mkDeep0 (R := RGPort) (z0 := (⟨([] : List ByteArray), 0⟩ : GPort)) (n := a0.Ports.length) rfl (by simp) (fun w => ⟨_, rfl, SlR.nil _ _ _⟩) hS
            replace hW := Nat.le_trans hW hE700.size
            refine k_takeT 12 H rfl (q_build (cs := [.int .i64 a0.Id, .int .i64 0, .int .i64 0, .slice none 0 0, .slice none 0 0, .slice none 0 0, .slice (some ⟨b694, 0, none⟩) a0.Events.toNat a0.Events.toNat, u642, .slice (some ⟨b698, 0, none⟩) a0.Ports.length a0.Ports.length, .slice none 0 0]) ze39 bd39 pl39 rfl ((fill1 rfl rfl (by simp)).trans ((fill1 (((hS.own 1 rfl).slr rfl (fun _ _ => rfl))).one rfl (by simp)).trans ((fill1 (((hS.own 3 rfl).slr rfl (fun _ _ => rfl))).one rfl (by simp)).trans ((fill1 ((hS.deepSl 0 rfl)).one rfl (by simp)).trans rfl))))) rfl (by kernel_rfl) (by kernel_rfl) (by kernel_rfl) (by kernel_rfl) (fun _ _ _ h => h) ?_; clear H a; intro a H
            replace hS := hS.pk2
            refine k_storeAll 14 H rfl rfl rfl (vs := [.int .i64 a0.Id, .int .i64 0, .int .i64 0, .slice none 0 0, .slice none 0 0, .slice none 0 0, .slice (some ⟨b694, 0, none⟩) a0.Events.toNat a0.Events.toNat, u642, .slice (some ⟨b698, 0, none⟩) a0.Ports.length a0.Ports.length, .slice none 0 0]) rfl sz39 (hS.blk 0 rfl) rfl (by simp [(((hS.own 2 rfl).slr rfl (fun _ _ => rfl))).one, (((hS.own 3 rfl).slr rfl (fun _ _ => rfl))).one, ((hS.deepSl 1 rfl)).one]) (by kernel_rfl) (.inl (fun h => absurd h (Nat.not_lt.2 hge_b691))) ?_
            clear H; intro w702 hN hC703 hz; clear a; intro a H; replace hS := hS.setBlk hN hC703; clear hN hz; replace hW := Nat.le_trans hW hC703.size
            refine k_done (by kernel_rfl) ?_
            refine then_normal ?_
            obtain rfl := Option.some.inj hm; replace hm := hm47; try dsimp only at hm
            replace hS := hS.pk1
            replace hS := hS.pk3
            replace hS := hS.pk3
            replace hS := hS.pk3
            replace hS := hS.pk5
            replace hS := hS.pk6
            replace hS := hS.tk6
            exact join ((List.replicate a0.Events.toNat false), r564, (List.replicate a0.Ports.length (⟨([] : List ByteArray), 0⟩ : GPort)), .slice (some ⟨b694, 0, none⟩) a0.Events.toNat a0.Events.toNat, u642, .slice (some ⟨b698, 0, none⟩) a0.Ports.length a0.Ports.length, b691) H ⟨rfl, rfl, rfl, trivial⟩ ⟨hm, hS⟩
          · skip
            refine kk_make (L := a0.Ports.length) (C := a0.Ports.length) 11 H rfl Tryz.underlying36 el76 rfl rfl (Nat.le_refl _) hk565 (by simp only [maxLen]; omega) rfl ?_
            clear H; intro b704 w705 hN hE706 hs; clear a; intro a H; replace hS := hS.newOwn hN hE706 (by simp [blks]; omega); clear hN
            replace hS := St.mkDeep0 (R := RGPort) (z0 := (⟨([] : List ByteArray), 0⟩ : GPort)) (n := a0.Ports.length) rfl (by simp) (fun w => ⟨_, rfl, SlR.nil _ _ _⟩) hS
            replace hW := Nat.le_trans hW hE706.size
            refine k_of_kk 4 (by kernel_rfl) ?_
            refine kk_makeL (e := eF) (z0 := false) (L := a0.Events.toNat) (C := a0.Events.toNat) 4 H rfl Tryz.underlying35 el4 rfl (by show _ = some (Value.int .i64 ((Int.toNat a0.Events : Nat) : Int)); rw [Int.toNat_of_nonneg hk562]; rfl) (by show _ = some (Value.int .i64 ((Int.toNat a0.Events : Nat) : Int)); rw [Int.toNat_of_nonneg hk562]; rfl) (Nat.le_refl _) hk563 (by simp only [maxLen]; omega) rfl ?_
            clear H; intro b708 w709 hN hE710 hs; clear a; intro a H; replace hS := hS.newOwn hN hE710 (by simp [blks]; omega); clear hN
            replace hW := Nat.le_trans hW hE710.size
            refine k_takeT 12 H rfl (q_build (cs := [.int .i64 a0.Id, .int .i64 0, .int .i64 0, .slice none 0 0, .slice none 0 0, .slice none 0 0, .slice (some ⟨b708, 0, none⟩) a0.Events.toNat a0.Events.toNat, u642, .slice (some ⟨b704, 0, none⟩) a0.Ports.length a0.Ports.length, .slice none 0 0]) ze39 bd39 pl39 rfl ((fill1 rfl rfl (by simp)).trans ((fill1 (((hS.own 0 rfl).slr rfl (fun _ _ => rfl))).one rfl (by simp)).trans ((fill1 (((hS.own 3 rfl).slr rfl (fun _ _ => rfl))).one rfl (by simp)).trans ((fill1 ((hS.deepSl 1 rfl)).one rfl (by simp)).trans rfl))))) rfl (by kernel_rfl) (by kernel_rfl) (by kernel_rfl) (by kernel_rfl) (fun _ _ _ h => h) ?_; clear H a; intro a H
            replace hS := hS.pk2
            refine k_storeAll 14 H rfl rfl rfl (vs := [.int .i64 a0.Id, .int .i64 0, .int .i64 0, .slice none 0 0, .slice none 0 0, .slice none 0 0, .slice (some ⟨b708, 0, none⟩) a0.Events.toNat a0.Events.toNat, u642, .slice (some ⟨b704, 0, none⟩) a0.Ports.length a0.Ports.length, .slice none 0 0]) rfl sz39 (hS.blk 0 rfl) rfl (by simp [(((hS.own 1 rfl).slr rfl (fun _ _ => rfl))).one, (((hS.own 3 rfl).slr rfl (fun _ _ => rfl))).one, ((hS.deepSl 2 rfl)).one]) (by kernel_rfl) (.inl (fun h => absurd h (Nat.not_lt.2 hge_b691))) ?_
            clear H; intro w712 hN hC713 hz; clear a; intro a H; replace hS := hS.setBlk hN hC713; clear hN hz; replace hW := Nat.le_trans hW hC713.size
            refine k_done (by kernel_rfl) ?_
            refine then_normal ?_
            obtain rfl := Option.some.inj hm; replace hm := hm47; try dsimp only at hm
            replace hS := hS.pk2
            replace hS := hS.pk3
            replace hS := hS.pk3
            replace hS := hS.pk3
            replace hS := hS.pk5
            replace hS := hS.pk6
            replace hS := hS.tk6
            exact join ((List.replicate a0.Events.toNat false), r564, (List.replicate a0.Ports.length (⟨([] : List ByteArray), 0⟩ : GPort)), .slice (some ⟨b708, 0, none⟩) a0.Events.toNat a0.Events.toNat, u642, .slice (some ⟨b704, 0, none⟩) a0.Ports.length a0.Ports.length, b691) H ⟨rfl, rfl, rfl, trivial⟩ ⟨hm, hS⟩
      · skip
        refine kk_make (L := a0.Ports.length) (C := a0.Ports.length) 11 H rfl Tryz.underlying36 el76 rfl rfl (Nat.le_refl _) hk565 (by simp only [maxLen]; omega) rfl ?_
        clear H; intro b714 w715 hN hE716 hs; clear a; intro a H; replace hS := hS.newOwn hN hE716 (by simp [blks]; omega); clear hN
        replace hS := St.mkDeep0 (R := RGPort) (z0 := (⟨([] : List ByteArray), 0⟩ : GPort)) (n := a0.Ports.length) rfl (by simp) (fun w => ⟨_, rfl, SlR.nil _ _ _⟩) hS
        replace hW := Nat.le_trans hW hE716.size
        refine k_three 4 7 13 (by kernel_rfl) ?_ ?_ ?_
        · skip
          refine kk_makeL (e := eF) (z0 := false) (L := a0.Events.toNat) (C := a0.Events.toNat) 4 H rfl Tryz.underlying35 el4 rfl (by show _ = some (Value.int .i64 ((Int.toNat a0.Events : Nat) : Int)); rw [Int.toNat_of_nonneg hk562]; rfl) (by show _ = some (Value.int .i64 ((Int.toNat a0.Events : Nat) : Int)); rw [Int.toNat_of_nonneg hk562]; rfl) (Nat.le_refl _) hk563 (by simp only [maxLen]; omega) rfl ?_
          clear H; intro b718 w719 hN hE720 hs; clear a; intro a H; replace hS := hS.newOwn hN hE720 (by simp [blks]; omega); clear hN
          replace hW := Nat.le_trans hW hE720.size
          refine k_two 7 13 (by kernel_rfl) ?_ ?_
          · skip
            refine kk_call 7 H rfl rfl en18 (g_slices_Clone_int_w (A := A) (hrp0_3.ext (Flat.mono _) hS.x) hr564) rfl (fun v w hv => .inl (ChgF.of_ext (by obtain ⟨_, _, hE0⟩ := hv; exact hE0.x))) ?_
            clear H; intro u722 w724 hv; clear a; intro a H; obtain ⟨_, rfl, hE725⟩ := hv
            replace hS := hS.new hE725; simp only [List.cons_append, List.nil_append] at hS
            replace hW := Nat.le_trans hW hE725.x.size
            refine k_takeT 12 H rfl (q_build (cs := [.int .i64 a0.Id, .int .i64 0, .int .i64 0, .slice none 0 0, .slice none 0 0, .slice none 0 0, .slice (some ⟨b718, 0, none⟩) a0.Events.toNat a0.Events.toNat, u722, .slice (some ⟨b714, 0, none⟩) a0.Ports.length a0.Ports.length, .slice none 0 0]) ze39 bd39 pl39 rfl ((fill1 rfl rfl (by simp)).trans ((fill1 (((hS.own 1 rfl).slr rfl (fun _ _ => rfl))).one rfl (by simp)).trans ((fill1 (((hS.own 0 rfl).slr rfl (fun _ _ => rfl))).one rfl (by simp)).trans ((fill1 ((hS.deepSl 2 rfl)).one rfl (by simp)).trans rfl))))) rfl (by kernel_rfl) (by kernel_rfl) (by kernel_rfl) (by kernel_rfl) (fun _ _ _ h => h) ?_; clear H a; intro a H
            refine k_alloc 13 H rfl ze39 rfl (by kernel_rfl) ?_
            clear H; intro b727 w728 hN hE729 hs; clear a; intro a H
            have hge_b727 : w558.heap.size ≤ b727 := hs ▸ hW
            replace hS := hS.newBlk hN hE729 hs; clear hN hs
            replace hW := Nat.le_trans hW hE729.size
            refine k_storeAll 14 H rfl rfl rfl (vs := [.int .i64 a0.Id, .int .i64 0, .int .i64 0, .slice none 0 0, .slice none 0 0, .slice none 0 0, .slice (some ⟨b718, 0, none⟩) a0.Events.toNat a0.Events.toNat, u722, .slice (some ⟨b714, 0, none⟩) a0.Ports.length a0.Ports.length, .slice none 0 0]) rfl sz39 (hS.blk 0 rfl) rfl (by simp [(((hS.own 2 rfl).slr rfl (fun _ _ => rfl))).one, (((hS.own 1 rfl).slr rfl (fun _ _ => rfl))).one, ((hS.deepSl 3 rfl)).one]) (by kernel_rfl) (.inl (fun h => absurd h (Nat.not_lt.2 hge_b727))) ?_
            clear H; intro w730 hN hC731 hz; clear a; intro a H; replace hS := hS.setBlk hN hC731; clear hN hz; replace hW := Nat.le_trans hW hC731.size
            refine k_done (by kernel_rfl) ?_
            refine then_normal ?_
            obtain rfl := Option.some.inj hm; replace hm := hm47; try dsimp only at hm
            replace hS := hS.pk3
            replace hS := hS.pk2
            replace hS := hS.pk3
            replace hS := hS.pk3
            replace hS := hS.pk5
            replace hS := hS.pk6
            replace hS := hS.tk6
            exact join ((List.replicate a0.Events.toNat false), r564, (List.replicate a0.Ports.length (⟨([] : List ByteArray), 0⟩ : GPort)), .slice (some ⟨b718, 0, none⟩) a0.Events.toNat a0.Events.toNat, u722, .slice (some ⟨b714, 0, none⟩) a0.Ports.length a0.Ports.length, b727) H ⟨rfl, rfl, rfl, trivial⟩ ⟨hm, hS⟩
          · skip
            refine kk_alloc 13 H rfl ze39 rfl ?_
            clear H; intro b732 w733 hN hE734 hs; clear a; intro a H
            have hge_b732 : w558.heap.size ≤ b732 := hs ▸ hW
            replace hS := hS.newBlk hN hE734 hs; clear hN hs
            replace hW := Nat.le_trans hW hE734.size
            refine k_of_kk 7 (by kernel_rfl) ?_
            refine kk_call 7 H rfl rfl en18 (g_slices_Clone_int_w (A := A) (hrp0_3.ext (Flat.mono _) hS.x) hr564) rfl (fun v w hv => .inl (ChgF.of_ext (by obtain ⟨_, _, hE0⟩ := hv; exact hE0.x))) ?_
            clear H; intro u735 w737 hv; clear a; intro a H; obtain ⟨_, rfl, hE738⟩ := hv
            replace hS := hS.new hE738; simp only [List.cons_append, List.nil_append] at hS
            replace hW := Nat.le_trans hW hE738.x.size
            refine k_takeT 12 H rfl (q_build (cs := [.int .i64 a0.Id, .int .i64 0, .int .i64 0, .slice none 0 0, .slice none 0 0, .slice none 0 0, .slice (some ⟨b718, 0, none⟩) a0.Events.toNat a0.Events.toNat, u735, .slice (some ⟨b714, 0, none⟩) a0.Ports.length a0.Ports.length, .slice none 0 0]) ze39 bd39 pl39 rfl ((fill1 rfl rfl (by simp)).trans ((fill1 (((hS.own 2 rfl).slr rfl (fun _ _ => rfl))).one rfl (by simp)).trans ((fill1 (((hS.own 0 rfl).slr rfl (fun _ _ => rfl))).one rfl (by simp)).trans ((fill1 ((hS.deepSl 3 rfl)).one rfl (by simp)).trans rfl))))) rfl (by kernel_rfl) (by kernel_rfl) (by kernel_rfl) (by kernel_rfl) (fun _ _ _ h => h) ?_; clear H a; intro a H
            replace hS := hS.pk1
            refine k_storeAll 14 H rfl rfl rfl (vs := [.int .i64 a0.Id, .int .i64 0, .int .i64 0, .slice none 0 0, .slice none 0 0, .slice none 0 0, .slice (some ⟨b718, 0, none⟩) a0.Events.toNat a0.Events.toNat, u735, .slice (some ⟨b714, 0, none⟩) a0.Ports.length a0.Ports.length, .slice none 0 0]) rfl sz39 (hS.blk 0 rfl) rfl (by simp [(((hS.own 2 rfl).slr rfl (fun _ _ => rfl))).one, (((hS.own 1 rfl).slr rfl (fun _ _ => rfl))).one, ((hS.deepSl 3 rfl)).one]) (by kernel_rfl) (.inl (fun h => absurd h (Nat.not_lt.2 hge_b732))) ?_
            clear H; intro w740 hN hC741 hz; clear a; intro a H; replace hS := hS.setBlk hN hC741; clear hN hz; replace hW := Nat.le_trans hW hC741.size
            refine k_done (by kernel_rfl) ?_
            refine then_normal ?_
            obtain rfl := Option.some.inj hm; replace hm := hm47; try dsimp only at hm
            replace hS := hS.pk3
            replace hS := hS.pk2
            replace hS := hS.pk3
            replace hS := hS.pk3
            replace hS := hS.pk5
            replace hS := hS.pk6
            replace hS := hS.tk6
            exact join ((List.replicate a0.Events.toNat false), r564, (List.replicate a0.Ports.length (⟨([] : List ByteArray), 0⟩ : GPort)), .slice (some ⟨b718, 0, none⟩) a0.Events.toNat a0.Events.toNat, u735, .slice (some ⟨b714, 0, none⟩) a0.Ports.length a0.Ports.length, b732) H ⟨rfl, rfl, rfl, trivial⟩ ⟨hm, hS⟩
        · skip
          refine kk_call 7 H rfl rfl en18 (g_slices_Clone_int_w (A := A) (hrp0_3.ext (Flat.mono _) hS.x) hr564) rfl (fun v w hv => .inl (ChgF.of_ext (by obtain ⟨_, _, hE0⟩ := hv; exact hE0.x))) ?_
          clear H; intro u742 w744 hv; clear a; intro a H; obtain ⟨_, rfl, hE745⟩ := hv
          replace hS := hS.new hE745; simp only [List.cons_append, List.nil_append] at hS
          replace hW := Nat.le_trans hW hE745.x.size
          refine k_two 4 13 (by kernel_rfl) ?_ ?_
          · skip
            refine kk_makeL (e := eF) (z0 := false) (L := a0.Events.toNat) (C := a0.Events.toNat) 4 H rfl Tryz.underlying35 el4 rfl (by show _ = some (Value.int .i64 ((Int.toNat a0.Events : Nat) : Int)); rw [Int.toNat_of_nonneg hk562]; rfl) (by show _ = some (Value.int .i64 ((Int.toNat a0.Events : Nat) : Int)); rw [Int.toNat_of_nonneg hk562]; rfl) (Nat.le_refl _) hk563 (by simp only [maxLen]; omega) rfl ?_
            clear H; intro b747 w748 hN hE749 hs; clear a; intro a H; replace hS := hS.newOwn hN hE749 (by simp [blks]; omega); clear hN
            replace hW := Nat.le_trans hW hE749.size
            refine k_takeT 12 H rfl (q_build (cs := [.int .i64 a0.Id, .int .i64 0, .int .i64 0, .slice none 0 0, .slice none 0 0, .slice none 0 0, .slice (some ⟨b747, 0, none⟩) a0.Events.toNat a0.Events.toNat, u742, .slice (some ⟨b714, 0, none⟩) a0.Ports.length a0.Ports.length, .slice none 0 0]) ze39 bd39 pl39 rfl ((fill1 rfl rfl (by simp)).trans ((fill1 (((hS.own 0 rfl).slr rfl (fun _ _ => rfl))).one rfl (by simp)).trans ((fill1 (((hS.own 1 rfl).slr rfl (fun _ _ => rfl))).one rfl (by simp)).trans ((fill1 ((hS.deepSl 2 rfl)).one rfl (by simp)).trans rfl))))) rfl (by kernel_rfl) (by kernel_rfl) (by kernel_rfl) (by kernel_rfl) (fun _ _ _ h => h) ?_; clear H a; intro a H
            refine k_alloc 13 H rfl ze39 rfl (by kernel_rfl) ?_
            clear H; intro b751 w752 hN hE753 hs; clear a; intro a H
            have hge_b751 : w558.heap.size ≤ b751 := hs ▸ hW
            replace hS := hS.newBlk hN hE753 hs; clear hN hs
            replace hW := Nat.le_trans hW hE753.size
            refine k_storeAll 14 H rfl rfl rfl (vs := [.int .i64 a0.Id, .int .i64 0, .int .i64 0, .slice none 0 0, .slice none 0 0, .slice none 0 0, .slice (some ⟨b747, 0, none⟩) a0.Events.toNat a0.Events.toNat, u742, .slice (some ⟨b714, 0, none⟩) a0.Ports.length a0.Ports.length, .slice none 0 0]) rfl sz39 (hS.blk 0 rfl) rfl (by simp [(((hS.own 1 rfl).slr rfl (fun _ _ => rfl))).one, (((hS.own 2 rfl).slr rfl (fun _ _ => rfl))).one, ((hS.deepSl 3 rfl)).one]) (by kernel_rfl) (.inl (fun h => absurd h (Nat.not_lt.2 hge_b751))) ?_
            clear H; intro w754 hN hC755 hz; clear a; intro a H; replace hS := hS.setBlk hN hC755; clear hN hz; replace hW := Nat.le_trans hW hC755.size
            refine k_done (by kernel_rfl) ?_
            refine then_normal ?_
            obtain rfl := Option.some.inj hm; replace hm := hm47; try dsimp only at hm
            replace hS := hS.pk3
            replace hS := hS.pk3
            replace hS := hS.pk3
            replace hS := hS.pk3
            replace hS := hS.pk5
            replace hS := hS.pk6
            replace hS := hS.tk6
            exact join ((List.replicate a0.Events.toNat false), r564, (List.replicate a0.Ports.length (⟨([] : List ByteArray), 0⟩ : GPort)), .slice (some ⟨b747, 0, none⟩) a0.Events.toNat a0.Events.toNat, u742, .slice (some ⟨b714, 0, none⟩) a0.Ports.length a0.Ports.length, b751) H ⟨rfl, rfl, rfl, trivial⟩ ⟨hm, hS⟩
          · skip
            refine kk_alloc 13 H rfl ze39 rfl ?_
            clear H; intro b756 w757 hN hE758 hs; clear a; intro a H
            have hge_b756 : w558.heap.size ≤ b756 := hs ▸ hW
            replace hS := hS.newBlk hN hE758 hs; clear hN hs
            replace hW := Nat.le_trans hW hE758.size
            refine k_of_kk 4 (by kernel_rfl) ?_
            refine kk_makeL (e := eF) (z0 := false) (L := a0.Events.toNat) (C := a0.Events.toNat) 4 H rfl Tryz.underlying35 el4 rfl (by show _ = some (Value.int .i64 ((Int.toNat a0.Events : Nat) : Int)); rw [Int.toNat_of_nonneg hk562]; rfl) (by show _ = some (Value.int .i64 ((Int.toNat a0.Events : Nat) : Int)); rw [Int.toNat_of_nonneg hk562]; rfl) (Nat.le_refl _) hk563 (by simp only [maxLen]; omega) rfl ?_
            clear H; intro b759 w760 hN hE761 hs; clear a; intro a H; replace hS := hS.newOwn hN hE761 (by simp [blks]; omega); clear hN
            replace hW := Nat.le_trans hW hE761.size
            refine k_takeT 12 H rfl (q_build (cs := [.int .i64 a0.Id, .int .i64 0, .int .i64 0, .slice none 0 0, .slice none 0 0, .slice none 0 0, .slice (some ⟨b759, 0, none⟩) a0.Events.toNat a0.Events.toNat, u742, .slice (some ⟨b714, 0, none⟩) a0.Ports.length a0.Ports.length, .slice none 0 0]) ze39 bd39 pl39 rfl ((fill1 rfl rfl (by simp)).trans ((fill1 (((hS.own 0 rfl).slr rfl (fun _ _ => rfl))).one rfl (by simp)).trans ((fill1 (((hS.own 2 rfl).slr rfl (fun _ _ => rfl))).one rfl (by simp)).trans ((fill1 ((hS.deepSl 3 rfl)).one rfl (by simp)).trans rfl))))) rfl (by kernel_rfl) (by kernel_rfl) (by kernel_rfl) (by kernel_rfl) (fun _ _ _ h => h) ?_; clear H a; intro a H
            replace hS := hS.pk1
            refine k_storeAll 14 H rfl rfl rfl (vs := [.int .i64 a0.Id, .int .i64 0, .int .i64 0, .slice none 0 0, .slice none 0 0, .slice none 0 0, .slice (some ⟨b759, 0, none⟩) a0.Events.toNat a0.Events.toNat, u742, .slice (some ⟨b714, 0, none⟩) a0.Ports.length a0.Ports.length, .slice none 0 0]) rfl sz39 (hS.blk 0 rfl) rfl (by simp [(((hS.own 1 rfl).slr rfl (fun _ _ => rfl))).one, (((hS.own 2 rfl).slr rfl (fun _ _ => rfl))).one, ((hS.deepSl 3 rfl)).one]) (by kernel_rfl) (.inl (fun h => absurd h (Nat.not_lt.2 hge_b756))) ?_
            clear H; intro w763 hN hC764 hz; clear a; intro a H; replace hS := hS.setBlk hN hC764; clear hN hz; replace hW := Nat.le_trans hW hC764.size
            refine k_done (by kernel_rfl) ?_
            refine then_normal ?_
            obtain rfl := Option.some.inj hm; replace hm := hm47; try dsimp only at hm
            replace hS := hS.pk3
            replace hS := hS.pk3
            replace hS := hS.pk3
            replace hS := hS.pk3
            replace hS := hS.pk5
            replace hS := hS.pk6
            replace hS := hS.tk6
            exact join ((List.replicate a0.Events.toNat false), r564, (List.replicate a0.Ports.length (⟨([] : List ByteArray), 0⟩ : GPort)), .slice (some ⟨b759, 0, none⟩) a0.Events.toNat a0.Events.toNat, u742, .slice (some ⟨b714, 0, none⟩) a0.Ports.length a0.Ports.length, b756) H ⟨rfl, rfl, rfl, trivial⟩ ⟨hm, hS⟩
        · skip
          refine kk_alloc 13 H rfl ze39 rfl ?_
          clear H; intro b765 w766 hN hE767 hs; clear a; intro a H
          have hge_b765 : w558.heap.size ≤ b765 := hs ▸ hW
          replace hS := hS.newBlk hN hE767 hs; clear hN hs
          replace hW := Nat.le_trans hW hE767.size
          refine k_two 4 7 (by kernel_rfl) ?_ ?_
          · skip
            refine kk_makeL (e := eF) (z0 := false) (L := a0.Events.toNat) (C := a0.Events.toNat) 4 H rfl Tryz.underlying35 el4 rfl (by show _ = some (Value.int .i64 ((Int.toNat a0.Events : Nat) : Int)); rw [Int.toNat_of_nonneg hk562]; rfl) (by show _ = some (Value.int .i64 ((Int.toNat a0.Events : Nat) : Int)); rw [Int.toNat_of_nonneg hk562]; rfl) (Nat.le_refl _) hk563 (by simp only [maxLen]; omega) rfl ?_
            clear H; intro b768 w769 hN hE770 hs; clear a; intro a H; replace hS := hS.newOwn hN hE770 (by simp [blks]; omega); clear hN
            replace hW := Nat.le_trans hW hE770.size
            refine k_of_kk 7 (by kernel_rfl) ?_
            refine kk_call 7 H rfl rfl en18 (g_slices_Clone_int_w (A := A) (hrp0_3.ext (Flat.mono _) hS.x) hr564) rfl (fun v w hv => .inl (ChgF.of_ext (by obtain ⟨_, _, hE0⟩ := hv; exact hE0.x))) ?_
            clear H; intro u772 w774 hv; clear a; intro a H; obtain ⟨_, rfl, hE775⟩ := hv
            replace hS := hS.new hE775; simp only [List.cons_append, List.nil_append] at hS
            replace hW := Nat.le_trans hW hE775.x.size
            refine k_takeT 12 H rfl (q_build (cs := [.int .i64 a0.Id, .int .i64 0, .int .i64 0, .slice none 0 0, .slice none 0 0, .slice none 0 0, .slice (some ⟨b768, 0, none⟩) a0.Events.toNat a0.Events.toNat, u772, .slice (some ⟨b714, 0, none⟩) a0.Ports.length a0.Ports.length, .slice none 0 0]) ze39 bd39 pl39 rfl ((fill1 rfl rfl (by simp)).trans ((fill1 (((hS.own 1 rfl).slr rfl (fun _ _ => rfl))).one rfl (by simp)).trans ((fill1 (((hS.own 0 rfl).slr rfl (fun _ _ => rfl))).one rfl (by simp)).trans ((fill1 ((hS.deepSl 3 rfl)).one rfl (by simp)).trans rfl))))) rfl (by kernel_rfl) (by kernel_rfl) (by kernel_rfl) (by kernel_rfl) (fun _ _ _ h => h) ?_; clear H a; intro a H
            replace hS := hS.pk2
            refine k_storeAll 14 H rfl rfl rfl (vs := [.int .i64 a0.Id, .int .i64 0, .int .i64 0, .slice none 0 0, .slice none 0 0, .slice none 0 0, .slice (some ⟨b768, 0, none⟩) a0.Events.toNat a0.Events.toNat, u772, .slice (some ⟨b714, 0, none⟩) a0.Ports.length a0.Ports.length, .slice none 0 0]) rfl sz39 (hS.blk 0 rfl) rfl (by simp [(((hS.own 2 rfl).slr rfl (fun _ _ => rfl))).one, (((hS.own 1 rfl).slr rfl (fun _ _ => rfl))).one, ((hS.deepSl 3 rfl)).one]) (by kernel_rfl) (.inl (fun h => absurd h (Nat.not_lt.2 hge_b765))) ?_
            clear H; intro w777 hN hC778 hz; clear a; intro a H; replace hS := hS.setBlk hN hC778; clear hN hz; replace hW := Nat.le_trans hW hC778.size
            refine k_done (by kernel_rfl) ?_
            refine then_normal ?_
            obtain rfl := Option.some.inj hm; replace hm := hm47; try dsimp only at hm
            replace hS := hS.pk3
            replace hS := hS.pk2
            replace hS := hS.pk3
            replace hS := hS.pk3
            replace hS := hS.pk5
            replace hS := hS.pk6
            replace hS := hS.tk6
            exact join ((List.replicate a0.Events.toNat false), r564, (List.replicate a0.Ports.length (⟨([] : List ByteArray), 0⟩ : GPort)), .slice (some ⟨b768, 0, none⟩) a0.Events.toNat a0.Events.toNat, u772, .slice (some ⟨b714, 0, none⟩) a0.Ports.length a0.Ports.length, b765) H ⟨rfl, rfl, rfl, trivial⟩ ⟨hm, hS⟩
          · skip
            refine kk_call 7 H rfl rfl en18 (g_slices_Clone_int_w (A := A) (hrp0_3.ext (Flat.mono _) hS.x) hr564) rfl (fun v w hv => .inl (ChgF.of_ext (by obtain ⟨_, _, hE0⟩ := hv; exact hE0.x))) ?_
            clear H; intro u779 w781 hv; clear a; intro a H; obtain ⟨_, rfl, hE782⟩ := hv
            replace hS := hS.new hE782; simp only [List.cons_append, List.nil_append] at hS
            replace hW := Nat.le_trans hW hE782.x.size
            refine k_of_kk 4 (by kernel_rfl) ?_
            refine kk_makeL (e := eF) (z0 := false) (L := a0.Events.toNat) (C := a0.Events.toNat) 4 H rfl Tryz.underlying35 el4 rfl (by show _ = some (Value.int .i64 ((Int.toNat a0.Events : Nat) : Int)); rw [Int.toNat_of_nonneg hk562]; rfl) (by show _ = some (Value.int .i64 ((Int.toNat a0.Events : Nat) : Int)); rw [Int.toNat_of_nonneg hk562]; rfl) (Nat.le_refl _) hk563 (by simp only [maxLen]; omega) rfl ?_
            clear H; intro b784 w785 hN hE786 hs; clear a; intro a H; replace hS := hS.newOwn hN hE786 (by simp [blks]; omega); clear hN
            replace hW := Nat.le_trans hW hE786.size
            refine k_takeT 12 H rfl (q_build (cs := [.int .i64 a0.Id, .int .i64 0, .int .i64 0, .slice none 0 0, .slice none 0 0, .slice none 0 0, .slice (some ⟨b784, 0, none⟩) a0.Events.toNat a0.Events.toNat, u779, .slice (some ⟨b714, 0, none⟩) a0.Ports.length a0.Ports.length, .slice none 0 0]) ze39 bd39 pl39 rfl ((fill1 rfl rfl (by simp)).trans ((fill1 (((hS.own 0 rfl).slr rfl (fun _ _ => rfl))).one rfl (by simp)).trans ((fill1 (((hS.own 1 rfl).slr rfl (fun _ _ => rfl))).one rfl (by simp)).trans ((fill1 ((hS.deepSl 3 rfl)).one rfl (by simp)).trans rfl))))) rfl (by kernel_rfl) (by kernel_rfl) (by kernel_rfl) (by kernel_rfl) (fun _ _ _ h => h) ?_; clear H a; intro a H
            replace hS := hS.pk2
            refine k_storeAll 14 H rfl rfl rfl (vs := [.int .i64 a0.Id, .int .i64 0, .int .i64 0, .slice none 0 0, .slice none 0 0, .slice none 0 0, .slice (some ⟨b784, 0, none⟩) a0.Events.toNat a0.Events.toNat, u779, .slice (some ⟨b714, 0, none⟩) a0.Ports.length a0.Ports.length, .slice none 0 0]) rfl sz39 (hS.blk 0 rfl) rfl (by simp [(((hS.own 1 rfl).slr rfl (fun _ _ => rfl))).one, (((hS.own 2 rfl).slr rfl (fun _ _ => rfl))).one, ((hS.deepSl 3 rfl)).one]) (by kernel_rfl) (.inl (fun h => absurd h (Nat.not_lt.2 hge_b765))) ?_
            clear H; intro w788 hN hC789 hz; clear a; intro a H; replace hS := hS.setBlk hN hC789; clear hN hz; replace hW := Nat.le_trans hW hC789.size
            refine k_done (by kernel_rfl) ?_
            refine then_normal ?_
            obtain rfl := Option.some.inj hm; replace hm := hm47; try dsimp only at hm
            replace hS := hS.pk3
            replace hS := hS.pk3
            replace hS := hS.pk3
            replace hS := hS.pk3
            replace hS := hS.pk5
            replace hS := hS.pk6
            replace hS := hS.tk6
            exact join ((List.replicate a0.Events.toNat false), r564, (List.replicate a0.Ports.length (⟨([] : List ByteArray), 0⟩ : GPort)), .slice (some ⟨b784, 0, none⟩) a0.Events.toNat a0.Events.toNat, u779, .slice (some ⟨b714, 0, none⟩) a0.Ports.length a0.Ports.length, b765) H ⟨rfl, rfl, rfl, trivial⟩ ⟨hm, hS⟩
      · skip
        refine kk_alloc 13 H rfl ze39 rfl ?_
        clear H; intro b790 w791 hN hE792 hs; clear a; intro a H
        have hge_b790 : w558.heap.size ≤ b790 := hs ▸ hW
        replace hS := hS.newBlk hN hE792 hs; clear hN hs
        replace hW := Nat.le_trans hW hE792.size
        refine k_three 4 7 11 (by kernel_rfl) ?_ ?_ ?_
        · skip
          refine kk_makeL (e := eF) (z0 := false) (L := a0.Events.toNat) (C := a0.Events.toNat) 4 H rfl Tryz.underlying35 el4 rfl (by show _ = some (Value.int .i64 ((Int.toNat a0.Events : Nat) : Int)); rw [Int.toNat_of_nonneg hk562]; rfl) (by show _ = some (Value.int .i64 ((Int.toNat a0.Events : Nat) : Int)); rw [Int.toNat_of_nonneg hk562]; rfl) (Nat.le_refl _) hk563 (by simp only [maxLen]; omega) rfl ?_
          clear H; intro b793 w794 hN hE795 hs; clear a; intro a H; replace hS := hS.newOwn hN hE795 (by simp [blks]; omega); clear hN
          replace hW := Nat.le_trans hW hE795.size
          refine k_two 7 11 (by kernel_rfl) ?_ ?_
          · skip
            refine kk_call 7 H rfl rfl en18 (g_slices_Clone_int_w (A := A) (hrp0_3.ext (Flat.mono _) hS.x) hr564) rfl (fun v w hv => .inl (ChgF.of_ext (by obtain ⟨_, _, hE0⟩ := hv; exact hE0.x))) ?_
            clear H; intro u797 w799 hv; clear a; intro a H; obtain ⟨_, rfl, hE800⟩ := hv
            replace hS := hS.new hE800; simp only [List.cons_append, List.nil_append] at hS
            replace hW := Nat.le_trans hW hE800.x.size
            refine k_of_kk 11 (by kernel_rfl) ?_
            refine kk_make (L := a0.Ports.length) (C := a0.Ports.length) 11 H rfl Tryz.underlying36 el76 rfl rfl (Nat.le_refl _) hk565 (by simp only [maxLen]; omega) rfl ?_
            clear H; intro b802 w803 hN hE804 hs; clear a; intro a H; replace hS := hS.newOwn hN hE804 (by simp [blks]; omega); clear hN
            replace hS := St.mkDeep0 (R := RGPort) (z0 := (⟨([] : List ByteArray), 0⟩ : GPort)) (n := a0.Ports.length) rfl (by simp) (fun w => ⟨_, rfl, SlR.nil _ _ _⟩) hS
            replace hW := Nat.le_trans hW hE804.size
            refine k_takeT 12 H rfl (q_build (cs := [.int .i64 a0.Id, .int .i64 0, .int .i64 0, .slice none 0 0, .slice none 0 0, .slice none 0 0, .slice (some ⟨b793, 0, none⟩) a0.Events.toNat a0.Events.toNat, u797, .slice (some ⟨b802, 0, none⟩) a0.Ports.length a0.Ports.length, .slice none 0 0]) ze39 bd39 pl39 rfl ((fill1 rfl rfl (by simp)).trans ((fill1 (((hS.own 2 rfl).slr rfl (fun _ _ => rfl))).one rfl (by simp)).trans ((fill1 (((hS.own 1 rfl).slr rfl (fun _ _ => rfl))).one rfl (by simp)).trans ((fill1 ((hS.deepSl 0 rfl)).one rfl (by simp)).trans rfl))))) rfl (by kernel_rfl) (by kernel_rfl) (by kernel_rfl) (by kernel_rfl) (fun _ _ _ h => h) ?_; clear H a; intro a H
            replace hS := hS.pk3
            refine k_storeAll 14 H rfl rfl rfl (vs := [.int .i64 a0.Id, .int .i64 0, .int .i64 0, .slice none 0 0, .slice none 0 0, .slice none 0 0, .slice (some ⟨b793, 0, none⟩) a0.Events.toNat a0.Events.toNat, u797, .slice (some ⟨b802, 0, none⟩) a0.Ports.length a0.Ports.length, .slice none 0 0]) rfl sz39 (hS.blk 0 rfl) rfl (by simp [(((hS.own 3 rfl).slr rfl (fun _ _ => rfl))).one, (((hS.own 2 rfl).slr rfl (fun _ _ => rfl))).one, ((hS.deepSl 1 rfl)).one]) (by kernel_rfl) (.inl (fun h => absurd h (Nat.not_lt.2 hge_b790))) ?_
            clear H; intro w806 hN hC807 hz; clear a; intro a H; replace hS := hS.setBlk hN hC807; clear hN hz; replace hW := Nat.le_trans hW hC807.size
            refine k_done (by kernel_rfl) ?_
            refine then_normal ?_
            obtain rfl := Option.some.inj hm; replace hm := hm47; try dsimp only at hm
            replace hS := hS.pk1
            replace hS := hS.pk2
            replace hS := hS.pk3
            replace hS := hS.pk3
            replace hS := hS.pk5
            replace hS := hS.pk6
            replace hS := hS.tk6
            exact join ((List.replicate a0.Events.toNat false), r564, (List.replicate a0.Ports.length (⟨([] : List ByteArray), 0⟩ : GPort)), .slice (some ⟨b793, 0, none⟩) a0.Events.toNat a0.Events.toNat, u797, .slice (some ⟨b802, 0, none⟩) a0.Ports.length a0.Ports.length, b790) H ⟨rfl, rfl, rfl, trivial⟩ ⟨hm, hS⟩
          · skip
            refine kk_make (L := a0.Ports.length) (C := a0.Ports.length) 11 H rfl Tryz.underlying36 el76 rfl rfl (Nat.le_refl _) hk565 (by simp only [maxLen]; omega) rfl ?_
            clear H; intro b808 w809 hN hE810 hs; clear a; intro a H; replace hS := hS.newOwn hN hE810 (by simp [blks]; omega); clear hN
            replace hS := St.mkDeep0 (R := RGPort) (z0 := (⟨([] : List ByteArray), 0⟩ : GPort)) (n := a0.Ports.length) rfl (by simp) (fun w => ⟨_, rfl, SlR.nil _ _ _⟩) hS
            replace hW := Nat.le_trans hW hE810.size
            refine k_of_kk 7 (by kernel_rfl) ?_
            refine kk_call 7 H rfl rfl en18 (g_slices_Clone_int_w (A := A) (hrp0_3.ext (Flat.mono _) hS.x) hr564) rfl (fun v w hv => .inl (ChgF.of_ext (by obtain ⟨_, _, hE0⟩ := hv; exact hE0.x))) ?_
            clear H; intro u812 w814 hv; clear a; intro a H; obtain ⟨_, rfl, hE815⟩ := hv
            replace hS := hS.new hE815; simp only [List.cons_append, List.nil_append] at hS
            replace hW := Nat.le_trans hW hE815.x.size
            refine k_takeT 12 H rfl (q_build (cs := [.int .i64 a0.Id, .int .i64 0, .int .i64 0, .slice none 0 0, .slice none 0 0, .slice none 0 0, .slice (some ⟨b793, 0, none⟩) a0.Events.toNat a0.Events.toNat, u812, .slice (some ⟨b808, 0, none⟩) a0.Ports.length a0.Ports.length, .slice none 0 0]) ze39 bd39 pl39 rfl ((fill1 rfl rfl (by simp)).trans ((fill1 (((hS.own 2 rfl).slr rfl (fun _ _ => rfl))).one rfl (by simp)).trans ((fill1 (((hS.own 0 rfl).slr rfl (fun _ _ => rfl))).one rfl (by simp)).trans ((fill1 ((hS.deepSl 1 rfl)).one rfl (by simp)).trans rfl))))) rfl (by kernel_rfl) (by kernel_rfl) (by kernel_rfl) (by kernel_rfl) (fun _ _ _ h => h) ?_; clear H a; intro a H
            replace hS := hS.pk3
            refine k_storeAll 14 H rfl rfl rfl (vs := [.int .i64 a0.Id, .int .i64 0, .int .i64 0, .slice none 0 0, .slice none 0 0, .slice none 0 0, .slice (some ⟨b793, 0, none⟩) a0.Events.toNat a0.Events.toNat, u812, .slice (some ⟨b808, 0, none⟩) a0.Ports.length a0.Ports.length, .slice none 0 0]) rfl sz39 (hS.blk 0 rfl) rfl (by simp [(((hS.own 3 rfl).slr rfl (fun _ _ => rfl))).one, (((hS.own 1 rfl).slr rfl (fun _ _ => rfl))).one, ((hS.deepSl 2 rfl)).one]) (by kernel_rfl) (.inl (fun h => absurd h (Nat.not_lt.2 hge_b790))) ?_
            clear H; intro w817 hN hC818 hz; clear a; intro a H; replace hS := hS.setBlk hN hC818; clear hN hz; replace hW := Nat.le_trans hW hC818.size
            refine k_done (by kernel_rfl) ?_
            refine then_normal ?_
            obtain rfl := Option.some.inj hm; replace hm := hm47; try dsimp only at hm
            replace hS := hS.pk2
            replace hS := hS.pk2
            replace hS := hS.pk3
            replace hS := hS.pk3
            replace hS := hS.pk5
            replace hS := hS.pk6
            replace hS := hS.tk6
            exact join ((List.replicate a0.Events.toNat false), r564, (List.replicate a0.Ports.length (⟨([] : List ByteArray), 0⟩ : GPort)), .slice (some ⟨b793, 0, none⟩) a0.Events.toNat a0.Events.toNat, u812, .slice (some ⟨b808, 0, none⟩) a0.Ports.length a0.Ports.length, b790) H ⟨rfl, rfl, rfl, trivial⟩ ⟨hm, hS⟩
        · skip
          refine kk_call 7 H rfl rfl en18 (g_slices_Clone_int_w (A := A) (hrp0_3.ext (Flat.mono _) hS.x) hr564) rfl (fun v w hv => .inl (ChgF.of_ext (by obtain ⟨_, _, hE0⟩ := hv; exact hE0.x))) ?_
          clear H; intro u819 w821 hv; clear a; intro a H; obtain ⟨_, rfl, hE822⟩ := hv
          replace hS := hS.new hE822; simp only [List.cons_append, List.nil_append] at hS
          replace hW := Nat.le_trans hW hE822.x.size
          refine k_two 4 11 (by kernel_rfl) ?_ ?_
          · skip
            refine kk_makeL (e := eF) (z0 := false) (L := a0.Events.toNat) (C := a0.Events.toNat) 4 H rfl Tryz.underlying35 el4 rfl (by show _ = some (Value.int .i64 ((Int.toNat a0.Events : Nat) : Int)); rw [Int.toNat_of_nonneg hk562]; rfl) (by show _ = some (Value.int .i64 ((Int.toNat a0.Events : Nat) : Int)); rw [Int.toNat_of_nonneg hk562]; rfl) (Nat.le_refl _) hk563 (by simp only [maxLen]; omega) rfl ?_
            clear H; intro b824 w825 hN hE826 hs; clear a; intro a H; replace hS := hS.newOwn hN hE826 (by simp [blks]; omega); clear hN
            replace hW := Nat.le_trans hW hE826.size
            refine k_of_kk 11 (by kernel_rfl) ?_
            refine kk_make (L := a0.Ports.length) (C := a0.Ports.length) 11 H rfl Tryz.underlying36 el76 rfl rfl (Nat.le_refl _) hk565 (by simp only [maxLen]; omega) rfl ?_
            clear H; intro b828 w829 hN hE830 hs; clear a; intro a H; replace hS := hS.newOwn hN hE830 (by simp [blks]; omega); clear hN
            replace hS := St.mkDeep0 (R := RGPort) (z0 := (⟨([] : List ByteArray), 0⟩ : GPort)) (n := a0.Ports.length) rfl (by simp) (fun w => ⟨_, rfl, SlR.nil _ _ _⟩) hS
            replace hW := Nat.le_trans hW hE830.size
            refine k_takeT 12 H rfl (q_build (cs := [.int .i64 a0.Id, .int .i64 0, .int .i64 0, .slice none 0 0, .slice none 0 0, .slice none 0 0, .slice (some ⟨b824, 0, none⟩) a0.Events.toNat a0.Events.toNat, u819, .slice (some ⟨b828, 0, none⟩) a0.Ports.length a0.Ports.length, .slice none 0 0]) ze39 bd39 pl39 rfl ((fill1 rfl rfl (by simp)).trans ((fill1 (((hS.own 1 rfl).slr rfl (fun _ _ => rfl))).one rfl (by simp)).trans ((fill1 (((hS.own 2 rfl).slr rfl (fun _ _ => rfl))).one rfl (by simp)).trans ((fill1 ((hS.deepSl 0 rfl)).one rfl (by simp)).trans rfl))))) rfl (by kernel_rfl) (by kernel_rfl) (by kernel_rfl) (by kernel_rfl) (fun _ _ _ h => h) ?_; clear H a; intro a H
            replace hS := hS.pk3
            refine k_storeAll 14 H rfl rfl rfl (vs := [.int .i64 a0.Id, .int .i64 0, .int .i64 0, .slice none 0 0, .slice none 0 0, .slice none 0 0, .slice (some ⟨b824, 0, none⟩) a0.Events.toNat a0.Events.toNat, u819, .slice (some ⟨b828, 0, none⟩) a0.Ports.length a0.Ports.length, .slice none 0 0]) rfl sz39 (hS.blk 0 rfl) rfl (by simp [(((hS.own 2 rfl).slr rfl (fun _ _ => rfl))).one, (((hS.own 3 rfl).slr rfl (fun _ _ => rfl))).one, ((hS.deepSl 1 rfl)).one]) (by kernel_rfl) (.inl (fun h => absurd h (Nat.not_lt.2 hge_b790))) ?_
            clear H; intro w832 hN hC833 hz; clear a; intro a H; replace hS := hS.setBlk hN hC833; clear hN hz; replace hW := Nat.le_trans hW hC833.size
            refine k_done (by kernel_rfl) ?_
            refine then_normal ?_
            obtain rfl := Option.some.inj hm; replace hm := hm47; try dsimp only at hm
            replace hS := hS.pk1
            replace hS := hS.pk3
            replace hS := hS.pk3
            replace hS := hS.pk3
            replace hS := hS.pk5
            replace hS := hS.pk6
            replace hS := hS.tk6
            exact join ((List.replicate a0.Events.toNat false), r564, (List.replicate a0.Ports.length (⟨([] : List ByteArray), 0⟩ : GPort)), .slice (some ⟨b824, 0, none⟩) a0.Events.toNat a0.Events.toNat, u819, .slice (some ⟨b828, 0, none⟩) a0.Ports.length a0.Ports.length, b790) H ⟨rfl, rfl, rfl, trivial⟩ ⟨hm, hS⟩
          · skip
            refine kk_make (L := a0.Ports.length) (C := a0.Ports.length) 11 H rfl Tryz.underlying36 el76 rfl rfl (Nat.le_refl _) hk565 (by simp only [maxLen]; omega) rfl ?_
            clear H; intro b834 w835 hN hE836 hs; clear a; intro a H; replace hS := hS.newOwn hN hE836 (by simp [blks]; omega); clear hN
            replace hS := St.mkDeep0 (R := RGPort) (z0 := (⟨([] : List ByteArray), 0⟩ : GPort)) (n := a0.Ports.length) rfl (by simp) (fun w => ⟨_, rfl, SlR.nil _ _ _⟩) hS
            replace hW := Nat.le_trans hW hE836.size
            refine k_of_kk 4 (by kernel_rfl) ?_
            refine kk_makeL (e := eF) (z0 := false) (L := a0.Events.toNat) (C := a0.Events.toNat) 4 H rfl Tryz.underlying35 el4 rfl (by show _ = some (Value.int .i64 ((Int.toNat a0.Events : Nat) : Int)); rw [Int.toNat_of_nonneg hk562]; rfl) (by show _ = some (Value.int .i64 ((Int.toNat a0.Events : Nat) : Int)); rw [Int.toNat_of_nonneg hk562]; rfl) (Nat.le_refl _) hk563 (by simp only [maxLen]; omega) rfl ?_
            clear H; intro b838 w839 hN hE840 hs; clear a; intro a H; replace hS := hS.newOwn hN hE840 (by simp [blks]; omega); clear hN
            replace hW := Nat.le_trans hW hE840.size
            refine k_takeT 12 H rfl (q_build (cs := [.int .i64 a0.Id, .int .i64 0, .int .i64 0, .slice none 0 0, .slice none 0 0, .slice none 0 0, .slice (some ⟨b838, 0, none⟩) a0.Events.toNat a0.Events.toNat, u819, .slice (some ⟨b834, 0, none⟩) a0.Ports.length a0.Ports.length, .slice none 0 0]) ze39 bd39 pl39 rfl ((fill1 rfl rfl (by simp)).trans ((fill1 (((hS.own 0 rfl).slr rfl (fun _ _ => rfl))).one rfl (by simp)).trans ((fill1 (((hS.own 2 rfl).slr rfl (fun _ _ => rfl))).one rfl (by simp)).trans ((fill1 ((hS.deepSl 1 rfl)).one rfl (by simp)).trans rfl))))) rfl (by kernel_rfl) (by kernel_rfl) (by kernel_rfl) (by kernel_rfl) (fun _ _ _ h => h) ?_; clear H a; intro a H
            replace hS := hS.pk3
            refine k_storeAll 14 H rfl rfl rfl (vs := [.int .i64 a0.Id, .int .i64 0, .int .i64 0, .slice none 0 0, .slice none 0 0, .slice none 0 0, .slice (some ⟨b838, 0, none⟩) a0.Events.toNat a0.Events.toNat, u819, .slice (some ⟨b834, 0, none⟩) a0.Ports.length a0.Ports.length, .slice none 0 0]) rfl sz39 (hS.blk 0 rfl) rfl (by simp [(((hS.own 1 rfl).slr rfl (fun _ _ => rfl))).one, (((hS.own 3 rfl).slr rfl (fun _ _ => rfl))).one, ((hS.deepSl 2 rfl)).one]) (by kernel_rfl) (.inl (fun h => absurd h (Nat.not_lt.2 hge_b790))) ?_
            clear H; intro w842 hN hC843 hz; clear a; intro a H; replace hS := hS.setBlk hN hC843; clear hN hz; replace hW := Nat.le_trans hW hC843.size
            refine k_done (by kernel_rfl) ?_
            refine then_normal ?_
            obtain rfl := Option.some.inj hm; replace hm := hm47; try dsimp only at hm
            replace hS := hS.pk2
            replace hS := hS.pk3
            replace hS := hS.pk3
            replace hS := hS.pk3
            replace hS := hS.pk5
            replace hS := hS.pk6
            replace hS := hS.tk6
            exact join ((List.replicate a0.Events.toNat false), r564, (List.replicate a0.Ports.length (⟨([] : List ByteArray), 0⟩ : GPort)), .slice (some ⟨b838, 0, none⟩) a0.Events.toNat a0.Events.toNat, u819, .slice (some ⟨b834, 0, none⟩) a0.Ports.length a0.Ports.length, b790) H ⟨rfl, rfl, rfl, trivial⟩ ⟨hm, hS⟩
        · skip
          refine kk_make (L := a0.Ports.length) (C := a0.Ports.length) 11 H rfl Tryz.underlying36 el76 rfl rfl (Nat.le_refl _) hk565 (by simp only [maxLen]; omega) rfl ?_
          clear H; intro b844 w845 hN hE846 hs; clear a; intro a H; replace hS := hS.newOwn hN hE846 (by simp [blks]; omega); clear hN
          replace hS := St.mkDeep0 (R := RGPort) (z0 := (⟨([] : List ByteArray), 0⟩ : GPort)) (n := a0.Ports.length) rfl (by simp) (fun w => ⟨_, rfl, SlR.nil _ _ _⟩) hS
          replace hW := Nat.le_trans hW hE846.size
          refine k_two 4 7 (by kernel_rfl) ?_ ?_
          · skip
            refine kk_makeL (e := eF) (z0 := false) (L := a0.Events.toNat) (C := a0.Events.toNat) 4 H rfl Tryz.underlying35 el4 rfl (by show _ = some (Value.int .i64 ((Int.toNat a0.Events : Nat) : Int)); rw [Int.toNat_of_nonneg hk562]; rfl) (by show _ = some (Value.int .i64 ((Int.toNat a0.Events : Nat) : Int)); rw [Int.toNat_of_nonneg hk562]; rfl) (Nat.le_refl _) hk563 (by simp only [maxLen]; omega) rfl ?_
            clear H; intro b848 w849 hN hE850 hs; clear a; intro a H; replace hS := hS.newOwn hN hE850 (by simp [blks]; omega); clear hN
            replace hW := Nat.le_trans hW hE850.size
            refine k_of_kk 7 (by kernel_rfl) ?_
            refine kk_call 7 H rfl rfl en18 (g_slices_Clone_int_w (A := A) (hrp0_3.ext (Flat.mono _) hS.x) hr564) rfl (fun v w hv => .inl (ChgF.of_ext (by obtain ⟨_, _, hE0⟩ := hv; exact hE0.x))) ?_
            clear H; intro u852 w854 hv; clear a; intro a H; obtain ⟨_, rfl, hE855⟩ := hv
            replace hS := hS.new hE855; simp only [List.cons_append, List.nil_append] at hS
            replace hW := Nat.le_trans hW hE855.x.size
            refine k_takeT 12 H rfl (q_build (cs := [.int .i64 a0.Id, .int .i64 0, .int .i64 0, .slice none 0 0, .slice none 0 0, .slice none 0 0, .slice (some ⟨b848, 0, none⟩) a0.Events.toNat a0.Events.toNat, u852, .slice (some ⟨b844, 0, none⟩) a0.Ports.length a0.Ports.length, .slice none 0 0]) ze39 bd39 pl39 rfl ((fill1 rfl rfl (by simp)).trans ((fill1 (((hS.own 1 rfl).slr rfl (fun _ _ => rfl))).one rfl (by simp)).trans ((fill1 (((hS.own 0 rfl).slr rfl (fun _ _ => rfl))).one rfl (by simp)).trans ((fill1 ((hS.deepSl 2 rfl)).one rfl (by simp)).trans rfl))))) rfl (by kernel_rfl) (by kernel_rfl) (by kernel_rfl) (by kernel_rfl) (fun _ _ _ h => h) ?_; clear H a; intro a H
            replace hS := hS.pk3
            refine k_storeAll 14 H rfl rfl rfl (vs := [.int .i64 a0.Id, .int .i64 0, .int .i64 0, .slice none 0 0, .slice none 0 0, .slice none 0 0, .slice (some ⟨b848, 0, none⟩) a0.Events.toNat a0.Events.toNat, u852, .slice (some ⟨b844, 0, none⟩) a0.Ports.length a0.Ports.length, .slice none 0 0]) rfl sz39 (hS.blk 0 rfl) rfl (by simp [(((hS.own 2 rfl).slr rfl (fun _ _ => rfl))).one, (((hS.own 1 rfl).slr rfl (fun _ _ => rfl))).one, ((hS.deepSl 3 rfl)).one]) (by kernel_rfl) (.inl (fun h => absurd h (Nat.not_lt.2 hge_b790))) ?_
            clear H; intro w857 hN hC858 hz; clear a; intro a H; replace hS := hS.setBlk hN hC858; clear hN hz; replace hW := Nat.le_trans hW hC858.size
            refine k_done (by kernel_rfl) ?_
            refine then_normal ?_
            obtain rfl := Option.some.inj hm; replace hm := hm47; try dsimp only at hm
            replace hS := hS.pk3
            replace hS := hS.pk2
            replace hS := hS.pk3
            replace hS := hS.pk3
            replace hS := hS.pk5
            replace hS := hS.pk6
            replace hS := hS.tk6
            exact join ((List.replicate a0.Events.toNat false), r564, (List.replicate a0.Ports.length (⟨([] : List ByteArray), 0⟩ : GPort)), .slice (some ⟨b848, 0, none⟩) a0.Events.toNat a0.Events.toNat, u852, .slice (some ⟨b844, 0, none⟩) a0.Ports.length a0.Ports.length, b790) H ⟨rfl, rfl, rfl, trivial⟩ ⟨hm, hS⟩
          · skip
            refine kk_call 7 H rfl rfl en18 (g_slices_Clone_int_w (A := A) (hrp0_3.ext (Flat.mono _) hS.x) hr564) rfl (fun v w hv => .inl (ChgF.of_ext (by obtain ⟨_, _, hE0⟩ := hv; exact hE0.x))) ?_
            clear H; intro u859 w861 hv; clear a; intro a H; obtain ⟨_, rfl, hE862⟩ := hv
            replace hS := hS.new hE862; simp only [List.cons_append, List.nil_append] at hS
            replace hW := Nat.le_trans hW hE862.x.size
            refine k_of_kk 4 (by kernel_rfl) ?_
            refine kk_makeL (e := eF) (z0 := false) (L := a0.Events.toNat) (C := a0.Events.toNat) 4 H rfl Tryz.underlying35 el4 rfl (by show _ = some (Value.int .i64 ((Int.toNat a0.Events : Nat) : Int)); rw [Int.toNat_of_nonneg hk562]; rfl) (by show _ = some (Value.int .i64 ((Int.toNat a0.Events : Nat) : Int)); rw [Int.toNat_of_nonneg hk562]; rfl) (Nat.le_refl _) hk563 (by simp only [maxLen]; omega) rfl ?_
            clear H; intro b864 w865 hN hE866 hs; clear a; intro a H; replace hS := hS.newOwn hN hE866 (by simp [blks]; omega); clear hN
            replace hW := Nat.le_trans hW hE866.size
            refine k_takeT 12 H rfl (q_build (cs := [.int .i64 a0.Id, .int .i64 0, .int .i64 0, .slice none 0 0, .slice none 0 0, .slice none 0 0, .slice (some ⟨b864, 0, none⟩) a0.Events.toNat a0.Events.toNat, u859, .slice (some ⟨b844, 0, none⟩) a0.Ports.length a0.Ports.length, .slice none 0 0]) ze39 bd39 pl39 rfl ((fill1 rfl rfl (by simp)).trans ((fill1 (((hS.own 0 rfl).slr rfl (fun _ _ => rfl))).one rfl (by simp)).trans ((fill1 (((hS.own 1 rfl).slr rfl (fun _ _ => rfl))).one rfl (by simp)).trans ((fill1 ((hS.deepSl 2 rfl)).one rfl (by simp)).trans rfl))))) rfl (by kernel_rfl) (by kernel_rfl) (by kernel_rfl) (by kernel_rfl) (fun _ _ _ h => h) ?_; clear H a; intro a H
            replace hS := hS.pk3
            refine k_storeAll 14 H rfl rfl rfl (vs := [.int .i64 a0.Id, .int .i64 0, .int .i64 0, .slice none 0 0, .slice none 0 0, .slice none 0 0, .slice (some ⟨b864, 0, none⟩) a0.Events.toNat a0.Events.toNat, u859, .slice (some ⟨b844, 0, none⟩) a0.Ports.length a0.Ports.length, .slice none 0 0]) rfl sz39 (hS.blk 0 rfl) rfl (by simp [(((hS.own 1 rfl).slr rfl (fun _ _ => rfl))).one, (((hS.own 2 rfl).slr rfl (fun _ _ => rfl))).one, ((hS.deepSl 3 rfl)).one]) (by kernel_rfl) (.inl (fun h => absurd h (Nat.not_lt.2 hge_b790))) ?_
            clear H; intro w868 hN hC869 hz; clear a; intro a H; replace hS := hS.setBlk hN hC869; clear hN hz; replace hW := Nat.le_trans hW hC869.size
            refine k_done (by kernel_rfl) ?_
            refine then_normal ?_
            obtain rfl := Option.some.inj hm; replace hm := hm47; try dsimp only at hm
            replace hS := hS.pk3
            replace hS := hS.pk3
            replace hS := hS.pk3
            replace hS := hS.pk3
            replace hS := hS.pk5
            replace hS := hS.pk6
            replace hS := hS.tk6
            exact join ((List.replicate a0.Events.toNat false), r564, (List.replicate a0.Ports.length (⟨([] : List ByteArray), 0⟩ : GPort)), .slice (some ⟨b864, 0, none⟩) a0.Events.toNat a0.Events.toNat, u859, .slice (some ⟨b844, 0, none⟩) a0.Ports.length a0.Ports.length, b790) H ⟨rfl, rfl, rfl, trivial⟩ ⟨hm, hS⟩
    · clear H hS hm a; intro xx a w870 H hR
      obtain ⟨l548, l551, l554, v549, v552, v555, b557⟩ := xx
      simp only [ent, List.map_cons, List.map_nil] at H; (try dsimp only at hR); obtain ⟨hm, hS⟩ := hR; try dsimp only [g_plan_Boot_J9] at hm
      refine wp_seq (wp_seq (wp_region_lit (n_q H (q_fieldAddr0 rfl fo27_3) rfl (W_q (q_load rfl ((hS.blk 0 rfl).ld ag23 rfl)) rfl ?_)))); clear H a; intro a H
      obtain ⟨A871, c871, hv871, hl871, hm871⟩ := SlR.formV (hrp0_1.ext (Flat.mono _) hS.x)
      refine n_q H (q_lenV Tryz.underlying23 rfl hv871) rfl (W_q (q_move rfl) rfl ?_); clear H a; intro a H
      refine n_nil (then_normal (wp_block ?_))
      replace hS := hS.nilOwn 67 21
      replace hS := hS.nilOwn 3 1
      replace hS := hS.pk7
      replace hS := hS.pk7
      replace hS := hS.pk7
      replace hS := hS.pk3
      replace hS := hS.pk4
      replace hS := hS.pk7
      replace hS := hS.pk7
      replace hS := hS.pk7
      replace hm := bindS hm; obtain ⟨q872, hm, hm872⟩ := hm; replace hm := iter_some hm; obtain ⟨n872, hm⟩ := hm
      refine c_loop (σ := Nat × Nat × (List GProc) × (List Int) × Value × Value) (fun (m, i873, l874, l877, v875, v878) => [(1, .pointer (some ⟨b21, 0, none⟩)), (2, .pointer (some ⟨b24, 0, none⟩)), (4, .pointer (some ⟨b557, 0, none⟩)), (30, vp0_1), (31, .int .i64 ((a0.Procs.length : Nat) : Int)), (32, .int .i64 ((i873 : Nat) : Int))]) (fun (m, i873, l874, l877, v875, v878) wl => iterN (g_plan_Boot_L8 a0) m (i873, l874, l877) = some q872 ∧ St NB w wl [blkR b21 [.int .i64 a0.Id, .bool a0.Mobile, vp0_0, vp0_1, vp0_2, .int .i64 a0.Events, vp0_3] 27, blkR b24 [.int .i64 0, .int .i64 0, .int .i64 0, .slice none 0 0, .slice none 0 0, .slice none 0 0, .slice none 0 0, .slice none 0 0, .slice none 0 0, .slice none 0 0] 39, blkR b557 [.int .i64 a0.Id, .int .i64 0, .int .i64 0, v875, v878, .slice none 0 0, v549, v552, v555, .slice none 0 0] 39, ownR 67 21 v875 l874.length (l874.flatMap eGProc), ownR 3 1 v878 l877.length (l877.flatMap eI), ownR 4 1 v549 l548.length (l548.flatMap eF), ownR 3 1 v552 l551.length (l551.flatMap eI), deepR 76 2 RGPort v555 l554]) (fun (m, i873, l874, l877, v875, v878) => m) (n872, 0, ([] : List GProc), ([] : List Int), .slice none 0 0, .slice none 0 0) H ⟨rfl, rfl, rfl, rfl, rfl, rfl, trivial⟩ ⟨hm, hS⟩ ?_
      clear H hS hm a; intro xx a w882 H hR; obtain ⟨m, i873, l874, l877, v875, v878⟩ := xx; simp only [ent, List.map_cons, List.map_nil] at H; (try dsimp only at hR); obtain ⟨hm, hS⟩ := hR
      replace hm := iterN_step hm; obtain ⟨m872, o872, rfl, hm, hn872⟩ := hm; try dsimp only [g_plan_Boot_L8] at hm
      refine wp_seq (wp_region_lit (n_q H (q_lssN (i := i873) (j := a0.Procs.length) rfl rfl) rfl ?_)); clear H a; intro a H
      refine n_nil (then_normal (wp_seq (c_cond H rfl (fun hc883 => ?_) (fun hc883 => ?_))))
      · replace hm := condT hm hc883
        have hlt884 : i873 < a0.Procs.length := of_decide_eq_true hc883
        refine wp_skip (then_normal (wp_seq (wp_block (wp_seq (wp_region_lit (n_q H (q_move rfl) rfl ?_)))))); clear H a; intro a H
        replace hm := bindS hm; obtain ⟨x885, hx885, hm⟩ := hm
        obtain ⟨adx885, hAx885⟩ := SlR.adV (hrp0_1.ext (Flat.mono _) hS.x) hv871 hx885
        refine n_q H (q_ixV (i := i873) Tryz.underlying23 sz62 rfl hv871 hAx885 rfl (natI hx885)) rfl (W_q (q_load rfl (SlR.ldAggV (hrp0_1.ext (Flat.mono _) hS.x) hv871 hAx885 ag62 sz62 hx885)) rfl ?_); clear H a; intro a H
        refine n_alloc H ze62 rfl ?_
        clear H; intro b886 w887 hN hE888 hs; clear a; intro a H
        replace hS := hS.newBlk hN hE888 hs; clear hN hs
        refine n_q H (q_assign rfl) rfl ?_; clear H a; intro a H
        refine n_storeAll H rfl rfl (vs := [.int .i64 x885.Entry, .int .i64 x885.Prio, .bool x885.Auto]) rfl sz62 (hS.blk 0 rfl) rfl (by simp) ?_
        clear H; intro w889 hN hC890 hz; clear a; intro a H; replace hS := hS.setBlk hN hC890; clear hN hz
        refine n_nil (then_normal (wp_seq (wp_region_lit (n_q H (q_fieldAddr0 rfl fo62_0) rfl (W_q (q_load rfl ((hS.blk 0 rfl).ld ag3 rfl)) rfl (W_q (q_convI Tryz.underlying3 Tryz.underlying29 ⟨_, rfl⟩ rfl) rfl (W_q (q_fieldAddr0 rfl fo62_1) rfl (W_q (q_load rfl ((hS.blk 0 rfl).ld ag3 rfl)) rfl (W_q (q_build (cs := ((Vector.replicate 16 0).toList.map (Value.int .u32) ++ [.int .u32 (IntKind.u32.wrap x885.Entry), .int .i64 0, .int .i64 x885.Prio, .int .i64 0, .int .i64 0])) ze67 bd67 pl67 rfl (by kernel_rfl)) rfl ?_))))))))); clear H a; intro a H
        refine n_alloc H ze67 rfl ?_
        clear H; intro b891 w892 hN hE893 hs; clear a; intro a H
        replace hS := hS.newBlk hN hE893 hs; clear hN hs
        refine n_storeAll H rfl rfl (vs := ((Vector.replicate 16 0).toList.map (Value.int .u32) ++ [.int .u32 (IntKind.u32.wrap x885.Entry), .int .i64 0, .int .i64 x885.Prio, .int .i64 0, .int .i64 0])) rfl (sz67.trans (by simp)) (hS.blk 0 rfl) (by simp) (eGProc_one (⟨(Vector.replicate 16 0), (IntKind.u32.wrap x885.Entry), 0, x885.Prio, 0, 0⟩ : GProc)) ?_
        clear H; intro w894 hN hC895 hz; clear a; intro a H; replace hS := hS.setBlk hN hC895; clear hN hz
        refine n_nil (then_normal ?_)
        replace hm := bindS hm; obtain ⟨j896, hm, hm896⟩ := hm
        refine c_join (σ := (List Int) × GProc × Value) H (fun (l1397, t1400, v1398) => [(1, .pointer (some ⟨b21, 0, none⟩)), (2, .pointer (some ⟨b24, 0, none⟩)), (4, .pointer (some ⟨b557, 0, none⟩)), (7, .pointer (some ⟨b891, 0, none⟩)), (30, vp0_1), (31, .int .i64 ((a0.Procs.length : Nat) : Int)), (32, .int .i64 ((i873 : Nat) : Int))]) (fun (l1397, t1400, v1398) wl => (g_plan_Boot_J6 i873 l874) (l1397, t1400) = some o872 ∧ St NB w wl [blkR b21 [.int .i64 a0.Id, .bool a0.Mobile, vp0_0, vp0_1, vp0_2, .int .i64 a0.Events, vp0_3] 27, blkR b24 [.int .i64 0, .int .i64 0, .int .i64 0, .slice none 0 0, .slice none 0 0, .slice none 0 0, .slice none 0 0, .slice none 0 0, .slice none 0 0, .slice none 0 0] 39, blkR b557 [.int .i64 a0.Id, .int .i64 0, .int .i64 0, v875, v1398, .slice none 0 0, v549, v552, v555, .slice none 0 0] 39, ownR 67 21 v875 l874.length (l874.flatMap eGProc), ownR 3 1 v1398 l1397.length (l1397.flatMap eI), ownR 4 1 v549 l548.length (l548.flatMap eF), ownR 3 1 v552 l551.length (l551.flatMap eI), deepR 76 2 RGPort v555 l554, blkR b891 (t1400.Regs.toList.map (Value.int .u32) ++ [.int .u32 t1400.Pc, .int .i64 t1400.State, .int .i64 t1400.Prio, .int .i64 t1400.Wait, .int .i64 t1400.Obj]) 67]) ?_ ?_
        · skip
          refine wp_seq (wp_region_lit (n_q H (q_fieldAddr0 rfl fo62_2) rfl (W_q (q_load rfl ((hS.blk 1 rfl).ld ag4 rfl)) rfl ?_))); clear H a; intro a H
          refine n_nil (then_normal (c_cond H rfl (fun hc1401 => ?_) (fun hc1401 => ?_)))
          · replace hm := condT hm hc1401
            refine wp_seq (wp_region_lit (n_q H (q_fieldAddr0 rfl fo67_2) rfl ?_)); clear H a; intro a H
            refine n_store1 H rfl rfl sz3 (hS.blk 0 rfl) (by simp) rfl ?_
            clear H; intro w1402 hN hC1403 hz; clear a; intro a H; replace hS := hS.setBlk hN hC1403; clear hN hz
            try simp only [List.set_cons_succ, List.set_cons_zero] at hS
            refine n_nil (then_normal (wp_region_lit (n_q H (q_fieldAddr0 rfl fo39_4) rfl (W_q (q_load rfl ((hS.blk 4 rfl).ld ag25 rfl)) rfl (W_q (q_move rfl) rfl ?_))))); clear H a; intro a H
            refine n_buildSlice H Tryz.underlying25 sz3 ze3 rfl rfl rfl (cs := [.int .i64 ((i873 : Nat) : Int)]) (by kernel_rfl) rfl ?_
            clear H; intro b1406 w1404 hN hE1405 hs; clear a; intro a H
            replace hS := hS.newBlk hN hE1405 hs; clear hN hs
            replace hS := hS.blkOwnL (e := eI) (k := 1) [((i873 : Nat) : Int)] rfl rfl (by simp [maxLen])
            replace hS := hS.pk7
            replace hm := chkS hm; obtain ⟨hk1408, hm⟩ := hm
            refine n_app (e := eI) H rfl rfl Tryz.underlying25 Tryz.underlying25 (by simp) el3 (hS.own 0 rfl) (((hS.own 1 rfl).slr rfl (fun _ _ => rfl)).src (fun _ _ => rfl)) eI_one hk1408 (by simp only [maxLen]; omega) rfl ?_
            clear H; intro v1411 w1409 hN hC1410 hb; clear a; intro a H; replace hS := hS.setOwn hN hC1410 hb; clear hN hb
            refine n_q H (q_fieldAddr0 rfl fo39_4) rfl ?_; clear H a; intro a H
            replace hS := hS.pk6
            refine n_store1 H rfl rfl sz25 (hS.blk 0 rfl) (by simp) (((hS.own 1 rfl).slr rfl (fun _ _ => rfl))).one ?_
            clear H; intro w1413 hN hC1414 hz; clear a; intro a H; replace hS := hS.setBlk hN hC1414; clear hN hz
            try simp only [List.set_cons_succ, List.set_cons_zero] at hS
            refine n_nil (then_normal ?_)
            obtain rfl := Option.some.inj hm; replace hm := hm896; try dsimp only at hm
            replace hS := hS.pk3
            replace hS := hS.pk10
            replace hS := hS.pk10
            replace hS := hS.pk10
            replace hS := hS.pk5
            replace hS := hS.pk10
            replace hS := hS.pk6
            replace hS := hS.pk10
            replace hS := hS.pk10
            replace hS := hS.tk9
            exact join ((l877 ++ [((i873 : Nat) : Int)]), (⟨(Vector.replicate 16 0), (IntKind.u32.wrap x885.Entry), 1, x885.Prio, 0, 0⟩ : GProc), v1411) H ⟨rfl, rfl, rfl, rfl, rfl, rfl, rfl, trivial⟩ ⟨hm, hS⟩
          · replace hm := condF hm hc1401
            refine wp_skip (then_normal ?_)
            obtain rfl := Option.some.inj hm; replace hm := hm896; try dsimp only at hm
            replace hS := hS.pk9
            replace hS := hS.pk9
            replace hS := hS.pk9
            replace hS := hS.pk9
            replace hS := hS.pk9
            replace hS := hS.pk9
            replace hS := hS.pk9
            replace hS := hS.pk9
            replace hS := hS.tk9
            exact join (l877, (⟨(Vector.replicate 16 0), (IntKind.u32.wrap x885.Entry), 0, x885.Prio, 0, 0⟩ : GProc), v878) H ⟨rfl, rfl, rfl, rfl, rfl, rfl, rfl, trivial⟩ ⟨hm, hS⟩
        · clear H hS hm a; intro xx a w1415 H hR
          obtain ⟨l1397, t1400, v1398⟩ := xx
          simp only [ent, List.map_cons, List.map_nil] at H; (try dsimp only at hR); obtain ⟨hm, hS⟩ := hR; try dsimp only [g_plan_Boot_J6] at hm
          refine wp_region_lit (n_q H (q_fieldAddr0 rfl fo39_3) rfl (W_q (q_load rfl ((hS.blk 2 rfl).ld ag33 rfl)) rfl (W_q (q_load rfl ((hS.blk 8 rfl).ldAll ag67 (sz67.trans (by simp)))) rfl ?_))); clear H a; intro a H
          refine n_buildSlice H Tryz.underlying33 sz67 ze67 rfl rfl rfl (cs := [t1400].flatMap eGProc) ((fill_one (k := 21) (ds := eGProc t1400) (by rfl) (by simp [eGProc]) (by rfl)).trans (by simp)) rfl ?_
          clear H; intro b1418 w1416 hN hE1417 hs; clear a; intro a H
          replace hS := hS.newBlk hN hE1417 hs; clear hN hs
          replace hS := hS.blkOwnL (e := eGProc) (k := 21) [t1400] rfl (by simp [eGProc]) (by simp [maxLen])
          replace hS := hS.pk4
          replace hm := chkS hm; obtain ⟨hk1420, hm⟩ := hm
          refine n_app (e := eGProc) H rfl rfl Tryz.underlying33 Tryz.underlying33 (by simp) el67 (hS.own 0 rfl) (((hS.own 1 rfl).slr rfl (fun x _ => eGProc_len x)).src (fun x _ => eGProc_len x)) eGProc_one hk1420 (by simp only [maxLen]; omega) rfl ?_
          clear H; intro v1423 w1421 hN hC1422 hb; clear a; intro a H; replace hS := hS.setOwn hN hC1422 hb; clear hN hb
          refine n_q H (q_fieldAddr0 rfl fo39_3) rfl ?_; clear H a; intro a H
          replace hS := hS.pk4
          refine n_store1 H rfl rfl sz33 (hS.blk 0 rfl) (by simp) (((hS.own 1 rfl).slr rfl (fun x _ => eGProc_len x))).one ?_
          clear H; intro w1425 hN hC1426 hz; clear a; intro a H; replace hS := hS.setBlk hN hC1426; clear hN hz
          try simp only [List.set_cons_succ, List.set_cons_zero] at hS
          refine n_nil (block_normal (then_normal (wp_region_lit (n_q H (q_incr (i := i873) (j := 1) rfl rfl (by omega)) rfl (W_q (q_move rfl) rfl ?_))))); clear H a; intro a H
          refine n_nil (then_normal ?_)
          obtain rfl := Option.some.inj hm
          replace hS := hS.pk8
          replace hS := hS.pk8
          replace hS := hS.pk8
          replace hS := hS.pk8
          replace hS := hS.pk5
          replace hS := hS.pk5
          replace hS := hS.pk8
          replace hS := hS.pk8
          replace hS := hS.tk8
          exact round (m872, i873 + 1, (l874 ++ [t1400]), l1397, v1423, v1398) H ⟨rfl, rfl, rfl, rfl, rfl, rfl, trivial⟩ ⟨hn872, hS⟩ (Nat.lt_succ_self _)
      · replace hm := condF hm hc883
        refine wp_exit (then_exit (then_exit (block_exit ?_)))
        obtain rfl := Option.some.inj hm; have hz : _ = q872 := hn872; subst hz; replace hm := hm872; try dsimp only at hm
        refine then_normal (wp_seq (wp_seq (wp_region_lit (n_q H (q_fieldAddr0 rfl fo27_2) rfl (W_q (q_load rfl ((hS.blk 0 rfl).ld ag22 rfl)) rfl ?_))))); clear H a; intro a H
        obtain ⟨A1427, c1427, hv1427, hl1427, hm1427⟩ := SlR.formV (hrp0_0.ext (Flat.mono _) hS.x)
        refine n_q H (q_lenV Tryz.underlying22 rfl hv1427) rfl (W_q (q_move rfl) rfl ?_); clear H a; intro a H
        refine n_nil (then_normal (wp_block ?_))
        replace hS := hS.nilOwn 60 66
        replace hS := hS.pk8
        replace hS := hS.pk8
        replace hS := hS.pk8
        replace hS := hS.pk8
        replace hS := hS.pk8
        replace hS := hS.pk8
        replace hS := hS.pk8
        replace hS := hS.tk8
        replace hm := bindS hm; obtain ⟨q1428, hm, hm1428⟩ := hm; replace hm := iter_some hm; obtain ⟨n1428, hm⟩ := hm
        refine c_loop (σ := Nat × Nat × (List GPage) × Value) (fun (m, i1429, l1430, v1431) => [(2, .pointer (some ⟨b24, 0, none⟩)), (4, .pointer (some ⟨b557, 0, none⟩)), (60, vp0_0), (61, .int .i64 ((a0.Pages.length : Nat) : Int)), (62, .int .i64 ((i1429 : Nat) : Int))]) (fun (m, i1429, l1430, v1431) wl => iterN (g_plan_Boot_L7 a0) m (i1429, l1430) = some q1428 ∧ St NB w wl [blkR b24 [.int .i64 0, .int .i64 0, .int .i64 0, .slice none 0 0, .slice none 0 0, .slice none 0 0, .slice none 0 0, .slice none 0 0, .slice none 0 0, .slice none 0 0] 39, blkR b557 [.int .i64 a0.Id, .int .i64 0, .int .i64 0, v875, v878, .slice none 0 0, v549, v552, v555, v1431] 39, ownR 67 21 v875 l874.length (l874.flatMap eGProc), ownR 3 1 v878 l877.length (l877.flatMap eI), ownR 4 1 v549 l548.length (l548.flatMap eF), ownR 3 1 v552 l551.length (l551.flatMap eI), deepR 76 2 RGPort v555 l554, ownR 60 66 v1431 l1430.length (l1430.flatMap eGPage)]) (fun (m, i1429, l1430, v1431) => m) (n1428, 0, ([] : List GPage), .slice none 0 0) H ⟨rfl, rfl, rfl, rfl, rfl, trivial⟩ ⟨hm, hS⟩ ?_
        clear H hS hm a; intro xx a w1434 H hR; obtain ⟨m, i1429, l1430, v1431⟩ := xx; simp only [ent, List.map_cons, List.map_nil] at H; (try dsimp only at hR); obtain ⟨hm, hS⟩ := hR
        replace hm := iterN_step hm; obtain ⟨m1428, o1428, rfl, hm, hn1428⟩ := hm; try dsimp only [g_plan_Boot_L7] at hm
        refine wp_seq (wp_region_lit (n_q H (q_lssN (i := i1429) (j := a0.Pages.length) rfl rfl) rfl ?_)); clear H a; intro a H
        refine n_nil (then_normal (wp_seq (c_cond H rfl (fun hc1435 => ?_) (fun hc1435 => ?_))))
        · replace hm := condT hm hc1435
          have hlt1436 : i1429 < a0.Pages.length := of_decide_eq_true hc1435
          refine wp_skip (then_normal (wp_seq (wp_block (wp_seq (wp_region_lit ?_)))))
          replace hm := bindS hm; obtain ⟨x1437, hx1437, hm⟩ := hm
          obtain ⟨adx1437, hAx1437⟩ := SlR.adV (hrp0_0.ext (Flat.mono _) hS.x) hv1427 hx1437
          refine n_q H (q_ixV (i := i1429) Tryz.underlying22 sz69 rfl hv1427 hAx1437 rfl (natI hx1437)) rfl (W_q (q_load rfl (SlR.ldAggV (hrp0_0.ext (Flat.mono _) hS.x) hv1427 hAx1437 ag69 sz69 hx1437)) rfl ?_); clear H a; intro a H
          refine n_alloc H ze69 rfl ?_
          clear H; intro b1438 w1439 hN hE1440 hs; clear a; intro a H
          replace hS := hS.newBlk hN hE1440 hs; clear hN hs
          refine n_storeAll H rfl rfl (vs := [.int .i64 x1437.Rights, .string x1437.Init]) rfl sz69 (hS.blk 0 rfl) rfl (by simp) ?_
          clear H; intro w1441 hN hC1442 hz; clear a; intro a H; replace hS := hS.setBlk hN hC1442; clear hN hz
          refine n_nil (then_normal (wp_seq (wp_region_lit (n_q H (q_fieldAddr0 rfl fo69_0) rfl (W_q (q_load rfl ((hS.blk 0 rfl).ld ag3 rfl)) rfl (W_q (q_build (cs := ([.int .i64 x1437.Rights, .bool false] ++ (Vector.replicate 64 0).toList.map (fun b : UInt8 => Value.int .u8 (b.toNat : Int)))) ze60 bd60 pl60 rfl (by kernel_rfl)) rfl ?_)))))); clear H a; intro a H
          refine n_alloc H ze60 rfl ?_
          clear H; intro b1443 w1444 hN hE1445 hs; clear a; intro a H
          replace hS := hS.newBlk hN hE1445 hs; clear hN hs
          refine n_storeAll H rfl rfl (vs := ([.int .i64 x1437.Rights, .bool false] ++ (Vector.replicate 64 0).toList.map (fun b : UInt8 => Value.int .u8 (b.toNat : Int)))) rfl (sz60.trans (by simp)) (hS.blk 0 rfl) (by simp) (eGPage_one (⟨x1437.Rights, false, (Vector.replicate 64 0)⟩ : GPage)) ?_
          clear H; intro w1446 hN hC1447 hz; clear a; intro a H; replace hS := hS.setBlk hN hC1447; clear hN hz
          refine n_nil (then_normal (wp_seq (c_ord [] 4 (by kernel_rfl) ?_)))
          obtain ⟨w1448, hw1448⟩ : ∃ x, x = w1446.drew := ⟨_, rfl⟩; rw [← hw1448]; have hE1449 : Ext w1446 w1448 := by rw [hw1448]; exact Ext.drew' _
          clear hw1448
          replace hS := hS.ext hE1449
          have hS1450 := hS
          have hW := Nat.le_refl w1448.heap.size
          refine k_takeT 0 H rfl (q_fieldAddr0 rfl fo60_2) rfl (by kernel_rfl) (by kernel_rfl) (by kernel_rfl) (by kernel_rfl) (fun _ _ _ h => h) ?_; clear H a; intro a H
          refine k_takeT 1 H rfl (q_sliceArr Tryz.underlying58 sz5 rfl (by decide)) rfl (by kernel_rfl) (by kernel_rfl) (by kernel_rfl) (by kernel_rfl) (fun _ _ _ h => h) ?_; clear H a; intro a H
          refine k_takeT 2 H rfl (q_fieldAddr0 rfl fo69_1) rfl (by kernel_rfl) (by kernel_rfl) (by kernel_rfl) (by kernel_rfl) (fun _ _ _ h => h) ?_; clear H a; intro a H
          refine k_take 3 H rfl (q_load rfl (LdC.old ((hS1450.blk 1 rfl).ld ag9 rfl) Ext.rfl' (Nat.le_refl _) (by simp))) rfl (by kernel_rfl) (by kernel_rfl) (by kernel_rfl) (by kernel_rfl) (fun _ _ _ h => h) ?_; clear H a; intro a H
          refine k_copyStr 4 H rfl Tryz.underlying28 sz5 rfl rfl (hS.blk 0 rfl) (by simp) rfl (by kernel_rfl) (.inr (by kernel_rfl)) ?_
          clear H; intro w1451 hN hC1452 hz; clear a; intro a H; replace hN := (congrArg (fun z => Blk w1451 b1443 z 60) (cpy_cells (A := [Value.int .i64 x1437.Rights, Value.bool false]) (v := (Vector.replicate 64 0)) (s := x1437.Init))).mp hN; replace hS := hS.setBlk hN hC1452; clear hN hz; replace hW := Nat.le_trans hW hC1452.size
          refine k_done (by kernel_rfl) ?_
          refine then_normal (wp_region_lit (n_q H (q_fieldAddr0 rfl fo39_9) rfl (W_q (q_load rfl ((hS.blk 3 rfl).ld ag37 rfl)) rfl (W_q (q_load rfl ((hS.blk 0 rfl).ldAll ag60 (sz60.trans (by simp)))) rfl ?_)))); clear H a; intro a H
          refine n_buildSlice H Tryz.underlying37 sz60 ze60 rfl rfl rfl (cs := [(⟨x1437.Rights, false, (cpyV (Vector.replicate 64 0) x1437.Init)⟩ : GPage)].flatMap eGPage) ((fill_one (k := 66) (ds := eGPage (⟨x1437.Rights, false, (cpyV (Vector.replicate 64 0) x1437.Init)⟩ : GPage)) (by rfl) (by simp [eGPage]) (by rfl)).trans (by simp)) rfl ?_
          clear H; intro b1455 w1453 hN hE1454 hs; clear a; intro a H
          replace hS := hS.newBlk hN hE1454 hs; clear hN hs
          replace hS := hS.blkOwnL (e := eGPage) (k := 66) [(⟨x1437.Rights, false, (cpyV (Vector.replicate 64 0) x1437.Init)⟩ : GPage)] rfl (by simp [eGPage]) (by simp [maxLen])
          replace hS := hS.pk10
          replace hm := chkS hm; obtain ⟨hk1457, hm⟩ := hm
          refine n_app (e := eGPage) H rfl rfl Tryz.underlying37 Tryz.underlying37 (by simp) el60 (hS.own 0 rfl) (((hS.own 1 rfl).slr rfl (fun x _ => eGPage_len x)).src (fun x _ => eGPage_len x)) eGPage_one hk1457 (by simp only [maxLen]; omega) rfl ?_
          clear H; intro v1460 w1458 hN hC1459 hb; clear a; intro a H; replace hS := hS.setOwn hN hC1459 hb; clear hN hb
          refine n_q H (q_fieldAddr0 rfl fo39_9) rfl ?_; clear H a; intro a H
          replace hS := hS.pk5
          refine n_store1 H rfl rfl sz37 (hS.blk 0 rfl) (by simp) (((hS.own 1 rfl).slr rfl (fun x _ => eGPage_len x))).one ?_
          clear H; intro w1462 hN hC1463 hz; clear a; intro a H; replace hS := hS.setBlk hN hC1463; clear hN hz
          try simp only [List.set_cons_succ, List.set_cons_zero] at hS
          refine n_nil (block_normal (then_normal (wp_region_lit (n_q H (q_incr (i := i1429) (j := 1) rfl rfl (by omega)) rfl (W_q (q_move rfl) rfl ?_))))); clear H a; intro a H
          refine n_nil (then_normal ?_)
          obtain rfl := Option.some.inj hm
          replace hS := hS.pk1
          replace hS := hS.pk10
          replace hS := hS.pk10
          replace hS := hS.pk10
          replace hS := hS.pk10
          replace hS := hS.pk10
          replace hS := hS.pk6
          replace hS := hS.pk10
          replace hS := hS.tk8
          exact round (m1428, i1429 + 1, (l1430 ++ [(⟨x1437.Rights, false, (cpyV (Vector.replicate 64 0) x1437.Init)⟩ : GPage)]), v1460) H ⟨rfl, rfl, rfl, rfl, rfl, trivial⟩ ⟨hn1428, hS⟩ (Nat.lt_succ_self _)
        · replace hm := condF hm hc1435
          refine wp_exit (then_exit (then_exit (block_exit ?_)))
          obtain rfl := Option.some.inj hm; have hz : _ = q1428 := hn1428; subst hz; replace hm := hm1428; try dsimp only at hm
          refine then_normal (wp_seq (wp_region_lit (n_q H (q_load rfl ((hS.blk 1 rfl).ldAll ag39 sz39)) rfl ?_))); clear H a; intro a H
          refine n_storeAll H rfl rfl (vs := [.int .i64 a0.Id, .int .i64 0, .int .i64 0, v875, v878, .slice none 0 0, v549, v552, v555, v1431]) rfl sz39 (hS.blk 0 rfl) rfl (by simp [(((hS.own 2 rfl).slr rfl (fun x _ => eGProc_len x))).one, (((hS.own 3 rfl).slr rfl (fun _ _ => rfl))).one, (((hS.own 4 rfl).slr rfl (fun _ _ => rfl))).one, (((hS.own 5 rfl).slr rfl (fun _ _ => rfl))).one, ((hS.deepSl 6 rfl)).one, (((hS.own 7 rfl).slr rfl (fun x _ => eGPage_len x))).one]) ?_
          clear H; intro w1464 hN hC1465 hz; clear a; intro a H; replace hS := hS.setBlk hN hC1465; clear hN hz
          refine n_q H (q_assign rfl) rfl ?_; clear H a; intro a H
          refine n_nil (then_normal (wp_ret ?_))
          obtain rfl := Option.some.inj hm
          replace hS := hS.nilOwn 99 2
          replace hS := hS.dNil (A := A)
          replace hS := hS.pk2
          replace hS := hS.pk1
          replace hS := hS.pk9
          replace hS := hS.pk9
          replace hS := hS.pk9
          replace hS := hS.pk9
          replace hS := hS.pk6
          replace hS := hS.pk9
          replace hS := hS.pk9
          replace hS := hS.tk9
          refine retL H (.inr rfl) rfl (vs := [.agg #[.int .i64 a0.Id, .int .i64 0, .int .i64 0, v875, v878, .slice none 0 0, v549, v552, v555, v1431], .nilIface]) (resCell rfl ((hS.blk 8 rfl).ldAll ag39 sz39) (resTmp rfl resNil)) ?_
          replace hS := hS.tk8
          exact ⟨_, _, _, _, _, _, _, _, rfl, hS⟩
end Go.Proofs.YtpnmaabhjgiggaaGreatDoor
