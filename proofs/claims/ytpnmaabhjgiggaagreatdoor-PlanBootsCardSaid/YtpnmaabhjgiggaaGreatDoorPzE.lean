/- Pz (written by wip/tools) -/
import Derived.Test.YtpnmaabhjgiggaaGreatDoorPzC
set_option linter.unusedVariables false
set_option linter.unusedSimpArgs false
set_option maxRecDepth 10000
namespace Go.Proofs.YtpnmaabhjgiggaaGreatDoor
open Go Go.RowKit
theorem bd76 : bdB Tryz.prog 76 = true := by kernel_rfl
theorem pl76 : placesB Tryz.prog 76 = some #[(0, 1), (1, 1)] := by kernel_rfl
theorem en21 : entersB Tryz.prog 21 = true := by kernel_rfl
theorem en45 : entersB Tryz.prog 45 = true := by kernel_rfl
theorem en7 : entersB Tryz.prog 7 = true := by kernel_rfl
theorem en70 : entersB Tryz.prog 70 = true := by kernel_rfl
theorem en80 : entersB Tryz.prog 80 = true := by kernel_rfl
theorem en81 : entersB Tryz.prog 81 = true := by kernel_rfl
theorem en82 : entersB Tryz.prog 82 = true := by kernel_rfl
theorem en83 : entersB Tryz.prog 83 = true := by kernel_rfl
theorem en84 : entersB Tryz.prog 84 = true := by kernel_rfl
theorem en85 : entersB Tryz.prog 85 = true := by kernel_rfl
theorem en86 : entersB Tryz.prog 86 = true := by kernel_rfl
theorem en90 : entersB Tryz.prog 90 = true := by kernel_rfl
theorem en91 : entersB Tryz.prog 91 = true := by kernel_rfl
theorem en92 : entersB Tryz.prog 92 = true := by kernel_rfl
theorem en93 : entersB Tryz.prog 93 = true := by kernel_rfl
theorem en94 : entersB Tryz.prog 94 = true := by kernel_rfl
theorem en95 : entersB Tryz.prog 95 = true := by kernel_rfl
theorem en96 : entersB Tryz.prog 96 = true := by kernel_rfl
theorem en99 : entersB Tryz.prog 99 = true := by kernel_rfl
theorem fo60_0 : fOff Tryz.prog 60 0 = some 0 := by kernel_rfl
theorem sz35 : sizeB Tryz.prog 35 = some 1 := by kernel_rfl
theorem sz36 : sizeB Tryz.prog 36 = some 1 := by kernel_rfl
theorem ze4 : zeroB Tryz.prog 4 = some [.bool false] := by kernel_rfl
theorem ze76 : zeroB Tryz.prog 76 = some [.slice none 0 0, .int .i64 0] := by kernel_rfl

theorem g_r11_rule9_w {w : World} {A : Nat → Addr} {cs0 : List Value} {a0 : GState} (h0 : RGState w cs0 a0) {r : Bool} (hm : g_r11_rule9 a0 = some r) :
    Calls Tryz.prog 85 [.agg cs0.toArray].toArray w (Ret fun u w' => u = .bool r ∧ Ext w w') := by
  obtain ⟨vp0_0, vp0_1, vp0_2, vp0_3, vp0_4, vp0_5, vp0_6, rfl, hrp0_0, hrp0_1, hrp0_2, hrp0_3, hrp0_4, hrp0_5, hrp0_6⟩ := h0
  have hS := St.begin NB w
  unfold g_r11_rule9 at hm
  refine enter Tryz.func85 rfl rfl rfl ?_; intro a H; dsimp only [enumL, Nat.zero_add, Nat.reduceAdd] at H
  refine wp_seq (wp_region_lit (n_box H rfl (cs := [.int .i64 a0.Id, .int .i64 a0.Frame, .int .i64 a0.Epoch, vp0_0, vp0_1, vp0_2, vp0_3, vp0_4, vp0_5, vp0_6]) rfl rfl ?_))
  clear H; intro b21 w22 hN hE23 hs; clear a; intro a H
  replace hS := hS.newBlk hN hE23 hs; clear hN hs
  refine n_q H (q_assign rfl) rfl ?_; clear H a; intro a H
  refine n_nil (then_normal (wp_seq (wp_seq (wp_region_lit (n_q H (q_assign rfl) rfl ?_))))); clear H a; intro a H
  refine n_nil (then_normal (wp_block ?_))
  replace hm := bindS hm; obtain ⟨q24, hm, hm24⟩ := hm; replace hm := iter_some hm; obtain ⟨n24, hm⟩ := hm
  refine c_loop (σ := Nat × Nat) (fun (m, i25) => [(1, .pointer (some ⟨b21, 0, none⟩)), (3, .int .i64 ((i25 : Nat) : Int))]) (fun (m, i25) wl => iterN (g_r11_rule9_L47 a0) m i25 = some q24 ∧ St NB w wl [blkR b21 [.int .i64 a0.Id, .int .i64 a0.Frame, .int .i64 a0.Epoch, vp0_0, vp0_1, vp0_2, vp0_3, vp0_4, vp0_5, vp0_6] 39]) (fun (m, i25) => m) (n24, 0) H ⟨rfl, rfl, trivial⟩ ⟨hm, hS⟩ ?_
  clear H hS hm a; intro xx a w26 H hR; obtain ⟨m, i25⟩ := xx; simp only [ent, List.map_cons, List.map_nil] at H; (try dsimp only at hR); obtain ⟨hm, hS⟩ := hR
  replace hm := iterN_step hm; obtain ⟨m24, o24, rfl, hm, hn24⟩ := hm; try dsimp only [g_r11_rule9_L47] at hm
  refine wp_seq (wp_seq (wp_region_lit (n_q H (q_move rfl) rfl (W_q (q_fieldAddr0 rfl fo39_5) rfl (W_q (q_load rfl ((hS.blk 0 rfl).ld ag34 rfl)) rfl ?_))))); clear H a; intro a H
  obtain ⟨A27, c27, hv27, hl27, hm27⟩ := SlR.formV (hrp0_2.ext (Flat.mono _) hS.x)
  refine n_q H (q_lenV Tryz.underlying34 rfl hv27) rfl (W_q (q_lssN (i := i25) (j := a0.Timers.length) rfl rfl) rfl ?_); clear H a; intro a H
  refine n_nil (then_normal (c_cond H rfl (fun hc28 => ?_) (fun hc28 => ?_)))
  · replace hm := condT hm hc28
    have hlt29 : i25 < a0.Timers.length := of_decide_eq_true hc28
    refine wp_skip (then_normal (wp_seq (wp_block (wp_seq (wp_region_lit (n_q H (q_fieldAddr0 rfl fo39_5) rfl (W_q (q_load rfl ((hS.blk 0 rfl).ld ag34 rfl)) rfl (W_q (q_move rfl) rfl ?_)))))))); clear H a; intro a H
    replace hm := bindS hm; obtain ⟨x30, hx30, hm⟩ := hm
    obtain ⟨adx30, hAx30⟩ := SlR.adV (hrp0_2.ext (Flat.mono _) hS.x) hv27 hx30
    refine n_q H (q_ixV (i := i25) Tryz.underlying34 sz99 rfl hv27 hAx30 rfl (natI hx30)) rfl (W_q (q_fieldAddr rfl fo99_0) rfl (W_q (q_load rfl (SlR.ldCellV (j := 0) (hrp0_2.ext (Flat.mono _) hS.x) hv27 hAx30 ag3 hx30 rfl)) rfl (W_q (q_assign rfl) rfl ?_))); clear H a; intro a H
    refine n_nil (then_normal ?_)
    replace hm := bindS hm; obtain ⟨j31, hm, hm31⟩ := hm
    refine c_join (σ := Bool) H (fun q532 => [(1, .pointer (some ⟨b21, 0, none⟩)), (3, .int .i64 ((i25 : Nat) : Int)), (38, .bool q532)]) (fun q532 wl => (g_r11_rule9_J6 i25) q532 = some o24 ∧ St NB w wl [blkR b21 [.int .i64 a0.Id, .int .i64 a0.Frame, .int .i64 a0.Epoch, vp0_0, vp0_1, vp0_2, vp0_3, vp0_4, vp0_5, vp0_6] 39]) ?_ ?_
    · skip
      refine wp_region_lit (n_q H (q_move rfl) rfl (W_q (q_geq rfl rfl) rfl (W_q (q_move rfl) rfl ?_))); clear H a; intro a H
      rcases Bool.eq_false_or_eq_true (decide (0 ≤ x30.Proc)) with hg533 | hg533
      · replace H := H.know 23 rfl hg533
        replace hm := condT hm hg533
        refine n_yes H rfl rfl (n_q H (q_move rfl) rfl (W_yes rfl rfl (W_q (q_fieldAddr0 rfl fo39_3) rfl (W_yes rfl rfl (W_q (q_load rfl ((hS.blk 0 rfl).ld ag33 rfl)) rfl (W_yes rfl rfl ?_)))))); clear H a; intro a H
        obtain ⟨A534, c534, hv534, hl534, hm534⟩ := SlR.formV (hrp0_0.ext (Flat.mono _) hS.x)
        refine n_q H (q_lenV Tryz.underlying33 rfl hv534) rfl (W_yes rfl rfl (W_q (q_lss rfl rfl) rfl (W_q (q_pickT rfl rfl) rfl (W_q (q_move rfl) rfl ?_)))); clear H a; intro a H
        rcases Bool.eq_false_or_eq_true (decide (x30.Proc < ((a0.Procs.length : Nat) : Int))) with hg535 | hg535
        · replace H := H.know 30 rfl hg535
          replace hm := condT hm hg535
          refine n_yes H rfl rfl (n_q H (q_fieldAddr0 rfl fo39_3) rfl (W_yes rfl rfl (W_q (q_load rfl ((hS.blk 0 rfl).ld ag33 rfl)) rfl (W_yes rfl rfl (W_q (q_move rfl) rfl (W_yes rfl rfl ?_)))))); clear H a; intro a H
          replace hm := bindS hm; obtain ⟨x536, hx536, hm⟩ := hm
          obtain ⟨h0x536, h1x536, hxx536⟩ := rdI_some hx536
          obtain ⟨adx536, hAx536⟩ := SlR.adV (hrp0_0.ext (Flat.mono _) hS.x) hv534 hxx536
          refine n_q H (q_ixVI Tryz.underlying33 sz67 rfl hv534 hAx536 rfl h0x536 h1x536) rfl (W_yes rfl rfl (W_q (q_fieldAddr rfl fo67_2) rfl (W_yes rfl rfl (W_q (q_load rfl (SlR.ldCellV (j := 17) (u := Value.int .i64 x536.State) (hrp0_0.ext (Flat.mono _) hS.x) hv534 hAx536 ag3 hxx536 (by simp [eGProc]))) rfl (W_yes rfl rfl (W_q (q_neqD rfl rfl) rfl (W_q (q_pickT rfl rfl) rfl ?_))))))); clear H a; intro a H
          refine n_nil (then_normal ?_)
          obtain rfl := Option.some.inj hm; replace hm := hm31; try dsimp only at hm
          exact join (!decide (x536.State = 2)) H ⟨rfl, rfl, rfl, trivial⟩ ⟨hm, hS⟩
        · replace H := H.know 30 rfl hg535
          replace hm := condF hm hg535
          refine n_no H rfl rfl (by decide) rfl (W_no rfl rfl (by decide) rfl (W_no rfl rfl (by decide) rfl (W_no rfl rfl (by decide) rfl (W_no rfl rfl (by decide) rfl (W_no rfl rfl (by decide) rfl (W_no rfl rfl (by decide) rfl (W_q (q_pickF rfl rfl) rfl ?_))))))); clear H a; intro a H
          refine n_nil (then_normal ?_)
          obtain rfl := Option.some.inj hm; replace hm := hm31; try dsimp only at hm
          exact join false H ⟨rfl, rfl, rfl, trivial⟩ ⟨hm, hS⟩
      · replace H := H.know 23 rfl hg533
        replace hm := condF hm hg533
        refine n_no H rfl rfl (by decide) rfl (W_no rfl rfl (by decide) rfl (W_no rfl rfl (by decide) rfl (W_no rfl rfl (by decide) rfl (W_no rfl rfl (by decide) rfl (W_q (q_pickF rfl rfl) rfl (W_q (q_move rfl) rfl (W_no rfl rfl (by decide) rfl (W_no rfl rfl (by decide) rfl (W_no rfl rfl (by decide) rfl (W_no rfl rfl (by decide) rfl (W_no rfl rfl (by decide) rfl ?_))))))))))); clear H a; intro a H
        refine n_no H rfl rfl (by decide) rfl (W_no rfl rfl (by decide) rfl (W_q (q_pickF rfl rfl) rfl ?_)); clear H a; intro a H
        refine n_nil (then_normal ?_)
        obtain rfl := Option.some.inj hm; replace hm := hm31; try dsimp only at hm
        exact join false H ⟨rfl, rfl, rfl, trivial⟩ ⟨hm, hS⟩
    · clear H hS hm a; intro q532 a w537 H hR
      simp only [ent, List.map_cons, List.map_nil] at H; (try dsimp only at hR); obtain ⟨hm, hS⟩ := hR; try dsimp only [g_r11_rule9_J6] at hm
      refine c_cond H rfl (fun hc538 => ?_) (fun hc538 => ?_)
      · replace hm := condT hm hc538
        refine wp_seq (wp_region_lit (n_q H (q_assign rfl) rfl ?_)); clear H a; intro a H
        refine n_nil (then_normal (wp_ret (block_ret (then_ret (then_ret (block_ret (then_ret ?_)))))))
        obtain rfl := Option.some.inj hm; have hz : _ = q24 := hn24; subst hz; replace hm := hm24; try dsimp only at hm
        obtain rfl := Option.some.inj hm
        replace hS := hS.tk0
        refine ret1 H (.inr rfl) rfl rfl ?_
        exact ⟨rfl, hS.x⟩
      · replace hm := condF hm hc538
        refine wp_skip (block_normal (then_normal (wp_region_lit (n_q H (q_move rfl) rfl (W_q (q_incr (i := i25) (j := 1) rfl rfl (by omega)) rfl (W_q (q_assign rfl) rfl ?_)))))); clear H a; intro a H
        refine n_nil (then_normal ?_)
        obtain rfl := Option.some.inj hm
        exact round (m24, i25 + 1) H ⟨rfl, rfl, trivial⟩ ⟨hn24, hS⟩ (Nat.lt_succ_self _)
  · replace hm := condF hm hc28
    refine wp_exit (then_exit (then_exit (block_exit ?_)))
    obtain rfl := Option.some.inj hm; have hz : _ = q24 := hn24; subst hz; replace hm := hm24; try dsimp only at hm
    refine then_normal (wp_seq (wp_seq (wp_region_lit (n_q H (q_assign rfl) rfl ?_)))); clear H a; intro a H
    refine n_nil (then_normal (wp_block ?_))
    replace hm := bindS hm; obtain ⟨q539, hm, hm539⟩ := hm; replace hm := iter_some hm; obtain ⟨n539, hm⟩ := hm
    refine c_loop (σ := Nat × Nat) (fun (m, i540) => [(1, .pointer (some ⟨b21, 0, none⟩)), (5, .int .i64 ((i540 : Nat) : Int))]) (fun (m, i540) wl => iterN (g_r11_rule9_L46 a0) m i540 = some q539 ∧ St NB w wl [blkR b21 [.int .i64 a0.Id, .int .i64 a0.Frame, .int .i64 a0.Epoch, vp0_0, vp0_1, vp0_2, vp0_3, vp0_4, vp0_5, vp0_6] 39]) (fun (m, i540) => m) (n539, 0) H ⟨rfl, rfl, trivial⟩ ⟨hm, hS⟩ ?_
    clear H hS hm a; intro xx a w541 H hR; obtain ⟨m, i540⟩ := xx; simp only [ent, List.map_cons, List.map_nil] at H; (try dsimp only at hR); obtain ⟨hm, hS⟩ := hR
    replace hm := iterN_step hm; obtain ⟨m539, o539, rfl, hm, hn539⟩ := hm; try dsimp only [g_r11_rule9_L46] at hm
    refine wp_seq (wp_seq (wp_region_lit (n_q H (q_move rfl) rfl (W_q (q_fieldAddr0 rfl fo39_3) rfl (W_q (q_load rfl ((hS.blk 0 rfl).ld ag33 rfl)) rfl ?_))))); clear H a; intro a H
    obtain ⟨A542, c542, hv542, hl542, hm542⟩ := SlR.formV (hrp0_0.ext (Flat.mono _) hS.x)
    refine n_q H (q_lenV Tryz.underlying33 rfl hv542) rfl (W_q (q_lssN (i := i540) (j := a0.Procs.length) rfl rfl) rfl ?_); clear H a; intro a H
    refine n_nil (then_normal (c_cond H rfl (fun hc543 => ?_) (fun hc543 => ?_)))
    · replace hm := condT hm hc543
      have hlt544 : i540 < a0.Procs.length := of_decide_eq_true hc543
      refine wp_skip (then_normal ?_)
      replace hm := bindS hm; obtain ⟨j545, hm, hm545⟩ := hm
      refine c_join (σ := Unit) H (fun u_ => [(1, .pointer (some ⟨b21, 0, none⟩)), (5, .int .i64 ((i540 : Nat) : Int))]) (fun u_ wl => (g_r11_rule9_J45 i540) () = some o539 ∧ St NB w wl [blkR b21 [.int .i64 a0.Id, .int .i64 a0.Frame, .int .i64 a0.Epoch, vp0_0, vp0_1, vp0_2, vp0_3, vp0_4, vp0_5, vp0_6] 39]) ?_ ?_
      · skip
        refine wp_block (wp_seq (wp_seq (wp_region_lit (n_q H (q_fieldAddr0 rfl fo39_3) rfl (W_q (q_load rfl ((hS.blk 0 rfl).ld ag33 rfl)) rfl (W_q (q_move rfl) rfl ?_)))))); clear H a; intro a H
        replace hm := bindS hm; obtain ⟨x1046, hx1046, hm⟩ := hm
        obtain ⟨adx1046, hAx1046⟩ := SlR.adV (hrp0_0.ext (Flat.mono _) hS.x) hv542 hx1046
        refine n_q H (q_ixV (i := i540) Tryz.underlying33 sz67 rfl hv542 hAx1046 rfl (natI hx1046)) rfl (W_q (q_fieldAddr rfl fo67_4) rfl (W_q (q_load rfl (SlR.ldCellV (j := 19) (u := Value.int .i64 x1046.Wait) (hrp0_0.ext (Flat.mono _) hS.x) hv542 hAx1046 ag3 hx1046 (by simp [eGProc]))) rfl (W_q (q_neqD rfl rfl) rfl ?_))); clear H a; intro a H
        refine n_nil (then_normal (c_cond H rfl (fun hc1047 => ?_) (fun hc1047 => ?_)))
        · replace hm := condT hm hc1047
          refine wp_exit (then_exit (block_exit (then_normal ?_)))
          obtain rfl := Option.some.inj hm; replace hm := hm545; try dsimp only at hm
          exact join () H ⟨rfl, rfl, trivial⟩ ⟨hm, hS⟩
        · replace hm := condF hm hc1047
          refine wp_skip (then_normal (wp_seq (wp_region_lit (n_q H (q_assign rfl) rfl ?_)))); clear H a; intro a H
          refine n_nil (then_normal (wp_seq (wp_seq (wp_region_lit (n_q H (q_assign rfl) rfl ?_))))); clear H a; intro a H
          refine n_nil (then_normal (wp_block ?_))
          replace hm := bindS hm; obtain ⟨q1048, hm, hm1048⟩ := hm; replace hm := iter_some hm; obtain ⟨n1048, hm⟩ := hm
          refine c_loop (σ := Nat × Bool × Nat) (fun (m, q1049, i1050) => [(1, .pointer (some ⟨b21, 0, none⟩)), (5, .int .i64 ((i540 : Nat) : Int)), (6, .bool q1049), (7, .int .i64 ((i1050 : Nat) : Int))]) (fun (m, q1049, i1050) wl => iterN (g_r11_rule9_L44 a0 i540) m (q1049, i1050) = some q1048 ∧ St NB w wl [blkR b21 [.int .i64 a0.Id, .int .i64 a0.Frame, .int .i64 a0.Epoch, vp0_0, vp0_1, vp0_2, vp0_3, vp0_4, vp0_5, vp0_6] 39]) (fun (m, q1049, i1050) => m) (n1048, false, 0) H ⟨rfl, rfl, rfl, rfl, trivial⟩ ⟨hm, hS⟩ ?_
          clear H hS hm a; intro xx a w1051 H hR; obtain ⟨m, q1049, i1050⟩ := xx; simp only [ent, List.map_cons, List.map_nil] at H; (try dsimp only at hR); obtain ⟨hm, hS⟩ := hR
          replace hm := iterN_step hm; obtain ⟨m1048, o1048, rfl, hm, hn1048⟩ := hm; try dsimp only [g_r11_rule9_L44] at hm
          refine wp_seq (wp_seq (wp_region_lit (n_q H (q_move rfl) rfl (W_q (q_fieldAddr0 rfl fo39_5) rfl (W_q (q_load rfl ((hS.blk 0 rfl).ld ag34 rfl)) rfl (W_q (q_lenV Tryz.underlying34 rfl hv27) rfl (W_q (q_lssN (i := i1050) (j := a0.Timers.length) rfl rfl) rfl ?_))))))); clear H a; intro a H
          refine n_nil (then_normal (c_cond H rfl (fun hc1052 => ?_) (fun hc1052 => ?_)))
          · replace hm := condT hm hc1052
            have hlt1053 : i1050 < a0.Timers.length := of_decide_eq_true hc1052
            refine wp_skip (then_normal ?_)
            replace hm := bindS hm; obtain ⟨j1054, hm, hm1054⟩ := hm
            refine c_join (σ := Bool) H (fun q1555 => [(1, .pointer (some ⟨b21, 0, none⟩)), (5, .int .i64 ((i540 : Nat) : Int)), (6, .bool q1555), (7, .int .i64 ((i1050 : Nat) : Int))]) (fun q1555 wl => (g_r11_rule9_J43 i1050) q1555 = some o1048 ∧ St NB w wl [blkR b21 [.int .i64 a0.Id, .int .i64 a0.Frame, .int .i64 a0.Epoch, vp0_0, vp0_1, vp0_2, vp0_3, vp0_4, vp0_5, vp0_6] 39]) ?_ ?_
            · skip
              refine wp_block (wp_seq (wp_region_lit (n_q H (q_fieldAddr0 rfl fo39_5) rfl (W_q (q_load rfl ((hS.blk 0 rfl).ld ag34 rfl)) rfl (W_q (q_move rfl) rfl ?_))))); clear H a; intro a H
              replace hm := bindS hm; obtain ⟨x1556, hx1556, hm⟩ := hm
              obtain ⟨adx1556, hAx1556⟩ := SlR.adV (hrp0_2.ext (Flat.mono _) hS.x) hv27 hx1556
              refine n_q H (q_ixV (i := i1050) Tryz.underlying34 sz99 rfl hv27 hAx1556 rfl (natI hx1556)) rfl (W_q (q_fieldAddr rfl fo99_0) rfl (W_q (q_load rfl (SlR.ldCellV (j := 0) (hrp0_2.ext (Flat.mono _) hS.x) hv27 hAx1556 ag3 hx1556 rfl)) rfl (W_q (q_move rfl) rfl (W_q (q_eqlD rfl rfl) rfl ?_)))); clear H a; intro a H
              refine n_nil (then_normal (c_cond H rfl (fun hc1557 => ?_) (fun hc1557 => ?_)))
              · replace hm := condT hm hc1557
                refine wp_region_lit (n_q H (q_assign rfl) rfl ?_); clear H a; intro a H
                refine n_nil (block_normal (then_normal ?_))
                obtain rfl := Option.some.inj hm; replace hm := hm1054; try dsimp only at hm
                exact join true H ⟨rfl, rfl, rfl, rfl, trivial⟩ ⟨hm, hS⟩
              · replace hm := condF hm hc1557
                refine wp_skip (block_normal (then_normal ?_))
                obtain rfl := Option.some.inj hm; replace hm := hm1054; try dsimp only at hm
                exact join q1049 H ⟨rfl, rfl, rfl, rfl, trivial⟩ ⟨hm, hS⟩
            · clear H hS hm a; intro q1555 a w1558 H hR
              simp only [ent, List.map_cons, List.map_nil] at H; (try dsimp only at hR); obtain ⟨hm, hS⟩ := hR; try dsimp only [g_r11_rule9_J43] at hm
              refine wp_region_lit (n_q H (q_move rfl) rfl (W_q (q_incr (i := i1050) (j := 1) rfl rfl (by omega)) rfl (W_q (q_assign rfl) rfl ?_))); clear H a; intro a H
              refine n_nil (then_normal ?_)
              obtain rfl := Option.some.inj hm
              exact round (m1048, q1555, i1050 + 1) H ⟨rfl, rfl, rfl, rfl, trivial⟩ ⟨hn1048, hS⟩ (Nat.lt_succ_self _)
          · replace hm := condF hm hc1052
            refine wp_exit (then_exit (then_exit (block_exit ?_)))
            obtain rfl := Option.some.inj hm; have hz : _ = q1048 := hn1048; subst hz; replace hm := hm1048; try dsimp only at hm
            refine then_normal (wp_seq (wp_region_lit (n_q H (q_move rfl) rfl (W_q (q_not rfl) rfl ?_)))); clear H a; intro a H
            refine n_nil (then_normal (c_cond H rfl (fun hc1559 => ?_) (fun hc1559 => ?_)))
            · replace hm := condT hm hc1559
              refine wp_seq (wp_region_lit (n_q H (q_assign rfl) rfl ?_)); clear H a; intro a H
              refine n_nil (then_normal (wp_ret (block_ret (then_ret (then_ret (block_ret (then_ret ?_)))))))
              obtain rfl := Option.some.inj hm; replace hm := hm545; try dsimp only at hm
              obtain rfl := Option.some.inj hm; have hz : _ = q539 := hn539; subst hz; replace hm := hm539; try dsimp only at hm
              obtain rfl := Option.some.inj hm
              replace hS := hS.tk0
              refine ret1 H (.inr rfl) rfl rfl ?_
              exact ⟨rfl, hS.x⟩
            · replace hm := condF hm hc1559
              refine wp_skip (block_normal (then_normal ?_))
              obtain rfl := Option.some.inj hm; replace hm := hm545; try dsimp only at hm
              exact join () H ⟨rfl, rfl, trivial⟩ ⟨hm, hS⟩
      · clear H hS hm a; intro u_ a w1560 H hR
        simp only [ent, List.map_cons, List.map_nil] at H; (try dsimp only at hR); obtain ⟨hm, hS⟩ := hR; try dsimp only [g_r11_rule9_J45] at hm
        refine wp_region_lit (n_q H (q_move rfl) rfl (W_q (q_incr (i := i540) (j := 1) rfl rfl (by omega)) rfl (W_q (q_assign rfl) rfl ?_))); clear H a; intro a H
        refine n_nil (then_normal ?_)
        obtain rfl := Option.some.inj hm
        exact round (m539, i540 + 1) H ⟨rfl, rfl, trivial⟩ ⟨hn539, hS⟩ (Nat.lt_succ_self _)
    · replace hm := condF hm hc543
      refine wp_exit (then_exit (then_exit (block_exit ?_)))
      obtain rfl := Option.some.inj hm; have hz : _ = q539 := hn539; subst hz; replace hm := hm539; try dsimp only at hm
      refine then_normal (wp_seq (wp_region_lit (n_q H (q_assign rfl) rfl ?_))); clear H a; intro a H
      refine n_nil (then_normal (wp_ret ?_))
      obtain rfl := Option.some.inj hm
      replace hS := hS.tk0
      refine ret1 H (.inr rfl) rfl rfl ?_
      exact ⟨rfl, hS.x⟩
theorem g_r11_both_w {w : World} {A : Nat → Addr} {a0 : Int} {a1 : Int} {r : Int} (hm : g_r11_both a0 a1 = some r) :
    Calls Tryz.prog 99 [.int .i64 a0, .int .i64 a1].toArray w (Ret fun u w' => u = .int .i64 r ∧ Ext w w') := by
  have hS := St.begin NB w
  unfold g_r11_both at hm
  refine enter Tryz.func99 rfl rfl rfl ?_; intro a H; dsimp only [enumL, Nat.zero_add, Nat.reduceAdd] at H
  refine wp_seq (wp_region_lit (n_q H (q_assign rfl) rfl ?_)); clear H a; intro a H
  refine n_nil (then_normal (wp_seq (wp_seq (wp_region_lit (n_q H (q_move rfl) rfl (W_q (q_move rfl) rfl (W_q (q_lss rfl rfl) rfl ?_))))))); clear H a; intro a H
  refine n_nil (then_normal (c_cond H rfl (fun hc21 => ?_) (fun hc21 => ?_)))
  · replace hm := condT hm hc21
    refine wp_seq (wp_region_lit (n_q H (q_move rfl) rfl (W_q (q_assign rfl) rfl ?_))); clear H a; intro a H
    refine n_nil (then_normal (wp_ret (then_ret ?_)))
    obtain rfl := Option.some.inj hm
    refine ret1 H (.inr rfl) rfl rfl ?_
    exact ⟨rfl, hS.x⟩
  · replace hm := condF hm hc21
    refine wp_skip (then_normal (wp_seq (wp_region_lit (n_q H (q_move rfl) rfl (W_q (q_assign rfl) rfl ?_))))); clear H a; intro a H
    refine n_nil (then_normal (wp_ret ?_))
    obtain rfl := Option.some.inj hm
    refine ret1 H (.inr rfl) rfl rfl ?_
    exact ⟨rfl, hS.x⟩
theorem g_r11_rule11_w {w : World} {A : Nat → Addr} {cs0 : List Value} {a0 : GPlan} {cs1 : List Value} {a1 : GState} (h0 : RGPlan w cs0 a0) (h1 : RGState w cs1 a1) {r : Bool} (hm : g_r11_rule11 a0 a1 = some r) :
    Calls Tryz.prog 90 [.agg cs0.toArray, .agg cs1.toArray].toArray w (Ret fun u w' => u = .bool r ∧ Ext w w') := by
  obtain ⟨vp0_0, vp0_1, vp0_2, vp0_3, rfl, hrp0_0, hrp0_1, hrp0_2, hrp0_3⟩ := h0
  obtain ⟨vp1_0, vp1_1, vp1_2, vp1_3, vp1_4, vp1_5, vp1_6, rfl, hrp1_0, hrp1_1, hrp1_2, hrp1_3, hrp1_4, hrp1_5, hrp1_6⟩ := h1
  have hS := St.begin NB w
  unfold g_r11_rule11 at hm
  refine enter Tryz.func90 rfl rfl rfl ?_; intro a H; dsimp only [enumL, Nat.zero_add, Nat.reduceAdd] at H
  refine wp_seq (wp_region_lit (n_box H rfl (cs := [.int .i64 a0.Id, .bool a0.Mobile, vp0_0, vp0_1, vp0_2, .int .i64 a0.Events, vp0_3]) rfl rfl ?_))
  clear H; intro b21 w22 hN hE23 hs; clear a; intro a H
  replace hS := hS.newBlk hN hE23 hs; clear hN hs
  refine n_box H rfl (cs := [.int .i64 a1.Id, .int .i64 a1.Frame, .int .i64 a1.Epoch, vp1_0, vp1_1, vp1_2, vp1_3, vp1_4, vp1_5, vp1_6]) rfl rfl ?_
  clear H; intro b24 w25 hN hE26 hs; clear a; intro a H
  replace hS := hS.newBlk hN hE26 hs; clear hN hs
  refine n_q H (q_assign rfl) rfl ?_; clear H a; intro a H
  refine n_nil (then_normal (wp_seq (wp_seq (wp_region_lit (n_q H (q_assign rfl) rfl ?_))))); clear H a; intro a H
  refine n_nil (then_normal (wp_block ?_))
  replace hS := hS.pk1
  replace hm := bindS hm; obtain ⟨q27, hm, hm27⟩ := hm; replace hm := iter_some hm; obtain ⟨n27, hm⟩ := hm
  refine c_loop (σ := Nat × Int) (fun (m, z29) => [(2, .pointer (some ⟨b21, 0, none⟩)), (3, .pointer (some ⟨b24, 0, none⟩)), (5, .int .i64 z29)]) (fun (m, z29) wl => iterN (g_r11_rule11_L5 a0 a1) m z29 = some q27 ∧ St NB w wl [blkR b21 [.int .i64 a0.Id, .bool a0.Mobile, vp0_0, vp0_1, vp0_2, .int .i64 a0.Events, vp0_3] 27, blkR b24 [.int .i64 a1.Id, .int .i64 a1.Frame, .int .i64 a1.Epoch, vp1_0, vp1_1, vp1_2, vp1_3, vp1_4, vp1_5, vp1_6] 39]) (fun (m, z29) => m) (n27, 0) H ⟨rfl, rfl, rfl, trivial⟩ ⟨hm, hS⟩ ?_
  clear H hS hm a; intro xx a w30 H hR; obtain ⟨m, z29⟩ := xx; simp only [ent, List.map_cons, List.map_nil] at H; (try dsimp only at hR); obtain ⟨hm, hS⟩ := hR
  replace hm := iterN_step hm; obtain ⟨m27, o27, rfl, hm, hn27⟩ := hm; try dsimp only [g_r11_rule11_L5] at hm
  refine wp_seq (wp_seq (wp_region_lit (n_q H (q_move rfl) rfl (W_q (q_fieldAddr0 rfl fo39_8) rfl (W_q (q_load rfl ((hS.blk 1 rfl).ld ag36 rfl)) rfl ?_))))); clear H a; intro a H
  obtain ⟨A31, c31, hv31, hl31, hm31⟩ := SlR.formV (hrp1_5.ext RGPort.mono hS.x)
  refine n_q H (q_lenV Tryz.underlying36 rfl hv31) rfl (W_q (q_fieldAddr0 rfl fo27_4) rfl (W_q (q_load rfl ((hS.blk 0 rfl).ld ag24 rfl)) rfl ?_)); clear H a; intro a H
  obtain ⟨A32, c32, hv32, hl32, hm32⟩ := SlR.formV (hrp0_2.ext (Flat.mono _) hS.x)
  refine n_q H (q_lenV Tryz.underlying24 rfl hv32) rfl ?_; clear H a; intro a H
  replace hm := bindS hm; obtain ⟨r33, hr33, hm⟩ := hm
  refine n_call H rfl en99 (g_r11_both_w (A := A) hr33) rfl ?_
  clear H; intro x36 w34 hv; clear a; intro a H; obtain ⟨rfl, hE35⟩ := hv
  replace hS := hS.ext hE35
  refine n_q H (q_lss rfl rfl) rfl ?_; clear H a; intro a H
  refine n_nil (then_normal (c_cond H rfl (fun hc37 => ?_) (fun hc37 => ?_)))
  · replace hm := condT hm hc37
    refine wp_skip (then_normal (wp_seq (wp_block (wp_seq (wp_seq (c_quiet (by kernel_rfl) (by kernel_rfl) ?_))))))
    refine qq_q H (q_fieldAddr0 rfl fo39_8) rfl ?_; clear H a; intro a H
    refine qq_q H (q_load rfl ((hS.blk 1 rfl).ld ag36 rfl)) rfl ?_; clear H a; intro a H
    refine qq_q H (q_move rfl) rfl ?_; clear H a; intro a H
    replace hm := bindS hm; obtain ⟨x38, hx38, hm⟩ := hm
    obtain ⟨h0x38, h1x38, hxx38⟩ := rdI_some hx38
    obtain ⟨adx38, hAx38⟩ := SlR.adV (hrp1_5.ext RGPort.mono hS.x) hv31 hxx38
    obtain ⟨csx38, hclx38, ⟨vx38_0, rfl, hrx38_0⟩, hcx38⟩ := SlR.elV hrp1_5 hv31 hAx38 hxx38
    refine qq_q H (q_ixVI Tryz.underlying36 sz76 rfl hv31 hAx38 rfl h0x38 h1x38) rfl ?_; clear H a; intro a H
    refine qq_q H (q_fieldAddr rfl fo76_0) rfl ?_; clear H a; intro a H
    refine qq_q H (q_load rfl (LdX.ext (ldElC (j := 0) ag74 hcx38 rfl) hS.x)) rfl ?_; clear H a; intro a H
    obtain ⟨A39, c39, hv39, hl39, hm39⟩ := SlR.formV (hrx38_0.ext (Flat.mono _) hS.x)
    refine qq_q H (q_lenV Tryz.underlying74 rfl hv39) rfl ?_; clear H a; intro a H
    refine qq_q H (q_fieldAddr0 rfl fo27_4) rfl ?_; clear H a; intro a H
    refine qq_q H (q_load rfl ((hS.blk 0 rfl).ld ag24 rfl)) rfl ?_; clear H a; intro a H
    refine qq_q H (q_move rfl) rfl ?_; clear H a; intro a H
    replace hm := bindS hm; obtain ⟨x40, hx40, hm⟩ := hm
    obtain ⟨h0x40, h1x40, hxx40⟩ := rdI_some hx40
    obtain ⟨adx40, hAx40⟩ := SlR.adV (hrp0_2.ext (Flat.mono _) hS.x) hv32 hxx40
    refine qq_q H (q_ixVI Tryz.underlying24 sz78 rfl hv32 hAx40 rfl h0x40 h1x40) rfl ?_; clear H a; intro a H
    refine qq_q H (q_fieldAddr rfl fo78_2) rfl ?_; clear H a; intro a H
    refine qq_q H (q_load rfl (SlR.ldCellV (j := 2) (hrp0_2.ext (Flat.mono _) hS.x) hv32 hAx40 ag3 hxx40 rfl)) rfl ?_; clear H a; intro a H
    refine qq_q H (q_gtr rfl rfl) rfl ?_; clear H a; intro a H
    refine qq_nil ?_; intro w41 hE42
    replace hS := hS.ext hE42
    refine then_normal (c_cond H rfl (fun hc43 => ?_) (fun hc43 => ?_))
    · replace hm := condT hm hc43
      refine wp_seq (wp_region_lit (n_q H (q_assign rfl) rfl ?_)); clear H a; intro a H
      refine n_nil (then_normal (wp_ret (then_ret (block_ret (then_ret (then_ret (block_ret (then_ret ?_))))))))
      obtain rfl := Option.some.inj hm; have hz : _ = q27 := hn27; subst hz; replace hm := hm27; try dsimp only at hm
      obtain rfl := Option.some.inj hm
      replace hS := hS.tk0
      refine ret1 H (.inr rfl) rfl rfl ?_
      exact ⟨rfl, hS.x⟩
    · replace hm := condF hm hc43
      refine wp_skip (then_normal (wp_seq (wp_region_lit (n_q H (q_assign rfl) rfl ?_)))); clear H a; intro a H
      refine n_nil (then_normal (wp_block ?_))
      replace hm := bindS hm; obtain ⟨q44, hm, hm44⟩ := hm; replace hm := iter_some hm; obtain ⟨n44, hm⟩ := hm
      refine c_loop (σ := Nat × Nat) (fun (m, i45) => [(2, .pointer (some ⟨b21, 0, none⟩)), (3, .pointer (some ⟨b24, 0, none⟩)), (5, .int .i64 z29), (6, .int .i64 ((i45 : Nat) : Int))]) (fun (m, i45) wl => iterN (g_r11_rule11_L4 a0 a1 z29) m i45 = some q44 ∧ St NB w wl [blkR b21 [.int .i64 a0.Id, .bool a0.Mobile, vp0_0, vp0_1, vp0_2, .int .i64 a0.Events, vp0_3] 27, blkR b24 [.int .i64 a1.Id, .int .i64 a1.Frame, .int .i64 a1.Epoch, vp1_0, vp1_1, vp1_2, vp1_3, vp1_4, vp1_5, vp1_6] 39]) (fun (m, i45) => m) (n44, 0) H ⟨rfl, rfl, rfl, rfl, trivial⟩ ⟨hm, hS⟩ ?_
      clear H hS hm a; intro xx a w46 H hR; obtain ⟨m, i45⟩ := xx; simp only [ent, List.map_cons, List.map_nil] at H; (try dsimp only at hR); obtain ⟨hm, hS⟩ := hR
      replace hm := iterN_step hm; obtain ⟨m44, o44, rfl, hm, hn44⟩ := hm; try dsimp only [g_r11_rule11_L4] at hm
      refine wp_seq (wp_seq (wp_region_lit (n_q H (q_move rfl) rfl (W_q (q_fieldAddr0 rfl fo39_8) rfl (W_q (q_load rfl ((hS.blk 1 rfl).ld ag36 rfl)) rfl (W_q (q_move rfl) rfl ?_)))))); clear H a; intro a H
      replace hm := bindS hm; obtain ⟨x47, hx47, hm⟩ := hm
      obtain ⟨h0x47, h1x47, hxx47⟩ := rdI_some hx47
      obtain ⟨adx47, hAx47⟩ := SlR.adV (hrp1_5.ext RGPort.mono hS.x) hv31 hxx47
      obtain ⟨csx47, hclx47, ⟨vx47_0, rfl, hrx47_0⟩, hcx47⟩ := SlR.elV hrp1_5 hv31 hAx47 hxx47
      refine n_q H (q_ixVI Tryz.underlying36 sz76 rfl hv31 hAx47 rfl h0x47 h1x47) rfl (W_q (q_fieldAddr rfl fo76_0) rfl (W_q (q_load rfl (LdX.ext (ldElC (j := 0) ag74 hcx47 rfl) hS.x)) rfl ?_)); clear H a; intro a H
      obtain ⟨A48, c48, hv48, hl48, hm48⟩ := SlR.formV (hrx47_0.ext (Flat.mono _) hS.x)
      refine n_q H (q_lenV Tryz.underlying74 rfl hv48) rfl (W_q (q_lssN (i := i45) (j := x47.Msgs.length) rfl rfl) rfl ?_); clear H a; intro a H
      refine n_nil (then_normal (c_cond H rfl (fun hc49 => ?_) (fun hc49 => ?_)))
      · replace hm := condT hm hc49
        have hlt50 : i45 < x47.Msgs.length := of_decide_eq_true hc49
        refine wp_skip (then_normal (wp_seq (wp_block (wp_seq (c_quiet (by kernel_rfl) (by kernel_rfl) ?_)))))
        refine qq_q H (q_fieldAddr0 rfl fo39_8) rfl ?_; clear H a; intro a H
        refine qq_q H (q_load rfl ((hS.blk 1 rfl).ld ag36 rfl)) rfl ?_; clear H a; intro a H
        refine qq_q H (q_move rfl) rfl ?_; clear H a; intro a H
        replace hm := bindS hm; obtain ⟨x51, hx51, hm⟩ := hm
        obtain ⟨h0x51, h1x51, hxx51⟩ := rdI_some hx51
        obtain ⟨adx51, hAx51⟩ := SlR.adV (hrp1_5.ext RGPort.mono hS.x) hv31 hxx51
        obtain ⟨csx51, hclx51, ⟨vx51_0, rfl, hrx51_0⟩, hcx51⟩ := SlR.elV hrp1_5 hv31 hAx51 hxx51
        refine qq_q H (q_ixVI Tryz.underlying36 sz76 rfl hv31 hAx51 rfl h0x51 h1x51) rfl ?_; clear H a; intro a H
        refine qq_q H (q_fieldAddr rfl fo76_0) rfl ?_; clear H a; intro a H
        refine qq_q H (q_load rfl (LdX.ext (ldElC (j := 0) ag74 hcx51 rfl) hS.x)) rfl ?_; clear H a; intro a H
        refine qq_q H (q_move rfl) rfl ?_; clear H a; intro a H
        obtain ⟨A52, c52, hv52, hl52, hm52⟩ := SlR.formV (hrx51_0.ext (Flat.mono _) hS.x)
        replace hm := bindS hm; obtain ⟨x53, hx53, hm⟩ := hm
        obtain ⟨adx53, hAx53⟩ := SlR.adV (hrx51_0.ext (Flat.mono _) hS.x) hv52 hx53
        refine qq_q H (q_ixV (i := i45) Tryz.underlying74 sz9 rfl hv52 hAx53 rfl (natI hx53)) rfl ?_; clear H a; intro a H
        refine qq_q H (q_load rfl (SlR.ldOneV (hrx51_0.ext (Flat.mono _) hS.x) hv52 hAx53 ag9 hx53 rfl)) rfl ?_; clear H a; intro a H
        refine qq_q H (q_lenS Tryz.underlying9 rfl) rfl ?_; clear H a; intro a H
        refine qq_q H (q_fieldAddr0 rfl fo27_4) rfl ?_; clear H a; intro a H
        refine qq_q H (q_load rfl ((hS.blk 0 rfl).ld ag24 rfl)) rfl ?_; clear H a; intro a H
        refine qq_q H (q_move rfl) rfl ?_; clear H a; intro a H
        replace hm := bindS hm; obtain ⟨x54, hx54, hm⟩ := hm
        obtain ⟨h0x54, h1x54, hxx54⟩ := rdI_some hx54
        obtain ⟨adx54, hAx54⟩ := SlR.adV (hrp0_2.ext (Flat.mono _) hS.x) hv32 hxx54
        refine qq_q H (q_ixVI Tryz.underlying24 sz78 rfl hv32 hAx54 rfl h0x54 h1x54) rfl ?_; clear H a; intro a H
        refine qq_q H (q_fieldAddr rfl fo78_1) rfl ?_; clear H a; intro a H
        refine qq_q H (q_load rfl (SlR.ldCellV (j := 1) (hrp0_2.ext (Flat.mono _) hS.x) hv32 hAx54 ag3 hxx54 rfl)) rfl ?_; clear H a; intro a H
        refine qq_q H (q_gtr rfl rfl) rfl ?_; clear H a; intro a H
        refine qq_nil ?_; intro w55 hE56
        replace hS := hS.ext hE56
        refine then_normal (c_cond H rfl (fun hc57 => ?_) (fun hc57 => ?_))
        · replace hm := condT hm hc57
          refine wp_seq (wp_region_lit (n_q H (q_assign rfl) rfl ?_)); clear H a; intro a H
          refine n_nil (then_normal (wp_ret (block_ret (then_ret (then_ret (block_ret (block_ret (then_ret (then_ret (block_ret (then_ret ?_)))))))))))
          obtain rfl := Option.some.inj hm; have hz : _ = q44 := hn44; subst hz; replace hm := hm44; try dsimp only at hm
          obtain rfl := Option.some.inj hm; have hz : _ = q27 := hn27; subst hz; replace hm := hm27; try dsimp only at hm
          obtain rfl := Option.some.inj hm
          replace hS := hS.tk0
          refine ret1 H (.inr rfl) rfl rfl ?_
          exact ⟨rfl, hS.x⟩
        · replace hm := condF hm hc57
          refine wp_skip (block_normal (then_normal (wp_region_lit (n_q H (q_move rfl) rfl (W_q (q_incr (i := i45) (j := 1) rfl rfl (by omega)) rfl (W_q (q_assign rfl) rfl ?_)))))); clear H a; intro a H
          refine n_nil (then_normal ?_)
          obtain rfl := Option.some.inj hm
          exact round (m44, i45 + 1) H ⟨rfl, rfl, rfl, rfl, trivial⟩ ⟨hn44, hS⟩ (Nat.lt_succ_self _)
      · replace hm := condF hm hc49
        refine wp_exit (then_exit (then_exit (block_exit ?_)))
        obtain rfl := Option.some.inj hm; have hz : _ = q44 := hn44; subst hz; replace hm := hm44; try dsimp only at hm
        refine block_normal (then_normal (wp_region_lit (n_q H (q_move rfl) rfl (W_q (q_addW rfl rfl) rfl (W_q (q_assign rfl) rfl ?_))))); clear H a; intro a H
        refine n_nil (then_normal ?_)
        obtain rfl := Option.some.inj hm
        exact round (m27, (IntKind.i64.wrap (z29 + 1))) H ⟨rfl, rfl, rfl, trivial⟩ ⟨hn27, hS⟩ (Nat.lt_succ_self _)
  · replace hm := condF hm hc37
    refine wp_exit (then_exit (then_exit (block_exit ?_)))
    obtain rfl := Option.some.inj hm; have hz : _ = q27 := hn27; subst hz; replace hm := hm27; try dsimp only at hm
    refine then_normal (wp_seq (wp_region_lit (n_q H (q_assign rfl) rfl ?_))); clear H a; intro a H
    refine n_nil (then_normal (wp_ret ?_))
    obtain rfl := Option.some.inj hm
    replace hS := hS.tk0
    refine ret1 H (.inr rfl) rfl rfl ?_
    exact ⟨rfl, hS.x⟩
theorem g_r11_rule12_w {w : World} {A : Nat → Addr} {cs0 : List Value} {a0 : GPlan} {cs1 : List Value} {a1 : GState} (h0 : RGPlan w cs0 a0) (h1 : RGState w cs1 a1) {r : Bool} (hm : g_r11_rule12 a0 a1 = some r) :
    Calls Tryz.prog 91 [.agg cs0.toArray, .agg cs1.toArray].toArray w (Ret fun u w' => u = .bool r ∧ Ext w w') := by
  obtain ⟨vp0_0, vp0_1, vp0_2, vp0_3, rfl, hrp0_0, hrp0_1, hrp0_2, hrp0_3⟩ := h0
  obtain ⟨vp1_0, vp1_1, vp1_2, vp1_3, vp1_4, vp1_5, vp1_6, rfl, hrp1_0, hrp1_1, hrp1_2, hrp1_3, hrp1_4, hrp1_5, hrp1_6⟩ := h1
  have hS := St.begin NB w
  unfold g_r11_rule12 at hm
  refine enter Tryz.func91 rfl rfl rfl ?_; intro a H; dsimp only [enumL, Nat.zero_add, Nat.reduceAdd] at H
  refine wp_seq (wp_region_lit (n_box H rfl (cs := [.int .i64 a0.Id, .bool a0.Mobile, vp0_0, vp0_1, vp0_2, .int .i64 a0.Events, vp0_3]) rfl rfl ?_))
  clear H; intro b21 w22 hN hE23 hs; clear a; intro a H
  replace hS := hS.newBlk hN hE23 hs; clear hN hs
  refine n_box H rfl (cs := [.int .i64 a1.Id, .int .i64 a1.Frame, .int .i64 a1.Epoch, vp1_0, vp1_1, vp1_2, vp1_3, vp1_4, vp1_5, vp1_6]) rfl rfl ?_
  clear H; intro b24 w25 hN hE26 hs; clear a; intro a H
  replace hS := hS.newBlk hN hE26 hs; clear hN hs
  refine n_q H (q_assign rfl) rfl ?_; clear H a; intro a H
  refine n_nil (then_normal (wp_seq (wp_seq (wp_region_lit (n_q H (q_assign rfl) rfl ?_))))); clear H a; intro a H
  refine n_nil (then_normal (wp_block ?_))
  replace hS := hS.pk1
  replace hm := bindS hm; obtain ⟨q27, hm, hm27⟩ := hm; replace hm := iter_some hm; obtain ⟨n27, hm⟩ := hm
  refine c_loop (σ := Nat × Int) (fun (m, z29) => [(2, .pointer (some ⟨b21, 0, none⟩)), (3, .pointer (some ⟨b24, 0, none⟩)), (5, .int .i64 z29)]) (fun (m, z29) wl => iterN (g_r11_rule12_L9 a0 a1) m z29 = some q27 ∧ St NB w wl [blkR b21 [.int .i64 a0.Id, .bool a0.Mobile, vp0_0, vp0_1, vp0_2, .int .i64 a0.Events, vp0_3] 27, blkR b24 [.int .i64 a1.Id, .int .i64 a1.Frame, .int .i64 a1.Epoch, vp1_0, vp1_1, vp1_2, vp1_3, vp1_4, vp1_5, vp1_6] 39]) (fun (m, z29) => m) (n27, 0) H ⟨rfl, rfl, rfl, trivial⟩ ⟨hm, hS⟩ ?_
  clear H hS hm a; intro xx a w30 H hR; obtain ⟨m, z29⟩ := xx; simp only [ent, List.map_cons, List.map_nil] at H; (try dsimp only at hR); obtain ⟨hm, hS⟩ := hR
  replace hm := iterN_step hm; obtain ⟨m27, o27, rfl, hm, hn27⟩ := hm; try dsimp only [g_r11_rule12_L9] at hm
  refine wp_seq (wp_seq (wp_region_lit (n_q H (q_move rfl) rfl (W_q (q_fieldAddr0 rfl fo39_8) rfl (W_q (q_load rfl ((hS.blk 1 rfl).ld ag36 rfl)) rfl ?_))))); clear H a; intro a H
  obtain ⟨A31, c31, hv31, hl31, hm31⟩ := SlR.formV (hrp1_5.ext RGPort.mono hS.x)
  refine n_q H (q_lenV Tryz.underlying36 rfl hv31) rfl (W_q (q_fieldAddr0 rfl fo27_4) rfl (W_q (q_load rfl ((hS.blk 0 rfl).ld ag24 rfl)) rfl ?_)); clear H a; intro a H
  obtain ⟨A32, c32, hv32, hl32, hm32⟩ := SlR.formV (hrp0_2.ext (Flat.mono _) hS.x)
  refine n_q H (q_lenV Tryz.underlying24 rfl hv32) rfl ?_; clear H a; intro a H
  replace hm := bindS hm; obtain ⟨r33, hr33, hm⟩ := hm
  refine n_call H rfl en99 (g_r11_both_w (A := A) hr33) rfl ?_
  clear H; intro x36 w34 hv; clear a; intro a H; obtain ⟨rfl, hE35⟩ := hv
  replace hS := hS.ext hE35
  refine n_q H (q_lss rfl rfl) rfl ?_; clear H a; intro a H
  refine n_nil (then_normal (c_cond H rfl (fun hc37 => ?_) (fun hc37 => ?_)))
  · replace hm := condT hm hc37
    refine wp_skip (then_normal (wp_seq (wp_block (wp_seq (wp_region_lit (n_q H (q_fieldAddr0 rfl fo39_8) rfl (W_q (q_load rfl ((hS.blk 1 rfl).ld ag36 rfl)) rfl (W_q (q_move rfl) rfl ?_)))))))); clear H a; intro a H
    replace hm := bindS hm; obtain ⟨x38, hx38, hm⟩ := hm
    obtain ⟨h0x38, h1x38, hxx38⟩ := rdI_some hx38
    obtain ⟨adx38, hAx38⟩ := SlR.adV (hrp1_5.ext RGPort.mono hS.x) hv31 hxx38
    obtain ⟨csx38, hclx38, ⟨vx38_0, rfl, hrx38_0⟩, hcx38⟩ := SlR.elV hrp1_5 hv31 hAx38 hxx38
    refine n_q H (q_ixVI Tryz.underlying36 sz76 rfl hv31 hAx38 rfl h0x38 h1x38) rfl (W_q (q_fieldAddr rfl fo76_1) rfl (W_q (q_load rfl (LdX.ext (ldElC (j := 1) ag3 hcx38 rfl) hS.x)) rfl (W_q (q_assign rfl) rfl ?_))); clear H a; intro a H
    refine n_nil (then_normal ?_)
    replace hm := bindS hm; obtain ⟨j39, hm, hm39⟩ := hm
    refine c_join (σ := Bool) H (fun q540 => [(2, .pointer (some ⟨b21, 0, none⟩)), (3, .pointer (some ⟨b24, 0, none⟩)), (5, .int .i64 z29), (52, .bool q540)]) (fun q540 wl => (g_r11_rule12_J8 z29) q540 = some o27 ∧ St NB w wl [blkR b21 [.int .i64 a0.Id, .bool a0.Mobile, vp0_0, vp0_1, vp0_2, .int .i64 a0.Events, vp0_3] 27, blkR b24 [.int .i64 a1.Id, .int .i64 a1.Frame, .int .i64 a1.Epoch, vp1_0, vp1_1, vp1_2, vp1_3, vp1_4, vp1_5, vp1_6] 39]) ?_ ?_
    · skip
      refine wp_region_lit (n_q H (q_move rfl) rfl (W_q (q_lss rfl rfl) rfl (W_q (q_move rfl) rfl ?_))); clear H a; intro a H
      rcases Bool.eq_false_or_eq_true (decide (x38.Age < 0)) with hg541 | hg541
      · replace H := H.know 26 rfl hg541
        replace hm := condT hm hg541
        refine n_no H rfl rfl (by decide) rfl (W_no rfl rfl (by decide) rfl (W_q (q_pickT rfl rfl) rfl (W_q (q_move rfl) rfl (W_no rfl rfl (by decide) rfl (W_no rfl rfl (by decide) rfl (W_no rfl rfl (by decide) rfl (W_noU rfl rfl rfl (W_noU rfl rfl rfl (W_noU rfl rfl rfl (W_noU rfl rfl rfl (W_noU rfl rfl rfl ?_))))))))))); clear H a; intro a H
        refine n_noU H rfl rfl rfl (W_noU rfl rfl rfl (W_noU rfl rfl rfl (W_noU rfl rfl rfl (W_noU rfl rfl rfl (W_noU rfl rfl rfl (W_noU rfl rfl rfl (W_noU rfl rfl rfl (W_noU rfl rfl rfl (W_noU rfl rfl rfl (W_noU rfl rfl rfl (W_noU rfl rfl rfl ?_))))))))))); clear H a; intro a H
        refine n_no H rfl rfl (by decide) rfl (W_q (q_pickT rfl rfl) rfl ?_); clear H a; intro a H
        refine n_nil (then_normal ?_)
        obtain rfl := Option.some.inj hm; replace hm := hm39; try dsimp only at hm
        exact join true H ⟨rfl, rfl, rfl, rfl, trivial⟩ ⟨hm, hS⟩
      · replace H := H.know 26 rfl hg541
        replace hm := condF hm hg541
        refine n_yes H rfl rfl (n_q H (q_move rfl) rfl (W_yes rfl rfl (W_q (q_gtr rfl rfl) rfl (W_q (q_pickF rfl rfl) rfl (W_q (q_move rfl) rfl ?_))))); clear H a; intro a H
        rcases Bool.eq_false_or_eq_true (decide (255 < x38.Age)) with hg542 | hg542
        · replace H := H.know 30 rfl hg542
          replace hm := condT hm hg542
          refine n_no H rfl rfl (by decide) rfl (W_no rfl rfl (by decide) rfl (W_no rfl rfl (by decide) rfl (W_noU rfl rfl rfl (W_noU rfl rfl rfl (W_noU rfl rfl rfl (W_noU rfl rfl rfl (W_noU rfl rfl rfl (W_noU rfl rfl rfl (W_noU rfl rfl rfl (W_noU rfl rfl rfl (W_noU rfl rfl rfl ?_))))))))))); clear H a; intro a H
          refine n_noU H rfl rfl rfl (W_noU rfl rfl rfl (W_noU rfl rfl rfl (W_noU rfl rfl rfl (W_noU rfl rfl rfl (W_noU rfl rfl rfl (W_noU rfl rfl rfl (W_noU rfl rfl rfl (W_no rfl rfl (by decide) rfl (W_q (q_pickT rfl rfl) rfl ?_))))))))); clear H a; intro a H
          refine n_nil (then_normal ?_)
          obtain rfl := Option.some.inj hm; replace hm := hm39; try dsimp only at hm
          exact join true H ⟨rfl, rfl, rfl, rfl, trivial⟩ ⟨hm, hS⟩
        · replace H := H.know 30 rfl hg542
          replace hm := condF hm hg542
          refine n_yes H rfl rfl (n_q H (q_move rfl) rfl (W_yes rfl rfl (W_q (q_neqD rfl rfl) rfl (W_yes rfl rfl (W_q (q_move rfl) rfl ?_))))); clear H a; intro a H
          rcases Bool.eq_false_or_eq_true (!decide (x38.Age = 0)) with hg543 | hg543
          · replace H := H.know 33 rfl hg543
            replace hm := condT hm hg543
            refine n_yes H rfl rfl (n_q H (q_fieldAddr0 rfl fo27_4) rfl (W_yes rfl rfl (W_q (q_load rfl ((hS.blk 0 rfl).ld ag24 rfl)) rfl (W_yes rfl rfl (W_q (q_move rfl) rfl (W_yes rfl rfl ?_)))))); clear H a; intro a H
            replace hm := bindS hm; obtain ⟨x544, hx544, hm⟩ := hm
            obtain ⟨h0x544, h1x544, hxx544⟩ := rdI_some hx544
            obtain ⟨adx544, hAx544⟩ := SlR.adV (hrp0_2.ext (Flat.mono _) hS.x) hv32 hxx544
            refine n_q H (q_ixVI Tryz.underlying24 sz78 rfl hv32 hAx544 rfl h0x544 h1x544) rfl (W_yes rfl rfl (W_q (q_fieldAddr rfl fo78_0) rfl (W_yes rfl rfl (W_q (q_load rfl (SlR.ldCellV (j := 0) (hrp0_2.ext (Flat.mono _) hS.x) hv32 hAx544 ag3 hxx544 rfl)) rfl (W_yes rfl rfl (W_q (q_neqD rfl rfl) rfl (W_yes rfl rfl (W_q (q_move rfl) rfl ?_)))))))); clear H a; intro a H
            rcases Bool.eq_false_or_eq_true (!decide (x544.Kind = 1)) with hg545 | hg545
            · replace H := H.know 41 rfl hg545
              replace hm := condT hm hg545
              refine n_no H rfl rfl (by decide) rfl (W_no rfl rfl (by decide) rfl (W_no rfl rfl (by decide) rfl (W_no rfl rfl (by decide) rfl (W_no rfl rfl (by decide) rfl (W_no rfl rfl (by decide) rfl (W_no rfl rfl (by decide) rfl (W_no rfl rfl (by decide) rfl (W_yes rfl rfl (W_q (q_pickT rfl rfl) rfl (W_yes rfl rfl (W_q (q_pickT rfl rfl) rfl ?_))))))))))); clear H a; intro a H
              refine n_q H (q_pickF rfl rfl) rfl ?_; clear H a; intro a H
              refine n_nil (then_normal ?_)
              obtain rfl := Option.some.inj hm; replace hm := hm39; try dsimp only at hm
              exact join true H ⟨rfl, rfl, rfl, rfl, trivial⟩ ⟨hm, hS⟩
            · replace H := H.know 41 rfl hg545
              replace hm := condF hm hg545
              refine n_yes H rfl rfl (n_q H (q_fieldAddr0 rfl fo39_8) rfl (W_yes rfl rfl (W_q (q_load rfl ((hS.blk 1 rfl).ld ag36 rfl)) rfl (W_yes rfl rfl (W_q (q_move rfl) rfl (W_yes rfl rfl ?_)))))); clear H a; intro a H
              replace hm := bindS hm; obtain ⟨x546, hx546, hm⟩ := hm
              obtain ⟨h0x546, h1x546, hxx546⟩ := rdI_some hx546
              obtain ⟨adx546, hAx546⟩ := SlR.adV (hrp1_5.ext RGPort.mono hS.x) hv31 hxx546
              obtain ⟨csx546, hclx546, ⟨vx546_0, rfl, hrx546_0⟩, hcx546⟩ := SlR.elV hrp1_5 hv31 hAx546 hxx546
              refine n_q H (q_ixVI Tryz.underlying36 sz76 rfl hv31 hAx546 rfl h0x546 h1x546) rfl (W_yes rfl rfl (W_q (q_fieldAddr rfl fo76_0) rfl (W_yes rfl rfl (W_q (q_load rfl (LdX.ext (ldElC (j := 0) ag74 hcx546 rfl) hS.x)) rfl (W_yes rfl rfl ?_))))); clear H a; intro a H
              obtain ⟨A547, c547, hv547, hl547, hm547⟩ := SlR.formV (hrx546_0.ext (Flat.mono _) hS.x)
              refine n_q H (q_lenV Tryz.underlying74 rfl hv547) rfl (W_yes rfl rfl (W_q (q_eqlN (i := x546.Msgs.length) (j := 0) rfl rfl) rfl (W_yes rfl rfl (W_q (q_pickF rfl rfl) rfl (W_yes rfl rfl (W_q (q_pickT rfl rfl) rfl (W_q (q_pickF rfl rfl) rfl ?_))))))); clear H a; intro a H
              refine n_nil (then_normal ?_)
              obtain rfl := Option.some.inj hm; replace hm := hm39; try dsimp only at hm
              exact join (decide (x546.Msgs.length = 0)) H ⟨rfl, rfl, rfl, rfl, trivial⟩ ⟨hm, hS⟩
          · replace H := H.know 33 rfl hg543
            replace hm := condF hm hg543
            refine n_no H rfl rfl (by decide) rfl (W_no rfl rfl (by decide) rfl (W_no rfl rfl (by decide) rfl (W_no rfl rfl (by decide) rfl (W_no rfl rfl (by decide) rfl (W_no rfl rfl (by decide) rfl (W_no rfl rfl (by decide) rfl (W_no rfl rfl (by decide) rfl (W_noU rfl rfl rfl (W_noU rfl rfl rfl (W_noU rfl rfl rfl (W_noU rfl rfl rfl ?_))))))))))); clear H a; intro a H
            refine n_noU H rfl rfl rfl (W_noU rfl rfl rfl (W_noU rfl rfl rfl (W_noU rfl rfl rfl (W_no rfl rfl (by decide) rfl (W_yes rfl rfl (W_q (q_pickF rfl rfl) rfl (W_q (q_pickF rfl rfl) rfl ?_))))))); clear H a; intro a H
            refine n_nil (then_normal ?_)
            obtain rfl := Option.some.inj hm; replace hm := hm39; try dsimp only at hm
            exact join false H ⟨rfl, rfl, rfl, rfl, trivial⟩ ⟨hm, hS⟩
    · clear H hS hm a; intro q540 a w548 H hR
      simp only [ent, List.map_cons, List.map_nil] at H; (try dsimp only at hR); obtain ⟨hm, hS⟩ := hR; try dsimp only [g_r11_rule12_J8] at hm
      refine c_cond H rfl (fun hc549 => ?_) (fun hc549 => ?_)
      · replace hm := condT hm hc549
        refine wp_seq (wp_region_lit (n_q H (q_assign rfl) rfl ?_)); clear H a; intro a H
        refine n_nil (then_normal (wp_ret (block_ret (then_ret (then_ret (block_ret (then_ret ?_)))))))
        obtain rfl := Option.some.inj hm; have hz : _ = q27 := hn27; subst hz; replace hm := hm27; try dsimp only at hm
        obtain rfl := Option.some.inj hm
        replace hS := hS.tk0
        refine ret1 H (.inr rfl) rfl rfl ?_
        exact ⟨rfl, hS.x⟩
      · replace hm := condF hm hc549
        refine wp_skip (block_normal (then_normal (wp_region_lit (n_q H (q_move rfl) rfl (W_q (q_addW rfl rfl) rfl (W_q (q_assign rfl) rfl ?_)))))); clear H a; intro a H
        refine n_nil (then_normal ?_)
        obtain rfl := Option.some.inj hm
        exact round (m27, (IntKind.i64.wrap (z29 + 1))) H ⟨rfl, rfl, rfl, trivial⟩ ⟨hn27, hS⟩ (Nat.lt_succ_self _)
  · replace hm := condF hm hc37
    refine wp_exit (then_exit (then_exit (block_exit ?_)))
    obtain rfl := Option.some.inj hm; have hz : _ = q27 := hn27; subst hz; replace hm := hm27; try dsimp only at hm
    refine then_normal (wp_seq (wp_region_lit (n_q H (q_assign rfl) rfl ?_))); clear H a; intro a H
    refine n_nil (then_normal (wp_ret ?_))
    obtain rfl := Option.some.inj hm
    replace hS := hS.tk0
    refine ret1 H (.inr rfl) rfl rfl ?_
    exact ⟨rfl, hS.x⟩
theorem g_r11_rule13_w {w : World} {A : Nat → Addr} {cs0 : List Value} {a0 : GPlan} {cs1 : List Value} {a1 : GState} (h0 : RGPlan w cs0 a0) (h1 : RGState w cs1 a1) {r : Bool} (hm : g_r11_rule13 a0 a1 = some r) :
    Calls Tryz.prog 92 [.agg cs0.toArray, .agg cs1.toArray].toArray w (Ret fun u w' => u = .bool r ∧ Ext w w') := by
  obtain ⟨vp0_0, vp0_1, vp0_2, vp0_3, rfl, hrp0_0, hrp0_1, hrp0_2, hrp0_3⟩ := h0
  obtain ⟨vp1_0, vp1_1, vp1_2, vp1_3, vp1_4, vp1_5, vp1_6, rfl, hrp1_0, hrp1_1, hrp1_2, hrp1_3, hrp1_4, hrp1_5, hrp1_6⟩ := h1
  have hS := St.begin NB w
  unfold g_r11_rule13 at hm
  refine enter Tryz.func92 rfl rfl rfl ?_; intro a H; dsimp only [enumL, Nat.zero_add, Nat.reduceAdd] at H
  refine wp_seq (wp_region_lit (n_box H rfl (cs := [.int .i64 a0.Id, .bool a0.Mobile, vp0_0, vp0_1, vp0_2, .int .i64 a0.Events, vp0_3]) rfl rfl ?_))
  clear H; intro b21 w22 hN hE23 hs; clear a; intro a H
  replace hS := hS.newBlk hN hE23 hs; clear hN hs
  refine n_box H rfl (cs := [.int .i64 a1.Id, .int .i64 a1.Frame, .int .i64 a1.Epoch, vp1_0, vp1_1, vp1_2, vp1_3, vp1_4, vp1_5, vp1_6]) rfl rfl ?_
  clear H; intro b24 w25 hN hE26 hs; clear a; intro a H
  replace hS := hS.newBlk hN hE26 hs; clear hN hs
  refine n_q H (q_assign rfl) rfl ?_; clear H a; intro a H
  refine n_nil (then_normal (wp_seq (wp_seq (wp_region_lit (n_q H (q_assign rfl) rfl ?_))))); clear H a; intro a H
  refine n_nil (then_normal (wp_block ?_))
  replace hS := hS.pk1
  replace hm := bindS hm; obtain ⟨q27, hm, hm27⟩ := hm; replace hm := iter_some hm; obtain ⟨n27, hm⟩ := hm
  refine c_loop (σ := Nat × Int) (fun (m, z29) => [(2, .pointer (some ⟨b21, 0, none⟩)), (3, .pointer (some ⟨b24, 0, none⟩)), (5, .int .i64 z29)]) (fun (m, z29) wl => iterN (g_r11_rule13_L1 a0 a1) m z29 = some q27 ∧ St NB w wl [blkR b21 [.int .i64 a0.Id, .bool a0.Mobile, vp0_0, vp0_1, vp0_2, .int .i64 a0.Events, vp0_3] 27, blkR b24 [.int .i64 a1.Id, .int .i64 a1.Frame, .int .i64 a1.Epoch, vp1_0, vp1_1, vp1_2, vp1_3, vp1_4, vp1_5, vp1_6] 39]) (fun (m, z29) => m) (n27, 0) H ⟨rfl, rfl, rfl, trivial⟩ ⟨hm, hS⟩ ?_
  clear H hS hm a; intro xx a w30 H hR; obtain ⟨m, z29⟩ := xx; simp only [ent, List.map_cons, List.map_nil] at H; (try dsimp only at hR); obtain ⟨hm, hS⟩ := hR
  replace hm := iterN_step hm; obtain ⟨m27, o27, rfl, hm, hn27⟩ := hm; try dsimp only [g_r11_rule13_L1] at hm
  refine wp_seq (wp_seq (wp_region_lit (n_q H (q_move rfl) rfl (W_q (q_fieldAddr0 rfl fo39_9) rfl (W_q (q_load rfl ((hS.blk 1 rfl).ld ag37 rfl)) rfl ?_))))); clear H a; intro a H
  obtain ⟨A31, c31, hv31, hl31, hm31⟩ := SlR.formV (hrp1_6.ext (Flat.mono _) hS.x)
  refine n_q H (q_lenV Tryz.underlying37 rfl hv31) rfl (W_q (q_fieldAddr0 rfl fo27_2) rfl (W_q (q_load rfl ((hS.blk 0 rfl).ld ag22 rfl)) rfl ?_)); clear H a; intro a H
  obtain ⟨A32, c32, hv32, hl32, hm32⟩ := SlR.formV (hrp0_0.ext (Flat.mono _) hS.x)
  refine n_q H (q_lenV Tryz.underlying22 rfl hv32) rfl ?_; clear H a; intro a H
  replace hm := bindS hm; obtain ⟨r33, hr33, hm⟩ := hm
  refine n_call H rfl en99 (g_r11_both_w (A := A) hr33) rfl ?_
  clear H; intro x36 w34 hv; clear a; intro a H; obtain ⟨rfl, hE35⟩ := hv
  replace hS := hS.ext hE35
  refine n_q H (q_lss rfl rfl) rfl ?_; clear H a; intro a H
  refine n_nil (then_normal (c_cond H rfl (fun hc37 => ?_) (fun hc37 => ?_)))
  · replace hm := condT hm hc37
    refine wp_skip (then_normal (wp_seq (wp_block (wp_seq (c_quiet (by kernel_rfl) (by kernel_rfl) ?_)))))
    refine qq_q H (q_fieldAddr0 rfl fo39_9) rfl ?_; clear H a; intro a H
    refine qq_q H (q_load rfl ((hS.blk 1 rfl).ld ag37 rfl)) rfl ?_; clear H a; intro a H
    refine qq_q H (q_move rfl) rfl ?_; clear H a; intro a H
    replace hm := bindS hm; obtain ⟨x38, hx38, hm⟩ := hm
    obtain ⟨h0x38, h1x38, hxx38⟩ := rdI_some hx38
    obtain ⟨adx38, hAx38⟩ := SlR.adV (hrp1_6.ext (Flat.mono _) hS.x) hv31 hxx38
    refine qq_q H (q_ixVI Tryz.underlying37 sz60 rfl hv31 hAx38 rfl h0x38 h1x38) rfl ?_; clear H a; intro a H
    refine qq_q H (q_fieldAddr rfl fo60_0) rfl ?_; clear H a; intro a H
    refine qq_q H (q_load rfl (SlR.ldCellV (j := 0) (u := Value.int .i64 x38.Rights) (hrp1_6.ext (Flat.mono _) hS.x) hv31 hAx38 ag3 hxx38 (by simp [eGPage]))) rfl ?_; clear H a; intro a H
    refine qq_q H (q_fieldAddr0 rfl fo27_2) rfl ?_; clear H a; intro a H
    refine qq_q H (q_load rfl ((hS.blk 0 rfl).ld ag22 rfl)) rfl ?_; clear H a; intro a H
    refine qq_q H (q_move rfl) rfl ?_; clear H a; intro a H
    replace hm := bindS hm; obtain ⟨x39, hx39, hm⟩ := hm
    obtain ⟨h0x39, h1x39, hxx39⟩ := rdI_some hx39
    obtain ⟨adx39, hAx39⟩ := SlR.adV (hrp0_0.ext (Flat.mono _) hS.x) hv32 hxx39
    refine qq_q H (q_ixVI Tryz.underlying22 sz69 rfl hv32 hAx39 rfl h0x39 h1x39) rfl ?_; clear H a; intro a H
    refine qq_q H (q_fieldAddr rfl fo69_0) rfl ?_; clear H a; intro a H
    refine qq_q H (q_load rfl (SlR.ldCellV (j := 0) (hrp0_0.ext (Flat.mono _) hS.x) hv32 hAx39 ag3 hxx39 rfl)) rfl ?_; clear H a; intro a H
    refine qq_q H (q_neqD rfl rfl) rfl ?_; clear H a; intro a H
    refine qq_nil ?_; intro w40 hE41
    replace hS := hS.ext hE41
    refine then_normal (c_cond H rfl (fun hc42 => ?_) (fun hc42 => ?_))
    · replace hm := condT hm hc42
      refine wp_seq (wp_region_lit (n_q H (q_assign rfl) rfl ?_)); clear H a; intro a H
      refine n_nil (then_normal (wp_ret (block_ret (then_ret (then_ret (block_ret (then_ret ?_)))))))
      obtain rfl := Option.some.inj hm; have hz : _ = q27 := hn27; subst hz; replace hm := hm27; try dsimp only at hm
      obtain rfl := Option.some.inj hm
      replace hS := hS.tk0
      refine ret1 H (.inr rfl) rfl rfl ?_
      exact ⟨rfl, hS.x⟩
    · replace hm := condF hm hc42
      refine wp_skip (block_normal (then_normal (wp_region_lit (n_q H (q_move rfl) rfl (W_q (q_addW rfl rfl) rfl (W_q (q_assign rfl) rfl ?_)))))); clear H a; intro a H
      refine n_nil (then_normal ?_)
      obtain rfl := Option.some.inj hm
      exact round (m27, (IntKind.i64.wrap (z29 + 1))) H ⟨rfl, rfl, rfl, trivial⟩ ⟨hn27, hS⟩ (Nat.lt_succ_self _)
  · replace hm := condF hm hc37
    refine wp_exit (then_exit (then_exit (block_exit ?_)))
    obtain rfl := Option.some.inj hm; have hz : _ = q27 := hn27; subst hz; replace hm := hm27; try dsimp only at hm
    refine then_normal (wp_seq (wp_region_lit (n_q H (q_assign rfl) rfl ?_))); clear H a; intro a H
    refine n_nil (then_normal (wp_ret ?_))
    obtain rfl := Option.some.inj hm
    replace hS := hS.tk0
    refine ret1 H (.inr rfl) rfl rfl ?_
    exact ⟨rfl, hS.x⟩
theorem g_r11_rule14_w {w : World} {A : Nat → Addr} {cs0 : List Value} {a0 : GPlan} {cs1 : List Value} {a1 : GState} (h0 : RGPlan w cs0 a0) (h1 : RGState w cs1 a1) {r : Bool} (hm : g_r11_rule14 a0 a1 = some r) :
    Calls Tryz.prog 93 [.agg cs0.toArray, .agg cs1.toArray].toArray w (Ret fun u w' => u = .bool r ∧ Ext w w') := by
  obtain ⟨vp0_0, vp0_1, vp0_2, vp0_3, rfl, hrp0_0, hrp0_1, hrp0_2, hrp0_3⟩ := h0
  obtain ⟨vp1_0, vp1_1, vp1_2, vp1_3, vp1_4, vp1_5, vp1_6, rfl, hrp1_0, hrp1_1, hrp1_2, hrp1_3, hrp1_4, hrp1_5, hrp1_6⟩ := h1
  have hS := St.begin NB w
  unfold g_r11_rule14 at hm
  refine enter Tryz.func93 rfl rfl rfl ?_; intro a H; dsimp only [enumL, Nat.zero_add, Nat.reduceAdd] at H
  refine wp_seq (wp_region_lit (n_box H rfl (cs := [.int .i64 a0.Id, .bool a0.Mobile, vp0_0, vp0_1, vp0_2, .int .i64 a0.Events, vp0_3]) rfl rfl ?_))
  clear H; intro b21 w22 hN hE23 hs; clear a; intro a H
  replace hS := hS.newBlk hN hE23 hs; clear hN hs
  refine n_box H rfl (cs := [.int .i64 a1.Id, .int .i64 a1.Frame, .int .i64 a1.Epoch, vp1_0, vp1_1, vp1_2, vp1_3, vp1_4, vp1_5, vp1_6]) rfl rfl ?_
  clear H; intro b24 w25 hN hE26 hs; clear a; intro a H
  replace hS := hS.newBlk hN hE26 hs; clear hN hs
  refine n_q H (q_assign rfl) rfl ?_; clear H a; intro a H
  refine n_nil (then_normal (wp_seq (wp_seq (wp_region_lit (n_q H (q_assign rfl) rfl ?_))))); clear H a; intro a H
  refine n_nil (then_normal (wp_block ?_))
  replace hS := hS.pk1
  replace hm := bindS hm; obtain ⟨q27, hm, hm27⟩ := hm; replace hm := iter_some hm; obtain ⟨n27, hm⟩ := hm
  refine c_loop (σ := Nat × Nat) (fun (m, i28) => [(2, .pointer (some ⟨b21, 0, none⟩)), (3, .pointer (some ⟨b24, 0, none⟩)), (5, .int .i64 ((i28 : Nat) : Int))]) (fun (m, i28) wl => iterN (g_r11_rule14_L7 a0 a1) m i28 = some q27 ∧ St NB w wl [blkR b21 [.int .i64 a0.Id, .bool a0.Mobile, vp0_0, vp0_1, vp0_2, .int .i64 a0.Events, vp0_3] 27, blkR b24 [.int .i64 a1.Id, .int .i64 a1.Frame, .int .i64 a1.Epoch, vp1_0, vp1_1, vp1_2, vp1_3, vp1_4, vp1_5, vp1_6] 39]) (fun (m, i28) => m) (n27, 0) H ⟨rfl, rfl, rfl, trivial⟩ ⟨hm, hS⟩ ?_
  clear H hS hm a; intro xx a w29 H hR; obtain ⟨m, i28⟩ := xx; simp only [ent, List.map_cons, List.map_nil] at H; (try dsimp only at hR); obtain ⟨hm, hS⟩ := hR
  replace hm := iterN_step hm; obtain ⟨m27, o27, rfl, hm, hn27⟩ := hm; try dsimp only [g_r11_rule14_L7] at hm
  refine wp_seq (wp_seq (wp_region_lit (n_q H (q_move rfl) rfl (W_q (q_fieldAddr0 rfl fo39_3) rfl (W_q (q_load rfl ((hS.blk 1 rfl).ld ag33 rfl)) rfl ?_))))); clear H a; intro a H
  obtain ⟨A30, c30, hv30, hl30, hm30⟩ := SlR.formV (hrp1_0.ext (Flat.mono _) hS.x)
  refine n_q H (q_lenV Tryz.underlying33 rfl hv30) rfl (W_q (q_lssN (i := i28) (j := a1.Procs.length) rfl rfl) rfl ?_); clear H a; intro a H
  refine n_nil (then_normal (c_cond H rfl (fun hc31 => ?_) (fun hc31 => ?_)))
  · replace hm := condT hm hc31
    have hlt32 : i28 < a1.Procs.length := of_decide_eq_true hc31
    refine wp_skip (then_normal (wp_seq (wp_block (wp_seq (wp_region_lit (n_q H (q_fieldAddr0 rfl fo39_3) rfl (W_q (q_load rfl ((hS.blk 1 rfl).ld ag33 rfl)) rfl (W_q (q_move rfl) rfl ?_)))))))); clear H a; intro a H
    replace hm := bindS hm; obtain ⟨x33, hx33, hm⟩ := hm
    obtain ⟨adx33, hAx33⟩ := SlR.adV (hrp1_0.ext (Flat.mono _) hS.x) hv30 hx33
    refine n_q H (q_ixV (i := i28) Tryz.underlying33 sz67 rfl hv30 hAx33 rfl (natI hx33)) rfl (W_q (q_fieldAddr rfl fo67_5) rfl (W_q (q_load rfl (SlR.ldCellV (j := 20) (u := Value.int .i64 x33.Obj) (hrp1_0.ext (Flat.mono _) hS.x) hv30 hAx33 ag3 hx33 (by simp [eGProc]))) rfl (W_q (q_assign rfl) rfl ?_))); clear H a; intro a H
    refine n_nil (then_normal ?_)
    replace hm := bindS hm; obtain ⟨j34, hm, hm34⟩ := hm
    refine c_join (σ := Bool) H (fun q535 => [(2, .pointer (some ⟨b21, 0, none⟩)), (3, .pointer (some ⟨b24, 0, none⟩)), (5, .int .i64 ((i28 : Nat) : Int)), (47, .bool q535)]) (fun q535 wl => (g_r11_rule14_J6 i28) q535 = some o27 ∧ St NB w wl [blkR b21 [.int .i64 a0.Id, .bool a0.Mobile, vp0_0, vp0_1, vp0_2, .int .i64 a0.Events, vp0_3] 27, blkR b24 [.int .i64 a1.Id, .int .i64 a1.Frame, .int .i64 a1.Epoch, vp1_0, vp1_1, vp1_2, vp1_3, vp1_4, vp1_5, vp1_6] 39]) ?_ ?_
    · skip
      refine wp_region_lit (n_q H (q_fieldAddr0 rfl fo39_3) rfl (W_q (q_load rfl ((hS.blk 1 rfl).ld ag33 rfl)) rfl (W_q (q_move rfl) rfl ?_))); clear H a; intro a H
      replace hm := bindS hm; obtain ⟨x536, hx536, hm⟩ := hm
      obtain ⟨adx536, hAx536⟩ := SlR.adV (hrp1_0.ext (Flat.mono _) hS.x) hv30 hx536
      refine n_q H (q_ixV (i := i28) Tryz.underlying33 sz67 rfl hv30 hAx536 rfl (natI hx536)) rfl (W_q (q_fieldAddr rfl fo67_4) rfl (W_q (q_load rfl (SlR.ldCellV (j := 19) (u := Value.int .i64 x536.Wait) (hrp1_0.ext (Flat.mono _) hS.x) hv30 hAx536 ag3 hx536 (by simp [eGProc]))) rfl (W_q (q_eqlD rfl rfl) rfl (W_q (q_move rfl) rfl ?_)))); clear H a; intro a H
      rcases Bool.eq_false_or_eq_true (decide (x536.Wait = 2)) with hg537 | hg537
      · replace H := H.know 27 rfl hg537
        replace hm := condT hm hg537
        refine n_yes H rfl rfl (n_q H (q_move rfl) rfl (W_yes rfl rfl (W_q (q_geq rfl rfl) rfl (W_q (q_pickT rfl rfl) rfl (W_q (q_move rfl) rfl ?_))))); clear H a; intro a H
        rcases Bool.eq_false_or_eq_true (decide (0 ≤ x33.Obj)) with hg538 | hg538
        · replace H := H.know 31 rfl hg538
          replace hm := condT hm hg538
          refine n_yes H rfl rfl (n_q H (q_move rfl) rfl (W_yes rfl rfl (W_q (q_fieldAddr0 rfl fo39_6) rfl (W_yes rfl rfl (W_q (q_load rfl ((hS.blk 1 rfl).ld ag35 rfl)) rfl (W_yes rfl rfl ?_)))))); clear H a; intro a H
          obtain ⟨A539, c539, hv539, hl539, hm539⟩ := SlR.formV (hrp1_3.ext (Flat.mono _) hS.x)
          refine n_q H (q_lenV Tryz.underlying35 rfl hv539) rfl (W_yes rfl rfl (W_q (q_fieldAddr0 rfl fo27_5) rfl (W_yes rfl rfl (W_q (q_load rfl ((hS.blk 0 rfl).ld ag3 rfl)) rfl (W_yes rfl rfl ?_))))); clear H a; intro a H
          replace hm := bindS hm; obtain ⟨r540, hr540, hm⟩ := hm
          refine n_call H rfl en99 (g_r11_both_w (A := A) hr540) rfl ?_
          clear H; intro x543 w541 hv; clear a; intro a H; obtain ⟨rfl, hE542⟩ := hv
          replace hS := hS.ext hE542
          refine n_yes H rfl rfl (n_q H (q_lss rfl rfl) rfl (W_q (q_pickT rfl rfl) rfl (W_q (q_move rfl) rfl ?_))); clear H a; intro a H
          rcases Bool.eq_false_or_eq_true (decide (x33.Obj < r540)) with hg544 | hg544
          · replace H := H.know 41 rfl hg544
            replace hm := condT hm hg544
            refine n_yes H rfl rfl (n_q H (q_fieldAddr0 rfl fo39_6) rfl (W_yes rfl rfl (W_q (q_load rfl ((hS.blk 1 rfl).ld ag35 rfl)) rfl (W_yes rfl rfl (W_q (q_move rfl) rfl (W_yes rfl rfl ?_)))))); clear H a; intro a H
            replace hm := bindS hm; obtain ⟨x545, hx545, hm⟩ := hm
            obtain ⟨h0x545, h1x545, hxx545⟩ := rdI_some hx545
            obtain ⟨adx545, hAx545⟩ := SlR.adV (hrp1_3.ext (Flat.mono _) hS.x) hv539 hxx545
            refine n_q H (q_ixVI Tryz.underlying35 sz4 rfl hv539 hAx545 rfl h0x545 h1x545) rfl (W_yes rfl rfl (W_q (q_load rfl (SlR.ldOneV (hrp1_3.ext (Flat.mono _) hS.x) hv539 hAx545 ag4 hxx545 rfl)) rfl (W_q (q_pickT rfl rfl) rfl ?_))); clear H a; intro a H
            refine n_nil (then_normal ?_)
            obtain rfl := Option.some.inj hm; replace hm := hm34; try dsimp only at hm
            exact join x545 H ⟨rfl, rfl, rfl, rfl, trivial⟩ ⟨hm, hS⟩
          · replace H := H.know 41 rfl hg544
            replace hm := condF hm hg544
            refine n_no H rfl rfl (by decide) rfl (W_no rfl rfl (by decide) rfl (W_no rfl rfl (by decide) rfl (W_no rfl rfl (by decide) rfl (W_no rfl rfl (by decide) rfl (W_q (q_pickF rfl rfl) rfl ?_))))); clear H a; intro a H
            refine n_nil (then_normal ?_)
            obtain rfl := Option.some.inj hm; replace hm := hm34; try dsimp only at hm
            exact join false H ⟨rfl, rfl, rfl, rfl, trivial⟩ ⟨hm, hS⟩
        · replace H := H.know 31 rfl hg538
          replace hm := condF hm hg538
          refine n_no H rfl rfl (by decide) rfl (W_no rfl rfl (by decide) rfl (W_no rfl rfl (by decide) rfl (W_no rfl rfl (by decide) rfl (W_no rfl rfl (by decide) rfl (W_no rfl rfl (by decide) rfl (W_no rfl rfl (by decide) rfl (W_no rfl rfl (by decide) rfl (W_q (q_pickF rfl rfl) rfl (W_q (q_move rfl) rfl (W_no rfl rfl (by decide) rfl (W_no rfl rfl (by decide) rfl ?_))))))))))); clear H a; intro a H
          refine n_no H rfl rfl (by decide) rfl (W_no rfl rfl (by decide) rfl (W_no rfl rfl (by decide) rfl (W_q (q_pickF rfl rfl) rfl ?_))); clear H a; intro a H
          refine n_nil (then_normal ?_)
          obtain rfl := Option.some.inj hm; replace hm := hm34; try dsimp only at hm
          exact join false H ⟨rfl, rfl, rfl, rfl, trivial⟩ ⟨hm, hS⟩
      · replace H := H.know 27 rfl hg537
        replace hm := condF hm hg537
        refine n_no H rfl rfl (by decide) rfl (W_no rfl rfl (by decide) rfl (W_q (q_pickF rfl rfl) rfl (W_q (q_move rfl) rfl (W_no rfl rfl (by decide) rfl (W_no rfl rfl (by decide) rfl (W_no rfl rfl (by decide) rfl (W_no rfl rfl (by decide) rfl (W_no rfl rfl (by decide) rfl (W_no rfl rfl (by decide) rfl (W_no rfl rfl (by decide) rfl (W_no rfl rfl (by decide) rfl ?_))))))))))); clear H a; intro a H
        refine n_q H (q_pickF rfl rfl) rfl (W_q (q_move rfl) rfl (W_no rfl rfl (by decide) rfl (W_no rfl rfl (by decide) rfl (W_no rfl rfl (by decide) rfl (W_no rfl rfl (by decide) rfl (W_no rfl rfl (by decide) rfl (W_q (q_pickF rfl rfl) rfl ?_))))))); clear H a; intro a H
        refine n_nil (then_normal ?_)
        obtain rfl := Option.some.inj hm; replace hm := hm34; try dsimp only at hm
        exact join false H ⟨rfl, rfl, rfl, rfl, trivial⟩ ⟨hm, hS⟩
    · clear H hS hm a; intro q535 a w546 H hR
      simp only [ent, List.map_cons, List.map_nil] at H; (try dsimp only at hR); obtain ⟨hm, hS⟩ := hR; try dsimp only [g_r11_rule14_J6] at hm
      refine c_cond H rfl (fun hc547 => ?_) (fun hc547 => ?_)
      · replace hm := condT hm hc547
        refine wp_seq (wp_region_lit (n_q H (q_assign rfl) rfl ?_)); clear H a; intro a H
        refine n_nil (then_normal (wp_ret (block_ret (then_ret (then_ret (block_ret (then_ret ?_)))))))
        obtain rfl := Option.some.inj hm; have hz : _ = q27 := hn27; subst hz; replace hm := hm27; try dsimp only at hm
        obtain rfl := Option.some.inj hm
        replace hS := hS.tk0
        refine ret1 H (.inr rfl) rfl rfl ?_
        exact ⟨rfl, hS.x⟩
      · replace hm := condF hm hc547
        refine wp_skip (block_normal (then_normal (wp_region_lit (n_q H (q_move rfl) rfl (W_q (q_incr (i := i28) (j := 1) rfl rfl (by omega)) rfl (W_q (q_assign rfl) rfl ?_)))))); clear H a; intro a H
        refine n_nil (then_normal ?_)
        obtain rfl := Option.some.inj hm
        exact round (m27, i28 + 1) H ⟨rfl, rfl, rfl, trivial⟩ ⟨hn27, hS⟩ (Nat.lt_succ_self _)
  · replace hm := condF hm hc31
    refine wp_exit (then_exit (then_exit (block_exit ?_)))
    obtain rfl := Option.some.inj hm; have hz : _ = q27 := hn27; subst hz; replace hm := hm27; try dsimp only at hm
    refine then_normal (wp_seq (wp_region_lit (n_q H (q_assign rfl) rfl ?_))); clear H a; intro a H
    refine n_nil (then_normal (wp_ret ?_))
    obtain rfl := Option.some.inj hm
    replace hS := hS.tk0
    refine ret1 H (.inr rfl) rfl rfl ?_
    exact ⟨rfl, hS.x⟩
theorem g_r11_rule15_w {w : World} {A : Nat → Addr} {cs0 : List Value} {a0 : GPlan} {cs1 : List Value} {a1 : GState} (h0 : RGPlan w cs0 a0) (h1 : RGState w cs1 a1) {r : Bool} (hm : g_r11_rule15 a0 a1 = some r) :
    Calls Tryz.prog 94 [.agg cs0.toArray, .agg cs1.toArray].toArray w (Ret fun u w' => u = .bool r ∧ Ext w w') := by
  obtain ⟨vp0_0, vp0_1, vp0_2, vp0_3, rfl, hrp0_0, hrp0_1, hrp0_2, hrp0_3⟩ := h0
  obtain ⟨vp1_0, vp1_1, vp1_2, vp1_3, vp1_4, vp1_5, vp1_6, rfl, hrp1_0, hrp1_1, hrp1_2, hrp1_3, hrp1_4, hrp1_5, hrp1_6⟩ := h1
  have hS := St.begin NB w
  unfold g_r11_rule15 at hm
  refine enter Tryz.func94 rfl rfl rfl ?_; intro a H; dsimp only [enumL, Nat.zero_add, Nat.reduceAdd] at H
  refine wp_seq (wp_region_lit (n_box H rfl (cs := [.int .i64 a0.Id, .bool a0.Mobile, vp0_0, vp0_1, vp0_2, .int .i64 a0.Events, vp0_3]) rfl rfl ?_))
  clear H; intro b21 w22 hN hE23 hs; clear a; intro a H
  replace hS := hS.newBlk hN hE23 hs; clear hN hs
  refine n_box H rfl (cs := [.int .i64 a1.Id, .int .i64 a1.Frame, .int .i64 a1.Epoch, vp1_0, vp1_1, vp1_2, vp1_3, vp1_4, vp1_5, vp1_6]) rfl rfl ?_
  clear H; intro b24 w25 hN hE26 hs; clear a; intro a H
  replace hS := hS.newBlk hN hE26 hs; clear hN hs
  refine n_q H (q_assign rfl) rfl ?_; clear H a; intro a H
  refine n_nil (then_normal (wp_seq (wp_seq (wp_region_lit (n_q H (q_assign rfl) rfl ?_))))); clear H a; intro a H
  refine n_nil (then_normal (wp_block ?_))
  replace hS := hS.pk1
  replace hm := bindS hm; obtain ⟨q27, hm, hm27⟩ := hm; replace hm := iter_some hm; obtain ⟨n27, hm⟩ := hm
  refine c_loop (σ := Nat × Nat) (fun (m, i28) => [(2, .pointer (some ⟨b21, 0, none⟩)), (3, .pointer (some ⟨b24, 0, none⟩)), (5, .int .i64 ((i28 : Nat) : Int))]) (fun (m, i28) wl => iterN (g_r11_rule15_L7 a0 a1) m i28 = some q27 ∧ St NB w wl [blkR b21 [.int .i64 a0.Id, .bool a0.Mobile, vp0_0, vp0_1, vp0_2, .int .i64 a0.Events, vp0_3] 27, blkR b24 [.int .i64 a1.Id, .int .i64 a1.Frame, .int .i64 a1.Epoch, vp1_0, vp1_1, vp1_2, vp1_3, vp1_4, vp1_5, vp1_6] 39]) (fun (m, i28) => m) (n27, 0) H ⟨rfl, rfl, rfl, trivial⟩ ⟨hm, hS⟩ ?_
  clear H hS hm a; intro xx a w29 H hR; obtain ⟨m, i28⟩ := xx; simp only [ent, List.map_cons, List.map_nil] at H; (try dsimp only at hR); obtain ⟨hm, hS⟩ := hR
  replace hm := iterN_step hm; obtain ⟨m27, o27, rfl, hm, hn27⟩ := hm; try dsimp only [g_r11_rule15_L7] at hm
  refine wp_seq (wp_seq (wp_region_lit (n_q H (q_move rfl) rfl (W_q (q_fieldAddr0 rfl fo39_3) rfl (W_q (q_load rfl ((hS.blk 1 rfl).ld ag33 rfl)) rfl ?_))))); clear H a; intro a H
  obtain ⟨A30, c30, hv30, hl30, hm30⟩ := SlR.formV (hrp1_0.ext (Flat.mono _) hS.x)
  refine n_q H (q_lenV Tryz.underlying33 rfl hv30) rfl (W_q (q_lssN (i := i28) (j := a1.Procs.length) rfl rfl) rfl ?_); clear H a; intro a H
  refine n_nil (then_normal (c_cond H rfl (fun hc31 => ?_) (fun hc31 => ?_)))
  · replace hm := condT hm hc31
    have hlt32 : i28 < a1.Procs.length := of_decide_eq_true hc31
    refine wp_skip (then_normal (wp_seq (wp_block (wp_seq (wp_region_lit (n_q H (q_fieldAddr0 rfl fo39_3) rfl (W_q (q_load rfl ((hS.blk 1 rfl).ld ag33 rfl)) rfl (W_q (q_move rfl) rfl ?_)))))))); clear H a; intro a H
    replace hm := bindS hm; obtain ⟨x33, hx33, hm⟩ := hm
    obtain ⟨adx33, hAx33⟩ := SlR.adV (hrp1_0.ext (Flat.mono _) hS.x) hv30 hx33
    refine n_q H (q_ixV (i := i28) Tryz.underlying33 sz67 rfl hv30 hAx33 rfl (natI hx33)) rfl (W_q (q_fieldAddr rfl fo67_5) rfl (W_q (q_load rfl (SlR.ldCellV (j := 20) (u := Value.int .i64 x33.Obj) (hrp1_0.ext (Flat.mono _) hS.x) hv30 hAx33 ag3 hx33 (by simp [eGProc]))) rfl (W_q (q_assign rfl) rfl ?_))); clear H a; intro a H
    refine n_nil (then_normal ?_)
    replace hm := bindS hm; obtain ⟨j34, hm, hm34⟩ := hm
    refine c_join (σ := Bool) H (fun q535 => [(2, .pointer (some ⟨b21, 0, none⟩)), (3, .pointer (some ⟨b24, 0, none⟩)), (5, .int .i64 ((i28 : Nat) : Int)), (49, .bool q535)]) (fun q535 wl => (g_r11_rule15_J6 i28) q535 = some o27 ∧ St NB w wl [blkR b21 [.int .i64 a0.Id, .bool a0.Mobile, vp0_0, vp0_1, vp0_2, .int .i64 a0.Events, vp0_3] 27, blkR b24 [.int .i64 a1.Id, .int .i64 a1.Frame, .int .i64 a1.Epoch, vp1_0, vp1_1, vp1_2, vp1_3, vp1_4, vp1_5, vp1_6] 39]) ?_ ?_
    · skip
      refine wp_region_lit (n_q H (q_fieldAddr0 rfl fo39_3) rfl (W_q (q_load rfl ((hS.blk 1 rfl).ld ag33 rfl)) rfl (W_q (q_move rfl) rfl ?_))); clear H a; intro a H
      replace hm := bindS hm; obtain ⟨x536, hx536, hm⟩ := hm
      obtain ⟨adx536, hAx536⟩ := SlR.adV (hrp1_0.ext (Flat.mono _) hS.x) hv30 hx536
      refine n_q H (q_ixV (i := i28) Tryz.underlying33 sz67 rfl hv30 hAx536 rfl (natI hx536)) rfl (W_q (q_fieldAddr rfl fo67_4) rfl (W_q (q_load rfl (SlR.ldCellV (j := 19) (u := Value.int .i64 x536.Wait) (hrp1_0.ext (Flat.mono _) hS.x) hv30 hAx536 ag3 hx536 (by simp [eGProc]))) rfl (W_q (q_eqlD rfl rfl) rfl (W_q (q_move rfl) rfl ?_)))); clear H a; intro a H
      rcases Bool.eq_false_or_eq_true (decide (x536.Wait = 3)) with hg537 | hg537
      · replace H := H.know 27 rfl hg537
        replace hm := condT hm hg537
        refine n_yes H rfl rfl (n_q H (q_move rfl) rfl (W_yes rfl rfl (W_q (q_geq rfl rfl) rfl (W_q (q_pickT rfl rfl) rfl (W_q (q_move rfl) rfl ?_))))); clear H a; intro a H
        rcases Bool.eq_false_or_eq_true (decide (0 ≤ x33.Obj)) with hg538 | hg538
        · replace H := H.know 31 rfl hg538
          replace hm := condT hm hg538
          refine n_yes H rfl rfl (n_q H (q_move rfl) rfl (W_yes rfl rfl (W_q (q_fieldAddr0 rfl fo39_7) rfl (W_yes rfl rfl (W_q (q_load rfl ((hS.blk 1 rfl).ld ag25 rfl)) rfl (W_yes rfl rfl ?_)))))); clear H a; intro a H
          obtain ⟨A539, c539, hv539, hl539, hm539⟩ := SlR.formV (hrp1_4.ext (Flat.mono _) hS.x)
          refine n_q H (q_lenV Tryz.underlying25 rfl hv539) rfl (W_yes rfl rfl (W_q (q_fieldAddr0 rfl fo27_6) rfl (W_yes rfl rfl (W_q (q_load rfl ((hS.blk 0 rfl).ld ag25 rfl)) rfl (W_yes rfl rfl ?_))))); clear H a; intro a H
          obtain ⟨A540, c540, hv540, hl540, hm540⟩ := SlR.formV (hrp0_3.ext (Flat.mono _) hS.x)
          refine n_q H (q_lenV Tryz.underlying25 rfl hv540) rfl (W_yes rfl rfl ?_); clear H a; intro a H
          replace hm := bindS hm; obtain ⟨r541, hr541, hm⟩ := hm
          refine n_call H rfl en99 (g_r11_both_w (A := A) hr541) rfl ?_
          clear H; intro x544 w542 hv; clear a; intro a H; obtain ⟨rfl, hE543⟩ := hv
          replace hS := hS.ext hE543
          refine n_yes H rfl rfl (n_q H (q_lss rfl rfl) rfl (W_q (q_pickT rfl rfl) rfl (W_q (q_move rfl) rfl ?_))); clear H a; intro a H
          rcases Bool.eq_false_or_eq_true (decide (x33.Obj < r541)) with hg545 | hg545
          · replace H := H.know 42 rfl hg545
            replace hm := condT hm hg545
            refine n_yes H rfl rfl (n_q H (q_fieldAddr0 rfl fo39_7) rfl (W_yes rfl rfl (W_q (q_load rfl ((hS.blk 1 rfl).ld ag25 rfl)) rfl (W_yes rfl rfl (W_q (q_move rfl) rfl (W_yes rfl rfl ?_)))))); clear H a; intro a H
            replace hm := bindS hm; obtain ⟨x546, hx546, hm⟩ := hm
            obtain ⟨h0x546, h1x546, hxx546⟩ := rdI_some hx546
            obtain ⟨adx546, hAx546⟩ := SlR.adV (hrp1_4.ext (Flat.mono _) hS.x) hv539 hxx546
            refine n_q H (q_ixVI Tryz.underlying25 sz3 rfl hv539 hAx546 rfl h0x546 h1x546) rfl (W_yes rfl rfl (W_q (q_load rfl (SlR.ldOneV (hrp1_4.ext (Flat.mono _) hS.x) hv539 hAx546 ag3 hxx546 rfl)) rfl (W_yes rfl rfl (W_q (q_neqD rfl rfl) rfl (W_q (q_pickT rfl rfl) rfl ?_))))); clear H a; intro a H
            refine n_nil (then_normal ?_)
            obtain rfl := Option.some.inj hm; replace hm := hm34; try dsimp only at hm
            exact join (!decide (x546 = 0)) H ⟨rfl, rfl, rfl, rfl, trivial⟩ ⟨hm, hS⟩
          · replace H := H.know 42 rfl hg545
            replace hm := condF hm hg545
            refine n_no H rfl rfl (by decide) rfl (W_no rfl rfl (by decide) rfl (W_no rfl rfl (by decide) rfl (W_no rfl rfl (by decide) rfl (W_no rfl rfl (by decide) rfl (W_no rfl rfl (by decide) rfl (W_q (q_pickF rfl rfl) rfl ?_)))))); clear H a; intro a H
            refine n_nil (then_normal ?_)
            obtain rfl := Option.some.inj hm; replace hm := hm34; try dsimp only at hm
            exact join false H ⟨rfl, rfl, rfl, rfl, trivial⟩ ⟨hm, hS⟩
        · replace H := H.know 31 rfl hg538
          replace hm := condF hm hg538
          refine n_no H rfl rfl (by decide) rfl (W_no rfl rfl (by decide) rfl (W_no rfl rfl (by decide) rfl (W_no rfl rfl (by decide) rfl (W_no rfl rfl (by decide) rfl (W_no rfl rfl (by decide) rfl (W_no rfl rfl (by decide) rfl (W_no rfl rfl (by decide) rfl (W_no rfl rfl (by decide) rfl (W_q (q_pickF rfl rfl) rfl (W_q (q_move rfl) rfl (W_no rfl rfl (by decide) rfl ?_))))))))))); clear H a; intro a H
          refine n_no H rfl rfl (by decide) rfl (W_no rfl rfl (by decide) rfl (W_no rfl rfl (by decide) rfl (W_no rfl rfl (by decide) rfl (W_no rfl rfl (by decide) rfl (W_q (q_pickF rfl rfl) rfl ?_))))); clear H a; intro a H
          refine n_nil (then_normal ?_)
          obtain rfl := Option.some.inj hm; replace hm := hm34; try dsimp only at hm
          exact join false H ⟨rfl, rfl, rfl, rfl, trivial⟩ ⟨hm, hS⟩
      · replace H := H.know 27 rfl hg537
        replace hm := condF hm hg537
        refine n_no H rfl rfl (by decide) rfl (W_no rfl rfl (by decide) rfl (W_q (q_pickF rfl rfl) rfl (W_q (q_move rfl) rfl (W_no rfl rfl (by decide) rfl (W_no rfl rfl (by decide) rfl (W_no rfl rfl (by decide) rfl (W_no rfl rfl (by decide) rfl (W_no rfl rfl (by decide) rfl (W_no rfl rfl (by decide) rfl (W_no rfl rfl (by decide) rfl (W_no rfl rfl (by decide) rfl ?_))))))))))); clear H a; intro a H
        refine n_no H rfl rfl (by decide) rfl (W_q (q_pickF rfl rfl) rfl (W_q (q_move rfl) rfl (W_no rfl rfl (by decide) rfl (W_no rfl rfl (by decide) rfl (W_no rfl rfl (by decide) rfl (W_no rfl rfl (by decide) rfl (W_no rfl rfl (by decide) rfl (W_no rfl rfl (by decide) rfl (W_q (q_pickF rfl rfl) rfl ?_))))))))); clear H a; intro a H
        refine n_nil (then_normal ?_)
        obtain rfl := Option.some.inj hm; replace hm := hm34; try dsimp only at hm
        exact join false H ⟨rfl, rfl, rfl, rfl, trivial⟩ ⟨hm, hS⟩
    · clear H hS hm a; intro q535 a w547 H hR
      simp only [ent, List.map_cons, List.map_nil] at H; (try dsimp only at hR); obtain ⟨hm, hS⟩ := hR; try dsimp only [g_r11_rule15_J6] at hm
      refine c_cond H rfl (fun hc548 => ?_) (fun hc548 => ?_)
      · replace hm := condT hm hc548
        refine wp_seq (wp_region_lit (n_q H (q_assign rfl) rfl ?_)); clear H a; intro a H
        refine n_nil (then_normal (wp_ret (block_ret (then_ret (then_ret (block_ret (then_ret ?_)))))))
        obtain rfl := Option.some.inj hm; have hz : _ = q27 := hn27; subst hz; replace hm := hm27; try dsimp only at hm
        obtain rfl := Option.some.inj hm
        replace hS := hS.tk0
        refine ret1 H (.inr rfl) rfl rfl ?_
        exact ⟨rfl, hS.x⟩
      · replace hm := condF hm hc548
        refine wp_skip (block_normal (then_normal (wp_region_lit (n_q H (q_move rfl) rfl (W_q (q_incr (i := i28) (j := 1) rfl rfl (by omega)) rfl (W_q (q_assign rfl) rfl ?_)))))); clear H a; intro a H
        refine n_nil (then_normal ?_)
        obtain rfl := Option.some.inj hm
        exact round (m27, i28 + 1) H ⟨rfl, rfl, rfl, trivial⟩ ⟨hn27, hS⟩ (Nat.lt_succ_self _)
  · replace hm := condF hm hc31
    refine wp_exit (then_exit (then_exit (block_exit ?_)))
    obtain rfl := Option.some.inj hm; have hz : _ = q27 := hn27; subst hz; replace hm := hm27; try dsimp only at hm
    refine then_normal (wp_seq (wp_region_lit (n_q H (q_assign rfl) rfl ?_))); clear H a; intro a H
    refine n_nil (then_normal (wp_ret ?_))
    obtain rfl := Option.some.inj hm
    replace hS := hS.tk0
    refine ret1 H (.inr rfl) rfl rfl ?_
    exact ⟨rfl, hS.x⟩
theorem g_r11_rule16_w {w : World} {A : Nat → Addr} {cs0 : List Value} {a0 : GPlan} {cs1 : List Value} {a1 : GState} (h0 : RGPlan w cs0 a0) (h1 : RGState w cs1 a1) {r : Bool} (hm : g_r11_rule16 a0 a1 = some r) :
    Calls Tryz.prog 95 [.agg cs0.toArray, .agg cs1.toArray].toArray w (Ret fun u w' => u = .bool r ∧ Ext w w') := by
  obtain ⟨vp0_0, vp0_1, vp0_2, vp0_3, rfl, hrp0_0, hrp0_1, hrp0_2, hrp0_3⟩ := h0
  obtain ⟨vp1_0, vp1_1, vp1_2, vp1_3, vp1_4, vp1_5, vp1_6, rfl, hrp1_0, hrp1_1, hrp1_2, hrp1_3, hrp1_4, hrp1_5, hrp1_6⟩ := h1
  have hS := St.begin NB w
  unfold g_r11_rule16 at hm
  refine enter Tryz.func95 rfl rfl rfl ?_; intro a H; dsimp only [enumL, Nat.zero_add, Nat.reduceAdd] at H
  refine wp_seq (wp_region_lit (n_box H rfl (cs := [.int .i64 a0.Id, .bool a0.Mobile, vp0_0, vp0_1, vp0_2, .int .i64 a0.Events, vp0_3]) rfl rfl ?_))
  clear H; intro b21 w22 hN hE23 hs; clear a; intro a H
  replace hS := hS.newBlk hN hE23 hs; clear hN hs
  refine n_box H rfl (cs := [.int .i64 a1.Id, .int .i64 a1.Frame, .int .i64 a1.Epoch, vp1_0, vp1_1, vp1_2, vp1_3, vp1_4, vp1_5, vp1_6]) rfl rfl ?_
  clear H; intro b24 w25 hN hE26 hs; clear a; intro a H
  replace hS := hS.newBlk hN hE26 hs; clear hN hs
  refine n_q H (q_assign rfl) rfl ?_; clear H a; intro a H
  refine n_nil (then_normal (wp_seq (wp_seq (wp_region_lit (n_q H (q_assign rfl) rfl ?_))))); clear H a; intro a H
  refine n_nil (then_normal (wp_block ?_))
  replace hS := hS.pk1
  replace hm := bindS hm; obtain ⟨q27, hm, hm27⟩ := hm; replace hm := iter_some hm; obtain ⟨n27, hm⟩ := hm
  refine c_loop (σ := Nat × Nat) (fun (m, i28) => [(2, .pointer (some ⟨b21, 0, none⟩)), (3, .pointer (some ⟨b24, 0, none⟩)), (5, .int .i64 ((i28 : Nat) : Int))]) (fun (m, i28) wl => iterN (g_r11_rule16_L31 a0 a1) m i28 = some q27 ∧ St NB w wl [blkR b21 [.int .i64 a0.Id, .bool a0.Mobile, vp0_0, vp0_1, vp0_2, .int .i64 a0.Events, vp0_3] 27, blkR b24 [.int .i64 a1.Id, .int .i64 a1.Frame, .int .i64 a1.Epoch, vp1_0, vp1_1, vp1_2, vp1_3, vp1_4, vp1_5, vp1_6] 39]) (fun (m, i28) => m) (n27, 0) H ⟨rfl, rfl, rfl, trivial⟩ ⟨hm, hS⟩ ?_
  clear H hS hm a; intro xx a w29 H hR; obtain ⟨m, i28⟩ := xx; simp only [ent, List.map_cons, List.map_nil] at H; (try dsimp only at hR); obtain ⟨hm, hS⟩ := hR
  replace hm := iterN_step hm; obtain ⟨m27, o27, rfl, hm, hn27⟩ := hm; try dsimp only [g_r11_rule16_L31] at hm
  refine wp_seq (wp_seq (wp_region_lit (n_q H (q_move rfl) rfl (W_q (q_fieldAddr0 rfl fo39_3) rfl (W_q (q_load rfl ((hS.blk 1 rfl).ld ag33 rfl)) rfl ?_))))); clear H a; intro a H
  obtain ⟨A30, c30, hv30, hl30, hm30⟩ := SlR.formV (hrp1_0.ext (Flat.mono _) hS.x)
  refine n_q H (q_lenV Tryz.underlying33 rfl hv30) rfl (W_q (q_lssN (i := i28) (j := a1.Procs.length) rfl rfl) rfl ?_); clear H a; intro a H
  refine n_nil (then_normal (c_cond H rfl (fun hc31 => ?_) (fun hc31 => ?_)))
  · replace hm := condT hm hc31
    have hlt32 : i28 < a1.Procs.length := of_decide_eq_true hc31
    refine wp_skip (then_normal ?_)
    replace hm := bindS hm; obtain ⟨j33, hm, hm33⟩ := hm
    refine c_join (σ := Unit) H (fun u_ => [(2, .pointer (some ⟨b21, 0, none⟩)), (3, .pointer (some ⟨b24, 0, none⟩)), (5, .int .i64 ((i28 : Nat) : Int))]) (fun u_ wl => (g_r11_rule16_J30 i28) () = some o27 ∧ St NB w wl [blkR b21 [.int .i64 a0.Id, .bool a0.Mobile, vp0_0, vp0_1, vp0_2, .int .i64 a0.Events, vp0_3] 27, blkR b24 [.int .i64 a1.Id, .int .i64 a1.Frame, .int .i64 a1.Epoch, vp1_0, vp1_1, vp1_2, vp1_3, vp1_4, vp1_5, vp1_6] 39]) ?_ ?_
    · skip
      refine wp_block (wp_seq (wp_region_lit (n_q H (q_fieldAddr0 rfl fo39_3) rfl (W_q (q_load rfl ((hS.blk 1 rfl).ld ag33 rfl)) rfl (W_q (q_move rfl) rfl ?_))))); clear H a; intro a H
      replace hm := bindS hm; obtain ⟨x534, hx534, hm⟩ := hm
      obtain ⟨adx534, hAx534⟩ := SlR.adV (hrp1_0.ext (Flat.mono _) hS.x) hv30 hx534
      refine n_q H (q_ixV (i := i28) Tryz.underlying33 sz67 rfl hv30 hAx534 rfl (natI hx534)) rfl (W_q (q_fieldAddr rfl fo67_5) rfl (W_q (q_load rfl (SlR.ldCellV (j := 20) (u := Value.int .i64 x534.Obj) (hrp1_0.ext (Flat.mono _) hS.x) hv30 hAx534 ag3 hx534 (by simp [eGProc]))) rfl (W_q (q_assign rfl) rfl ?_))); clear H a; intro a H
      refine n_nil (then_normal (wp_seq ?_))
      replace hm := bindS hm; obtain ⟨j535, hm, hm535⟩ := hm
      refine c_join (σ := Bool) H (fun q1036 => [(2, .pointer (some ⟨b21, 0, none⟩)), (3, .pointer (some ⟨b24, 0, none⟩)), (5, .int .i64 ((i28 : Nat) : Int)), (6, .int .i64 x534.Obj), (42, .bool q1036)]) (fun q1036 wl => (g_r11_rule16_J29 a0 a1 x534) q1036 = some j33 ∧ St NB w wl [blkR b21 [.int .i64 a0.Id, .bool a0.Mobile, vp0_0, vp0_1, vp0_2, .int .i64 a0.Events, vp0_3] 27, blkR b24 [.int .i64 a1.Id, .int .i64 a1.Frame, .int .i64 a1.Epoch, vp1_0, vp1_1, vp1_2, vp1_3, vp1_4, vp1_5, vp1_6] 39]) ?_ ?_
      · skip
        refine wp_region_lit (n_q H (q_fieldAddr0 rfl fo39_3) rfl (W_q (q_load rfl ((hS.blk 1 rfl).ld ag33 rfl)) rfl (W_q (q_move rfl) rfl ?_))); clear H a; intro a H
        replace hm := bindS hm; obtain ⟨x1037, hx1037, hm⟩ := hm
        obtain ⟨adx1037, hAx1037⟩ := SlR.adV (hrp1_0.ext (Flat.mono _) hS.x) hv30 hx1037
        refine n_q H (q_ixV (i := i28) Tryz.underlying33 sz67 rfl hv30 hAx1037 rfl (natI hx1037)) rfl (W_q (q_fieldAddr rfl fo67_4) rfl (W_q (q_load rfl (SlR.ldCellV (j := 19) (u := Value.int .i64 x1037.Wait) (hrp1_0.ext (Flat.mono _) hS.x) hv30 hAx1037 ag3 hx1037 (by simp [eGProc]))) rfl (W_q (q_neqD rfl rfl) rfl (W_q (q_move rfl) rfl ?_)))); clear H a; intro a H
        rcases Bool.eq_false_or_eq_true (!decide (x1037.Wait = 4)) with hg1038 | hg1038
        · replace H := H.know 28 rfl hg1038
          replace hm := condT hm hg1038
          refine n_no H rfl rfl (by decide) rfl (W_no rfl rfl (by decide) rfl (W_q (q_pickT rfl rfl) rfl (W_q (q_move rfl) rfl (W_no rfl rfl (by decide) rfl (W_no rfl rfl (by decide) rfl (W_no rfl rfl (by decide) rfl (W_no rfl rfl (by decide) rfl (W_no rfl rfl (by decide) rfl (W_no rfl rfl (by decide) rfl (W_no rfl rfl (by decide) rfl (W_no rfl rfl (by decide) rfl ?_))))))))))); clear H a; intro a H
          refine n_no H rfl rfl (by decide) rfl (W_q (q_pickT rfl rfl) rfl ?_); clear H a; intro a H
          refine n_nil (then_normal ?_)
          obtain rfl := Option.some.inj hm; replace hm := hm535; try dsimp only at hm
          exact join true H ⟨rfl, rfl, rfl, rfl, rfl, trivial⟩ ⟨hm, hS⟩
        · replace H := H.know 28 rfl hg1038
          replace hm := condF hm hg1038
          refine n_yes H rfl rfl (n_q H (q_move rfl) rfl (W_yes rfl rfl (W_q (q_lss rfl rfl) rfl (W_q (q_pickF rfl rfl) rfl (W_q (q_move rfl) rfl ?_))))); clear H a; intro a H
          rcases Bool.eq_false_or_eq_true (decide (x534.Obj < 0)) with hg1039 | hg1039
          · replace H := H.know 32 rfl hg1039
            replace hm := condT hm hg1039
            refine n_no H rfl rfl (by decide) rfl (W_no rfl rfl (by decide) rfl (W_no rfl rfl (by decide) rfl (W_no rfl rfl (by decide) rfl (W_no rfl rfl (by decide) rfl (W_no rfl rfl (by decide) rfl (W_no rfl rfl (by decide) rfl (W_no rfl rfl (by decide) rfl (W_no rfl rfl (by decide) rfl (W_q (q_pickT rfl rfl) rfl ?_))))))))); clear H a; intro a H
            refine n_nil (then_normal ?_)
            obtain rfl := Option.some.inj hm; replace hm := hm535; try dsimp only at hm
            exact join true H ⟨rfl, rfl, rfl, rfl, rfl, trivial⟩ ⟨hm, hS⟩
          · replace H := H.know 32 rfl hg1039
            replace hm := condF hm hg1039
            refine n_yes H rfl rfl (n_q H (q_move rfl) rfl (W_yes rfl rfl (W_q (q_fieldAddr0 rfl fo39_8) rfl (W_yes rfl rfl (W_q (q_load rfl ((hS.blk 1 rfl).ld ag36 rfl)) rfl (W_yes rfl rfl ?_)))))); clear H a; intro a H
            obtain ⟨A1040, c1040, hv1040, hl1040, hm1040⟩ := SlR.formV (hrp1_5.ext RGPort.mono hS.x)
            refine n_q H (q_lenV Tryz.underlying36 rfl hv1040) rfl (W_yes rfl rfl (W_q (q_fieldAddr0 rfl fo27_4) rfl (W_yes rfl rfl (W_q (q_load rfl ((hS.blk 0 rfl).ld ag24 rfl)) rfl (W_yes rfl rfl ?_))))); clear H a; intro a H
            obtain ⟨A1041, c1041, hv1041, hl1041, hm1041⟩ := SlR.formV (hrp0_2.ext (Flat.mono _) hS.x)
            refine n_q H (q_lenV Tryz.underlying24 rfl hv1041) rfl (W_yes rfl rfl ?_); clear H a; intro a H
            replace hm := bindS hm; obtain ⟨r1042, hr1042, hm⟩ := hm
            refine n_call H rfl en99 (g_r11_both_w (A := A) hr1042) rfl ?_
            clear H; intro x1045 w1043 hv; clear a; intro a H; obtain ⟨rfl, hE1044⟩ := hv
            replace hS := hS.ext hE1044
            refine n_yes H rfl rfl (n_q H (q_geq rfl rfl) rfl (W_q (q_pickF rfl rfl) rfl ?_)); clear H a; intro a H
            refine n_nil (then_normal ?_)
            obtain rfl := Option.some.inj hm; replace hm := hm535; try dsimp only at hm
            exact join (decide (r1042 ≤ x534.Obj)) H ⟨rfl, rfl, rfl, rfl, rfl, trivial⟩ ⟨hm, hS⟩
      · clear H hS hm a; intro q1036 a w1046 H hR
        simp only [ent, List.map_cons, List.map_nil] at H; (try dsimp only at hR); obtain ⟨hm, hS⟩ := hR; try dsimp only [g_r11_rule16_J29] at hm
        refine c_cond H rfl (fun hc1047 => ?_) (fun hc1047 => ?_)
        · replace hm := condT hm hc1047
          refine wp_exit (then_exit (block_exit (then_normal ?_)))
          obtain rfl := Option.some.inj hm; replace hm := hm33; try dsimp only at hm
          exact join () H ⟨rfl, rfl, rfl, trivial⟩ ⟨hm, hS⟩
        · replace hm := condF hm hc1047
          refine wp_skip (then_normal (wp_seq (wp_region_lit (n_q H (q_fieldAddr0 rfl fo39_8) rfl (W_q (q_load rfl ((hS.blk 1 rfl).ld ag36 rfl)) rfl (W_q (q_move rfl) rfl ?_)))))); clear H a; intro a H
          obtain ⟨A1048, c1048, hv1048, hl1048, hm1048⟩ := SlR.formV (hrp1_5.ext RGPort.mono hS.x)
          replace hm := bindS hm; obtain ⟨x1049, hx1049, hm⟩ := hm
          obtain ⟨h0x1049, h1x1049, hxx1049⟩ := rdI_some hx1049
          obtain ⟨adx1049, hAx1049⟩ := SlR.adV (hrp1_5.ext RGPort.mono hS.x) hv1048 hxx1049
          obtain ⟨csx1049, hclx1049, ⟨vx1049_0, rfl, hrx1049_0⟩, hcx1049⟩ := SlR.elV hrp1_5 hv1048 hAx1049 hxx1049
          refine n_q H (q_ixVI Tryz.underlying36 sz76 rfl hv1048 hAx1049 rfl h0x1049 h1x1049) rfl (W_q (q_fieldAddr rfl fo76_0) rfl (W_q (q_load rfl (LdX.ext (ldElC (j := 0) ag74 hcx1049 rfl) hS.x)) rfl ?_)); clear H a; intro a H
          obtain ⟨A1050, c1050, hv1050, hl1050, hm1050⟩ := SlR.formV (hrx1049_0.ext (Flat.mono _) hS.x)
          refine n_q H (q_lenV Tryz.underlying74 rfl hv1050) rfl (W_q (q_assign rfl) rfl ?_); clear H a; intro a H
          refine n_nil (then_normal ?_)
          replace hm := bindS hm; obtain ⟨j1051, hm, hm1051⟩ := hm
          refine c_join (σ := Bool) H (fun q1552 => [(2, .pointer (some ⟨b21, 0, none⟩)), (3, .pointer (some ⟨b24, 0, none⟩)), (5, .int .i64 ((i28 : Nat) : Int)), (79, .bool q1552)]) (fun q1552 wl => g_r11_rule16_J28 q1552 = some j33 ∧ St NB w wl [blkR b21 [.int .i64 a0.Id, .bool a0.Mobile, vp0_0, vp0_1, vp0_2, .int .i64 a0.Events, vp0_3] 27, blkR b24 [.int .i64 a1.Id, .int .i64 a1.Frame, .int .i64 a1.Epoch, vp1_0, vp1_1, vp1_2, vp1_3, vp1_4, vp1_5, vp1_6] 39]) ?_ ?_
          · skip
            refine wp_region_lit (n_q H (q_fieldAddr0 rfl fo27_4) rfl (W_q (q_load rfl ((hS.blk 0 rfl).ld ag24 rfl)) rfl (W_q (q_move rfl) rfl ?_))); clear H a; intro a H
            obtain ⟨A1553, c1553, hv1553, hl1553, hm1553⟩ := SlR.formV (hrp0_2.ext (Flat.mono _) hS.x)
            replace hm := bindS hm; obtain ⟨x1554, hx1554, hm⟩ := hm
            obtain ⟨h0x1554, h1x1554, hxx1554⟩ := rdI_some hx1554
            obtain ⟨adx1554, hAx1554⟩ := SlR.adV (hrp0_2.ext (Flat.mono _) hS.x) hv1553 hxx1554
            refine n_q H (q_ixVI Tryz.underlying24 sz78 rfl hv1553 hAx1554 rfl h0x1554 h1x1554) rfl (W_q (q_fieldAddr rfl fo78_0) rfl (W_q (q_load rfl (SlR.ldCellV (j := 0) (hrp0_2.ext (Flat.mono _) hS.x) hv1553 hAx1554 ag3 hxx1554 rfl)) rfl (W_q (q_eqlD rfl rfl) rfl (W_q (q_move rfl) rfl ?_)))); clear H a; intro a H
            rcases Bool.eq_false_or_eq_true (decide (x1554.Kind = 3)) with hg1555 | hg1555
            · replace H := H.know 57 rfl hg1555
              replace hm := condT hm hg1555
              refine n_yes H rfl rfl (n_q H (q_move rfl) rfl (W_yes rfl rfl (W_q (q_neqN (i := x1049.Msgs.length) (j := 0) rfl rfl) rfl (W_q (q_pickT rfl rfl) rfl (W_q (q_move rfl) rfl ?_))))); clear H a; intro a H
              rcases Bool.eq_false_or_eq_true (!decide (x1049.Msgs.length = 0)) with hg1556 | hg1556
              · replace H := H.know 61 rfl hg1556
                replace hm := condT hm hg1556
                refine n_no H rfl rfl (by decide) rfl (W_no rfl rfl (by decide) rfl (W_no rfl rfl (by decide) rfl (W_no rfl rfl (by decide) rfl (W_no rfl rfl (by decide) rfl (W_no rfl rfl (by decide) rfl (W_no rfl rfl (by decide) rfl (W_no rfl rfl (by decide) rfl (W_noU rfl rfl rfl (W_noU rfl rfl rfl (W_noU rfl rfl rfl (W_noU rfl rfl rfl ?_))))))))))); clear H a; intro a H
                refine n_noU H rfl rfl rfl (W_noU rfl rfl rfl (W_noU rfl rfl rfl (W_noU rfl rfl rfl (W_no rfl rfl (by decide) rfl (W_q (q_pickT rfl rfl) rfl ?_))))); clear H a; intro a H
                refine n_nil (then_normal ?_)
                obtain rfl := Option.some.inj hm; replace hm := hm1051; try dsimp only at hm
                exact join true H ⟨rfl, rfl, rfl, rfl, trivial⟩ ⟨hm, hS⟩
              · replace H := H.know 61 rfl hg1556
                replace hm := condF hm hg1556
                refine n_yes H rfl rfl (n_q H (q_fieldAddr0 rfl fo27_4) rfl (W_yes rfl rfl (W_q (q_load rfl ((hS.blk 0 rfl).ld ag24 rfl)) rfl (W_yes rfl rfl (W_q (q_move rfl) rfl (W_yes rfl rfl ?_)))))); clear H a; intro a H
                replace hm := bindS hm; obtain ⟨x1557, hx1557, hm⟩ := hm
                obtain ⟨h0x1557, h1x1557, hxx1557⟩ := rdI_some hx1557
                obtain ⟨adx1557, hAx1557⟩ := SlR.adV (hrp0_2.ext (Flat.mono _) hS.x) hv1553 hxx1557
                refine n_q H (q_ixVI Tryz.underlying24 sz78 rfl hv1553 hAx1557 rfl h0x1557 h1x1557) rfl (W_yes rfl rfl (W_q (q_fieldAddr rfl fo78_0) rfl (W_yes rfl rfl (W_q (q_load rfl (SlR.ldCellV (j := 0) (hrp0_2.ext (Flat.mono _) hS.x) hv1553 hAx1557 ag3 hxx1557 rfl)) rfl (W_yes rfl rfl (W_q (q_eqlD rfl rfl) rfl (W_yes rfl rfl (W_q (q_move rfl) rfl ?_)))))))); clear H a; intro a H
                rcases Bool.eq_false_or_eq_true (decide (x1557.Kind = 4)) with hg1558 | hg1558
                · replace H := H.know 69 rfl hg1558
                  replace hm := condT hm hg1558
                  refine n_yes H rfl rfl (n_q H (q_move rfl) rfl (W_yes rfl rfl (W_q (q_fieldAddr0 rfl fo27_4) rfl (W_yes rfl rfl (W_q (q_load rfl ((hS.blk 0 rfl).ld ag24 rfl)) rfl (W_yes rfl rfl (W_q (q_move rfl) rfl (W_yes rfl rfl ?_)))))))); clear H a; intro a H
                  replace hm := bindS hm; obtain ⟨x1559, hx1559, hm⟩ := hm
                  obtain ⟨h0x1559, h1x1559, hxx1559⟩ := rdI_some hx1559
                  obtain ⟨adx1559, hAx1559⟩ := SlR.adV (hrp0_2.ext (Flat.mono _) hS.x) hv1553 hxx1559
                  refine n_q H (q_ixVI Tryz.underlying24 sz78 rfl hv1553 hAx1559 rfl h0x1559 h1x1559) rfl (W_yes rfl rfl (W_q (q_fieldAddr rfl fo78_2) rfl (W_yes rfl rfl (W_q (q_load rfl (SlR.ldCellV (j := 2) (hrp0_2.ext (Flat.mono _) hS.x) hv1553 hAx1559 ag3 hxx1559 rfl)) rfl (W_yes rfl rfl (W_q (q_neqD rfl rfl) rfl (W_yes rfl rfl (W_q (q_pickT rfl rfl) rfl (W_q (q_pickF rfl rfl) rfl ?_))))))))); clear H a; intro a H
                  refine n_nil (then_normal ?_)
                  obtain rfl := Option.some.inj hm; replace hm := hm1051; try dsimp only at hm
                  exact join (!decide (((x1049.Msgs.length : Nat) : Int) = x1559.Depth)) H ⟨rfl, rfl, rfl, rfl, trivial⟩ ⟨hm, hS⟩
                · replace H := H.know 69 rfl hg1558
                  replace hm := condF hm hg1558
                  refine n_no H rfl rfl (by decide) rfl (W_no rfl rfl (by decide) rfl (W_no rfl rfl (by decide) rfl (W_no rfl rfl (by decide) rfl (W_no rfl rfl (by decide) rfl (W_no rfl rfl (by decide) rfl (W_no rfl rfl (by decide) rfl (W_no rfl rfl (by decide) rfl (W_yes rfl rfl (W_q (q_pickF rfl rfl) rfl (W_q (q_pickF rfl rfl) rfl ?_)))))))))); clear H a; intro a H
                  refine n_nil (then_normal ?_)
                  obtain rfl := Option.some.inj hm; replace hm := hm1051; try dsimp only at hm
                  exact join false H ⟨rfl, rfl, rfl, rfl, trivial⟩ ⟨hm, hS⟩
            · replace H := H.know 57 rfl hg1555
              replace hm := condF hm hg1555
              refine n_no H rfl rfl (by decide) rfl (W_no rfl rfl (by decide) rfl (W_q (q_pickF rfl rfl) rfl (W_q (q_move rfl) rfl (W_yes rfl rfl (W_q (q_fieldAddr0 rfl fo27_4) rfl (W_yes rfl rfl (W_q (q_load rfl ((hS.blk 0 rfl).ld ag24 rfl)) rfl (W_yes rfl rfl (W_q (q_move rfl) rfl (W_yes rfl rfl ?_)))))))))); clear H a; intro a H
              replace hm := bindS hm; obtain ⟨x1560, hx1560, hm⟩ := hm
              obtain ⟨h0x1560, h1x1560, hxx1560⟩ := rdI_some hx1560
              obtain ⟨adx1560, hAx1560⟩ := SlR.adV (hrp0_2.ext (Flat.mono _) hS.x) hv1553 hxx1560
              refine n_q H (q_ixVI Tryz.underlying24 sz78 rfl hv1553 hAx1560 rfl h0x1560 h1x1560) rfl (W_yes rfl rfl (W_q (q_fieldAddr rfl fo78_0) rfl (W_yes rfl rfl (W_q (q_load rfl (SlR.ldCellV (j := 0) (hrp0_2.ext (Flat.mono _) hS.x) hv1553 hAx1560 ag3 hxx1560 rfl)) rfl (W_yes rfl rfl (W_q (q_eqlD rfl rfl) rfl (W_yes rfl rfl (W_q (q_move rfl) rfl ?_)))))))); clear H a; intro a H
              rcases Bool.eq_false_or_eq_true (decide (x1560.Kind = 4)) with hg1561 | hg1561
              · replace H := H.know 69 rfl hg1561
                replace hm := condT hm hg1561
                refine n_yes H rfl rfl (n_q H (q_move rfl) rfl (W_yes rfl rfl (W_q (q_fieldAddr0 rfl fo27_4) rfl (W_yes rfl rfl (W_q (q_load rfl ((hS.blk 0 rfl).ld ag24 rfl)) rfl (W_yes rfl rfl (W_q (q_move rfl) rfl (W_yes rfl rfl ?_)))))))); clear H a; intro a H
                replace hm := bindS hm; obtain ⟨x1562, hx1562, hm⟩ := hm
                obtain ⟨h0x1562, h1x1562, hxx1562⟩ := rdI_some hx1562
                obtain ⟨adx1562, hAx1562⟩ := SlR.adV (hrp0_2.ext (Flat.mono _) hS.x) hv1553 hxx1562
                refine n_q H (q_ixVI Tryz.underlying24 sz78 rfl hv1553 hAx1562 rfl h0x1562 h1x1562) rfl (W_yes rfl rfl (W_q (q_fieldAddr rfl fo78_2) rfl (W_yes rfl rfl (W_q (q_load rfl (SlR.ldCellV (j := 2) (hrp0_2.ext (Flat.mono _) hS.x) hv1553 hAx1562 ag3 hxx1562 rfl)) rfl (W_yes rfl rfl (W_q (q_neqD rfl rfl) rfl (W_yes rfl rfl (W_q (q_pickT rfl rfl) rfl (W_q (q_pickF rfl rfl) rfl ?_))))))))); clear H a; intro a H
                refine n_nil (then_normal ?_)
                obtain rfl := Option.some.inj hm; replace hm := hm1051; try dsimp only at hm
                exact join (!decide (((x1049.Msgs.length : Nat) : Int) = x1562.Depth)) H ⟨rfl, rfl, rfl, rfl, trivial⟩ ⟨hm, hS⟩
              · replace H := H.know 69 rfl hg1561
                replace hm := condF hm hg1561
                refine n_no H rfl rfl (by decide) rfl (W_no rfl rfl (by decide) rfl (W_no rfl rfl (by decide) rfl (W_no rfl rfl (by decide) rfl (W_no rfl rfl (by decide) rfl (W_no rfl rfl (by decide) rfl (W_no rfl rfl (by decide) rfl (W_no rfl rfl (by decide) rfl (W_yes rfl rfl (W_q (q_pickF rfl rfl) rfl (W_q (q_pickF rfl rfl) rfl ?_)))))))))); clear H a; intro a H
                refine n_nil (then_normal ?_)
                obtain rfl := Option.some.inj hm; replace hm := hm1051; try dsimp only at hm
                exact join false H ⟨rfl, rfl, rfl, rfl, trivial⟩ ⟨hm, hS⟩
          · clear H hS hm a; intro q1552 a w1563 H hR
            simp only [ent, List.map_cons, List.map_nil] at H; (try dsimp only at hR); obtain ⟨hm, hS⟩ := hR; try dsimp only [g_r11_rule16_J28] at hm
            refine c_cond H rfl (fun hc1564 => ?_) (fun hc1564 => ?_)
            · replace hm := condT hm hc1564
              refine wp_seq (wp_region_lit (n_q H (q_assign rfl) rfl ?_)); clear H a; intro a H
              refine n_nil (then_normal (wp_ret (block_ret (then_ret (then_ret (block_ret (then_ret ?_)))))))
              obtain rfl := Option.some.inj hm; replace hm := hm33; try dsimp only at hm
              obtain rfl := Option.some.inj hm; have hz : _ = q27 := hn27; subst hz; replace hm := hm27; try dsimp only at hm
              obtain rfl := Option.some.inj hm
              replace hS := hS.tk0
              refine ret1 H (.inr rfl) rfl rfl ?_
              exact ⟨rfl, hS.x⟩
            · replace hm := condF hm hc1564
              refine wp_skip (block_normal (then_normal ?_))
              obtain rfl := Option.some.inj hm; replace hm := hm33; try dsimp only at hm
              exact join () H ⟨rfl, rfl, rfl, trivial⟩ ⟨hm, hS⟩
    · clear H hS hm a; intro u_ a w1565 H hR
      simp only [ent, List.map_cons, List.map_nil] at H; (try dsimp only at hR); obtain ⟨hm, hS⟩ := hR; try dsimp only [g_r11_rule16_J30] at hm
      refine wp_region_lit (n_q H (q_move rfl) rfl (W_q (q_incr (i := i28) (j := 1) rfl rfl (by omega)) rfl (W_q (q_assign rfl) rfl ?_))); clear H a; intro a H
      refine n_nil (then_normal ?_)
      obtain rfl := Option.some.inj hm
      exact round (m27, i28 + 1) H ⟨rfl, rfl, rfl, trivial⟩ ⟨hn27, hS⟩ (Nat.lt_succ_self _)
  · replace hm := condF hm hc31
    refine wp_exit (then_exit (then_exit (block_exit ?_)))
    obtain rfl := Option.some.inj hm; have hz : _ = q27 := hn27; subst hz; replace hm := hm27; try dsimp only at hm
    refine then_normal (wp_seq (wp_region_lit (n_q H (q_assign rfl) rfl ?_))); clear H a; intro a H
    refine n_nil (then_normal (wp_ret ?_))
    obtain rfl := Option.some.inj hm
    replace hS := hS.tk0
    refine ret1 H (.inr rfl) rfl rfl ?_
    exact ⟨rfl, hS.x⟩
theorem g_r11_rule17_w {w : World} {A : Nat → Addr} {cs0 : List Value} {a0 : GPlan} {cs1 : List Value} {a1 : GState} (h0 : RGPlan w cs0 a0) (h1 : RGState w cs1 a1) {r : Bool} (hm : g_r11_rule17 a0 a1 = some r) :
    Calls Tryz.prog 96 [.agg cs0.toArray, .agg cs1.toArray].toArray w (Ret fun u w' => u = .bool r ∧ Ext w w') := by
  obtain ⟨vp0_0, vp0_1, vp0_2, vp0_3, rfl, hrp0_0, hrp0_1, hrp0_2, hrp0_3⟩ := h0
  obtain ⟨vp1_0, vp1_1, vp1_2, vp1_3, vp1_4, vp1_5, vp1_6, rfl, hrp1_0, hrp1_1, hrp1_2, hrp1_3, hrp1_4, hrp1_5, hrp1_6⟩ := h1
  have hS := St.begin NB w
  unfold g_r11_rule17 at hm
  refine enter Tryz.func96 rfl rfl rfl ?_; intro a H; dsimp only [enumL, Nat.zero_add, Nat.reduceAdd] at H
  refine wp_seq (wp_region_lit (n_box H rfl (cs := [.int .i64 a0.Id, .bool a0.Mobile, vp0_0, vp0_1, vp0_2, .int .i64 a0.Events, vp0_3]) rfl rfl ?_))
  clear H; intro b21 w22 hN hE23 hs; clear a; intro a H
  replace hS := hS.newBlk hN hE23 hs; clear hN hs
  refine n_box H rfl (cs := [.int .i64 a1.Id, .int .i64 a1.Frame, .int .i64 a1.Epoch, vp1_0, vp1_1, vp1_2, vp1_3, vp1_4, vp1_5, vp1_6]) rfl rfl ?_
  clear H; intro b24 w25 hN hE26 hs; clear a; intro a H
  replace hS := hS.newBlk hN hE26 hs; clear hN hs
  refine n_q H (q_assign rfl) rfl ?_; clear H a; intro a H
  refine n_nil (then_normal (wp_seq (wp_seq (wp_region_lit (n_q H (q_assign rfl) rfl ?_))))); clear H a; intro a H
  refine n_nil (then_normal (wp_block ?_))
  replace hS := hS.pk1
  replace hm := bindS hm; obtain ⟨q27, hm, hm27⟩ := hm; replace hm := iter_some hm; obtain ⟨n27, hm⟩ := hm
  refine c_loop (σ := Nat × Int) (fun (m, z29) => [(2, .pointer (some ⟨b21, 0, none⟩)), (3, .pointer (some ⟨b24, 0, none⟩)), (5, .int .i64 z29)]) (fun (m, z29) wl => iterN (g_r11_rule17_L9 a0 a1) m z29 = some q27 ∧ St NB w wl [blkR b21 [.int .i64 a0.Id, .bool a0.Mobile, vp0_0, vp0_1, vp0_2, .int .i64 a0.Events, vp0_3] 27, blkR b24 [.int .i64 a1.Id, .int .i64 a1.Frame, .int .i64 a1.Epoch, vp1_0, vp1_1, vp1_2, vp1_3, vp1_4, vp1_5, vp1_6] 39]) (fun (m, z29) => m) (n27, 0) H ⟨rfl, rfl, rfl, trivial⟩ ⟨hm, hS⟩ ?_
  clear H hS hm a; intro xx a w30 H hR; obtain ⟨m, z29⟩ := xx; simp only [ent, List.map_cons, List.map_nil] at H; (try dsimp only at hR); obtain ⟨hm, hS⟩ := hR
  replace hm := iterN_step hm; obtain ⟨m27, o27, rfl, hm, hn27⟩ := hm; try dsimp only [g_r11_rule17_L9] at hm
  refine wp_seq (wp_seq (wp_region_lit (n_q H (q_move rfl) rfl (W_q (q_fieldAddr0 rfl fo39_8) rfl (W_q (q_load rfl ((hS.blk 1 rfl).ld ag36 rfl)) rfl ?_))))); clear H a; intro a H
  obtain ⟨A31, c31, hv31, hl31, hm31⟩ := SlR.formV (hrp1_5.ext RGPort.mono hS.x)
  refine n_q H (q_lenV Tryz.underlying36 rfl hv31) rfl (W_q (q_fieldAddr0 rfl fo27_4) rfl (W_q (q_load rfl ((hS.blk 0 rfl).ld ag24 rfl)) rfl ?_)); clear H a; intro a H
  obtain ⟨A32, c32, hv32, hl32, hm32⟩ := SlR.formV (hrp0_2.ext (Flat.mono _) hS.x)
  refine n_q H (q_lenV Tryz.underlying24 rfl hv32) rfl ?_; clear H a; intro a H
  replace hm := bindS hm; obtain ⟨r33, hr33, hm⟩ := hm
  refine n_call H rfl en99 (g_r11_both_w (A := A) hr33) rfl ?_
  clear H; intro x36 w34 hv; clear a; intro a H; obtain ⟨rfl, hE35⟩ := hv
  replace hS := hS.ext hE35
  refine n_q H (q_lss rfl rfl) rfl ?_; clear H a; intro a H
  refine n_nil (then_normal (c_cond H rfl (fun hc37 => ?_) (fun hc37 => ?_)))
  · replace hm := condT hm hc37
    refine wp_skip (then_normal (wp_seq (wp_block ?_)))
    replace hm := bindS hm; obtain ⟨j38, hm, hm38⟩ := hm
    refine c_join (σ := Bool) H (fun q539 => [(2, .pointer (some ⟨b21, 0, none⟩)), (3, .pointer (some ⟨b24, 0, none⟩)), (5, .int .i64 z29), (42, .bool q539)]) (fun q539 wl => (g_r11_rule17_J8 z29) q539 = some o27 ∧ St NB w wl [blkR b21 [.int .i64 a0.Id, .bool a0.Mobile, vp0_0, vp0_1, vp0_2, .int .i64 a0.Events, vp0_3] 27, blkR b24 [.int .i64 a1.Id, .int .i64 a1.Frame, .int .i64 a1.Epoch, vp1_0, vp1_1, vp1_2, vp1_3, vp1_4, vp1_5, vp1_6] 39]) ?_ ?_
    · skip
      refine wp_region_lit (n_q H (q_fieldAddr0 rfl fo27_4) rfl (W_q (q_load rfl ((hS.blk 0 rfl).ld ag24 rfl)) rfl (W_q (q_move rfl) rfl ?_))); clear H a; intro a H
      replace hm := bindS hm; obtain ⟨x540, hx540, hm⟩ := hm
      obtain ⟨h0x540, h1x540, hxx540⟩ := rdI_some hx540
      obtain ⟨adx540, hAx540⟩ := SlR.adV (hrp0_2.ext (Flat.mono _) hS.x) hv32 hxx540
      refine n_q H (q_ixVI Tryz.underlying24 sz78 rfl hv32 hAx540 rfl h0x540 h1x540) rfl (W_q (q_fieldAddr rfl fo78_0) rfl (W_q (q_load rfl (SlR.ldCellV (j := 0) (hrp0_2.ext (Flat.mono _) hS.x) hv32 hAx540 ag3 hxx540 rfl)) rfl (W_q (q_eqlD rfl rfl) rfl (W_q (q_move rfl) rfl ?_)))); clear H a; intro a H
      rcases Bool.eq_false_or_eq_true (decide (x540.Kind = 2)) with hg541 | hg541
      · replace H := H.know 24 rfl hg541
        replace hm := condT hm hg541
        refine n_no H rfl rfl (by decide) rfl (W_no rfl rfl (by decide) rfl (W_no rfl rfl (by decide) rfl (W_no rfl rfl (by decide) rfl (W_no rfl rfl (by decide) rfl (W_no rfl rfl (by decide) rfl (W_no rfl rfl (by decide) rfl (W_q (q_pickT rfl rfl) rfl (W_q (q_move rfl) rfl (W_yes rfl rfl (W_q (q_fieldAddr0 rfl fo39_8) rfl (W_yes rfl rfl ?_))))))))))); clear H a; intro a H
        refine n_q H (q_load rfl ((hS.blk 1 rfl).ld ag36 rfl)) rfl (W_yes rfl rfl (W_q (q_move rfl) rfl (W_yes rfl rfl ?_))); clear H a; intro a H
        replace hm := bindS hm; obtain ⟨x542, hx542, hm⟩ := hm
        obtain ⟨h0x542, h1x542, hxx542⟩ := rdI_some hx542
        obtain ⟨adx542, hAx542⟩ := SlR.adV (hrp1_5.ext RGPort.mono hS.x) hv31 hxx542
        obtain ⟨csx542, hclx542, ⟨vx542_0, rfl, hrx542_0⟩, hcx542⟩ := SlR.elV hrp1_5 hv31 hAx542 hxx542
        refine n_q H (q_ixVI Tryz.underlying36 sz76 rfl hv31 hAx542 rfl h0x542 h1x542) rfl (W_yes rfl rfl (W_q (q_fieldAddr rfl fo76_0) rfl (W_yes rfl rfl (W_q (q_load rfl (LdX.ext (ldElC (j := 0) ag74 hcx542 rfl) hS.x)) rfl (W_yes rfl rfl ?_))))); clear H a; intro a H
        obtain ⟨A543, c543, hv543, hl543, hm543⟩ := SlR.formV (hrx542_0.ext (Flat.mono _) hS.x)
        refine n_q H (q_lenV Tryz.underlying74 rfl hv543) rfl (W_yes rfl rfl (W_q (q_gtrN (i := x542.Msgs.length) (j := 0) rfl rfl) rfl (W_q (q_pickT rfl rfl) rfl ?_))); clear H a; intro a H
        refine n_nil (then_normal ?_)
        obtain rfl := Option.some.inj hm; replace hm := hm38; try dsimp only at hm
        exact join (decide (0 < x542.Msgs.length)) H ⟨rfl, rfl, rfl, rfl, trivial⟩ ⟨hm, hS⟩
      · replace H := H.know 24 rfl hg541
        replace hm := condF hm hg541
        refine n_yes H rfl rfl (n_q H (q_fieldAddr0 rfl fo27_4) rfl (W_yes rfl rfl (W_q (q_load rfl ((hS.blk 0 rfl).ld ag24 rfl)) rfl (W_yes rfl rfl (W_q (q_move rfl) rfl (W_yes rfl rfl ?_)))))); clear H a; intro a H
        replace hm := bindS hm; obtain ⟨x544, hx544, hm⟩ := hm
        obtain ⟨h0x544, h1x544, hxx544⟩ := rdI_some hx544
        obtain ⟨adx544, hAx544⟩ := SlR.adV (hrp0_2.ext (Flat.mono _) hS.x) hv32 hxx544
        refine n_q H (q_ixVI Tryz.underlying24 sz78 rfl hv32 hAx544 rfl h0x544 h1x544) rfl (W_yes rfl rfl (W_q (q_fieldAddr rfl fo78_0) rfl (W_yes rfl rfl (W_q (q_load rfl (SlR.ldCellV (j := 0) (hrp0_2.ext (Flat.mono _) hS.x) hv32 hAx544 ag3 hxx544 rfl)) rfl (W_yes rfl rfl (W_q (q_eqlD rfl rfl) rfl (W_q (q_pickF rfl rfl) rfl (W_q (q_move rfl) rfl ?_)))))))); clear H a; intro a H
        rcases Bool.eq_false_or_eq_true (decide (x544.Kind = 4)) with hg545 | hg545
        · replace H := H.know 33 rfl hg545
          replace hm := condT hm hg545
          refine n_yes H rfl rfl (n_q H (q_fieldAddr0 rfl fo39_8) rfl (W_yes rfl rfl (W_q (q_load rfl ((hS.blk 1 rfl).ld ag36 rfl)) rfl (W_yes rfl rfl (W_q (q_move rfl) rfl (W_yes rfl rfl ?_)))))); clear H a; intro a H
          replace hm := bindS hm; obtain ⟨x546, hx546, hm⟩ := hm
          obtain ⟨h0x546, h1x546, hxx546⟩ := rdI_some hx546
          obtain ⟨adx546, hAx546⟩ := SlR.adV (hrp1_5.ext RGPort.mono hS.x) hv31 hxx546
          obtain ⟨csx546, hclx546, ⟨vx546_0, rfl, hrx546_0⟩, hcx546⟩ := SlR.elV hrp1_5 hv31 hAx546 hxx546
          refine n_q H (q_ixVI Tryz.underlying36 sz76 rfl hv31 hAx546 rfl h0x546 h1x546) rfl (W_yes rfl rfl (W_q (q_fieldAddr rfl fo76_0) rfl (W_yes rfl rfl (W_q (q_load rfl (LdX.ext (ldElC (j := 0) ag74 hcx546 rfl) hS.x)) rfl (W_yes rfl rfl ?_))))); clear H a; intro a H
          obtain ⟨A547, c547, hv547, hl547, hm547⟩ := SlR.formV (hrx546_0.ext (Flat.mono _) hS.x)
          refine n_q H (q_lenV Tryz.underlying74 rfl hv547) rfl (W_yes rfl rfl (W_q (q_gtrN (i := x546.Msgs.length) (j := 0) rfl rfl) rfl (W_q (q_pickT rfl rfl) rfl ?_))); clear H a; intro a H
          refine n_nil (then_normal ?_)
          obtain rfl := Option.some.inj hm; replace hm := hm38; try dsimp only at hm
          exact join (decide (0 < x546.Msgs.length)) H ⟨rfl, rfl, rfl, rfl, trivial⟩ ⟨hm, hS⟩
        · replace H := H.know 33 rfl hg545
          replace hm := condF hm hg545
          refine n_no H rfl rfl (by decide) rfl (W_no rfl rfl (by decide) rfl (W_no rfl rfl (by decide) rfl (W_no rfl rfl (by decide) rfl (W_no rfl rfl (by decide) rfl (W_no rfl rfl (by decide) rfl (W_no rfl rfl (by decide) rfl (W_no rfl rfl (by decide) rfl (W_q (q_pickF rfl rfl) rfl ?_)))))))); clear H a; intro a H
          refine n_nil (then_normal ?_)
          obtain rfl := Option.some.inj hm; replace hm := hm38; try dsimp only at hm
          exact join false H ⟨rfl, rfl, rfl, rfl, trivial⟩ ⟨hm, hS⟩
    · clear H hS hm a; intro q539 a w548 H hR
      simp only [ent, List.map_cons, List.map_nil] at H; (try dsimp only at hR); obtain ⟨hm, hS⟩ := hR; try dsimp only [g_r11_rule17_J8] at hm
      refine c_cond H rfl (fun hc549 => ?_) (fun hc549 => ?_)
      · replace hm := condT hm hc549
        refine wp_seq (wp_region_lit (n_q H (q_assign rfl) rfl ?_)); clear H a; intro a H
        refine n_nil (then_normal (wp_ret (block_ret (then_ret (then_ret (block_ret (then_ret ?_)))))))
        obtain rfl := Option.some.inj hm; have hz : _ = q27 := hn27; subst hz; replace hm := hm27; try dsimp only at hm
        obtain rfl := Option.some.inj hm
        replace hS := hS.tk0
        refine ret1 H (.inr rfl) rfl rfl ?_
        exact ⟨rfl, hS.x⟩
      · replace hm := condF hm hc549
        refine wp_skip (block_normal (then_normal (wp_region_lit (n_q H (q_move rfl) rfl (W_q (q_addW rfl rfl) rfl (W_q (q_assign rfl) rfl ?_)))))); clear H a; intro a H
        refine n_nil (then_normal ?_)
        obtain rfl := Option.some.inj hm
        exact round (m27, (IntKind.i64.wrap (z29 + 1))) H ⟨rfl, rfl, rfl, trivial⟩ ⟨hn27, hS⟩ (Nat.lt_succ_self _)
  · replace hm := condF hm hc37
    refine wp_exit (then_exit (then_exit (block_exit ?_)))
    obtain rfl := Option.some.inj hm; have hz : _ = q27 := hn27; subst hz; replace hm := hm27; try dsimp only at hm
    refine then_normal (wp_seq (wp_region_lit (n_q H (q_assign rfl) rfl ?_))); clear H a; intro a H
    refine n_nil (then_normal (wp_ret ?_))
    obtain rfl := Option.some.inj hm
    replace hS := hS.tk0
    refine ret1 H (.inr rfl) rfl rfl ?_
    exact ⟨rfl, hS.x⟩
theorem g_r11_keptMore_w {w : World} {A : Nat → Addr} {a0 : Int} {cs1 : List Value} {a1 : GPlan} {cs2 : List Value} {a2 : GState} (h1 : RGPlan w cs1 a1) (h2 : RGState w cs2 a2) {r : Bool} (hm : g_r11_keptMore a0 a1 a2 = some r) :
    Calls Tryz.prog 86 [.int .i64 a0, .agg cs1.toArray, .agg cs2.toArray].toArray w (Ret fun u w' => u = .bool r ∧ Ext w w') := by
  obtain ⟨vp1_0, vp1_1, vp1_2, vp1_3, rfl, hrp1_0, hrp1_1, hrp1_2, hrp1_3⟩ := h1
  obtain ⟨vp2_0, vp2_1, vp2_2, vp2_3, vp2_4, vp2_5, vp2_6, rfl, hrp2_0, hrp2_1, hrp2_2, hrp2_3, hrp2_4, hrp2_5, hrp2_6⟩ := h2
  have hS := St.begin NB w
  unfold g_r11_keptMore at hm
  refine enter Tryz.func86 rfl rfl rfl ?_; intro a H; dsimp only [enumL, Nat.zero_add, Nat.reduceAdd] at H
  refine wp_seq (wp_region_lit (n_box H rfl (cs := [.int .i64 a1.Id, .bool a1.Mobile, vp1_0, vp1_1, vp1_2, .int .i64 a1.Events, vp1_3]) rfl rfl ?_))
  clear H; intro b21 w22 hN hE23 hs; clear a; intro a H
  replace hS := hS.newBlk hN hE23 hs; clear hN hs
  refine n_box H rfl (cs := [.int .i64 a2.Id, .int .i64 a2.Frame, .int .i64 a2.Epoch, vp2_0, vp2_1, vp2_2, vp2_3, vp2_4, vp2_5, vp2_6]) rfl rfl ?_
  clear H; intro b24 w25 hN hE26 hs; clear a; intro a H
  replace hS := hS.newBlk hN hE26 hs; clear hN hs
  refine n_q H (q_assign rfl) rfl ?_; clear H a; intro a H
  refine n_nil (then_normal (wp_seq (wp_seq (wp_region_lit (n_q H (q_move rfl) rfl ?_))))); clear H a; intro a H
  refine n_nil (then_normal (wp_block (wp_seq (wp_region_lit (n_q H (q_eqlD rfl rfl) rfl (W_q (q_assign rfl) rfl ?_)))))); clear H a; intro a H
  refine n_nil (then_normal (c_cond H rfl (fun hc27 => ?_) (fun hc27 => ?_)))
  · replace hm := condT hm hc27
    refine wp_seq (wp_region_lit (n_q H (q_load rfl ((hS.blk 1 rfl).ldAll ag27 sz27)) rfl (W_q (q_load rfl ((hS.blk 0 rfl).ldAll ag39 sz39)) rfl ?_))); clear H a; intro a H
    replace hm := bindS hm; obtain ⟨r28, hr28, hm⟩ := hm
    refine n_call H rfl en90 (g_r11_rule11_w (A := A) (⟨_, _, _, _, rfl, (hrp1_0.ext (Flat.mono _) hS.x), (hrp1_1.ext (Flat.mono _) hS.x), (hrp1_2.ext (Flat.mono _) hS.x), (hrp1_3.ext (Flat.mono _) hS.x)⟩ : RGPlan _ [.int .i64 a1.Id, .bool a1.Mobile, vp1_0, vp1_1, vp1_2, .int .i64 a1.Events, vp1_3] a1) (⟨_, _, _, _, _, _, _, rfl, (hrp2_0.ext (Flat.mono _) hS.x), (hrp2_1.ext (Flat.mono _) hS.x), (hrp2_2.ext (Flat.mono _) hS.x), (hrp2_3.ext (Flat.mono _) hS.x), (hrp2_4.ext (Flat.mono _) hS.x), (hrp2_5.ext RGPort.mono hS.x), (hrp2_6.ext (Flat.mono _) hS.x)⟩ : RGState _ [.int .i64 a2.Id, .int .i64 a2.Frame, .int .i64 a2.Epoch, vp2_0, vp2_1, vp2_2, vp2_3, vp2_4, vp2_5, vp2_6] a2) hr28) rfl ?_
    clear H; intro x31 w29 hv; clear a; intro a H; obtain ⟨rfl, hE30⟩ := hv
    replace hS := hS.ext hE30
    refine n_q H (q_assign rfl) rfl ?_; clear H a; intro a H
    refine n_nil (then_normal (wp_ret (block_ret (then_ret ?_))))
    obtain rfl := Option.some.inj hm
    replace hS := hS.tk0
    refine ret1 H (.inr rfl) rfl rfl ?_
    exact ⟨rfl, hS.x⟩
  · replace hm := condF hm hc27
    refine wp_seq (wp_region_lit (n_q H (q_eqlD rfl rfl) rfl (W_q (q_assign rfl) rfl ?_))); clear H a; intro a H
    refine n_nil (then_normal (c_cond H rfl (fun hc32 => ?_) (fun hc32 => ?_)))
    · replace hm := condT hm hc32
      refine wp_seq (wp_region_lit (n_q H (q_load rfl ((hS.blk 1 rfl).ldAll ag27 sz27)) rfl (W_q (q_load rfl ((hS.blk 0 rfl).ldAll ag39 sz39)) rfl ?_))); clear H a; intro a H
      replace hm := bindS hm; obtain ⟨r33, hr33, hm⟩ := hm
      refine n_call H rfl en91 (g_r11_rule12_w (A := A) (⟨_, _, _, _, rfl, (hrp1_0.ext (Flat.mono _) hS.x), (hrp1_1.ext (Flat.mono _) hS.x), (hrp1_2.ext (Flat.mono _) hS.x), (hrp1_3.ext (Flat.mono _) hS.x)⟩ : RGPlan _ [.int .i64 a1.Id, .bool a1.Mobile, vp1_0, vp1_1, vp1_2, .int .i64 a1.Events, vp1_3] a1) (⟨_, _, _, _, _, _, _, rfl, (hrp2_0.ext (Flat.mono _) hS.x), (hrp2_1.ext (Flat.mono _) hS.x), (hrp2_2.ext (Flat.mono _) hS.x), (hrp2_3.ext (Flat.mono _) hS.x), (hrp2_4.ext (Flat.mono _) hS.x), (hrp2_5.ext RGPort.mono hS.x), (hrp2_6.ext (Flat.mono _) hS.x)⟩ : RGState _ [.int .i64 a2.Id, .int .i64 a2.Frame, .int .i64 a2.Epoch, vp2_0, vp2_1, vp2_2, vp2_3, vp2_4, vp2_5, vp2_6] a2) hr33) rfl ?_
      clear H; intro x36 w34 hv; clear a; intro a H; obtain ⟨rfl, hE35⟩ := hv
      replace hS := hS.ext hE35
      refine n_q H (q_assign rfl) rfl ?_; clear H a; intro a H
      refine n_nil (then_normal (wp_ret (block_ret (then_ret ?_))))
      obtain rfl := Option.some.inj hm
      replace hS := hS.tk0
      refine ret1 H (.inr rfl) rfl rfl ?_
      exact ⟨rfl, hS.x⟩
    · replace hm := condF hm hc32
      refine wp_seq (wp_region_lit (n_q H (q_eqlD rfl rfl) rfl (W_q (q_assign rfl) rfl ?_))); clear H a; intro a H
      refine n_nil (then_normal (c_cond H rfl (fun hc37 => ?_) (fun hc37 => ?_)))
      · replace hm := condT hm hc37
        refine wp_seq (wp_region_lit (n_q H (q_load rfl ((hS.blk 1 rfl).ldAll ag27 sz27)) rfl (W_q (q_load rfl ((hS.blk 0 rfl).ldAll ag39 sz39)) rfl ?_))); clear H a; intro a H
        replace hm := bindS hm; obtain ⟨r38, hr38, hm⟩ := hm
        refine n_call H rfl en92 (g_r11_rule13_w (A := A) (⟨_, _, _, _, rfl, (hrp1_0.ext (Flat.mono _) hS.x), (hrp1_1.ext (Flat.mono _) hS.x), (hrp1_2.ext (Flat.mono _) hS.x), (hrp1_3.ext (Flat.mono _) hS.x)⟩ : RGPlan _ [.int .i64 a1.Id, .bool a1.Mobile, vp1_0, vp1_1, vp1_2, .int .i64 a1.Events, vp1_3] a1) (⟨_, _, _, _, _, _, _, rfl, (hrp2_0.ext (Flat.mono _) hS.x), (hrp2_1.ext (Flat.mono _) hS.x), (hrp2_2.ext (Flat.mono _) hS.x), (hrp2_3.ext (Flat.mono _) hS.x), (hrp2_4.ext (Flat.mono _) hS.x), (hrp2_5.ext RGPort.mono hS.x), (hrp2_6.ext (Flat.mono _) hS.x)⟩ : RGState _ [.int .i64 a2.Id, .int .i64 a2.Frame, .int .i64 a2.Epoch, vp2_0, vp2_1, vp2_2, vp2_3, vp2_4, vp2_5, vp2_6] a2) hr38) rfl ?_
        clear H; intro x41 w39 hv; clear a; intro a H; obtain ⟨rfl, hE40⟩ := hv
        replace hS := hS.ext hE40
        refine n_q H (q_assign rfl) rfl ?_; clear H a; intro a H
        refine n_nil (then_normal (wp_ret (block_ret (then_ret ?_))))
        obtain rfl := Option.some.inj hm
        replace hS := hS.tk0
        refine ret1 H (.inr rfl) rfl rfl ?_
        exact ⟨rfl, hS.x⟩
      · replace hm := condF hm hc37
        refine wp_seq (wp_region_lit (n_q H (q_eqlD rfl rfl) rfl (W_q (q_assign rfl) rfl ?_))); clear H a; intro a H
        refine n_nil (then_normal (c_cond H rfl (fun hc42 => ?_) (fun hc42 => ?_)))
        · replace hm := condT hm hc42
          refine wp_seq (wp_region_lit (n_q H (q_load rfl ((hS.blk 1 rfl).ldAll ag27 sz27)) rfl (W_q (q_load rfl ((hS.blk 0 rfl).ldAll ag39 sz39)) rfl ?_))); clear H a; intro a H
          replace hm := bindS hm; obtain ⟨r43, hr43, hm⟩ := hm
          refine n_call H rfl en93 (g_r11_rule14_w (A := A) (⟨_, _, _, _, rfl, (hrp1_0.ext (Flat.mono _) hS.x), (hrp1_1.ext (Flat.mono _) hS.x), (hrp1_2.ext (Flat.mono _) hS.x), (hrp1_3.ext (Flat.mono _) hS.x)⟩ : RGPlan _ [.int .i64 a1.Id, .bool a1.Mobile, vp1_0, vp1_1, vp1_2, .int .i64 a1.Events, vp1_3] a1) (⟨_, _, _, _, _, _, _, rfl, (hrp2_0.ext (Flat.mono _) hS.x), (hrp2_1.ext (Flat.mono _) hS.x), (hrp2_2.ext (Flat.mono _) hS.x), (hrp2_3.ext (Flat.mono _) hS.x), (hrp2_4.ext (Flat.mono _) hS.x), (hrp2_5.ext RGPort.mono hS.x), (hrp2_6.ext (Flat.mono _) hS.x)⟩ : RGState _ [.int .i64 a2.Id, .int .i64 a2.Frame, .int .i64 a2.Epoch, vp2_0, vp2_1, vp2_2, vp2_3, vp2_4, vp2_5, vp2_6] a2) hr43) rfl ?_
          clear H; intro x46 w44 hv; clear a; intro a H; obtain ⟨rfl, hE45⟩ := hv
          replace hS := hS.ext hE45
          refine n_q H (q_assign rfl) rfl ?_; clear H a; intro a H
          refine n_nil (then_normal (wp_ret (block_ret (then_ret ?_))))
          obtain rfl := Option.some.inj hm
          replace hS := hS.tk0
          refine ret1 H (.inr rfl) rfl rfl ?_
          exact ⟨rfl, hS.x⟩
        · replace hm := condF hm hc42
          refine wp_seq (wp_region_lit (n_q H (q_eqlD rfl rfl) rfl (W_q (q_assign rfl) rfl ?_))); clear H a; intro a H
          refine n_nil (then_normal (c_cond H rfl (fun hc47 => ?_) (fun hc47 => ?_)))
          · replace hm := condT hm hc47
            refine wp_seq (wp_region_lit (n_q H (q_load rfl ((hS.blk 1 rfl).ldAll ag27 sz27)) rfl (W_q (q_load rfl ((hS.blk 0 rfl).ldAll ag39 sz39)) rfl ?_))); clear H a; intro a H
            replace hm := bindS hm; obtain ⟨r48, hr48, hm⟩ := hm
            refine n_call H rfl en94 (g_r11_rule15_w (A := A) (⟨_, _, _, _, rfl, (hrp1_0.ext (Flat.mono _) hS.x), (hrp1_1.ext (Flat.mono _) hS.x), (hrp1_2.ext (Flat.mono _) hS.x), (hrp1_3.ext (Flat.mono _) hS.x)⟩ : RGPlan _ [.int .i64 a1.Id, .bool a1.Mobile, vp1_0, vp1_1, vp1_2, .int .i64 a1.Events, vp1_3] a1) (⟨_, _, _, _, _, _, _, rfl, (hrp2_0.ext (Flat.mono _) hS.x), (hrp2_1.ext (Flat.mono _) hS.x), (hrp2_2.ext (Flat.mono _) hS.x), (hrp2_3.ext (Flat.mono _) hS.x), (hrp2_4.ext (Flat.mono _) hS.x), (hrp2_5.ext RGPort.mono hS.x), (hrp2_6.ext (Flat.mono _) hS.x)⟩ : RGState _ [.int .i64 a2.Id, .int .i64 a2.Frame, .int .i64 a2.Epoch, vp2_0, vp2_1, vp2_2, vp2_3, vp2_4, vp2_5, vp2_6] a2) hr48) rfl ?_
            clear H; intro x51 w49 hv; clear a; intro a H; obtain ⟨rfl, hE50⟩ := hv
            replace hS := hS.ext hE50
            refine n_q H (q_assign rfl) rfl ?_; clear H a; intro a H
            refine n_nil (then_normal (wp_ret (block_ret (then_ret ?_))))
            obtain rfl := Option.some.inj hm
            replace hS := hS.tk0
            refine ret1 H (.inr rfl) rfl rfl ?_
            exact ⟨rfl, hS.x⟩
          · replace hm := condF hm hc47
            refine wp_seq (wp_region_lit (n_q H (q_eqlD rfl rfl) rfl (W_q (q_assign rfl) rfl ?_))); clear H a; intro a H
            refine n_nil (then_normal (c_cond H rfl (fun hc52 => ?_) (fun hc52 => ?_)))
            · replace hm := condT hm hc52
              refine wp_seq (wp_region_lit (n_q H (q_load rfl ((hS.blk 1 rfl).ldAll ag27 sz27)) rfl (W_q (q_load rfl ((hS.blk 0 rfl).ldAll ag39 sz39)) rfl ?_))); clear H a; intro a H
              replace hm := bindS hm; obtain ⟨r53, hr53, hm⟩ := hm
              refine n_call H rfl en95 (g_r11_rule16_w (A := A) (⟨_, _, _, _, rfl, (hrp1_0.ext (Flat.mono _) hS.x), (hrp1_1.ext (Flat.mono _) hS.x), (hrp1_2.ext (Flat.mono _) hS.x), (hrp1_3.ext (Flat.mono _) hS.x)⟩ : RGPlan _ [.int .i64 a1.Id, .bool a1.Mobile, vp1_0, vp1_1, vp1_2, .int .i64 a1.Events, vp1_3] a1) (⟨_, _, _, _, _, _, _, rfl, (hrp2_0.ext (Flat.mono _) hS.x), (hrp2_1.ext (Flat.mono _) hS.x), (hrp2_2.ext (Flat.mono _) hS.x), (hrp2_3.ext (Flat.mono _) hS.x), (hrp2_4.ext (Flat.mono _) hS.x), (hrp2_5.ext RGPort.mono hS.x), (hrp2_6.ext (Flat.mono _) hS.x)⟩ : RGState _ [.int .i64 a2.Id, .int .i64 a2.Frame, .int .i64 a2.Epoch, vp2_0, vp2_1, vp2_2, vp2_3, vp2_4, vp2_5, vp2_6] a2) hr53) rfl ?_
              clear H; intro x56 w54 hv; clear a; intro a H; obtain ⟨rfl, hE55⟩ := hv
              replace hS := hS.ext hE55
              refine n_q H (q_assign rfl) rfl ?_; clear H a; intro a H
              refine n_nil (then_normal (wp_ret (block_ret (then_ret ?_))))
              obtain rfl := Option.some.inj hm
              replace hS := hS.tk0
              refine ret1 H (.inr rfl) rfl rfl ?_
              exact ⟨rfl, hS.x⟩
            · replace hm := condF hm hc52
              refine wp_skip (block_normal (then_normal (wp_seq (wp_region_lit (n_q H (q_load rfl ((hS.blk 1 rfl).ldAll ag27 sz27)) rfl (W_q (q_load rfl ((hS.blk 0 rfl).ldAll ag39 sz39)) rfl ?_)))))); clear H a; intro a H
              replace hm := bindS hm; obtain ⟨r57, hr57, hm⟩ := hm
              refine n_call H rfl en96 (g_r11_rule17_w (A := A) (⟨_, _, _, _, rfl, (hrp1_0.ext (Flat.mono _) hS.x), (hrp1_1.ext (Flat.mono _) hS.x), (hrp1_2.ext (Flat.mono _) hS.x), (hrp1_3.ext (Flat.mono _) hS.x)⟩ : RGPlan _ [.int .i64 a1.Id, .bool a1.Mobile, vp1_0, vp1_1, vp1_2, .int .i64 a1.Events, vp1_3] a1) (⟨_, _, _, _, _, _, _, rfl, (hrp2_0.ext (Flat.mono _) hS.x), (hrp2_1.ext (Flat.mono _) hS.x), (hrp2_2.ext (Flat.mono _) hS.x), (hrp2_3.ext (Flat.mono _) hS.x), (hrp2_4.ext (Flat.mono _) hS.x), (hrp2_5.ext RGPort.mono hS.x), (hrp2_6.ext (Flat.mono _) hS.x)⟩ : RGState _ [.int .i64 a2.Id, .int .i64 a2.Frame, .int .i64 a2.Epoch, vp2_0, vp2_1, vp2_2, vp2_3, vp2_4, vp2_5, vp2_6] a2) hr57) rfl ?_
              clear H; intro x60 w58 hv; clear a; intro a H; obtain ⟨rfl, hE59⟩ := hv
              replace hS := hS.ext hE59
              refine n_q H (q_assign rfl) rfl ?_; clear H a; intro a H
              refine n_nil (then_normal (wp_ret ?_))
              obtain rfl := Option.some.inj hm
              replace hS := hS.tk0
              refine ret1 H (.inr rfl) rfl rfl ?_
              exact ⟨rfl, hS.x⟩
theorem g_r11_kept_w {w : World} {A : Nat → Addr} {a0 : Int} {cs1 : List Value} {a1 : GPlan} {cs2 : List Value} {a2 : GState} (h1 : RGPlan w cs1 a1) (h2 : RGState w cs2 a2) {r : Bool} (hm : g_r11_kept a0 a1 a2 = some r) :
    Calls Tryz.prog 70 [.int .i64 a0, .agg cs1.toArray, .agg cs2.toArray].toArray w (Ret fun u w' => u = .bool r ∧ Ext w w') := by
  obtain ⟨vp1_0, vp1_1, vp1_2, vp1_3, rfl, hrp1_0, hrp1_1, hrp1_2, hrp1_3⟩ := h1
  obtain ⟨vp2_0, vp2_1, vp2_2, vp2_3, vp2_4, vp2_5, vp2_6, rfl, hrp2_0, hrp2_1, hrp2_2, hrp2_3, hrp2_4, hrp2_5, hrp2_6⟩ := h2
  have hS := St.begin NB w
  unfold g_r11_kept at hm
  refine enter Tryz.func70 rfl rfl rfl ?_; intro a H; dsimp only [enumL, Nat.zero_add, Nat.reduceAdd] at H
  refine wp_seq (wp_region_lit (n_box H rfl (cs := [.int .i64 a1.Id, .bool a1.Mobile, vp1_0, vp1_1, vp1_2, .int .i64 a1.Events, vp1_3]) rfl rfl ?_))
  clear H; intro b21 w22 hN hE23 hs; clear a; intro a H
  replace hS := hS.newBlk hN hE23 hs; clear hN hs
  refine n_box H rfl (cs := [.int .i64 a2.Id, .int .i64 a2.Frame, .int .i64 a2.Epoch, vp2_0, vp2_1, vp2_2, vp2_3, vp2_4, vp2_5, vp2_6]) rfl rfl ?_
  clear H; intro b24 w25 hN hE26 hs; clear a; intro a H
  replace hS := hS.newBlk hN hE26 hs; clear hN hs
  refine n_q H (q_assign rfl) rfl ?_; clear H a; intro a H
  refine n_nil (then_normal (wp_seq (wp_seq (wp_region_lit (n_q H (q_move rfl) rfl ?_))))); clear H a; intro a H
  refine n_nil (then_normal (wp_block (wp_seq (wp_region_lit (n_q H (q_eqlD rfl rfl) rfl (W_q (q_assign rfl) rfl ?_)))))); clear H a; intro a H
  refine n_nil (then_normal (c_cond H rfl (fun hc27 => ?_) (fun hc27 => ?_)))
  · replace hm := condT hm hc27
    refine wp_seq (wp_region_lit (n_q H (q_fieldAddr0 rfl fo39_0) rfl (W_q (q_load rfl ((hS.blk 0 rfl).ld ag3 rfl)) rfl (W_q (q_fieldAddr0 rfl fo27_0) rfl (W_q (q_load rfl ((hS.blk 1 rfl).ld ag3 rfl)) rfl (W_q (q_eqlD rfl rfl) rfl (W_q (q_assign rfl) rfl ?_))))))); clear H a; intro a H
    refine n_nil (then_normal (wp_ret (block_ret (then_ret ?_))))
    obtain rfl := Option.some.inj hm
    replace hS := hS.tk0
    refine ret1 H (.inr rfl) rfl rfl ?_
    exact ⟨rfl, hS.x⟩
  · replace hm := condF hm hc27
    refine wp_seq (wp_region_lit (n_q H (q_eqlD rfl rfl) rfl (W_q (q_assign rfl) rfl ?_))); clear H a; intro a H
    refine n_nil (then_normal (c_cond H rfl (fun hc28 => ?_) (fun hc28 => ?_)))
    · replace hm := condT hm hc28
      refine wp_seq (wp_region_lit (n_c H (fun HC => ?_))); clear H
      refine nc_q HC (q_fieldAddr0 rfl fo39_1) rfl (by kernel_rfl) (V_q (q_load rfl ((hS.blk 0 rfl).ld ag3 rfl)) rfl (by kernel_rfl) (V_q (q_geq rfl rfl) rfl (by kernel_rfl) (V_q (q_move rfl) rfl (by kernel_rfl) (V_g (q_fieldAddr0 rfl fo39_1) (by kernel_rfl) (by kernel_rfl) (by kernel_rfl) (V_g (q_load rfl ((hS.blk 0 rfl).ld ag3 rfl)) (by kernel_rfl) (by kernel_rfl) (by kernel_rfl) (V_g (q_leq rfl rfl) (by kernel_rfl) (by kernel_rfl) (by kernel_rfl) (V_and (j := 3) rfl rfl rfl (by kernel_rfl) (by kernel_rfl) (V_q (q_move rfl) rfl (by kernel_rfl) (V_g (q_fieldAddr0 rfl fo39_2) (by kernel_rfl) (by kernel_rfl) (by kernel_rfl) (V_g (q_load rfl ((hS.blk 0 rfl).ld ag3 rfl)) (by kernel_rfl) (by kernel_rfl) (by kernel_rfl) (V_g (q_geq rfl rfl) (by kernel_rfl) (by kernel_rfl) (by kernel_rfl) ?_))))))))))); clear HC a; intro a HC
      refine nc_and (j := 8) HC rfl rfl rfl (by kernel_rfl) (by kernel_rfl) (V_q (q_move rfl) rfl (by kernel_rfl) (V_g (q_fieldAddr0 rfl fo39_2) (by kernel_rfl) (by kernel_rfl) (by kernel_rfl) (V_g (q_load rfl ((hS.blk 0 rfl).ld ag3 rfl)) (by kernel_rfl) (by kernel_rfl) (by kernel_rfl) (V_g (q_leq rfl rfl) (by kernel_rfl) (by kernel_rfl) (by kernel_rfl) (V_and (j := 13) rfl rfl rfl (by kernel_rfl) (by kernel_rfl) (V_q (q_assign rfl) rfl (by kernel_rfl) ?_)))))); clear HC a; intro a HC
      have H := HC.has; clear HC
      refine n_nil (then_normal (wp_ret (block_ret (then_ret ?_))))
      obtain rfl := Option.some.inj hm
      replace hS := hS.tk0
      refine ret1 H (.inr rfl) rfl rfl ?_
      exact ⟨rfl, hS.x⟩
    · replace hm := condF hm hc28
      refine wp_seq (wp_region_lit (n_q H (q_eqlD rfl rfl) rfl (W_q (q_assign rfl) rfl ?_))); clear H a; intro a H
      refine n_nil (then_normal (c_cond H rfl (fun hc29 => ?_) (fun hc29 => ?_)))
      · replace hm := condT hm hc29
        refine wp_seq (wp_region_lit (n_c H (fun HC => ?_))); clear H
        refine nc_q HC (q_fieldAddr0 rfl fo39_3) rfl (by kernel_rfl) (V_q (q_load rfl ((hS.blk 0 rfl).ld ag33 rfl)) rfl (by kernel_rfl) ?_); clear HC a; intro a HC
        obtain ⟨A30, c30, hv30, hl30, hm30⟩ := SlR.formV (hrp2_0.ext (Flat.mono _) hS.x)
        refine nc_q HC (q_lenV Tryz.underlying33 rfl hv30) rfl (by kernel_rfl) (V_q (q_fieldAddr0 rfl fo27_3) rfl (by kernel_rfl) (V_q (q_load rfl ((hS.blk 1 rfl).ld ag23 rfl)) rfl (by kernel_rfl) ?_)); clear HC a; intro a HC
        obtain ⟨A31, c31, hv31, hl31, hm31⟩ := SlR.formV (hrp1_1.ext (Flat.mono _) hS.x)
        refine nc_q HC (q_lenV Tryz.underlying23 rfl hv31) rfl (by kernel_rfl) (V_q (q_eqlN (i := a2.Procs.length) (j := a1.Procs.length) rfl rfl) rfl (by kernel_rfl) (V_q (q_move rfl) rfl (by kernel_rfl) (V_g (q_fieldAddr0 rfl fo39_8) (by kernel_rfl) (by kernel_rfl) (by kernel_rfl) (V_g (q_load rfl ((hS.blk 0 rfl).ld ag36 rfl)) (by kernel_rfl) (by kernel_rfl) (by kernel_rfl) ?_)))); clear HC a; intro a HC
        obtain ⟨A32, c32, hv32, hl32, hm32⟩ := SlR.formV (hrp2_5.ext RGPort.mono hS.x)
        refine nc_g HC (q_lenV Tryz.underlying36 rfl hv32) (by kernel_rfl) (by kernel_rfl) (by kernel_rfl) (V_g (q_fieldAddr0 rfl fo27_4) (by kernel_rfl) (by kernel_rfl) (by kernel_rfl) (V_g (q_load rfl ((hS.blk 1 rfl).ld ag24 rfl)) (by kernel_rfl) (by kernel_rfl) (by kernel_rfl) ?_)); clear HC a; intro a HC
        obtain ⟨A33, c33, hv33, hl33, hm33⟩ := SlR.formV (hrp1_2.ext (Flat.mono _) hS.x)
        refine nc_g HC (q_lenV Tryz.underlying24 rfl hv33) (by kernel_rfl) (by kernel_rfl) (by kernel_rfl) (V_g (q_eqlN (i := a2.Ports.length) (j := a1.Ports.length) rfl rfl) (by kernel_rfl) (by kernel_rfl) (by kernel_rfl) (V_and (j := 7) rfl rfl rfl (by kernel_rfl) (by kernel_rfl) (V_q (q_move rfl) rfl (by kernel_rfl) (V_g (q_fieldAddr0 rfl fo39_9) (by kernel_rfl) (by kernel_rfl) (by kernel_rfl) (V_g (q_load rfl ((hS.blk 0 rfl).ld ag37 rfl)) (by kernel_rfl) (by kernel_rfl) (by kernel_rfl) ?_))))); clear HC a; intro a HC
        obtain ⟨A34, c34, hv34, hl34, hm34⟩ := SlR.formV (hrp2_6.ext (Flat.mono _) hS.x)
        refine nc_g HC (q_lenV Tryz.underlying37 rfl hv34) (by kernel_rfl) (by kernel_rfl) (by kernel_rfl) (V_g (q_fieldAddr0 rfl fo27_2) (by kernel_rfl) (by kernel_rfl) (by kernel_rfl) (V_g (q_load rfl ((hS.blk 1 rfl).ld ag22 rfl)) (by kernel_rfl) (by kernel_rfl) (by kernel_rfl) ?_)); clear HC a; intro a HC
        obtain ⟨A35, c35, hv35, hl35, hm35⟩ := SlR.formV (hrp1_0.ext (Flat.mono _) hS.x)
        refine nc_g HC (q_lenV Tryz.underlying22 rfl hv35) (by kernel_rfl) (by kernel_rfl) (by kernel_rfl) (V_g (q_eqlN (i := a2.Pages.length) (j := a1.Pages.length) rfl rfl) (by kernel_rfl) (by kernel_rfl) (by kernel_rfl) (V_and (j := 16) rfl rfl rfl (by kernel_rfl) (by kernel_rfl) (V_q (q_move rfl) rfl (by kernel_rfl) (V_g (q_fieldAddr0 rfl fo39_6) (by kernel_rfl) (by kernel_rfl) (by kernel_rfl) (V_g (q_load rfl ((hS.blk 0 rfl).ld ag35 rfl)) (by kernel_rfl) (by kernel_rfl) (by kernel_rfl) ?_))))); clear HC a; intro a HC
        obtain ⟨A36, c36, hv36, hl36, hm36⟩ := SlR.formV (hrp2_3.ext (Flat.mono _) hS.x)
        refine nc_g HC (q_lenV Tryz.underlying35 rfl hv36) (by kernel_rfl) (by kernel_rfl) (by kernel_rfl) (V_g (q_fieldAddr0 rfl fo27_5) (by kernel_rfl) (by kernel_rfl) (by kernel_rfl) (V_g (q_load rfl ((hS.blk 1 rfl).ld ag3 rfl)) (by kernel_rfl) (by kernel_rfl) (by kernel_rfl) (V_g (q_eqlD rfl rfl) (by kernel_rfl) (by kernel_rfl) (by kernel_rfl) (V_and (j := 25) rfl rfl rfl (by kernel_rfl) (by kernel_rfl) (V_q (q_move rfl) rfl (by kernel_rfl) (V_g (q_fieldAddr0 rfl fo39_7) (by kernel_rfl) (by kernel_rfl) (by kernel_rfl) (V_g (q_load rfl ((hS.blk 0 rfl).ld ag25 rfl)) (by kernel_rfl) (by kernel_rfl) (by kernel_rfl) ?_))))))); clear HC a; intro a HC
        obtain ⟨A37, c37, hv37, hl37, hm37⟩ := SlR.formV (hrp2_4.ext (Flat.mono _) hS.x)
        refine nc_g HC (q_lenV Tryz.underlying25 rfl hv37) (by kernel_rfl) (by kernel_rfl) (by kernel_rfl) (V_g (q_fieldAddr0 rfl fo27_6) (by kernel_rfl) (by kernel_rfl) (by kernel_rfl) (V_g (q_load rfl ((hS.blk 1 rfl).ld ag25 rfl)) (by kernel_rfl) (by kernel_rfl) (by kernel_rfl) ?_)); clear HC a; intro a HC
        obtain ⟨A38, c38, hv38, hl38, hm38⟩ := SlR.formV (hrp1_3.ext (Flat.mono _) hS.x)
        refine nc_g HC (q_lenV Tryz.underlying25 rfl hv38) (by kernel_rfl) (by kernel_rfl) (by kernel_rfl) (V_g (q_eqlN (i := a2.Sems.length) (j := a1.Sems.length) rfl rfl) (by kernel_rfl) (by kernel_rfl) (by kernel_rfl) (V_and (j := 33) rfl rfl rfl (by kernel_rfl) (by kernel_rfl) (V_q (q_assign rfl) rfl (by kernel_rfl) ?_))); clear HC a; intro a HC
        have H := HC.has; clear HC
        refine n_nil (then_normal (wp_ret (block_ret (then_ret ?_))))
        obtain rfl := Option.some.inj hm
        replace hS := hS.tk0
        refine ret1 H (.inr rfl) rfl rfl ?_
        exact ⟨rfl, hS.x⟩
      · replace hm := condF hm hc29
        refine wp_seq (wp_region_lit (n_q H (q_eqlD rfl rfl) rfl (W_q (q_assign rfl) rfl ?_))); clear H a; intro a H
        refine n_nil (then_normal (c_cond H rfl (fun hc39 => ?_) (fun hc39 => ?_)))
        · replace hm := condT hm hc39
          refine wp_seq (wp_region_lit (n_q H (q_load rfl ((hS.blk 0 rfl).ldAll ag39 sz39)) rfl ?_)); clear H a; intro a H
          replace hm := bindS hm; obtain ⟨r40, hr40, hm⟩ := hm
          refine n_call H rfl en80 (g_r11_rule4_w (A := A) (⟨_, _, _, _, _, _, _, rfl, (hrp2_0.ext (Flat.mono _) hS.x), (hrp2_1.ext (Flat.mono _) hS.x), (hrp2_2.ext (Flat.mono _) hS.x), (hrp2_3.ext (Flat.mono _) hS.x), (hrp2_4.ext (Flat.mono _) hS.x), (hrp2_5.ext RGPort.mono hS.x), (hrp2_6.ext (Flat.mono _) hS.x)⟩ : RGState _ [.int .i64 a2.Id, .int .i64 a2.Frame, .int .i64 a2.Epoch, vp2_0, vp2_1, vp2_2, vp2_3, vp2_4, vp2_5, vp2_6] a2) hr40) rfl ?_
          clear H; intro x43 w41 hv; clear a; intro a H; obtain ⟨rfl, hE42⟩ := hv
          replace hS := hS.ext hE42
          refine n_q H (q_assign rfl) rfl ?_; clear H a; intro a H
          refine n_nil (then_normal (wp_ret (block_ret (then_ret ?_))))
          obtain rfl := Option.some.inj hm
          replace hS := hS.tk0
          refine ret1 H (.inr rfl) rfl rfl ?_
          exact ⟨rfl, hS.x⟩
        · replace hm := condF hm hc39
          refine wp_seq (wp_region_lit (n_q H (q_eqlD rfl rfl) rfl (W_q (q_assign rfl) rfl ?_))); clear H a; intro a H
          refine n_nil (then_normal (c_cond H rfl (fun hc44 => ?_) (fun hc44 => ?_)))
          · replace hm := condT hm hc44
            refine wp_seq (wp_region_lit (n_q H (q_load rfl ((hS.blk 0 rfl).ldAll ag39 sz39)) rfl ?_)); clear H a; intro a H
            replace hm := bindS hm; obtain ⟨r45, hr45, hm⟩ := hm
            refine n_call H rfl en81 (g_r11_rule5_w (A := A) (⟨_, _, _, _, _, _, _, rfl, (hrp2_0.ext (Flat.mono _) hS.x), (hrp2_1.ext (Flat.mono _) hS.x), (hrp2_2.ext (Flat.mono _) hS.x), (hrp2_3.ext (Flat.mono _) hS.x), (hrp2_4.ext (Flat.mono _) hS.x), (hrp2_5.ext RGPort.mono hS.x), (hrp2_6.ext (Flat.mono _) hS.x)⟩ : RGState _ [.int .i64 a2.Id, .int .i64 a2.Frame, .int .i64 a2.Epoch, vp2_0, vp2_1, vp2_2, vp2_3, vp2_4, vp2_5, vp2_6] a2) hr45) rfl ?_
            clear H; intro x48 w46 hv; clear a; intro a H; obtain ⟨rfl, hE47⟩ := hv
            replace hS := hS.ext hE47
            refine n_q H (q_assign rfl) rfl ?_; clear H a; intro a H
            refine n_nil (then_normal (wp_ret (block_ret (then_ret ?_))))
            obtain rfl := Option.some.inj hm
            replace hS := hS.tk0
            refine ret1 H (.inr rfl) rfl rfl ?_
            exact ⟨rfl, hS.x⟩
          · replace hm := condF hm hc44
            refine wp_seq (wp_region_lit (n_q H (q_eqlD rfl rfl) rfl (W_q (q_assign rfl) rfl ?_))); clear H a; intro a H
            refine n_nil (then_normal (c_cond H rfl (fun hc49 => ?_) (fun hc49 => ?_)))
            · replace hm := condT hm hc49
              refine wp_seq (wp_region_lit (n_q H (q_load rfl ((hS.blk 1 rfl).ldAll ag27 sz27)) rfl (W_q (q_load rfl ((hS.blk 0 rfl).ldAll ag39 sz39)) rfl ?_))); clear H a; intro a H
              replace hm := bindS hm; obtain ⟨r50, hr50, hm⟩ := hm
              refine n_call H rfl en82 (g_r11_rule6_w (A := A) (⟨_, _, _, _, rfl, (hrp1_0.ext (Flat.mono _) hS.x), (hrp1_1.ext (Flat.mono _) hS.x), (hrp1_2.ext (Flat.mono _) hS.x), (hrp1_3.ext (Flat.mono _) hS.x)⟩ : RGPlan _ [.int .i64 a1.Id, .bool a1.Mobile, vp1_0, vp1_1, vp1_2, .int .i64 a1.Events, vp1_3] a1) (⟨_, _, _, _, _, _, _, rfl, (hrp2_0.ext (Flat.mono _) hS.x), (hrp2_1.ext (Flat.mono _) hS.x), (hrp2_2.ext (Flat.mono _) hS.x), (hrp2_3.ext (Flat.mono _) hS.x), (hrp2_4.ext (Flat.mono _) hS.x), (hrp2_5.ext RGPort.mono hS.x), (hrp2_6.ext (Flat.mono _) hS.x)⟩ : RGState _ [.int .i64 a2.Id, .int .i64 a2.Frame, .int .i64 a2.Epoch, vp2_0, vp2_1, vp2_2, vp2_3, vp2_4, vp2_5, vp2_6] a2) hr50) rfl ?_
              clear H; intro x53 w51 hv; clear a; intro a H; obtain ⟨rfl, hE52⟩ := hv
              replace hS := hS.ext hE52
              refine n_q H (q_assign rfl) rfl ?_; clear H a; intro a H
              refine n_nil (then_normal (wp_ret (block_ret (then_ret ?_))))
              obtain rfl := Option.some.inj hm
              replace hS := hS.tk0
              refine ret1 H (.inr rfl) rfl rfl ?_
              exact ⟨rfl, hS.x⟩
            · replace hm := condF hm hc49
              refine wp_seq (wp_region_lit (n_q H (q_eqlD rfl rfl) rfl (W_q (q_assign rfl) rfl ?_))); clear H a; intro a H
              refine n_nil (then_normal (c_cond H rfl (fun hc54 => ?_) (fun hc54 => ?_)))
              · replace hm := condT hm hc54
                refine wp_seq (wp_region_lit (n_q H (q_load rfl ((hS.blk 0 rfl).ldAll ag39 sz39)) rfl ?_)); clear H a; intro a H
                replace hm := bindS hm; obtain ⟨r55, hr55, hm⟩ := hm
                refine n_call H rfl en83 (g_r11_rule7_w (A := A) (⟨_, _, _, _, _, _, _, rfl, (hrp2_0.ext (Flat.mono _) hS.x), (hrp2_1.ext (Flat.mono _) hS.x), (hrp2_2.ext (Flat.mono _) hS.x), (hrp2_3.ext (Flat.mono _) hS.x), (hrp2_4.ext (Flat.mono _) hS.x), (hrp2_5.ext RGPort.mono hS.x), (hrp2_6.ext (Flat.mono _) hS.x)⟩ : RGState _ [.int .i64 a2.Id, .int .i64 a2.Frame, .int .i64 a2.Epoch, vp2_0, vp2_1, vp2_2, vp2_3, vp2_4, vp2_5, vp2_6] a2) hr55) rfl ?_
                clear H; intro x58 w56 hv; clear a; intro a H; obtain ⟨rfl, hE57⟩ := hv
                replace hS := hS.ext hE57
                refine n_q H (q_assign rfl) rfl ?_; clear H a; intro a H
                refine n_nil (then_normal (wp_ret (block_ret (then_ret ?_))))
                obtain rfl := Option.some.inj hm
                replace hS := hS.tk0
                refine ret1 H (.inr rfl) rfl rfl ?_
                exact ⟨rfl, hS.x⟩
              · replace hm := condF hm hc54
                refine wp_seq (wp_region_lit (n_q H (q_eqlD rfl rfl) rfl (W_q (q_assign rfl) rfl ?_))); clear H a; intro a H
                refine n_nil (then_normal (c_cond H rfl (fun hc59 => ?_) (fun hc59 => ?_)))
                · replace hm := condT hm hc59
                  refine wp_seq (wp_region_lit (n_q H (q_load rfl ((hS.blk 0 rfl).ldAll ag39 sz39)) rfl ?_)); clear H a; intro a H
                  replace hm := bindS hm; obtain ⟨r60, hr60, hm⟩ := hm
                  refine n_call H rfl en84 (g_r11_rule8_w (A := A) (⟨_, _, _, _, _, _, _, rfl, (hrp2_0.ext (Flat.mono _) hS.x), (hrp2_1.ext (Flat.mono _) hS.x), (hrp2_2.ext (Flat.mono _) hS.x), (hrp2_3.ext (Flat.mono _) hS.x), (hrp2_4.ext (Flat.mono _) hS.x), (hrp2_5.ext RGPort.mono hS.x), (hrp2_6.ext (Flat.mono _) hS.x)⟩ : RGState _ [.int .i64 a2.Id, .int .i64 a2.Frame, .int .i64 a2.Epoch, vp2_0, vp2_1, vp2_2, vp2_3, vp2_4, vp2_5, vp2_6] a2) hr60) rfl ?_
                  clear H; intro x63 w61 hv; clear a; intro a H; obtain ⟨rfl, hE62⟩ := hv
                  replace hS := hS.ext hE62
                  refine n_q H (q_assign rfl) rfl ?_; clear H a; intro a H
                  refine n_nil (then_normal (wp_ret (block_ret (then_ret ?_))))
                  obtain rfl := Option.some.inj hm
                  replace hS := hS.tk0
                  refine ret1 H (.inr rfl) rfl rfl ?_
                  exact ⟨rfl, hS.x⟩
                · replace hm := condF hm hc59
                  refine wp_seq (wp_region_lit (n_q H (q_eqlD rfl rfl) rfl (W_q (q_assign rfl) rfl ?_))); clear H a; intro a H
                  refine n_nil (then_normal (c_cond H rfl (fun hc64 => ?_) (fun hc64 => ?_)))
                  · replace hm := condT hm hc64
                    refine wp_seq (wp_region_lit (n_q H (q_load rfl ((hS.blk 0 rfl).ldAll ag39 sz39)) rfl ?_)); clear H a; intro a H
                    replace hm := bindS hm; obtain ⟨r65, hr65, hm⟩ := hm
                    refine n_call H rfl en85 (g_r11_rule9_w (A := A) (⟨_, _, _, _, _, _, _, rfl, (hrp2_0.ext (Flat.mono _) hS.x), (hrp2_1.ext (Flat.mono _) hS.x), (hrp2_2.ext (Flat.mono _) hS.x), (hrp2_3.ext (Flat.mono _) hS.x), (hrp2_4.ext (Flat.mono _) hS.x), (hrp2_5.ext RGPort.mono hS.x), (hrp2_6.ext (Flat.mono _) hS.x)⟩ : RGState _ [.int .i64 a2.Id, .int .i64 a2.Frame, .int .i64 a2.Epoch, vp2_0, vp2_1, vp2_2, vp2_3, vp2_4, vp2_5, vp2_6] a2) hr65) rfl ?_
                    clear H; intro x68 w66 hv; clear a; intro a H; obtain ⟨rfl, hE67⟩ := hv
                    replace hS := hS.ext hE67
                    refine n_q H (q_assign rfl) rfl ?_; clear H a; intro a H
                    refine n_nil (then_normal (wp_ret (block_ret (then_ret ?_))))
                    obtain rfl := Option.some.inj hm
                    replace hS := hS.tk0
                    refine ret1 H (.inr rfl) rfl rfl ?_
                    exact ⟨rfl, hS.x⟩
                  · replace hm := condF hm hc64
                    refine wp_seq (wp_region_lit (n_q H (q_eqlD rfl rfl) rfl (W_q (q_assign rfl) rfl ?_))); clear H a; intro a H
                    refine n_nil (then_normal (c_cond H rfl (fun hc69 => ?_) (fun hc69 => ?_)))
                    · replace hm := condT hm hc69
                      refine wp_seq (wp_seq (wp_region_lit (n_q H (q_assign rfl) rfl ?_))); clear H a; intro a H
                      refine n_nil (then_normal (wp_block ?_))
                      replace hS := hS.tk1
                      replace hm := bindS hm; obtain ⟨q70, hm, hm70⟩ := hm; replace hm := iter_some hm; obtain ⟨n70, hm⟩ := hm
                      refine c_loop (σ := Nat × Nat) (fun (m, i71) => [(5, .pointer (some ⟨b24, 0, none⟩)), (7, .int .i64 ((i71 : Nat) : Int))]) (fun (m, i71) wl => iterN (g_r11_kept_L7 a2) m i71 = some q70 ∧ St NB w wl [blkR b24 [.int .i64 a2.Id, .int .i64 a2.Frame, .int .i64 a2.Epoch, vp2_0, vp2_1, vp2_2, vp2_3, vp2_4, vp2_5, vp2_6] 39]) (fun (m, i71) => m) (n70, 0) H ⟨rfl, rfl, trivial⟩ ⟨hm, hS⟩ ?_
                      clear H hS hm a; intro xx a w72 H hR; obtain ⟨m, i71⟩ := xx; simp only [ent, List.map_cons, List.map_nil] at H; (try dsimp only at hR); obtain ⟨hm, hS⟩ := hR
                      replace hm := iterN_step hm; obtain ⟨m70, o70, rfl, hm, hn70⟩ := hm; try dsimp only [g_r11_kept_L7] at hm
                      refine wp_seq (wp_seq (wp_region_lit (n_q H (q_move rfl) rfl (W_q (q_fieldAddr0 rfl fo39_7) rfl (W_q (q_load rfl ((hS.blk 0 rfl).ld ag25 rfl)) rfl ?_))))); clear H a; intro a H
                      obtain ⟨A73, c73, hv73, hl73, hm73⟩ := SlR.formV (hrp2_4.ext (Flat.mono _) hS.x)
                      refine n_q H (q_lenV Tryz.underlying25 rfl hv73) rfl (W_q (q_lssN (i := i71) (j := a2.Sems.length) rfl rfl) rfl ?_); clear H a; intro a H
                      refine n_nil (then_normal (c_cond H rfl (fun hc74 => ?_) (fun hc74 => ?_)))
                      · replace hm := condT hm hc74
                        have hlt75 : i71 < a2.Sems.length := of_decide_eq_true hc74
                        refine wp_skip (then_normal (wp_seq (wp_block ?_)))
                        replace hm := bindS hm; obtain ⟨j76, hm, hm76⟩ := hm
                        refine c_join (σ := Bool) H (fun q577 => [(5, .pointer (some ⟨b24, 0, none⟩)), (7, .int .i64 ((i71 : Nat) : Int)), (127, .bool q577)]) (fun q577 wl => (g_r11_kept_J6 i71) q577 = some o70 ∧ St NB w wl [blkR b24 [.int .i64 a2.Id, .int .i64 a2.Frame, .int .i64 a2.Epoch, vp2_0, vp2_1, vp2_2, vp2_3, vp2_4, vp2_5, vp2_6] 39]) ?_ ?_
                        · skip
                          refine wp_region_lit (n_q H (q_fieldAddr0 rfl fo39_7) rfl (W_q (q_load rfl ((hS.blk 0 rfl).ld ag25 rfl)) rfl (W_q (q_move rfl) rfl ?_))); clear H a; intro a H
                          replace hm := bindS hm; obtain ⟨x578, hx578, hm⟩ := hm
                          obtain ⟨adx578, hAx578⟩ := SlR.adV (hrp2_4.ext (Flat.mono _) hS.x) hv73 hx578
                          refine n_q H (q_ixV (i := i71) Tryz.underlying25 sz3 rfl hv73 hAx578 rfl (natI hx578)) rfl (W_q (q_load rfl (SlR.ldOneV (hrp2_4.ext (Flat.mono _) hS.x) hv73 hAx578 ag3 hx578 rfl)) rfl (W_q (q_lss rfl rfl) rfl (W_q (q_move rfl) rfl ?_))); clear H a; intro a H
                          rcases Bool.eq_false_or_eq_true (decide (x578 < 0)) with hg579 | hg579
                          · replace H := H.know 120 rfl hg579
                            replace hm := condT hm hg579
                            refine n_no H rfl rfl (by decide) rfl (W_no rfl rfl (by decide) rfl (W_no rfl rfl (by decide) rfl (W_no rfl rfl (by decide) rfl (W_no rfl rfl (by decide) rfl (W_no rfl rfl (by decide) rfl (W_q (q_pickT rfl rfl) rfl ?_)))))); clear H a; intro a H
                            refine n_nil (then_normal ?_)
                            obtain rfl := Option.some.inj hm; replace hm := hm76; try dsimp only at hm
                            exact join true H ⟨rfl, rfl, rfl, trivial⟩ ⟨hm, hS⟩
                          · replace H := H.know 120 rfl hg579
                            replace hm := condF hm hg579
                            refine n_yes H rfl rfl (n_q H (q_fieldAddr0 rfl fo39_7) rfl (W_yes rfl rfl (W_q (q_load rfl ((hS.blk 0 rfl).ld ag25 rfl)) rfl (W_yes rfl rfl (W_q (q_move rfl) rfl (W_yes rfl rfl ?_)))))); clear H a; intro a H
                            replace hm := bindS hm; obtain ⟨x580, hx580, hm⟩ := hm
                            obtain ⟨adx580, hAx580⟩ := SlR.adV (hrp2_4.ext (Flat.mono _) hS.x) hv73 hx580
                            refine n_q H (q_ixV (i := i71) Tryz.underlying25 sz3 rfl hv73 hAx580 rfl (natI hx580)) rfl (W_yes rfl rfl (W_q (q_load rfl (SlR.ldOneV (hrp2_4.ext (Flat.mono _) hS.x) hv73 hAx580 ag3 hx580 rfl)) rfl (W_yes rfl rfl (W_q (q_gtr rfl rfl) rfl (W_q (q_pickF rfl rfl) rfl ?_))))); clear H a; intro a H
                            refine n_nil (then_normal ?_)
                            obtain rfl := Option.some.inj hm; replace hm := hm76; try dsimp only at hm
                            exact join (decide (255 < x580)) H ⟨rfl, rfl, rfl, trivial⟩ ⟨hm, hS⟩
                        · clear H hS hm a; intro q577 a w581 H hR
                          simp only [ent, List.map_cons, List.map_nil] at H; (try dsimp only at hR); obtain ⟨hm, hS⟩ := hR; try dsimp only [g_r11_kept_J6] at hm
                          refine c_cond H rfl (fun hc582 => ?_) (fun hc582 => ?_)
                          · replace hm := condT hm hc582
                            refine wp_seq (wp_region_lit (n_q H (q_assign rfl) rfl ?_)); clear H a; intro a H
                            refine n_nil (then_normal (wp_ret (block_ret (then_ret (then_ret (block_ret (then_ret (block_ret (then_ret ?_)))))))))
                            obtain rfl := Option.some.inj hm; have hz : _ = q70 := hn70; subst hz; replace hm := hm70; try dsimp only at hm
                            obtain rfl := Option.some.inj hm
                            replace hS := hS.tk0
                            refine ret1 H (.inr rfl) rfl rfl ?_
                            exact ⟨rfl, hS.x⟩
                          · replace hm := condF hm hc582
                            refine wp_skip (block_normal (then_normal (wp_region_lit (n_q H (q_move rfl) rfl (W_q (q_incr (i := i71) (j := 1) rfl rfl (by omega)) rfl (W_q (q_assign rfl) rfl ?_)))))); clear H a; intro a H
                            refine n_nil (then_normal ?_)
                            obtain rfl := Option.some.inj hm
                            exact round (m70, i71 + 1) H ⟨rfl, rfl, trivial⟩ ⟨hn70, hS⟩ (Nat.lt_succ_self _)
                      · replace hm := condF hm hc74
                        refine wp_exit (then_exit (then_exit (block_exit ?_)))
                        obtain rfl := Option.some.inj hm; have hz : _ = q70 := hn70; subst hz; replace hm := hm70; try dsimp only at hm
                        refine then_normal (wp_seq (wp_region_lit (n_q H (q_assign rfl) rfl ?_))); clear H a; intro a H
                        refine n_nil (then_normal (wp_ret (block_ret (then_ret ?_))))
                        obtain rfl := Option.some.inj hm
                        replace hS := hS.tk0
                        refine ret1 H (.inr rfl) rfl rfl ?_
                        exact ⟨rfl, hS.x⟩
                    · replace hm := condF hm hc69
                      refine wp_skip (block_normal (then_normal (wp_seq (wp_region_lit (n_q H (q_move rfl) rfl (W_q (q_load rfl ((hS.blk 1 rfl).ldAll ag27 sz27)) rfl (W_q (q_load rfl ((hS.blk 0 rfl).ldAll ag39 sz39)) rfl ?_))))))); clear H a; intro a H
                      replace hm := bindS hm; obtain ⟨r583, hr583, hm⟩ := hm
                      refine n_call H rfl en86 (g_r11_keptMore_w (A := A) (⟨_, _, _, _, rfl, (hrp1_0.ext (Flat.mono _) hS.x), (hrp1_1.ext (Flat.mono _) hS.x), (hrp1_2.ext (Flat.mono _) hS.x), (hrp1_3.ext (Flat.mono _) hS.x)⟩ : RGPlan _ [.int .i64 a1.Id, .bool a1.Mobile, vp1_0, vp1_1, vp1_2, .int .i64 a1.Events, vp1_3] a1) (⟨_, _, _, _, _, _, _, rfl, (hrp2_0.ext (Flat.mono _) hS.x), (hrp2_1.ext (Flat.mono _) hS.x), (hrp2_2.ext (Flat.mono _) hS.x), (hrp2_3.ext (Flat.mono _) hS.x), (hrp2_4.ext (Flat.mono _) hS.x), (hrp2_5.ext RGPort.mono hS.x), (hrp2_6.ext (Flat.mono _) hS.x)⟩ : RGState _ [.int .i64 a2.Id, .int .i64 a2.Frame, .int .i64 a2.Epoch, vp2_0, vp2_1, vp2_2, vp2_3, vp2_4, vp2_5, vp2_6] a2) hr583) rfl ?_
                      clear H; intro x586 w584 hv; clear a; intro a H; obtain ⟨rfl, hE585⟩ := hv
                      replace hS := hS.ext hE585
                      refine n_q H (q_assign rfl) rfl ?_; clear H a; intro a H
                      refine n_nil (then_normal (wp_ret ?_))
                      obtain rfl := Option.some.inj hm
                      replace hS := hS.tk0
                      refine ret1 H (.inr rfl) rfl rfl ?_
                      exact ⟨rfl, hS.x⟩
theorem g_r11_Faults_w {w : World} {A : Nat → Addr} {cs0 : List Value} {a0 : GPlan} {cs1 : List Value} {a1 : GState} (h0 : RGPlan w cs0 a0) (h1 : RGState w cs1 a1) {r : List Int} (hm : g_r11_Faults a0 a1 = some r) :
    Calls Tryz.prog 45 [.agg cs0.toArray, .agg cs1.toArray].toArray w (Ret fun u w' => ∃ h_0, u = h_0 ∧ St NB w w' [ownR 3 1 h_0 r.length (r.flatMap eI)]) := by
  obtain ⟨vp0_0, vp0_1, vp0_2, vp0_3, rfl, hrp0_0, hrp0_1, hrp0_2, hrp0_3⟩ := h0
  obtain ⟨vp1_0, vp1_1, vp1_2, vp1_3, vp1_4, vp1_5, vp1_6, rfl, hrp1_0, hrp1_1, hrp1_2, hrp1_3, hrp1_4, hrp1_5, hrp1_6⟩ := h1
  have hS := St.begin NB w
  unfold g_r11_Faults at hm
  refine enter Tryz.func45 rfl rfl rfl ?_; intro a H; dsimp only [enumL, Nat.zero_add, Nat.reduceAdd] at H
  refine wp_seq (wp_region_lit (n_box H rfl (cs := [.int .i64 a0.Id, .bool a0.Mobile, vp0_0, vp0_1, vp0_2, .int .i64 a0.Events, vp0_3]) rfl rfl ?_))
  clear H; intro b21 w22 hN hE23 hs; clear a; intro a H
  replace hS := hS.newBlk hN hE23 hs; clear hN hs
  refine n_box H rfl (cs := [.int .i64 a1.Id, .int .i64 a1.Frame, .int .i64 a1.Epoch, vp1_0, vp1_1, vp1_2, vp1_3, vp1_4, vp1_5, vp1_6]) rfl rfl ?_
  clear H; intro b24 w25 hN hE26 hs; clear a; intro a H
  replace hS := hS.newBlk hN hE26 hs; clear hN hs
  refine n_q H (q_assign rfl) rfl ?_; clear H a; intro a H
  refine n_nil (then_normal (wp_seq (wp_seq (wp_region_lit (n_q H (q_load rfl ((hS.blk 1 rfl).ldAll ag27 sz27)) rfl ?_))))); clear H a; intro a H
  replace hm := bindS hm; obtain ⟨r27, hr27, hm⟩ := hm
  refine n_call H rfl en7 (g_r10_Good_w (A := A) (⟨_, _, _, _, rfl, (hrp0_0.ext (Flat.mono _) hS.x), (hrp0_1.ext (Flat.mono _) hS.x), (hrp0_2.ext (Flat.mono _) hS.x), (hrp0_3.ext (Flat.mono _) hS.x)⟩ : RGPlan _ [.int .i64 a0.Id, .bool a0.Mobile, vp0_0, vp0_1, vp0_2, .int .i64 a0.Events, vp0_3] a0) hr27) rfl ?_
  clear H; intro x30 w28 hv; clear a; intro a H; obtain ⟨rfl, hE29⟩ := hv
  replace hS := hS.ext hE29
  refine n_q H (q_not rfl) rfl ?_; clear H a; intro a H
  refine n_nil (then_normal (c_cond H rfl (fun hc31 => ?_) (fun hc31 => ?_)))
  · replace hm := condT hm hc31
    refine wp_seq (wp_region_lit (n_buildSlice H Tryz.underlying25 sz3 ze3 rfl rfl rfl (cs := [.int .i64 0]) (by kernel_rfl) rfl ?_))
    clear H; intro b34 w32 hN hE33 hs; clear a; intro a H
    replace hS := hS.newBlk hN hE33 hs; clear hN hs
    replace hS := hS.blkOwnL (e := eI) (k := 1) [0] rfl rfl (by simp [maxLen])
    refine n_q H (q_assign rfl) rfl ?_; clear H a; intro a H
    refine n_nil (then_normal (wp_ret (then_ret ?_)))
    obtain rfl := Option.some.inj hm
    replace hS := hS.tk1
    refine ret1 H (.inr rfl) rfl rfl ?_
    exact ⟨_, rfl, hS⟩
  · replace hm := condF hm hc31
    refine wp_skip (then_normal (wp_seq (wp_region_lit (n_q H (q_assign rfl) rfl ?_)))); clear H a; intro a H
    refine n_nil (then_normal (wp_seq (wp_seq (wp_region_lit (n_q H (q_assign rfl) rfl ?_))))); clear H a; intro a H
    refine n_nil (then_normal (wp_block ?_))
    replace hS := hS.nilOwn 3 1
    replace hS := hS.pk1
    replace hS := hS.pk2
    replace hS := hS.pk2
    replace hm := bindS hm; obtain ⟨q36, hm, hm36⟩ := hm; replace hm := iter_some hm; obtain ⟨n36, hm⟩ := hm
    refine c_loop (σ := Nat × (List Int) × Int × Value) (fun (m, l37, z41, v38) => [(2, .pointer (some ⟨b21, 0, none⟩)), (3, .pointer (some ⟨b24, 0, none⟩)), (5, v38), (6, .int .i64 z41)]) (fun (m, l37, z41, v38) wl => iterN (g_r11_Faults_L5 a0 a1) m (l37, z41) = some q36 ∧ St NB w wl [ownR 3 1 v38 l37.length (l37.flatMap eI), blkR b21 [.int .i64 a0.Id, .bool a0.Mobile, vp0_0, vp0_1, vp0_2, .int .i64 a0.Events, vp0_3] 27, blkR b24 [.int .i64 a1.Id, .int .i64 a1.Frame, .int .i64 a1.Epoch, vp1_0, vp1_1, vp1_2, vp1_3, vp1_4, vp1_5, vp1_6] 39]) (fun (m, l37, z41, v38) => m) (n36, ([] : List Int), 1, .slice none 0 0) H ⟨rfl, rfl, rfl, rfl, trivial⟩ ⟨hm, hS⟩ ?_
    clear H hS hm a; intro xx a w43 H hR; obtain ⟨m, l37, z41, v38⟩ := xx; simp only [ent, List.map_cons, List.map_nil] at H; (try dsimp only at hR); obtain ⟨hm, hS⟩ := hR
    replace hm := iterN_step hm; obtain ⟨m36, o36, rfl, hm, hn36⟩ := hm; try dsimp only [g_r11_Faults_L5] at hm
    refine wp_seq (wp_seq (wp_region_lit (n_q H (q_move rfl) rfl (W_q (q_leq rfl rfl) rfl ?_)))); clear H a; intro a H
    refine n_nil (then_normal (c_cond H rfl (fun hc44 => ?_) (fun hc44 => ?_)))
    · replace hm := condT hm hc44
      refine wp_skip (then_normal ?_)
      replace hm := bindS hm; obtain ⟨j45, hm, hm45⟩ := hm
      refine c_join (σ := (List Int) × Value) H (fun (l546, v547) => [(2, .pointer (some ⟨b21, 0, none⟩)), (3, .pointer (some ⟨b24, 0, none⟩)), (5, v547), (6, .int .i64 z41)]) (fun (l546, v547) wl => (g_r11_Faults_J4 z41) l546 = some o36 ∧ St NB w wl [ownR 3 1 v547 l546.length (l546.flatMap eI), blkR b21 [.int .i64 a0.Id, .bool a0.Mobile, vp0_0, vp0_1, vp0_2, .int .i64 a0.Events, vp0_3] 27, blkR b24 [.int .i64 a1.Id, .int .i64 a1.Frame, .int .i64 a1.Epoch, vp1_0, vp1_1, vp1_2, vp1_3, vp1_4, vp1_5, vp1_6] 39]) ?_ ?_
      · skip
        refine wp_block (wp_seq (wp_region_lit (n_q H (q_move rfl) rfl (W_q (q_load rfl ((hS.blk 1 rfl).ldAll ag27 sz27)) rfl (W_q (q_load rfl ((hS.blk 2 rfl).ldAll ag39 sz39)) rfl ?_))))); clear H a; intro a H
        replace hm := bindS hm; obtain ⟨r549, hr549, hm⟩ := hm
        refine n_call H rfl en70 (g_r11_kept_w (A := A) (⟨_, _, _, _, rfl, (hrp0_0.ext (Flat.mono _) hS.x), (hrp0_1.ext (Flat.mono _) hS.x), (hrp0_2.ext (Flat.mono _) hS.x), (hrp0_3.ext (Flat.mono _) hS.x)⟩ : RGPlan _ [.int .i64 a0.Id, .bool a0.Mobile, vp0_0, vp0_1, vp0_2, .int .i64 a0.Events, vp0_3] a0) (⟨_, _, _, _, _, _, _, rfl, (hrp1_0.ext (Flat.mono _) hS.x), (hrp1_1.ext (Flat.mono _) hS.x), (hrp1_2.ext (Flat.mono _) hS.x), (hrp1_3.ext (Flat.mono _) hS.x), (hrp1_4.ext (Flat.mono _) hS.x), (hrp1_5.ext RGPort.mono hS.x), (hrp1_6.ext (Flat.mono _) hS.x)⟩ : RGState _ [.int .i64 a1.Id, .int .i64 a1.Frame, .int .i64 a1.Epoch, vp1_0, vp1_1, vp1_2, vp1_3, vp1_4, vp1_5, vp1_6] a1) hr549) rfl ?_
        clear H; intro x552 w550 hv; clear a; intro a H; obtain ⟨rfl, hE551⟩ := hv
        replace hS := hS.ext hE551
        refine n_q H (q_not rfl) rfl ?_; clear H a; intro a H
        refine n_nil (then_normal (c_cond H rfl (fun hc553 => ?_) (fun hc553 => ?_)))
        · replace hm := condT hm hc553
          refine wp_region_lit (n_q H (q_move rfl) rfl (W_q (q_move rfl) rfl ?_)); clear H a; intro a H
          refine n_buildSlice H Tryz.underlying25 sz3 ze3 rfl rfl rfl (cs := [.int .i64 z41]) (by kernel_rfl) rfl ?_
          clear H; intro b556 w554 hN hE555 hs; clear a; intro a H
          replace hS := hS.newBlk hN hE555 hs; clear hN hs
          replace hS := hS.blkOwnL (e := eI) (k := 1) [z41] rfl rfl (by simp [maxLen])
          replace hS := hS.pk1
          replace hm := chkS hm; obtain ⟨hk558, hm⟩ := hm
          refine n_app (e := eI) H rfl rfl Tryz.underlying25 Tryz.underlying25 (by simp) el3 (hS.own 0 rfl) (((hS.own 1 rfl).slr rfl (fun _ _ => rfl)).src (fun _ _ => rfl)) eI_one hk558 (by simp only [maxLen]; omega) rfl ?_
          clear H; intro v561 w559 hN hC560 hb; clear a; intro a H; replace hS := hS.setOwn hN hC560 hb; clear hN hb
          refine n_q H (q_assign rfl) rfl ?_; clear H a; intro a H
          refine n_nil (block_normal (then_normal ?_))
          obtain rfl := Option.some.inj hm; replace hm := hm45; try dsimp only at hm
          replace hS := hS.pk3
          replace hS := hS.pk3
          replace hS := hS.pk2
          replace hS := hS.tk3
          exact join ((l37 ++ [z41]), v561) H ⟨rfl, rfl, rfl, rfl, trivial⟩ ⟨hm, hS⟩
        · replace hm := condF hm hc553
          refine wp_skip (block_normal (then_normal ?_))
          obtain rfl := Option.some.inj hm; replace hm := hm45; try dsimp only at hm
          exact join (l37, v38) H ⟨rfl, rfl, rfl, rfl, trivial⟩ ⟨hm, hS⟩
      · clear H hS hm a; intro xx a w563 H hR
        obtain ⟨l546, v547⟩ := xx
        simp only [ent, List.map_cons, List.map_nil] at H; (try dsimp only at hR); obtain ⟨hm, hS⟩ := hR; try dsimp only [g_r11_Faults_J4] at hm
        refine wp_region_lit (n_q H (q_move rfl) rfl (W_q (q_addW rfl rfl) rfl (W_q (q_assign rfl) rfl ?_))); clear H a; intro a H
        refine n_nil (then_normal ?_)
        obtain rfl := Option.some.inj hm
        exact round (m36, l546, (IntKind.i64.wrap (z41 + 1)), v547) H ⟨rfl, rfl, rfl, rfl, trivial⟩ ⟨hn36, hS⟩ (Nat.lt_succ_self _)
    · replace hm := condF hm hc44
      refine wp_exit (then_exit (then_exit (block_exit ?_)))
      obtain rfl := Option.some.inj hm; have hz : _ = q36 := hn36; subst hz; replace hm := hm36; try dsimp only at hm
      refine then_normal (wp_seq (wp_region_lit (n_q H (q_move rfl) rfl (W_q (q_assign rfl) rfl ?_)))); clear H a; intro a H
      refine n_nil (then_normal (wp_ret ?_))
      obtain rfl := Option.some.inj hm
      replace hS := hS.tk1
      refine ret1 H (.inr rfl) rfl rfl ?_
      exact ⟨_, rfl, hS⟩
theorem g_r11_check_w {w : World} {A : Nat → Addr} {cs0 : List Value} {a0 : GPlan} {cs1 : List Value} {a1 : GState} {a2 : Int} (h0 : RGPlan w cs0 a0) (h1 : RGState w cs1 a1) {r : Int × Int} (hm : g_r11_check a0 a1 a2 = some r) :
    Calls Tryz.prog 21 [.agg cs0.toArray, .agg cs1.toArray, .int .i64 a2].toArray w (Ret fun u w' => u = .tuple #[.int .i64 r.1, .int .i64 r.2] ∧ Ext w w') := by
  obtain ⟨vp0_0, vp0_1, vp0_2, vp0_3, rfl, hrp0_0, hrp0_1, hrp0_2, hrp0_3⟩ := h0
  obtain ⟨vp1_0, vp1_1, vp1_2, vp1_3, vp1_4, vp1_5, vp1_6, rfl, hrp1_0, hrp1_1, hrp1_2, hrp1_3, hrp1_4, hrp1_5, hrp1_6⟩ := h1
  have hS := St.begin NB w
  unfold g_r11_check at hm
  refine enter Tryz.func21 rfl rfl rfl ?_; intro a H; dsimp only [enumL, Nat.zero_add, Nat.reduceAdd] at H
  refine wp_seq (wp_region_lit (n_box H rfl (cs := [.int .i64 a0.Id, .bool a0.Mobile, vp0_0, vp0_1, vp0_2, .int .i64 a0.Events, vp0_3]) rfl rfl ?_))
  clear H; intro b21 w22 hN hE23 hs; clear a; intro a H
  replace hS := hS.newBlk hN hE23 hs; clear hN hs
  refine n_box H rfl (cs := [.int .i64 a1.Id, .int .i64 a1.Frame, .int .i64 a1.Epoch, vp1_0, vp1_1, vp1_2, vp1_3, vp1_4, vp1_5, vp1_6]) rfl rfl ?_
  clear H; intro b24 w25 hN hE26 hs; clear a; intro a H
  replace hS := hS.newBlk hN hE26 hs; clear hN hs
  refine n_q H (q_assign rfl) rfl (W_q (q_assign rfl) rfl ?_); clear H a; intro a H
  refine n_nil (then_normal (wp_seq (wp_region_lit (n_q H (q_load rfl ((hS.blk 1 rfl).ldAll ag27 sz27)) rfl (W_q (q_load rfl ((hS.blk 0 rfl).ldAll ag39 sz39)) rfl ?_))))); clear H a; intro a H
  replace hm := bindS hm; obtain ⟨r27, hr27, hm⟩ := hm
  refine n_call H rfl en45 (g_r11_Faults_w (A := A) (⟨_, _, _, _, rfl, (hrp0_0.ext (Flat.mono _) hS.x), (hrp0_1.ext (Flat.mono _) hS.x), (hrp0_2.ext (Flat.mono _) hS.x), (hrp0_3.ext (Flat.mono _) hS.x)⟩ : RGPlan _ [.int .i64 a0.Id, .bool a0.Mobile, vp0_0, vp0_1, vp0_2, .int .i64 a0.Events, vp0_3] a0) (⟨_, _, _, _, _, _, _, rfl, (hrp1_0.ext (Flat.mono _) hS.x), (hrp1_1.ext (Flat.mono _) hS.x), (hrp1_2.ext (Flat.mono _) hS.x), (hrp1_3.ext (Flat.mono _) hS.x), (hrp1_4.ext (Flat.mono _) hS.x), (hrp1_5.ext RGPort.mono hS.x), (hrp1_6.ext (Flat.mono _) hS.x)⟩ : RGState _ [.int .i64 a1.Id, .int .i64 a1.Frame, .int .i64 a1.Epoch, vp1_0, vp1_1, vp1_2, vp1_3, vp1_4, vp1_5, vp1_6] a1) hr27) rfl ?_
  clear H; intro u28 w30 hv; clear a; intro a H; obtain ⟨_, rfl, hE31⟩ := hv
  replace hS := hS.new hE31; simp only [List.cons_append, List.nil_append] at hS
  refine n_q H (q_assign rfl) rfl ?_; clear H a; intro a H
  refine n_nil (then_normal (wp_seq ?_))
  replace hm := bindS hm; obtain ⟨j33, hm, hm33⟩ := hm
  refine c_join (σ := Bool) H (fun q534 => [(8, u28), (21, .bool q534)]) (fun q534 wl => (g_r11_check_J2 r27) q534 = some r ∧ St NB w wl [ownR 3 1 u28 r27.length (r27.flatMap eI)]) ?_ ?_
  · skip
    refine wp_region_lit (n_q H (q_move rfl) rfl ?_); clear H a; intro a H
    obtain ⟨A535, c535, hv535, hl535, hm535⟩ := SlR.formV ((hS.own 0 rfl).slr rfl (fun _ _ => rfl))
    refine n_q H (q_lenV Tryz.underlying25 rfl hv535) rfl (W_q (q_eqlN (i := r27.length) (j := 0) rfl rfl) rfl (W_q (q_move rfl) rfl ?_)); clear H a; intro a H
    rcases Bool.eq_false_or_eq_true (decide (r27.length = 0)) with hg536 | hg536
    · replace H := H.know 15 rfl hg536
      replace hm := condT hm hg536
      refine n_no H rfl rfl (by decide) rfl (W_no rfl rfl (by decide) rfl (W_no rfl rfl (by decide) rfl (W_no rfl rfl (by decide) rfl (W_no rfl rfl (by decide) rfl (W_q (q_pickT rfl rfl) rfl ?_))))); clear H a; intro a H
      refine n_nil (then_normal ?_)
      obtain rfl := Option.some.inj hm; replace hm := hm33; try dsimp only at hm
      replace hS := hS.tk1
      exact join true H ⟨rfl, rfl, trivial⟩ ⟨hm, hS⟩
    · replace H := H.know 15 rfl hg536
      replace hm := condF hm hg536
      refine n_yes H rfl rfl (n_q H (q_move rfl) rfl (W_yes rfl rfl ?_)); clear H a; intro a H
      replace hm := bindS hm; obtain ⟨x537, hx537, hm⟩ := hm
      obtain ⟨adx537, hAx537⟩ := SlR.adV ((hS.own 0 rfl).slr rfl (fun _ _ => rfl)) hv535 hx537
      refine n_q H (q_ixV (i := 0) Tryz.underlying25 sz3 rfl hv535 hAx537 rfl (natI hx537)) rfl (W_yes rfl rfl (W_q (q_load rfl (SlR.ldOneV ((hS.own 0 rfl).slr rfl (fun _ _ => rfl)) hv535 hAx537 ag3 hx537 rfl)) rfl (W_yes rfl rfl (W_q (q_move rfl) rfl (W_yes rfl rfl (W_q (q_gtr rfl rfl) rfl (W_q (q_pickF rfl rfl) rfl ?_))))))); clear H a; intro a H
      refine n_nil (then_normal ?_)
      obtain rfl := Option.some.inj hm; replace hm := hm33; try dsimp only at hm
      replace hS := hS.tk1
      exact join (decide (a2 < x537)) H ⟨rfl, rfl, trivial⟩ ⟨hm, hS⟩
  · clear H hS hm a; intro q534 a w538 H hR
    simp only [ent, List.map_cons, List.map_nil] at H; (try dsimp only at hR); obtain ⟨hm, hS⟩ := hR; try dsimp only [g_r11_check_J2] at hm
    refine c_cond H rfl (fun hc539 => ?_) (fun hc539 => ?_)
    · replace hm := condT hm hc539
      refine wp_seq (wp_region_lit (n_q H (q_assign rfl) rfl (W_q (q_assign rfl) rfl ?_))); clear H a; intro a H
      refine n_nil (then_normal (wp_ret (then_ret ?_)))
      obtain rfl := Option.some.inj hm
      replace hS := hS.tk0
      refine ret2 H (.inr rfl) rfl rfl rfl ?_
      exact ⟨rfl, hS.x⟩
    · replace hm := condF hm hc539
      refine wp_skip (then_normal (wp_seq (wp_seq (wp_region_lit (n_q H (q_move rfl) rfl ?_))))); clear H a; intro a H
      obtain ⟨A540, c540, hv540, hl540, hm540⟩ := SlR.formV ((hS.own 0 rfl).slr rfl (fun _ _ => rfl))
      replace hm := bindS hm; obtain ⟨x541, hx541, hm⟩ := hm
      obtain ⟨adx541, hAx541⟩ := SlR.adV ((hS.own 0 rfl).slr rfl (fun _ _ => rfl)) hv540 hx541
      refine n_q H (q_ixV (i := 0) Tryz.underlying25 sz3 rfl hv540 hAx541 rfl (natI hx541)) rfl (W_q (q_load rfl (SlR.ldOneV ((hS.own 0 rfl).slr rfl (fun _ _ => rfl)) hv540 hAx541 ag3 hx541 rfl)) rfl (W_q (q_eqlD rfl rfl) rfl ?_)); clear H a; intro a H
      refine n_nil (then_normal (c_cond H rfl (fun hc542 => ?_) (fun hc542 => ?_)))
      · replace hm := condT hm hc542
        refine wp_seq (wp_region_lit (n_q H (q_assign rfl) rfl (W_q (q_assign rfl) rfl ?_))); clear H a; intro a H
        refine n_nil (then_normal (wp_ret (then_ret ?_)))
        obtain rfl := Option.some.inj hm
        replace hS := hS.tk0
        refine ret2 H (.inr rfl) rfl rfl rfl ?_
        exact ⟨rfl, hS.x⟩
      · replace hm := condF hm hc542
        refine wp_skip (then_normal (wp_seq (c_quiet (by kernel_rfl) (by kernel_rfl) ?_)))
        refine qq_q H (q_move rfl) rfl ?_; clear H a; intro a H
        replace hm := bindS hm; obtain ⟨x543, hx543, hm⟩ := hm
        obtain ⟨adx543, hAx543⟩ := SlR.adV ((hS.own 0 rfl).slr rfl (fun _ _ => rfl)) hv540 hx543
        refine qq_q H (q_ixV (i := 0) Tryz.underlying25 sz3 rfl hv540 hAx543 rfl (natI hx543)) rfl ?_; clear H a; intro a H
        refine qq_q H (q_load rfl (SlR.ldOneV ((hS.own 0 rfl).slr rfl (fun _ _ => rfl)) hv540 hAx543 ag3 hx543 rfl)) rfl ?_; clear H a; intro a H
        refine qq_q H (q_assign rfl) rfl ?_; clear H a; intro a H
        refine qq_q H (q_assign rfl) rfl ?_; clear H a; intro a H
        refine qq_nil ?_; intro w544 hE545
        replace hS := hS.ext hE545
        refine then_normal (wp_ret ?_)
        obtain rfl := Option.some.inj hm
        replace hS := hS.tk0
        refine ret2 H (.inr rfl) rfl rfl rfl ?_
        exact ⟨rfl, hS.x⟩
theorem g_r11_Rest_w {w : World} {A : Nat → Addr} {cs0 : List Value} {a0 : GPlan} {cs1 : List Value} {a1 : GState} (h0 : RGPlan w cs0 a0) (h1 : RGState w cs1 a1) {r : Int × Int} (hm : g_r11_Rest a0 a1 = some r) :
    Calls Tryz.prog 10 [.agg cs0.toArray, .agg cs1.toArray].toArray w (Ret fun u w' => u = .tuple #[.int .i64 r.1, .int .i64 r.2] ∧ Ext w w') := by
  obtain ⟨vp0_0, vp0_1, vp0_2, vp0_3, rfl, hrp0_0, hrp0_1, hrp0_2, hrp0_3⟩ := h0
  obtain ⟨vp1_0, vp1_1, vp1_2, vp1_3, vp1_4, vp1_5, vp1_6, rfl, hrp1_0, hrp1_1, hrp1_2, hrp1_3, hrp1_4, hrp1_5, hrp1_6⟩ := h1
  have hS := St.begin NB w
  unfold g_r11_Rest at hm
  refine enter Tryz.func10 rfl rfl rfl ?_; intro a H; dsimp only [enumL, Nat.zero_add, Nat.reduceAdd] at H
  refine wp_seq (wp_region_lit (n_box H rfl (cs := [.int .i64 a0.Id, .bool a0.Mobile, vp0_0, vp0_1, vp0_2, .int .i64 a0.Events, vp0_3]) rfl rfl ?_))
  clear H; intro b21 w22 hN hE23 hs; clear a; intro a H
  replace hS := hS.newBlk hN hE23 hs; clear hN hs
  refine n_box H rfl (cs := [.int .i64 a1.Id, .int .i64 a1.Frame, .int .i64 a1.Epoch, vp1_0, vp1_1, vp1_2, vp1_3, vp1_4, vp1_5, vp1_6]) rfl rfl ?_
  clear H; intro b24 w25 hN hE26 hs; clear a; intro a H
  replace hS := hS.newBlk hN hE26 hs; clear hN hs
  refine n_q H (q_assign rfl) rfl (W_q (q_assign rfl) rfl ?_); clear H a; intro a H
  refine n_nil (then_normal (wp_seq (wp_region_lit (n_q H (q_load rfl ((hS.blk 1 rfl).ldAll ag27 sz27)) rfl (W_q (q_load rfl ((hS.blk 0 rfl).ldAll ag39 sz39)) rfl ?_))))); clear H a; intro a H
  replace hm := bindS hm; obtain ⟨r27, hr27, hm⟩ := hm
  refine n_call H rfl en21 (g_r11_check_w (A := A) (⟨_, _, _, _, rfl, (hrp0_0.ext (Flat.mono _) hS.x), (hrp0_1.ext (Flat.mono _) hS.x), (hrp0_2.ext (Flat.mono _) hS.x), (hrp0_3.ext (Flat.mono _) hS.x)⟩ : RGPlan _ [.int .i64 a0.Id, .bool a0.Mobile, vp0_0, vp0_1, vp0_2, .int .i64 a0.Events, vp0_3] a0) (⟨_, _, _, _, _, _, _, rfl, (hrp1_0.ext (Flat.mono _) hS.x), (hrp1_1.ext (Flat.mono _) hS.x), (hrp1_2.ext (Flat.mono _) hS.x), (hrp1_3.ext (Flat.mono _) hS.x), (hrp1_4.ext (Flat.mono _) hS.x), (hrp1_5.ext RGPort.mono hS.x), (hrp1_6.ext (Flat.mono _) hS.x)⟩ : RGState _ [.int .i64 a1.Id, .int .i64 a1.Frame, .int .i64 a1.Epoch, vp1_0, vp1_1, vp1_2, vp1_3, vp1_4, vp1_5, vp1_6] a1) hr27) rfl ?_
  clear H; intro x30 w28 hv; clear a; intro a H; obtain ⟨rfl, hE29⟩ := hv
  replace hS := hS.ext hE29
  refine n_q H (q_extract rfl rfl) rfl (W_q (q_extract rfl rfl) rfl (W_q (q_assign rfl) rfl (W_q (q_assign rfl) rfl ?_))); clear H a; intro a H
  refine n_nil (then_normal (wp_ret ?_))
  obtain rfl := Option.some.inj hm
  replace hS := hS.tk0
  refine ret2 H (.inr rfl) rfl rfl rfl ?_
  exact ⟨rfl, hS.x⟩
set_option maxHeartbeats 1000000 in
theorem g_r10_Boot_w {w : World} {A : Nat → Addr} {cs0 : List Value} {a0 : GPlan} (h0 : RGPlan w cs0 a0) {r : GState} (hm : g_r10_Boot a0 = some r) :
    Calls Tryz.prog 11 [.agg cs0.toArray].toArray w (Ret fun u w' => ∃ h_0 h_1 h_2 h_3 h_4 h_5 h_6, u = .agg #[.int .i64 r.Id, .int .i64 r.Frame, .int .i64 r.Epoch, h_0, h_1, h_2, h_3, h_4, h_5, h_6] ∧ St NB w w' [ownR 67 21 h_0 r.Procs.length (r.Procs.flatMap eGProc), ownR 3 1 h_1 r.Ready.length (r.Ready.flatMap eI), ownR 99 2 h_2 r.Timers.length (r.Timers.flatMap eGTimer), ownR 4 1 h_3 r.Up.length (r.Up.flatMap eF), ownR 3 1 h_4 r.Sems.length (r.Sems.flatMap eI), deepR 76 2 RGPort h_5 r.Ports, ownR 60 66 h_6 r.Pages.length (r.Pages.flatMap eGPage)]) := by
  obtain ⟨vp0_0, vp0_1, vp0_2, vp0_3, rfl, hrp0_0, hrp0_1, hrp0_2, hrp0_3⟩ := h0
  have hS := St.begin NB w
  unfold g_r10_Boot at hm
  refine enter Tryz.func11 rfl rfl rfl ?_; intro a H; dsimp only [enumL, Nat.zero_add, Nat.reduceAdd] at H
  refine wp_seq (wp_region_lit (n_box H rfl (cs := [.int .i64 a0.Id, .bool a0.Mobile, vp0_0, vp0_1, vp0_2, .int .i64 a0.Events, vp0_3]) rfl rfl ?_))
  clear H; intro b21 w22 hN hE23 hs; clear a; intro a H
  replace hS := hS.newBlk hN hE23 hs; clear hN hs
  refine n_alloc H ze39 rfl ?_
  clear H; intro b24 w25 hN hE26 hs; clear a; intro a H
  replace hS := hS.newBlk hN hE26 hs; clear hN hs
  refine n_nil (then_normal (wp_seq (wp_region_lit (n_q H (q_fieldAddr0 rfl fo27_0) rfl (W_q (q_load rfl ((hS.blk 1 rfl).ld ag3 rfl)) rfl (W_q (q_build (cs := [.int .i64 a0.Id, .int .i64 0, .int .i64 0, .slice none 0 0, .slice none 0 0, .slice none 0 0, .slice none 0 0, .slice none 0 0, .slice none 0 0, .slice none 0 0]) ze39 bd39 pl39 rfl (by kernel_rfl)) rfl ?_)))))); clear H a; intro a H
  refine n_alloc H ze39 rfl ?_
  clear H; intro b27 w28 hN hE29 hs; clear a; intro a H
  replace hS := hS.newBlk hN hE29 hs; clear hN hs
  refine n_storeAll H rfl rfl (vs := [.int .i64 a0.Id, .int .i64 0, .int .i64 0, .slice none 0 0, .slice none 0 0, .slice none 0 0, .slice none 0 0, .slice none 0 0, .slice none 0 0, .slice none 0 0]) rfl sz39 (hS.blk 0 rfl) rfl (by simp) ?_
  clear H; intro w30 hN hC31 hz; clear a; intro a H; replace hS := hS.setBlk hN hC31; clear hN hz
  refine n_nil (then_normal (wp_seq (wp_seq (wp_region_lit (n_q H (q_assign rfl) rfl ?_))))); clear H a; intro a H
  refine n_nil (then_normal (wp_block ?_))
  replace hS := hS.nilOwn 67 21
  replace hS := hS.nilOwn 3 1
  replace hS := hS.pk1
  replace hS := hS.pk2
  replace hS := hS.pk3
  replace hS := hS.pk4
  replace hm := bindS hm; obtain ⟨q32, hm, hm32⟩ := hm; replace hm := iter_some hm; obtain ⟨n32, hm⟩ := hm
  refine c_loop (σ := Nat × Nat × (List GProc) × (List Int) × Value × Value) (fun (m, i33, l34, l37, v35, v38) => [(1, .pointer (some ⟨b21, 0, none⟩)), (2, .pointer (some ⟨b24, 0, none⟩)), (3, .pointer (some ⟨b27, 0, none⟩)), (4, .int .i64 ((i33 : Nat) : Int))]) (fun (m, i33, l34, l37, v35, v38) wl => iterN (g_r10_Boot_L13 a0) m (i33, l34, l37) = some q32 ∧ St NB w wl [blkR b21 [.int .i64 a0.Id, .bool a0.Mobile, vp0_0, vp0_1, vp0_2, .int .i64 a0.Events, vp0_3] 27, blkR b24 [.int .i64 0, .int .i64 0, .int .i64 0, .slice none 0 0, .slice none 0 0, .slice none 0 0, .slice none 0 0, .slice none 0 0, .slice none 0 0, .slice none 0 0] 39, blkR b27 [.int .i64 a0.Id, .int .i64 0, .int .i64 0, v35, v38, .slice none 0 0, .slice none 0 0, .slice none 0 0, .slice none 0 0, .slice none 0 0] 39, ownR 67 21 v35 l34.length (l34.flatMap eGProc), ownR 3 1 v38 l37.length (l37.flatMap eI)]) (fun (m, i33, l34, l37, v35, v38) => m) (n32, 0, ([] : List GProc), ([] : List Int), .slice none 0 0, .slice none 0 0) H ⟨rfl, rfl, rfl, rfl, trivial⟩ ⟨hm, hS⟩ ?_
  clear H hS hm a; intro xx a w42 H hR; obtain ⟨m, i33, l34, l37, v35, v38⟩ := xx; simp only [ent, List.map_cons, List.map_nil] at H; (try dsimp only at hR); obtain ⟨hm, hS⟩ := hR
  replace hm := iterN_step hm; obtain ⟨m32, o32, rfl, hm, hn32⟩ := hm; try dsimp only [g_r10_Boot_L13] at hm
  refine wp_seq (wp_seq (wp_region_lit (n_q H (q_move rfl) rfl (W_q (q_fieldAddr0 rfl fo27_3) rfl (W_q (q_load rfl ((hS.blk 0 rfl).ld ag23 rfl)) rfl ?_))))); clear H a; intro a H
  obtain ⟨A43, c43, hv43, hl43, hm43⟩ := SlR.formV (hrp0_1.ext (Flat.mono _) hS.x)
  refine n_q H (q_lenV Tryz.underlying23 rfl hv43) rfl (W_q (q_lssN (i := i33) (j := a0.Procs.length) rfl rfl) rfl ?_); clear H a; intro a H
  refine n_nil (then_normal (c_cond H rfl (fun hc44 => ?_) (fun hc44 => ?_)))
  · replace hm := condT hm hc44
    have hlt45 : i33 < a0.Procs.length := of_decide_eq_true hc44
    refine wp_skip (then_normal (wp_seq (wp_block (wp_seq (c_ord [] 16 (by kernel_rfl) ?_)))))
    obtain ⟨w46, hw46⟩ : ∃ x, x = w42.drew := ⟨_, rfl⟩; rw [← hw46]; have hE47 : Ext w42 w46 := by rw [hw46]; exact Ext.drew' _
    clear hw46
    replace hS := hS.ext hE47
    have hS48 := hS
    have hW := Nat.le_refl w46.heap.size
    refine k_takeT 0 H rfl (q_fieldAddr0 rfl fo27_3) rfl (by kernel_rfl) (by kernel_rfl) (by kernel_rfl) (by kernel_rfl) (fun _ _ _ h => h) ?_; clear H a; intro a H
    refine k_take 1 H rfl (q_load rfl (LdC.old ((hS48.blk 0 rfl).ld ag23 rfl) Ext.rfl' (Nat.le_refl _) (by simp))) rfl (by kernel_rfl) (by kernel_rfl) (by kernel_rfl) (by kernel_rfl) (fun _ _ _ h => h) ?_; clear H a; intro a H
    refine k_takeT 2 H rfl (q_move rfl) rfl (by kernel_rfl) (by kernel_rfl) (by kernel_rfl) (by kernel_rfl) (fun _ _ _ h => h) ?_; clear H a; intro a H
    replace hm := bindS hm; obtain ⟨x49, hx49, hm⟩ := hm
    obtain ⟨adx49, hAx49⟩ := SlR.adV (hrp0_1.ext (Flat.mono _) hS.x) hv43 hx49
    refine k_takeT 3 H rfl (q_ixV (i := i33) Tryz.underlying23 sz62 rfl hv43 hAx49 rfl (natI hx49)) rfl (by kernel_rfl) (by kernel_rfl) (by kernel_rfl) (by kernel_rfl) (fun _ _ _ h => h) ?_; clear H a; intro a H
    refine k_takeT 4 H rfl (q_fieldAddr rfl fo62_0) rfl (by kernel_rfl) (by kernel_rfl) (by kernel_rfl) (by kernel_rfl) (fun _ _ _ h => h) ?_; clear H a; intro a H
    refine k_take 5 H rfl (q_load rfl (LdC.old (SlR.ldCellV (j := 0) (hrp0_1.ext (Flat.mono _) hS48.x) hv43 hAx49 ag3 hx49 rfl) Ext.rfl' (Nat.le_refl _) (by simp))) rfl (by kernel_rfl) (by kernel_rfl) (by kernel_rfl) (by kernel_rfl) (fun _ _ _ h => h) ?_; clear H a; intro a H
    refine k_takeT 6 H rfl (q_convI Tryz.underlying3 Tryz.underlying29 ⟨_, rfl⟩ rfl) rfl (by kernel_rfl) (by kernel_rfl) (by kernel_rfl) (by kernel_rfl) (fun _ _ _ h => h) ?_; clear H a; intro a H
    refine k_takeT 7 H rfl (q_fieldAddr0 rfl fo27_3) rfl (by kernel_rfl) (by kernel_rfl) (by kernel_rfl) (by kernel_rfl) (fun _ _ _ h => h) ?_; clear H a; intro a H
    refine k_take 8 H rfl (q_load rfl (LdC.old ((hS48.blk 0 rfl).ld ag23 rfl) Ext.rfl' (Nat.le_refl _) (by simp))) rfl (by kernel_rfl) (by kernel_rfl) (by kernel_rfl) (by kernel_rfl) (fun _ _ _ h => h) ?_; clear H a; intro a H
    refine k_takeT 9 H rfl (q_move rfl) rfl (by kernel_rfl) (by kernel_rfl) (by kernel_rfl) (by kernel_rfl) (fun _ _ _ h => h) ?_; clear H a; intro a H
    replace hm := bindS hm; obtain ⟨x50, hx50, hm⟩ := hm
    obtain ⟨adx50, hAx50⟩ := SlR.adV (hrp0_1.ext (Flat.mono _) hS.x) hv43 hx50
    refine k_takeT 10 H rfl (q_ixV (i := i33) Tryz.underlying23 sz62 rfl hv43 hAx50 rfl (natI hx50)) rfl (by kernel_rfl) (by kernel_rfl) (by kernel_rfl) (by kernel_rfl) (fun _ _ _ h => h) ?_; clear H a; intro a H
    refine k_takeT 11 H rfl (q_fieldAddr rfl fo62_1) rfl (by kernel_rfl) (by kernel_rfl) (by kernel_rfl) (by kernel_rfl) (fun _ _ _ h => h) ?_; clear H a; intro a H
    refine k_take 12 H rfl (q_load rfl (LdC.old (SlR.ldCellV (j := 1) (hrp0_1.ext (Flat.mono _) hS48.x) hv43 hAx50 ag3 hx50 rfl) Ext.rfl' (Nat.le_refl _) (by simp))) rfl (by kernel_rfl) (by kernel_rfl) (by kernel_rfl) (by kernel_rfl) (fun _ _ _ h => h) ?_; clear H a; intro a H
    refine k_takeT 13 H rfl (q_build (cs := ((Vector.replicate 16 0).toList.map (Value.int .u32) ++ [.int .u32 (IntKind.u32.wrap x49.Entry), .int .i64 0, .int .i64 x50.Prio, .int .i64 0, .int .i64 0])) ze67 bd67 pl67 rfl (by kernel_rfl)) rfl (by kernel_rfl) (by kernel_rfl) (by kernel_rfl) (by kernel_rfl) (fun _ _ _ h => h) ?_; clear H a; intro a H
    refine k_alloc 14 H rfl ze67 rfl (by kernel_rfl) ?_
    clear H; intro b51 w52 hN hE53 hs; clear a; intro a H
    have hge_b51 : w46.heap.size ≤ b51 := hs ▸ hW
    replace hS := hS.newBlk hN hE53 hs; clear hN hs
    replace hW := Nat.le_trans hW hE53.size
    refine k_storeAll 15 H rfl rfl rfl (vs := ((Vector.replicate 16 0).toList.map (Value.int .u32) ++ [.int .u32 (IntKind.u32.wrap x49.Entry), .int .i64 0, .int .i64 x50.Prio, .int .i64 0, .int .i64 0])) rfl (sz67.trans (by simp)) (hS.blk 0 rfl) (by simp) (eGProc_one (⟨(Vector.replicate 16 0), (IntKind.u32.wrap x49.Entry), 0, x50.Prio, 0, 0⟩ : GProc)) (by kernel_rfl) (.inl (fun h => absurd h (Nat.not_lt.2 hge_b51))) ?_
    clear H; intro w54 hN hC55 hz; clear a; intro a H; replace hS := hS.setBlk hN hC55; clear hN hz; replace hW := Nat.le_trans hW hC55.size
    refine k_done (by kernel_rfl) ?_
    refine then_normal ?_
    replace hm := bindS hm; obtain ⟨j56, hm, hm56⟩ := hm
    refine c_join (σ := (List Int) × GProc × Value) H (fun (l557, t560, v558) => [(1, .pointer (some ⟨b21, 0, none⟩)), (2, .pointer (some ⟨b24, 0, none⟩)), (3, .pointer (some ⟨b27, 0, none⟩)), (4, .int .i64 ((i33 : Nat) : Int)), (5, .pointer (some ⟨b51, 0, none⟩))]) (fun (l557, t560, v558) wl => (g_r10_Boot_J6 i33 l34) (l557, t560) = some o32 ∧ St NB w wl [blkR b21 [.int .i64 a0.Id, .bool a0.Mobile, vp0_0, vp0_1, vp0_2, .int .i64 a0.Events, vp0_3] 27, blkR b24 [.int .i64 0, .int .i64 0, .int .i64 0, .slice none 0 0, .slice none 0 0, .slice none 0 0, .slice none 0 0, .slice none 0 0, .slice none 0 0, .slice none 0 0] 39, blkR b27 [.int .i64 a0.Id, .int .i64 0, .int .i64 0, v35, v558, .slice none 0 0, .slice none 0 0, .slice none 0 0, .slice none 0 0, .slice none 0 0] 39, ownR 67 21 v35 l34.length (l34.flatMap eGProc), ownR 3 1 v558 l557.length (l557.flatMap eI), blkR b51 (t560.Regs.toList.map (Value.int .u32) ++ [.int .u32 t560.Pc, .int .i64 t560.State, .int .i64 t560.Prio, .int .i64 t560.Wait, .int .i64 t560.Obj]) 67]) ?_ ?_
    · skip
      refine wp_seq (wp_region_lit (n_q H (q_fieldAddr0 rfl fo27_3) rfl (W_q (q_load rfl ((hS.blk 1 rfl).ld ag23 rfl)) rfl (W_q (q_move rfl) rfl ?_)))); clear H a; intro a H
      replace hm := bindS hm; obtain ⟨x561, hx561, hm⟩ := hm
      obtain ⟨adx561, hAx561⟩ := SlR.adV (hrp0_1.ext (Flat.mono _) hS.x) hv43 hx561
      refine n_q H (q_ixV (i := i33) Tryz.underlying23 sz62 rfl hv43 hAx561 rfl (natI hx561)) rfl (W_q (q_fieldAddr rfl fo62_2) rfl (W_q (q_load rfl (SlR.ldCellV (j := 2) (hrp0_1.ext (Flat.mono _) hS.x) hv43 hAx561 ag4 hx561 rfl)) rfl ?_)); clear H a; intro a H
      refine n_nil (then_normal (c_cond H rfl (fun hc562 => ?_) (fun hc562 => ?_)))
      · replace hm := condT hm hc562
        refine wp_seq (wp_region_lit (n_q H (q_fieldAddr0 rfl fo67_2) rfl ?_)); clear H a; intro a H
        refine n_store1 H rfl rfl sz3 (hS.blk 0 rfl) (by simp) rfl ?_
        clear H; intro w563 hN hC564 hz; clear a; intro a H; replace hS := hS.setBlk hN hC564; clear hN hz
        try simp only [List.set_cons_succ, List.set_cons_zero] at hS
        refine n_nil (then_normal (wp_region_lit (n_q H (q_fieldAddr0 rfl fo39_4) rfl (W_q (q_load rfl ((hS.blk 3 rfl).ld ag25 rfl)) rfl (W_q (q_move rfl) rfl ?_))))); clear H a; intro a H
        refine n_buildSlice H Tryz.underlying25 sz3 ze3 rfl rfl rfl (cs := [.int .i64 ((i33 : Nat) : Int)]) (by kernel_rfl) rfl ?_
        clear H; intro b567 w565 hN hE566 hs; clear a; intro a H
        replace hS := hS.newBlk hN hE566 hs; clear hN hs
        replace hS := hS.blkOwnL (e := eI) (k := 1) [((i33 : Nat) : Int)] rfl rfl (by simp [maxLen])
        replace hS := hS.pk6
        replace hm := chkS hm; obtain ⟨hk569, hm⟩ := hm
        refine n_app (e := eI) H rfl rfl Tryz.underlying25 Tryz.underlying25 (by simp) el3 (hS.own 0 rfl) (((hS.own 1 rfl).slr rfl (fun _ _ => rfl)).src (fun _ _ => rfl)) eI_one hk569 (by simp only [maxLen]; omega) rfl ?_
        clear H; intro v572 w570 hN hC571 hb; clear a; intro a H; replace hS := hS.setOwn hN hC571 hb; clear hN hb
        refine n_q H (q_fieldAddr0 rfl fo39_4) rfl ?_; clear H a; intro a H
        replace hS := hS.pk5
        refine n_store1 H rfl rfl sz25 (hS.blk 0 rfl) (by simp) (((hS.own 1 rfl).slr rfl (fun _ _ => rfl))).one ?_
        clear H; intro w574 hN hC575 hz; clear a; intro a H; replace hS := hS.setBlk hN hC575; clear hN hz
        try simp only [List.set_cons_succ, List.set_cons_zero] at hS
        refine n_nil (then_normal ?_)
        obtain rfl := Option.some.inj hm; replace hm := hm56; try dsimp only at hm
        replace hS := hS.pk3
        replace hS := hS.pk2
        replace hS := hS.pk6
        replace hS := hS.pk3
        replace hS := hS.pk6
        replace hS := hS.pk6
        replace hS := hS.tk6
        exact join ((l37 ++ [((i33 : Nat) : Int)]), (⟨(Vector.replicate 16 0), (IntKind.u32.wrap x49.Entry), 1, x50.Prio, 0, 0⟩ : GProc), v572) H ⟨rfl, rfl, rfl, rfl, rfl, trivial⟩ ⟨hm, hS⟩
      · replace hm := condF hm hc562
        refine wp_skip (then_normal ?_)
        obtain rfl := Option.some.inj hm; replace hm := hm56; try dsimp only at hm
        replace hS := hS.pk5
        replace hS := hS.pk5
        replace hS := hS.pk5
        replace hS := hS.pk5
        replace hS := hS.pk5
        exact join (l37, (⟨(Vector.replicate 16 0), (IntKind.u32.wrap x49.Entry), 0, x50.Prio, 0, 0⟩ : GProc), v38) H ⟨rfl, rfl, rfl, rfl, rfl, trivial⟩ ⟨hm, hS⟩
    · clear H hS hm a; intro xx a w576 H hR
      obtain ⟨l557, t560, v558⟩ := xx
      simp only [ent, List.map_cons, List.map_nil] at H; (try dsimp only at hR); obtain ⟨hm, hS⟩ := hR; try dsimp only [g_r10_Boot_J6] at hm
      refine wp_region_lit (n_q H (q_fieldAddr0 rfl fo39_3) rfl (W_q (q_load rfl ((hS.blk 2 rfl).ld ag33 rfl)) rfl (W_q (q_load rfl ((hS.blk 5 rfl).ldAll ag67 (sz67.trans (by simp)))) rfl ?_))); clear H a; intro a H
      refine n_buildSlice H Tryz.underlying33 sz67 ze67 rfl rfl rfl (cs := [t560].flatMap eGProc) ((fill_one (k := 21) (ds := eGProc t560) (by rfl) (by simp [eGProc]) (by rfl)).trans (by simp)) rfl ?_
      clear H; intro b579 w577 hN hE578 hs; clear a; intro a H
      replace hS := hS.newBlk hN hE578 hs; clear hN hs
      replace hS := hS.blkOwnL (e := eGProc) (k := 21) [t560] rfl (by simp [eGProc]) (by simp [maxLen])
      replace hS := hS.pk4
      replace hm := chkS hm; obtain ⟨hk581, hm⟩ := hm
      refine n_app (e := eGProc) H rfl rfl Tryz.underlying33 Tryz.underlying33 (by simp) el67 (hS.own 0 rfl) (((hS.own 1 rfl).slr rfl (fun x _ => eGProc_len x)).src (fun x _ => eGProc_len x)) eGProc_one hk581 (by simp only [maxLen]; omega) rfl ?_
      clear H; intro v584 w582 hN hC583 hb; clear a; intro a H; replace hS := hS.setOwn hN hC583 hb; clear hN hb
      refine n_q H (q_fieldAddr0 rfl fo39_3) rfl ?_; clear H a; intro a H
      replace hS := hS.pk4
      refine n_store1 H rfl rfl sz33 (hS.blk 0 rfl) (by simp) (((hS.own 1 rfl).slr rfl (fun x _ => eGProc_len x))).one ?_
      clear H; intro w586 hN hC587 hz; clear a; intro a H; replace hS := hS.setBlk hN hC587; clear hN hz
      try simp only [List.set_cons_succ, List.set_cons_zero] at hS
      refine n_nil (block_normal (then_normal (wp_region_lit (n_q H (q_move rfl) rfl (W_q (q_incr (i := i33) (j := 1) rfl rfl (by omega)) rfl (W_q (q_assign rfl) rfl ?_)))))); clear H a; intro a H
      refine n_nil (then_normal ?_)
      obtain rfl := Option.some.inj hm
      replace hS := hS.pk5
      replace hS := hS.pk2
      replace hS := hS.pk2
      replace hS := hS.pk5
      replace hS := hS.pk5
      replace hS := hS.tk5
      exact round (m32, i33 + 1, (l34 ++ [t560]), l557, v584, v558) H ⟨rfl, rfl, rfl, rfl, trivial⟩ ⟨hn32, hS⟩ (Nat.lt_succ_self _)
  · replace hm := condF hm hc44
    refine wp_exit (then_exit (then_exit (block_exit ?_)))
    obtain rfl := Option.some.inj hm; have hz : _ = q32 := hn32; subst hz; replace hm := hm32; try dsimp only at hm
    refine then_normal (wp_seq (wp_seq (wp_region_lit (n_q H (q_assign rfl) rfl ?_)))); clear H a; intro a H
    refine n_nil (then_normal (wp_block ?_))
    replace hS := hS.nilOwn 4 1
    replace hS := hS.pk5
    replace hS := hS.pk5
    replace hS := hS.pk5
    replace hS := hS.pk5
    replace hS := hS.pk5
    replace hm := bindS hm; obtain ⟨q588, hm, hm588⟩ := hm; replace hm := iter_some hm; obtain ⟨n588, hm⟩ := hm
    refine c_loop (σ := Nat × Int × (List Bool) × Value) (fun (m, z593, l590, v591) => [(1, .pointer (some ⟨b21, 0, none⟩)), (2, .pointer (some ⟨b24, 0, none⟩)), (3, .pointer (some ⟨b27, 0, none⟩)), (6, .int .i64 z593)]) (fun (m, z593, l590, v591) wl => iterN (g_r10_Boot_L12 a0) m (z593, l590) = some q588 ∧ St NB w wl [blkR b21 [.int .i64 a0.Id, .bool a0.Mobile, vp0_0, vp0_1, vp0_2, .int .i64 a0.Events, vp0_3] 27, blkR b24 [.int .i64 0, .int .i64 0, .int .i64 0, .slice none 0 0, .slice none 0 0, .slice none 0 0, .slice none 0 0, .slice none 0 0, .slice none 0 0, .slice none 0 0] 39, blkR b27 [.int .i64 a0.Id, .int .i64 0, .int .i64 0, v35, v38, .slice none 0 0, v591, .slice none 0 0, .slice none 0 0, .slice none 0 0] 39, ownR 67 21 v35 l34.length (l34.flatMap eGProc), ownR 3 1 v38 l37.length (l37.flatMap eI), ownR 4 1 v591 l590.length (l590.flatMap eF)]) (fun (m, z593, l590, v591) => m) (n588, 0, ([] : List Bool), .slice none 0 0) H ⟨rfl, rfl, rfl, rfl, trivial⟩ ⟨hm, hS⟩ ?_
    clear H hS hm a; intro xx a w595 H hR; obtain ⟨m, z593, l590, v591⟩ := xx; simp only [ent, List.map_cons, List.map_nil] at H; (try dsimp only at hR); obtain ⟨hm, hS⟩ := hR
    replace hm := iterN_step hm; obtain ⟨m588, o588, rfl, hm, hn588⟩ := hm; try dsimp only [g_r10_Boot_L12] at hm
    refine wp_seq (wp_seq (wp_region_lit (n_q H (q_move rfl) rfl (W_q (q_fieldAddr0 rfl fo27_5) rfl (W_q (q_load rfl ((hS.blk 0 rfl).ld ag3 rfl)) rfl (W_q (q_lss rfl rfl) rfl ?_)))))); clear H a; intro a H
    refine n_nil (then_normal (c_cond H rfl (fun hc596 => ?_) (fun hc596 => ?_)))
    · replace hm := condT hm hc596
      refine wp_skip (then_normal (wp_seq (wp_block (wp_region_lit (n_q H (q_fieldAddr0 rfl fo39_6) rfl (W_q (q_load rfl ((hS.blk 2 rfl).ld ag35 rfl)) rfl ?_)))))); clear H a; intro a H
      refine n_buildSlice H Tryz.underlying35 sz4 ze4 rfl rfl rfl (cs := [.bool false]) (by kernel_rfl) rfl ?_
      clear H; intro b599 w597 hN hE598 hs; clear a; intro a H
      replace hS := hS.newBlk hN hE598 hs; clear hN hs
      replace hS := hS.blkOwnL (e := eF) (k := 1) [false] rfl rfl (by simp [maxLen])
      replace hS := hS.pk6
      replace hm := chkS hm; obtain ⟨hk601, hm⟩ := hm
      refine n_app (e := eF) H rfl rfl Tryz.underlying35 Tryz.underlying35 (by simp) el4 (hS.own 0 rfl) (((hS.own 1 rfl).slr rfl (fun _ _ => rfl)).src (fun _ _ => rfl)) eF_one hk601 (by simp only [maxLen]; omega) rfl ?_
      clear H; intro v604 w602 hN hC603 hb; clear a; intro a H; replace hS := hS.setOwn hN hC603 hb; clear hN hb
      refine n_q H (q_fieldAddr0 rfl fo39_6) rfl ?_; clear H a; intro a H
      replace hS := hS.pk4
      refine n_store1 H rfl rfl sz35 (hS.blk 0 rfl) (by simp) (((hS.own 1 rfl).slr rfl (fun _ _ => rfl))).one ?_
      clear H; intro w606 hN hC607 hz; clear a; intro a H; replace hS := hS.setBlk hN hC607; clear hN hz
      try simp only [List.set_cons_succ, List.set_cons_zero] at hS
      refine n_nil (block_normal (then_normal (wp_region_lit (n_q H (q_move rfl) rfl (W_q (q_addW rfl rfl) rfl (W_q (q_assign rfl) rfl ?_)))))); clear H a; intro a H
      refine n_nil (then_normal ?_)
      obtain rfl := Option.some.inj hm
      replace hS := hS.pk1
      replace hS := hS.pk6
      replace hS := hS.pk6
      replace hS := hS.pk3
      replace hS := hS.pk6
      replace hS := hS.pk6
      replace hS := hS.tk6
      exact round (m588, (IntKind.i64.wrap (z593 + 1)), (l590 ++ [false]), v604) H ⟨rfl, rfl, rfl, rfl, trivial⟩ ⟨hn588, hS⟩ (Nat.lt_succ_self _)
    · replace hm := condF hm hc596
      refine wp_exit (then_exit (then_exit (block_exit ?_)))
      obtain rfl := Option.some.inj hm; have hz : _ = q588 := hn588; subst hz; replace hm := hm588; try dsimp only at hm
      refine then_normal (wp_seq (wp_region_lit (n_q H (q_fieldAddr0 rfl fo39_7) rfl (W_q (q_load rfl ((hS.blk 2 rfl).ld ag25 rfl)) rfl (W_q (q_fieldAddr0 rfl fo27_6) rfl (W_q (q_load rfl ((hS.blk 0 rfl).ld ag25 rfl)) rfl ?_)))))); clear H a; intro a H
      replace hS := hS.nilOwn 3 1
      replace hm := chkS hm; obtain ⟨hk609, hm⟩ := hm
      refine n_app (e := eI) H rfl rfl Tryz.underlying25 Tryz.underlying25 (by simp) el3 (hS.own 0 rfl) ((hrp0_3.ext (Flat.mono _) hS.x).src (fun _ _ => rfl)) eI_one hk609 (by simp only [maxLen]; omega) rfl ?_
      clear H; intro v612 w610 hN hC611 hb; clear a; intro a H; replace hS := hS.setOwn hN hC611 hb; clear hN hb
      refine n_q H (q_fieldAddr0 rfl fo39_7) rfl ?_; clear H a; intro a H
      replace hS := hS.pk3
      refine n_store1 H rfl rfl sz25 (hS.blk 0 rfl) (by simp) (((hS.own 1 rfl).slr rfl (fun _ _ => rfl))).one ?_
      clear H; intro w614 hN hC615 hz; clear a; intro a H; replace hS := hS.setBlk hN hC615; clear hN hz
      try simp only [List.set_cons_succ, List.set_cons_zero] at hS
      refine n_nil (then_normal (wp_seq (wp_seq (wp_region_lit (n_q H (q_assign rfl) rfl ?_))))); clear H a; intro a H
      refine n_nil (then_normal (wp_block ?_))
      replace hS := hS.deepNil 76 2 RGPort
      replace hS := hS.pk2
      replace hS := hS.pk7
      replace hS := hS.pk7
      replace hS := hS.pk7
      replace hS := hS.pk5
      replace hS := hS.pk7
      replace hS := hS.pk7
      replace hm := bindS hm; obtain ⟨q616, hm, hm616⟩ := hm; replace hm := iter_some hm; obtain ⟨n616, hm⟩ := hm
      refine c_loop (σ := Nat × Nat × (List GPort) × Value) (fun (m, i617, l618, v619) => [(1, .pointer (some ⟨b21, 0, none⟩)), (2, .pointer (some ⟨b24, 0, none⟩)), (3, .pointer (some ⟨b27, 0, none⟩)), (7, .int .i64 ((i617 : Nat) : Int))]) (fun (m, i617, l618, v619) wl => iterN (g_r10_Boot_L11 a0) m (i617, l618) = some q616 ∧ St NB w wl [blkR b21 [.int .i64 a0.Id, .bool a0.Mobile, vp0_0, vp0_1, vp0_2, .int .i64 a0.Events, vp0_3] 27, blkR b24 [.int .i64 0, .int .i64 0, .int .i64 0, .slice none 0 0, .slice none 0 0, .slice none 0 0, .slice none 0 0, .slice none 0 0, .slice none 0 0, .slice none 0 0] 39, blkR b27 [.int .i64 a0.Id, .int .i64 0, .int .i64 0, v35, v38, .slice none 0 0, v591, v612, v619, .slice none 0 0] 39, ownR 67 21 v35 l34.length (l34.flatMap eGProc), ownR 3 1 v38 l37.length (l37.flatMap eI), ownR 4 1 v591 l590.length (l590.flatMap eF), ownR 3 1 v612 (([] : List Int) ++ a0.Sems).length ((([] : List Int) ++ a0.Sems).flatMap eI), deepR 76 2 RGPort v619 l618]) (fun (m, i617, l618, v619) => m) (n616, 0, ([] : List GPort), .slice none 0 0) H ⟨rfl, rfl, rfl, rfl, trivial⟩ ⟨hm, hS⟩ ?_
      clear H hS hm a; intro xx a w622 H hR; obtain ⟨m, i617, l618, v619⟩ := xx; simp only [ent, List.map_cons, List.map_nil] at H; (try dsimp only at hR); obtain ⟨hm, hS⟩ := hR
      replace hm := iterN_step hm; obtain ⟨m616, o616, rfl, hm, hn616⟩ := hm; try dsimp only [g_r10_Boot_L11] at hm
      refine wp_seq (wp_seq (wp_region_lit (n_q H (q_move rfl) rfl (W_q (q_fieldAddr0 rfl fo27_4) rfl (W_q (q_load rfl ((hS.blk 0 rfl).ld ag24 rfl)) rfl ?_))))); clear H a; intro a H
      obtain ⟨A623, c623, hv623, hl623, hm623⟩ := SlR.formV (hrp0_2.ext (Flat.mono _) hS.x)
      refine n_q H (q_lenV Tryz.underlying24 rfl hv623) rfl (W_q (q_lssN (i := i617) (j := a0.Ports.length) rfl rfl) rfl ?_); clear H a; intro a H
      refine n_nil (then_normal (c_cond H rfl (fun hc624 => ?_) (fun hc624 => ?_)))
      · replace hm := condT hm hc624
        have hlt625 : i617 < a0.Ports.length := of_decide_eq_true hc624
        refine wp_skip (then_normal (wp_seq (wp_block (wp_region_lit (n_q H (q_fieldAddr0 rfl fo39_8) rfl (W_q (q_load rfl ((hS.blk 2 rfl).ld ag36 rfl)) rfl (W_q (q_build (cs := [.slice none 0 0, .int .i64 0]) ze76 bd76 pl76 rfl (by kernel_rfl)) rfl ?_))))))); clear H a; intro a H
        refine n_buildSlice H Tryz.underlying36 sz76 ze76 rfl rfl rfl (cs := [.slice none 0 0, .int .i64 0]) (by kernel_rfl) rfl ?_
        clear H; intro b628 w626 hN hE627 hs; clear a; intro a H
        replace hS := hS.newBlk hN hE627 hs; clear hN hs
        replace hS := hS.trivAny (F := DIn 2 RGPort [[.slice none 0 0, .int .i64 0]] [(⟨([] : List ByteArray), 0⟩ : GPort)]) (fun w' => (DIn.cons rfl (by simp) ⟨_, rfl, (SlR.nil _ _ _)⟩ trivial))
        replace hm := chkS hm; obtain ⟨hk630, hm⟩ := hm
        replace hS := hS.pk9
        refine n_appD (css := [[.slice none 0 0, .int .i64 0]]) hS H rfl rfl Tryz.underlying36 Tryz.underlying36 (by simp) el76 (Src.blk (k := 2) (hS.blk 2 rfl) rfl) hk630 (by simp only [maxLen, List.length_cons, List.length_nil]; omega) rfl ?_
        clear H hS; intro v632 w631 hS; clear a; intro a H
        refine n_q H (q_fieldAddr0 rfl fo39_8) rfl ?_; clear H a; intro a H
        replace hS := hS.pk4
        refine n_store1 H rfl rfl sz36 (hS.blk 0 rfl) (by simp) ((hS.deepSl 1 rfl)).one ?_
        clear H; intro w634 hN hC635 hz; clear a; intro a H; replace hS := hS.setBlk hN hC635; clear hN hz
        try simp only [List.set_cons_succ, List.set_cons_zero] at hS
        refine n_nil (block_normal (then_normal (wp_region_lit (n_q H (q_move rfl) rfl (W_q (q_incr (i := i617) (j := 1) rfl rfl (by omega)) rfl (W_q (q_assign rfl) rfl ?_)))))); clear H a; intro a H
        refine n_nil (then_normal ?_)
        obtain rfl := Option.some.inj hm
        replace hS := hS.pk1
        replace hS := hS.pk8
        replace hS := hS.pk8
        replace hS := hS.pk8
        replace hS := hS.pk8
        replace hS := hS.pk5
        replace hS := hS.pk8
        replace hS := hS.pk8
        replace hS := hS.tk8
        exact round (m616, i617 + 1, (l618 ++ [(⟨([] : List ByteArray), 0⟩ : GPort)]), v632) H ⟨rfl, rfl, rfl, rfl, trivial⟩ ⟨hn616, hS⟩ (Nat.lt_succ_self _)
      · replace hm := condF hm hc624
        refine wp_exit (then_exit (then_exit (block_exit ?_)))
        obtain rfl := Option.some.inj hm; have hz : _ = q616 := hn616; subst hz; replace hm := hm616; try dsimp only at hm
        refine then_normal (wp_seq (wp_seq (wp_region_lit (n_q H (q_assign rfl) rfl ?_)))); clear H a; intro a H
        refine n_nil (then_normal (wp_block ?_))
        replace hS := hS.nilOwn 60 66
        replace hS := hS.pk8
        replace hS := hS.pk8
        replace hS := hS.pk8
        replace hS := hS.pk8
        replace hS := hS.pk8
        replace hS := hS.pk8
        replace hS := hS.pk8
        replace hS := hS.pk8
        replace hm := bindS hm; obtain ⟨q636, hm, hm636⟩ := hm; replace hm := iter_some hm; obtain ⟨n636, hm⟩ := hm
        refine c_loop (σ := Nat × Nat × (List GPage) × Value) (fun (m, i637, l638, v639) => [(1, .pointer (some ⟨b21, 0, none⟩)), (2, .pointer (some ⟨b24, 0, none⟩)), (3, .pointer (some ⟨b27, 0, none⟩)), (8, .int .i64 ((i637 : Nat) : Int))]) (fun (m, i637, l638, v639) wl => iterN (g_r10_Boot_L10 a0) m (i637, l638) = some q636 ∧ St NB w wl [blkR b21 [.int .i64 a0.Id, .bool a0.Mobile, vp0_0, vp0_1, vp0_2, .int .i64 a0.Events, vp0_3] 27, blkR b24 [.int .i64 0, .int .i64 0, .int .i64 0, .slice none 0 0, .slice none 0 0, .slice none 0 0, .slice none 0 0, .slice none 0 0, .slice none 0 0, .slice none 0 0] 39, blkR b27 [.int .i64 a0.Id, .int .i64 0, .int .i64 0, v35, v38, .slice none 0 0, v591, v612, v619, v639] 39, ownR 67 21 v35 l34.length (l34.flatMap eGProc), ownR 3 1 v38 l37.length (l37.flatMap eI), ownR 4 1 v591 l590.length (l590.flatMap eF), ownR 3 1 v612 (([] : List Int) ++ a0.Sems).length ((([] : List Int) ++ a0.Sems).flatMap eI), deepR 76 2 RGPort v619 l618, ownR 60 66 v639 l638.length (l638.flatMap eGPage)]) (fun (m, i637, l638, v639) => m) (n636, 0, ([] : List GPage), .slice none 0 0) H ⟨rfl, rfl, rfl, rfl, trivial⟩ ⟨hm, hS⟩ ?_
        clear H hS hm a; intro xx a w642 H hR; obtain ⟨m, i637, l638, v639⟩ := xx; simp only [ent, List.map_cons, List.map_nil] at H; (try dsimp only at hR); obtain ⟨hm, hS⟩ := hR
        replace hm := iterN_step hm; obtain ⟨m636, o636, rfl, hm, hn636⟩ := hm; try dsimp only [g_r10_Boot_L10] at hm
        refine wp_seq (wp_seq (wp_region_lit (n_q H (q_move rfl) rfl (W_q (q_fieldAddr0 rfl fo27_2) rfl (W_q (q_load rfl ((hS.blk 0 rfl).ld ag22 rfl)) rfl ?_))))); clear H a; intro a H
        obtain ⟨A643, c643, hv643, hl643, hm643⟩ := SlR.formV (hrp0_0.ext (Flat.mono _) hS.x)
        refine n_q H (q_lenV Tryz.underlying22 rfl hv643) rfl (W_q (q_lssN (i := i637) (j := a0.Pages.length) rfl rfl) rfl ?_); clear H a; intro a H
        refine n_nil (then_normal (c_cond H rfl (fun hc644 => ?_) (fun hc644 => ?_)))
        · replace hm := condT hm hc644
          have hlt645 : i637 < a0.Pages.length := of_decide_eq_true hc644
          refine wp_skip (then_normal (wp_seq (wp_block (wp_seq (wp_region_lit (n_q H (q_fieldAddr0 rfl fo27_2) rfl (W_q (q_load rfl ((hS.blk 0 rfl).ld ag22 rfl)) rfl (W_q (q_move rfl) rfl ?_)))))))); clear H a; intro a H
          replace hm := bindS hm; obtain ⟨x646, hx646, hm⟩ := hm
          obtain ⟨adx646, hAx646⟩ := SlR.adV (hrp0_0.ext (Flat.mono _) hS.x) hv643 hx646
          refine n_q H (q_ixV (i := i637) Tryz.underlying22 sz69 rfl hv643 hAx646 rfl (natI hx646)) rfl (W_q (q_fieldAddr rfl fo69_0) rfl (W_q (q_load rfl (SlR.ldCellV (j := 0) (hrp0_0.ext (Flat.mono _) hS.x) hv643 hAx646 ag3 hx646 rfl)) rfl (W_q (q_build (cs := ([.int .i64 x646.Rights, .bool false] ++ (Vector.replicate 64 0).toList.map (fun b : UInt8 => Value.int .u8 (b.toNat : Int)))) ze60 bd60 pl60 rfl (by kernel_rfl)) rfl ?_))); clear H a; intro a H
          refine n_alloc H ze60 rfl ?_
          clear H; intro b647 w648 hN hE649 hs; clear a; intro a H
          replace hS := hS.newBlk hN hE649 hs; clear hN hs
          refine n_storeAll H rfl rfl (vs := ([.int .i64 x646.Rights, .bool false] ++ (Vector.replicate 64 0).toList.map (fun b : UInt8 => Value.int .u8 (b.toNat : Int)))) rfl (sz60.trans (by simp)) (hS.blk 0 rfl) (by simp) (eGPage_one (⟨x646.Rights, false, (Vector.replicate 64 0)⟩ : GPage)) ?_
          clear H; intro w650 hN hC651 hz; clear a; intro a H; replace hS := hS.setBlk hN hC651; clear hN hz
          refine n_nil (then_normal (wp_seq (wp_seq (wp_region_lit (n_q H (q_assign rfl) rfl ?_))))); clear H a; intro a H
          refine n_nil (then_normal (wp_block ?_))
          replace hS := hS.pk9
          replace hS := hS.pk9
          replace hS := hS.pk9
          replace hS := hS.pk9
          replace hS := hS.pk9
          replace hS := hS.pk9
          replace hS := hS.pk9
          replace hS := hS.pk9
          replace hS := hS.pk9
          replace hm := bindS hm; obtain ⟨q652, hm, hm652⟩ := hm; replace hm := iter_some hm; obtain ⟨n652, hm⟩ := hm
          refine c_loop (σ := Nat × Int × GPage) (fun (m, z655, t654) => [(1, .pointer (some ⟨b21, 0, none⟩)), (2, .pointer (some ⟨b24, 0, none⟩)), (3, .pointer (some ⟨b27, 0, none⟩)), (8, .int .i64 ((i637 : Nat) : Int)), (9, .pointer (some ⟨b647, 0, none⟩)), (10, .int .i64 z655)]) (fun (m, z655, t654) wl => iterN (g_r10_Boot_L9 a0 i637) m (z655, t654) = some q652 ∧ St NB w wl [blkR b21 [.int .i64 a0.Id, .bool a0.Mobile, vp0_0, vp0_1, vp0_2, .int .i64 a0.Events, vp0_3] 27, blkR b24 [.int .i64 0, .int .i64 0, .int .i64 0, .slice none 0 0, .slice none 0 0, .slice none 0 0, .slice none 0 0, .slice none 0 0, .slice none 0 0, .slice none 0 0] 39, blkR b27 [.int .i64 a0.Id, .int .i64 0, .int .i64 0, v35, v38, .slice none 0 0, v591, v612, v619, v639] 39, ownR 67 21 v35 l34.length (l34.flatMap eGProc), ownR 3 1 v38 l37.length (l37.flatMap eI), ownR 4 1 v591 l590.length (l590.flatMap eF), ownR 3 1 v612 (([] : List Int) ++ a0.Sems).length ((([] : List Int) ++ a0.Sems).flatMap eI), deepR 76 2 RGPort v619 l618, ownR 60 66 v639 l638.length (l638.flatMap eGPage), blkR b647 ([.int .i64 t654.Rights, .bool t654.Dirty] ++ t654.Data.toList.map (fun b : UInt8 => Value.int .u8 (b.toNat : Int))) 60]) (fun (m, z655, t654) => m) (n652, 0, (⟨x646.Rights, false, (Vector.replicate 64 0)⟩ : GPage)) H ⟨rfl, rfl, rfl, rfl, rfl, rfl, trivial⟩ ⟨hm, hS⟩ ?_
          clear H hS hm a; intro xx a w656 H hR; obtain ⟨m, z655, t654⟩ := xx; simp only [ent, List.map_cons, List.map_nil] at H; (try dsimp only at hR); obtain ⟨hm, hS⟩ := hR
          replace hm := iterN_step hm; obtain ⟨m652, o652, rfl, hm, hn652⟩ := hm; try dsimp only [g_r10_Boot_L9] at hm
          refine wp_seq (wp_seq (wp_region_lit (n_q H (q_move rfl) rfl (W_q (q_fieldAddr0 rfl fo27_2) rfl (W_q (q_load rfl ((hS.blk 0 rfl).ld ag22 rfl)) rfl (W_q (q_move rfl) rfl ?_)))))); clear H a; intro a H
          replace hm := bindS hm; obtain ⟨x657, hx657, hm⟩ := hm
          obtain ⟨adx657, hAx657⟩ := SlR.adV (hrp0_0.ext (Flat.mono _) hS.x) hv643 hx657
          refine n_q H (q_ixV (i := i637) Tryz.underlying22 sz69 rfl hv643 hAx657 rfl (natI hx657)) rfl (W_q (q_fieldAddr rfl fo69_1) rfl (W_q (q_load rfl (SlR.ldCellV (j := 1) (hrp0_0.ext (Flat.mono _) hS.x) hv643 hAx657 ag9 hx657 rfl)) rfl (W_q (q_lenS Tryz.underlying9 rfl) rfl (W_q (q_lss rfl rfl) rfl ?_)))); clear H a; intro a H
          refine n_nil (then_normal (c_cond H rfl (fun hc658 => ?_) (fun hc658 => ?_)))
          · replace hm := condT hm hc658
            refine wp_skip (then_normal (wp_seq (wp_block (wp_region_lit (n_q H (q_move rfl) rfl (W_q (q_fieldAddr0 rfl fo27_2) rfl (W_q (q_load rfl ((hS.blk 0 rfl).ld ag22 rfl)) rfl (W_q (q_move rfl) rfl ?_)))))))); clear H a; intro a H
            replace hm := bindS hm; obtain ⟨x659, hx659, hm⟩ := hm
            obtain ⟨adx659, hAx659⟩ := SlR.adV (hrp0_0.ext (Flat.mono _) hS.x) hv643 hx659
            refine n_q H (q_ixV (i := i637) Tryz.underlying22 sz69 rfl hv643 hAx659 rfl (natI hx659)) rfl (W_q (q_fieldAddr rfl fo69_1) rfl (W_q (q_load rfl (SlR.ldCellV (j := 1) (hrp0_0.ext (Flat.mono _) hS.x) hv643 hAx659 ag9 hx659 rfl)) rfl (W_q (q_move rfl) rfl ?_))); clear H a; intro a H
            replace hm := bindS hm; obtain ⟨c660, hc660, hm⟩ := hm
            refine n_q H (q_ixS Tryz.underlying9 rfl rfl hc660) rfl (W_q (q_fieldAddr0 rfl fo60_2) rfl ?_); clear H a; intro a H
            replace hm := bindS hm; obtain ⟨x661, hx661, hm⟩ := hm
            obtain ⟨h0x661, h1x661, hxx661⟩ := rdV_some hx661
            refine n_q H (q_ixArrB Tryz.underlying58 sz5 rfl rfl h0x661 h1x661) rfl ?_; clear H a; intro a H
            replace hS := hS.pk9
            refine n_store1 H rfl rfl sz5 (hS.blk 0 rfl) (by simp <;> omega) rfl ?_
            clear H; intro w662 hN hC663 hz; clear a; intro a H; replace hN := (congrArg (fun z => Blk w662 b647 z 60) (vec_setA (k := 2) rfl t654.Data (fun b : UInt8 => Value.int .u8 (b.toNat : Int)) z655.toNat (byteOf c660) (congrArg (Value.int .u8) (rdS_byte hc660)))).mp hN; replace hS := hS.setBlk hN hC663; clear hN hz
            refine n_nil (block_normal (then_normal (wp_region_lit (n_q H (q_move rfl) rfl (W_q (q_addW rfl rfl) rfl (W_q (q_assign rfl) rfl ?_)))))); clear H a; intro a H
            refine n_nil (then_normal ?_)
            obtain rfl := Option.some.inj hm
            replace hS := hS.pk9
            replace hS := hS.pk9
            replace hS := hS.pk9
            replace hS := hS.pk9
            replace hS := hS.pk9
            replace hS := hS.pk9
            replace hS := hS.pk9
            replace hS := hS.pk9
            replace hS := hS.pk9
            exact round (m652, (IntKind.i64.wrap (z655 + 1)), (⟨t654.Rights, t654.Dirty, (t654.Data.setIfInBounds z655.toNat (byteOf c660))⟩ : GPage)) H ⟨rfl, rfl, rfl, rfl, rfl, rfl, trivial⟩ ⟨hn652, hS⟩ (Nat.lt_succ_self _)
          · replace hm := condF hm hc658
            refine wp_exit (then_exit (then_exit (block_exit ?_)))
            obtain rfl := Option.some.inj hm; have hz : _ = q652 := hn652; subst hz; replace hm := hm652; try dsimp only at hm
            refine then_normal (wp_region_lit (n_q H (q_fieldAddr0 rfl fo39_9) rfl (W_q (q_load rfl ((hS.blk 2 rfl).ld ag37 rfl)) rfl (W_q (q_load rfl ((hS.blk 9 rfl).ldAll ag60 (sz60.trans (by simp)))) rfl ?_)))); clear H a; intro a H
            refine n_buildSlice H Tryz.underlying37 sz60 ze60 rfl rfl rfl (cs := [t654].flatMap eGPage) ((fill_one (k := 66) (ds := eGPage t654) (by rfl) (by simp [eGPage]) (by rfl)).trans (by simp)) rfl ?_
            clear H; intro b666 w664 hN hE665 hs; clear a; intro a H
            replace hS := hS.newBlk hN hE665 hs; clear hN hs
            replace hS := hS.blkOwnL (e := eGPage) (k := 66) [t654] rfl (by simp [eGPage]) (by simp [maxLen])
            replace hS := hS.pk9
            replace hm := chkS hm; obtain ⟨hk668, hm⟩ := hm
            refine n_app (e := eGPage) H rfl rfl Tryz.underlying37 Tryz.underlying37 (by simp) el60 (hS.own 0 rfl) (((hS.own 1 rfl).slr rfl (fun x _ => eGPage_len x)).src (fun x _ => eGPage_len x)) eGPage_one hk668 (by simp only [maxLen]; omega) rfl ?_
            clear H; intro v671 w669 hN hC670 hb; clear a; intro a H; replace hS := hS.setOwn hN hC670 hb; clear hN hb
            refine n_q H (q_fieldAddr0 rfl fo39_9) rfl ?_; clear H a; intro a H
            replace hS := hS.pk4
            refine n_store1 H rfl rfl sz37 (hS.blk 0 rfl) (by simp) (((hS.own 1 rfl).slr rfl (fun x _ => eGPage_len x))).one ?_
            clear H; intro w673 hN hC674 hz; clear a; intro a H; replace hS := hS.setBlk hN hC674; clear hN hz
            try simp only [List.set_cons_succ, List.set_cons_zero] at hS
            refine n_nil (block_normal (then_normal (wp_region_lit (n_q H (q_move rfl) rfl (W_q (q_incr (i := i637) (j := 1) rfl rfl (by omega)) rfl (W_q (q_assign rfl) rfl ?_)))))); clear H a; intro a H
            refine n_nil (then_normal ?_)
            obtain rfl := Option.some.inj hm
            replace hS := hS.pk1
            replace hS := hS.pk9
            replace hS := hS.pk9
            replace hS := hS.pk9
            replace hS := hS.pk9
            replace hS := hS.pk9
            replace hS := hS.pk6
            replace hS := hS.pk9
            replace hS := hS.pk9
            replace hS := hS.tk9
            exact round (m636, i637 + 1, (l638 ++ [t654]), v671) H ⟨rfl, rfl, rfl, rfl, trivial⟩ ⟨hn636, hS⟩ (Nat.lt_succ_self _)
        · replace hm := condF hm hc644
          refine wp_exit (then_exit (then_exit (block_exit ?_)))
          obtain rfl := Option.some.inj hm; have hz : _ = q636 := hn636; subst hz; replace hm := hm636; try dsimp only at hm
          refine then_normal (wp_seq (wp_region_lit (n_q H (q_load rfl ((hS.blk 2 rfl).ldAll ag39 sz39)) rfl ?_))); clear H a; intro a H
          replace hS := hS.pk1
          refine n_storeAll H rfl rfl (vs := [.int .i64 a0.Id, .int .i64 0, .int .i64 0, v35, v38, .slice none 0 0, v591, v612, v619, v639]) rfl sz39 (hS.blk 0 rfl) rfl (by simp [(((hS.own 3 rfl).slr rfl (fun x _ => eGProc_len x))).one, (((hS.own 4 rfl).slr rfl (fun _ _ => rfl))).one, (((hS.own 5 rfl).slr rfl (fun _ _ => rfl))).one, (((hS.own 6 rfl).slr rfl (fun _ _ => rfl))).one, ((hS.deepSl 7 rfl)).one, (((hS.own 8 rfl).slr rfl (fun x _ => eGPage_len x))).one]) ?_
          clear H; intro w675 hN hC676 hz; clear a; intro a H; replace hS := hS.setBlk hN hC676; clear hN hz
          refine n_nil (then_normal (wp_ret ?_))
          obtain rfl := Option.some.inj hm
          replace hS := hS.nilOwn 99 2
          replace hS := hS.pk1
          replace hS := hS.pk9
          replace hS := hS.pk9
          replace hS := hS.pk9
          replace hS := hS.pk9
          replace hS := hS.pk5
          replace hS := hS.pk9
          replace hS := hS.pk9
          replace hS := hS.tk8
          refine retL H (.inr rfl) rfl (vs := [.agg #[.int .i64 a0.Id, .int .i64 0, .int .i64 0, v35, v38, .slice none 0 0, v591, v612, v619, v639]]) (resCell rfl ((hS.blk 7 rfl).ldAll ag39 sz39) resNil) ?_
          replace hS := hS.tk7
          exact ⟨_, _, _, _, _, _, _, rfl, hS⟩
end Go.Proofs.YtpnmaabhjgiggaaGreatDoor
