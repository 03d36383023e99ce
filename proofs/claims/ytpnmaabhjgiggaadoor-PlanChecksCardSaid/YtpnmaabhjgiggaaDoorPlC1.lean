/- Pl (written by wip/tools) -/
import Derived.Test.YtpnmaabhjgiggaaDoorPlC
set_option linter.unusedVariables false
set_option linter.unusedSimpArgs false
set_option maxRecDepth 10000
namespace Go.Proofs.YtpnmaabhjgiggaaDoor
open Go Go.RowKit
theorem en10 : entersB Tryd.prog 10 = true := by kernel_rfl
theorem en12 : entersB Tryd.prog 12 = true := by kernel_rfl
theorem en13 : entersB Tryd.prog 13 = true := by kernel_rfl
theorem en17 : entersB Tryd.prog 17 = true := by kernel_rfl
theorem en18 : entersB Tryd.prog 18 = true := by kernel_rfl
theorem en19 : entersB Tryd.prog 19 = true := by kernel_rfl
theorem en36 : entersB Tryd.prog 36 = true := by kernel_rfl
theorem en37 : entersB Tryd.prog 37 = true := by kernel_rfl
theorem en38 : entersB Tryd.prog 38 = true := by kernel_rfl
theorem en39 : entersB Tryd.prog 39 = true := by kernel_rfl
theorem en5 : entersB Tryd.prog 5 = true := by kernel_rfl
theorem en6 : entersB Tryd.prog 6 = true := by kernel_rfl
theorem en7 : entersB Tryd.prog 7 = true := by kernel_rfl
theorem fo31_0 : fOff Tryd.prog 31 0 = some 0 := by kernel_rfl
theorem fo31_1 : fOff Tryd.prog 31 1 = some 7 := by kernel_rfl
theorem fo48_1 : fOff Tryd.prog 48 1 = some 1 := by kernel_rfl

theorem g_r10_Bound_w {w : World} {A : Nat → Addr} {cs0 : List Value} {a0 : GPlan} (h0 : RGPlan w cs0 a0) {r : Int × Int} (hm : g_r10_Bound a0 = some r) :
    Calls Tryd.prog 12 [.agg cs0.toArray].toArray w (Ret fun u w' => u = .tuple #[.int .i64 r.1, .int .i64 r.2] ∧ Ext w w') := by
  obtain ⟨vp0_0, vp0_1, vp0_2, vp0_3, rfl, hrp0_0, hrp0_1, hrp0_2, hrp0_3⟩ := h0
  have hS := St.begin NB w
  unfold g_r10_Bound at hm
  refine enter Tryd.func12 rfl rfl rfl ?_; intro a H; dsimp only [enumL, Nat.zero_add, Nat.reduceAdd] at H
  refine wp_seq (wp_region_lit (n_box H rfl (cs := [.int .i64 a0.Id, .bool a0.Mobile, vp0_0, vp0_1, vp0_2, .int .i64 a0.Events, vp0_3]) rfl rfl ?_))
  clear H; intro b21 w22 hN hE23 hs; clear a; intro a H
  replace hS := hS.newBlk hN hE23 hs; clear hN hs
  refine n_q H (q_assign rfl) rfl (W_q (q_assign rfl) rfl ?_); clear H a; intro a H
  refine n_nil (then_normal (wp_seq (wp_seq (wp_region_lit (n_q H (q_load rfl ((hS.blk 0 rfl).ldAll ag27 sz27)) rfl ?_))))); clear H a; intro a H
  replace hm := bindS hm; obtain ⟨r24, hr24, hm⟩ := hm
  refine n_call H rfl en7 (g_r10_Good_w (A := A) (⟨_, _, _, _, rfl, (hrp0_0.ext (Flat.mono _) hS.x), (hrp0_1.ext (Flat.mono _) hS.x), (hrp0_2.ext (Flat.mono _) hS.x), (hrp0_3.ext (Flat.mono _) hS.x)⟩ : RGPlan _ [.int .i64 a0.Id, .bool a0.Mobile, vp0_0, vp0_1, vp0_2, .int .i64 a0.Events, vp0_3] a0) hr24) rfl ?_
  clear H; intro x27 w25 hv; clear a; intro a H; obtain ⟨rfl, hE26⟩ := hv
  replace hS := hS.ext hE26
  refine n_q H (q_not rfl) rfl ?_; clear H a; intro a H
  refine n_nil (then_normal (c_cond H rfl (fun hc28 => ?_) (fun hc28 => ?_)))
  · replace hm := condT hm hc28
    refine wp_seq (wp_region_lit (n_q H (q_assign rfl) rfl (W_q (q_assign rfl) rfl ?_))); clear H a; intro a H
    refine n_nil (then_normal (wp_ret (then_ret ?_)))
    obtain rfl := Option.some.inj hm
    replace hS := hS.tk0
    refine ret2 H (.inr rfl) rfl rfl rfl ?_
    exact ⟨rfl, hS.x⟩
  · replace hm := condF hm hc28
    refine wp_skip (then_normal (wp_seq (wp_region_lit (n_q H (q_load rfl ((hS.blk 0 rfl).ldAll ag27 sz27)) rfl ?_)))); clear H a; intro a H
    replace hm := bindS hm; obtain ⟨r29, hr29, hm⟩ := hm
    refine n_call H rfl en28 (g_r10_bound_w (A := A) (⟨_, _, _, _, rfl, (hrp0_0.ext (Flat.mono _) hS.x), (hrp0_1.ext (Flat.mono _) hS.x), (hrp0_2.ext (Flat.mono _) hS.x), (hrp0_3.ext (Flat.mono _) hS.x)⟩ : RGPlan _ [.int .i64 a0.Id, .bool a0.Mobile, vp0_0, vp0_1, vp0_2, .int .i64 a0.Events, vp0_3] a0) hr29) rfl ?_
    clear H; intro x32 w30 hv; clear a; intro a H; obtain ⟨rfl, hE31⟩ := hv
    replace hS := hS.ext hE31
    refine n_q H (q_assign rfl) rfl (W_q (q_assign rfl) rfl ?_); clear H a; intro a H
    refine n_nil (then_normal (wp_ret ?_))
    obtain rfl := Option.some.inj hm
    replace hS := hS.tk0
    refine ret2 H (.inr rfl) rfl rfl rfl ?_
    exact ⟨rfl, hS.x⟩
theorem g_r10_Span_w {w : World} {A : Nat → Addr} {cs0 : List Value} {a0 : GPlan} (h0 : RGPlan w cs0 a0) {r : Int × Int} (hm : g_r10_Span a0 = some r) :
    Calls Tryd.prog 13 [.agg cs0.toArray].toArray w (Ret fun u w' => u = .tuple #[.int .i64 r.1, .int .i64 r.2] ∧ Ext w w') := by
  obtain ⟨vp0_0, vp0_1, vp0_2, vp0_3, rfl, hrp0_0, hrp0_1, hrp0_2, hrp0_3⟩ := h0
  have hS := St.begin NB w
  unfold g_r10_Span at hm
  refine enter Tryd.func13 rfl rfl rfl ?_; intro a H; dsimp only [enumL, Nat.zero_add, Nat.reduceAdd] at H
  refine wp_seq (wp_region_lit (n_box H rfl (cs := [.int .i64 a0.Id, .bool a0.Mobile, vp0_0, vp0_1, vp0_2, .int .i64 a0.Events, vp0_3]) rfl rfl ?_))
  clear H; intro b21 w22 hN hE23 hs; clear a; intro a H
  replace hS := hS.newBlk hN hE23 hs; clear hN hs
  refine n_q H (q_assign rfl) rfl (W_q (q_assign rfl) rfl ?_); clear H a; intro a H
  refine n_nil (then_normal (wp_seq (wp_seq (wp_region_lit (n_q H (q_load rfl ((hS.blk 0 rfl).ldAll ag27 sz27)) rfl ?_))))); clear H a; intro a H
  replace hm := bindS hm; obtain ⟨r24, hr24, hm⟩ := hm
  refine n_call H rfl en7 (g_r10_Good_w (A := A) (⟨_, _, _, _, rfl, (hrp0_0.ext (Flat.mono _) hS.x), (hrp0_1.ext (Flat.mono _) hS.x), (hrp0_2.ext (Flat.mono _) hS.x), (hrp0_3.ext (Flat.mono _) hS.x)⟩ : RGPlan _ [.int .i64 a0.Id, .bool a0.Mobile, vp0_0, vp0_1, vp0_2, .int .i64 a0.Events, vp0_3] a0) hr24) rfl ?_
  clear H; intro x27 w25 hv; clear a; intro a H; obtain ⟨rfl, hE26⟩ := hv
  replace hS := hS.ext hE26
  refine n_q H (q_not rfl) rfl ?_; clear H a; intro a H
  refine n_nil (then_normal (c_cond H rfl (fun hc28 => ?_) (fun hc28 => ?_)))
  · replace hm := condT hm hc28
    refine wp_seq (wp_region_lit (n_q H (q_assign rfl) rfl (W_q (q_assign rfl) rfl ?_))); clear H a; intro a H
    refine n_nil (then_normal (wp_ret (then_ret ?_)))
    obtain rfl := Option.some.inj hm
    replace hS := hS.tk0
    refine ret2 H (.inr rfl) rfl rfl rfl ?_
    exact ⟨rfl, hS.x⟩
  · replace hm := condF hm hc28
    refine wp_skip (then_normal (wp_seq (wp_region_lit (n_q H (q_fieldAddr0 rfl fo27_2) rfl (W_q (q_load rfl ((hS.blk 0 rfl).ld ag22 rfl)) rfl ?_))))); clear H a; intro a H
    obtain ⟨A29, c29, hv29, hl29, hm29⟩ := SlR.formV (hrp0_0.ext (Flat.mono _) hS.x)
    refine n_q H (q_lenV Tryd.underlying22 rfl hv29) rfl (W_q (q_mulW rfl rfl) rfl (W_q (q_assign rfl) rfl (W_q (q_assign rfl) rfl ?_))); clear H a; intro a H
    refine n_nil (then_normal (wp_ret ?_))
    obtain rfl := Option.some.inj hm
    replace hS := hS.tk0
    refine ret2 H (.inr rfl) rfl rfl rfl ?_
    exact ⟨rfl, hS.x⟩
theorem g_plan_Span_w {w : World} {A : Nat → Addr} {cs0 : List Value} {a0 : GPlan} (hG : EV A w) (h0 : RGPlan w cs0 a0) {r : Int × ErrM} (hm : g_plan_Span a0 = some r) :
    Calls Tryd.prog 17 [.agg cs0.toArray].toArray w (Ret fun u w' => ∃ h_0, u = .tuple #[.int .i64 r.1, h_0] ∧ St NB w w' [erQ A h_0 r.2]) := by
  obtain ⟨vp0_0, vp0_1, vp0_2, vp0_3, rfl, hrp0_0, hrp0_1, hrp0_2, hrp0_3⟩ := h0
  have hS := St.begin NB w
  unfold g_plan_Span at hm
  refine enter Tryd.func17 rfl rfl rfl ?_; intro a H; dsimp only [enumL, Nat.zero_add, Nat.reduceAdd] at H
  refine wp_seq (wp_region_lit (n_box H rfl (cs := [.int .i64 a0.Id, .bool a0.Mobile, vp0_0, vp0_1, vp0_2, .int .i64 a0.Events, vp0_3]) rfl rfl ?_))
  clear H; intro b21 w22 hN hE23 hs; clear a; intro a H
  replace hS := hS.newBlk hN hE23 hs; clear hN hs
  refine n_q H (q_assign rfl) rfl (W_q (q_assign rfl) rfl ?_); clear H a; intro a H
  refine n_nil (then_normal (wp_seq (wp_seq (wp_region_lit (n_q H (q_load rfl ((hS.blk 0 rfl).ldAll ag27 sz27)) rfl ?_))))); clear H a; intro a H
  replace hm := bindS hm; obtain ⟨r24, hr24, hm⟩ := hm
  refine n_call H rfl en14 (g_plan_Check_w (A := A) (hG.ext hS.x) (⟨_, _, _, _, rfl, (hrp0_0.ext (Flat.mono _) hS.x), (hrp0_1.ext (Flat.mono _) hS.x), (hrp0_2.ext (Flat.mono _) hS.x), (hrp0_3.ext (Flat.mono _) hS.x)⟩ : RGPlan _ [.int .i64 a0.Id, .bool a0.Mobile, vp0_0, vp0_1, vp0_2, .int .i64 a0.Events, vp0_3] a0) hr24) rfl ?_
  clear H; intro u25 w27 hv; clear a; intro a H; obtain ⟨_, rfl, hE28⟩ := hv
  replace hS := hS.new hE28; simp only [List.cons_append, List.nil_append] at hS
  refine n_q H (q_cast (q_nnilI Tryd.underlying37 rfl rfl (hS.any 0 rfl : IsE A w27 u25 r24).form) (show _ = Value.bool (!decide (r24 = .nil)) by rw [IsErr.isNil (hS.any 0 rfl : IsE A w27 u25 r24)])) rfl ?_; clear H a; intro a H
  refine n_nil (then_normal (c_cond H rfl (fun hc30 => ?_) (fun hc30 => ?_)))
  · replace hm := condT hm hc30
    refine wp_seq (c_quiet (by kernel_rfl) (by kernel_rfl) ?_)
    refine qq_q H (q_load rfl ((hG.ext hS.x).ld gPlan (by decide) ag37)) rfl ?_; clear H a; intro a H
    refine qq_q H (q_assign rfl) rfl ?_; clear H a; intro a H
    refine qq_q H (q_assign rfl) rfl ?_; clear H a; intro a H
    refine qq_nil ?_; intro w31 hE32
    replace hS := hS.ext hE32
    refine then_normal (wp_ret (then_ret ?_))
    obtain rfl := Option.some.inj hm
    replace hS := hS.dVar (A := A) (g := gPlan) (by decide)
    replace hS := hS.tk1
    refine ret2 H (.inr rfl) rfl rfl rfl ?_
    exact ⟨_, rfl, hS⟩
  · replace hm := condF hm hc30
    refine wp_skip (then_normal (wp_seq (wp_region_lit (n_q H (q_fieldAddr0 rfl fo27_2) rfl (W_q (q_load rfl ((hS.blk 1 rfl).ld ag22 rfl)) rfl ?_))))); clear H a; intro a H
    obtain ⟨A34, c34, hv34, hl34, hm34⟩ := SlR.formV (hrp0_0.ext (Flat.mono _) hS.x)
    refine n_q H (q_lenV Tryd.underlying22 rfl hv34) rfl (W_q (q_mulW rfl rfl) rfl (W_q (q_assign rfl) rfl (W_q (q_assign rfl) rfl ?_))); clear H a; intro a H
    refine n_nil (then_normal (wp_ret ?_))
    obtain rfl := Option.some.inj hm
    replace hS := hS.dNil (A := A)
    replace hS := hS.tk1
    refine ret2 H (.inr rfl) rfl rfl rfl ?_
    exact ⟨_, rfl, hS⟩
theorem g_slices_Equal_PagePlan_w {w : World} {A : Nat → Addr} {v0 : Value} {a0 : List GPagePlan} {v1 : Value} {a1 : List GPagePlan} (h0 : SlR w 2 (Flat eGPagePlan) v0 a0) (h1 : SlR w 2 (Flat eGPagePlan) v1 a1) {r : Bool} (hm : g_slices_Equal_PagePlan a0 a1 = some r) :
    Calls Tryd.prog 36 [v0, v1].toArray w (Ret fun u w' => u = .bool r ∧ Ext w w') := by
  have hS := St.begin NB w
  unfold g_slices_Equal_PagePlan at hm
  refine enter Tryd.func36 rfl rfl rfl ?_; intro a H; dsimp only [enumL, Nat.zero_add, Nat.reduceAdd] at H
  refine wp_seq (wp_region_lit (n_q H (q_assign rfl) rfl ?_)); clear H a; intro a H
  refine n_nil (then_normal (wp_seq (wp_seq (wp_region_lit (n_q H (q_move rfl) rfl ?_))))); clear H a; intro a H
  obtain ⟨A21, c21, hv21, hl21, hm21⟩ := SlR.formV (h0.ext (Flat.mono _) hS.x)
  refine n_q H (q_lenV Tryd.underlying22 rfl hv21) rfl (W_q (q_move rfl) rfl ?_); clear H a; intro a H
  obtain ⟨A22, c22, hv22, hl22, hm22⟩ := SlR.formV (h1.ext (Flat.mono _) hS.x)
  refine n_q H (q_lenV Tryd.underlying22 rfl hv22) rfl (W_q (q_neqN (i := a0.length) (j := a1.length) rfl rfl) rfl ?_); clear H a; intro a H
  refine n_nil (then_normal (c_cond H rfl (fun hc23 => ?_) (fun hc23 => ?_)))
  · replace hm := condT hm hc23
    refine wp_seq (wp_region_lit (n_q H (q_assign rfl) rfl ?_)); clear H a; intro a H
    refine n_nil (then_normal (wp_ret (then_ret ?_)))
    obtain rfl := Option.some.inj hm
    refine ret1 H (.inr rfl) rfl rfl ?_
    exact ⟨rfl, hS.x⟩
  · replace hm := condF hm hc23
    refine wp_skip (then_normal (wp_seq (wp_seq (wp_region_lit (n_q H (q_move rfl) rfl (W_q (q_lenV Tryd.underlying22 rfl hv21) rfl (W_q (q_move rfl) rfl ?_))))))); clear H a; intro a H
    refine n_nil (then_normal (wp_block ?_))
    replace hm := bindS hm; obtain ⟨q24, hm, hm24⟩ := hm; replace hm := iter_some hm; obtain ⟨n24, hm⟩ := hm
    refine c_loop (σ := Nat × Nat) (fun (m, i25) => [(0, v0), (1, v1), (12, .int .i64 ((a0.length : Nat) : Int)), (13, .int .i64 ((i25 : Nat) : Int))]) (fun (m, i25) wl => iterN (g_slices_Equal_PagePlan_L1 a0 a1) m i25 = some q24 ∧ St NB w wl []) (fun (m, i25) => m) (n24, 0) H ⟨rfl, rfl, rfl, rfl, trivial⟩ ⟨hm, hS⟩ ?_
    clear H hS hm a; intro xx a w26 H hR; obtain ⟨m, i25⟩ := xx; simp only [ent, List.map_cons, List.map_nil] at H; (try dsimp only at hR); obtain ⟨hm, hS⟩ := hR
    replace hm := iterN_step hm; obtain ⟨m24, o24, rfl, hm, hn24⟩ := hm; try dsimp only [g_slices_Equal_PagePlan_L1] at hm
    refine wp_seq (wp_region_lit (n_q H (q_lssN (i := i25) (j := a0.length) rfl rfl) rfl ?_)); clear H a; intro a H
    refine n_nil (then_normal (wp_seq (c_cond H rfl (fun hc27 => ?_) (fun hc27 => ?_))))
    · replace hm := condT hm hc27
      have hlt28 : i25 < a0.length := of_decide_eq_true hc27
      refine wp_skip (then_normal (wp_seq (wp_block (wp_seq (wp_region_lit (n_q H (q_move rfl) rfl (W_q (q_assign rfl) rfl ?_))))))); clear H a; intro a H
      refine n_nil (then_normal (wp_seq (c_quiet (by kernel_rfl) (by kernel_rfl) ?_)))
      refine qq_q H (q_move rfl) rfl ?_; clear H a; intro a H
      refine qq_q H (q_move rfl) rfl ?_; clear H a; intro a H
      replace hm := bindS hm; obtain ⟨x29, hx29, hm⟩ := hm
      obtain ⟨adx29, hAx29⟩ := SlR.adV (h0.ext (Flat.mono _) hS.x) hv21 hx29
      refine qq_q H (q_ixV (i := i25) Tryd.underlying22 sz41 rfl hv21 hAx29 rfl (natI hx29)) rfl ?_; clear H a; intro a H
      refine qq_q H (q_load rfl (SlR.ldAggV (h0.ext (Flat.mono _) hS.x) hv21 hAx29 ag41 sz41 hx29)) rfl ?_; clear H a; intro a H
      refine qq_q H (q_move rfl) rfl ?_; clear H a; intro a H
      refine qq_q H (q_move rfl) rfl ?_; clear H a; intro a H
      replace hm := bindS hm; obtain ⟨x30, hx30, hm⟩ := hm
      obtain ⟨adx30, hAx30⟩ := SlR.adV (h1.ext (Flat.mono _) hS.x) hv22 hx30
      refine qq_q H (q_ixV (i := i25) Tryd.underlying22 sz41 rfl hv22 hAx30 rfl (natI hx30)) rfl ?_; clear H a; intro a H
      refine qq_q H (q_load rfl (SlR.ldAggV (h1.ext (Flat.mono _) hS.x) hv22 hAx30 ag41 sz41 hx30)) rfl ?_; clear H a; intro a H
      refine qq_q H (q_neqG (structB_guard st41) (eqInGPagePlan x29 x30) (by omega) rfl rfl) rfl ?_; clear H a; intro a H
      refine qq_nil ?_; intro w31 hE32
      replace hS := hS.ext hE32
      refine then_normal (c_cond H rfl (fun hc33 => ?_) (fun hc33 => ?_))
      · replace hm := condT hm hc33
        refine wp_seq (wp_region_lit (n_q H (q_assign rfl) rfl ?_)); clear H a; intro a H
        refine n_nil (then_normal (wp_ret (block_ret (then_ret (then_ret (block_ret (then_ret ?_)))))))
        obtain rfl := Option.some.inj hm; have hz : _ = q24 := hn24; subst hz; replace hm := hm24; try dsimp only at hm
        obtain rfl := Option.some.inj hm
        refine ret1 H (.inr rfl) rfl rfl ?_
        exact ⟨rfl, hS.x⟩
      · replace hm := condF hm hc33
        refine wp_skip (block_normal (then_normal (wp_region_lit (n_q H (q_incr (i := i25) (j := 1) rfl rfl (by omega)) rfl (W_q (q_move rfl) rfl ?_))))); clear H a; intro a H
        refine n_nil (then_normal ?_)
        obtain rfl := Option.some.inj hm
        exact round (m24, i25 + 1) H ⟨rfl, rfl, rfl, rfl, trivial⟩ ⟨hn24, hS⟩ (Nat.lt_succ_self _)
    · replace hm := condF hm hc27
      refine wp_exit (then_exit (then_exit (block_exit ?_)))
      obtain rfl := Option.some.inj hm; have hz : _ = q24 := hn24; subst hz; replace hm := hm24; try dsimp only at hm
      refine then_normal (wp_seq (wp_region_lit (n_q H (q_assign rfl) rfl ?_))); clear H a; intro a H
      refine n_nil (then_normal (wp_ret ?_))
      obtain rfl := Option.some.inj hm
      refine ret1 H (.inr rfl) rfl rfl ?_
      exact ⟨rfl, hS.x⟩
theorem g_slices_Equal_ProcPlan_w {w : World} {A : Nat → Addr} {v0 : Value} {a0 : List GProcPlan} {v1 : Value} {a1 : List GProcPlan} (h0 : SlR w 3 (Flat eGProcPlan) v0 a0) (h1 : SlR w 3 (Flat eGProcPlan) v1 a1) {r : Bool} (hm : g_slices_Equal_ProcPlan a0 a1 = some r) :
    Calls Tryd.prog 37 [v0, v1].toArray w (Ret fun u w' => u = .bool r ∧ Ext w w') := by
  have hS := St.begin NB w
  unfold g_slices_Equal_ProcPlan at hm
  refine enter Tryd.func37 rfl rfl rfl ?_; intro a H; dsimp only [enumL, Nat.zero_add, Nat.reduceAdd] at H
  refine wp_seq (wp_region_lit (n_q H (q_assign rfl) rfl ?_)); clear H a; intro a H
  refine n_nil (then_normal (wp_seq (wp_seq (wp_region_lit (n_q H (q_move rfl) rfl ?_))))); clear H a; intro a H
  obtain ⟨A21, c21, hv21, hl21, hm21⟩ := SlR.formV (h0.ext (Flat.mono _) hS.x)
  refine n_q H (q_lenV Tryd.underlying23 rfl hv21) rfl (W_q (q_move rfl) rfl ?_); clear H a; intro a H
  obtain ⟨A22, c22, hv22, hl22, hm22⟩ := SlR.formV (h1.ext (Flat.mono _) hS.x)
  refine n_q H (q_lenV Tryd.underlying23 rfl hv22) rfl (W_q (q_neqN (i := a0.length) (j := a1.length) rfl rfl) rfl ?_); clear H a; intro a H
  refine n_nil (then_normal (c_cond H rfl (fun hc23 => ?_) (fun hc23 => ?_)))
  · replace hm := condT hm hc23
    refine wp_seq (wp_region_lit (n_q H (q_assign rfl) rfl ?_)); clear H a; intro a H
    refine n_nil (then_normal (wp_ret (then_ret ?_)))
    obtain rfl := Option.some.inj hm
    refine ret1 H (.inr rfl) rfl rfl ?_
    exact ⟨rfl, hS.x⟩
  · replace hm := condF hm hc23
    refine wp_skip (then_normal (wp_seq (wp_seq (wp_region_lit (n_q H (q_move rfl) rfl (W_q (q_lenV Tryd.underlying23 rfl hv21) rfl (W_q (q_move rfl) rfl ?_))))))); clear H a; intro a H
    refine n_nil (then_normal (wp_block ?_))
    replace hm := bindS hm; obtain ⟨q24, hm, hm24⟩ := hm; replace hm := iter_some hm; obtain ⟨n24, hm⟩ := hm
    refine c_loop (σ := Nat × Nat) (fun (m, i25) => [(0, v0), (1, v1), (12, .int .i64 ((a0.length : Nat) : Int)), (13, .int .i64 ((i25 : Nat) : Int))]) (fun (m, i25) wl => iterN (g_slices_Equal_ProcPlan_L1 a0 a1) m i25 = some q24 ∧ St NB w wl []) (fun (m, i25) => m) (n24, 0) H ⟨rfl, rfl, rfl, rfl, trivial⟩ ⟨hm, hS⟩ ?_
    clear H hS hm a; intro xx a w26 H hR; obtain ⟨m, i25⟩ := xx; simp only [ent, List.map_cons, List.map_nil] at H; (try dsimp only at hR); obtain ⟨hm, hS⟩ := hR
    replace hm := iterN_step hm; obtain ⟨m24, o24, rfl, hm, hn24⟩ := hm; try dsimp only [g_slices_Equal_ProcPlan_L1] at hm
    refine wp_seq (wp_region_lit (n_q H (q_lssN (i := i25) (j := a0.length) rfl rfl) rfl ?_)); clear H a; intro a H
    refine n_nil (then_normal (wp_seq (c_cond H rfl (fun hc27 => ?_) (fun hc27 => ?_))))
    · replace hm := condT hm hc27
      have hlt28 : i25 < a0.length := of_decide_eq_true hc27
      refine wp_skip (then_normal (wp_seq (wp_block (wp_seq (wp_region_lit (n_q H (q_move rfl) rfl (W_q (q_assign rfl) rfl ?_))))))); clear H a; intro a H
      refine n_nil (then_normal (wp_seq (c_quiet (by kernel_rfl) (by kernel_rfl) ?_)))
      refine qq_q H (q_move rfl) rfl ?_; clear H a; intro a H
      refine qq_q H (q_move rfl) rfl ?_; clear H a; intro a H
      replace hm := bindS hm; obtain ⟨x29, hx29, hm⟩ := hm
      obtain ⟨adx29, hAx29⟩ := SlR.adV (h0.ext (Flat.mono _) hS.x) hv21 hx29
      refine qq_q H (q_ixV (i := i25) Tryd.underlying23 sz43 rfl hv21 hAx29 rfl (natI hx29)) rfl ?_; clear H a; intro a H
      refine qq_q H (q_load rfl (SlR.ldAggV (h0.ext (Flat.mono _) hS.x) hv21 hAx29 ag43 sz43 hx29)) rfl ?_; clear H a; intro a H
      refine qq_q H (q_move rfl) rfl ?_; clear H a; intro a H
      refine qq_q H (q_move rfl) rfl ?_; clear H a; intro a H
      replace hm := bindS hm; obtain ⟨x30, hx30, hm⟩ := hm
      obtain ⟨adx30, hAx30⟩ := SlR.adV (h1.ext (Flat.mono _) hS.x) hv22 hx30
      refine qq_q H (q_ixV (i := i25) Tryd.underlying23 sz43 rfl hv22 hAx30 rfl (natI hx30)) rfl ?_; clear H a; intro a H
      refine qq_q H (q_load rfl (SlR.ldAggV (h1.ext (Flat.mono _) hS.x) hv22 hAx30 ag43 sz43 hx30)) rfl ?_; clear H a; intro a H
      refine qq_q H (q_neqG (structB_guard st43) (eqInGProcPlan x29 x30) (by omega) rfl rfl) rfl ?_; clear H a; intro a H
      refine qq_nil ?_; intro w31 hE32
      replace hS := hS.ext hE32
      refine then_normal (c_cond H rfl (fun hc33 => ?_) (fun hc33 => ?_))
      · replace hm := condT hm hc33
        refine wp_seq (wp_region_lit (n_q H (q_assign rfl) rfl ?_)); clear H a; intro a H
        refine n_nil (then_normal (wp_ret (block_ret (then_ret (then_ret (block_ret (then_ret ?_)))))))
        obtain rfl := Option.some.inj hm; have hz : _ = q24 := hn24; subst hz; replace hm := hm24; try dsimp only at hm
        obtain rfl := Option.some.inj hm
        refine ret1 H (.inr rfl) rfl rfl ?_
        exact ⟨rfl, hS.x⟩
      · replace hm := condF hm hc33
        refine wp_skip (block_normal (then_normal (wp_region_lit (n_q H (q_incr (i := i25) (j := 1) rfl rfl (by omega)) rfl (W_q (q_move rfl) rfl ?_))))); clear H a; intro a H
        refine n_nil (then_normal ?_)
        obtain rfl := Option.some.inj hm
        exact round (m24, i25 + 1) H ⟨rfl, rfl, rfl, rfl, trivial⟩ ⟨hn24, hS⟩ (Nat.lt_succ_self _)
    · replace hm := condF hm hc27
      refine wp_exit (then_exit (then_exit (block_exit ?_)))
      obtain rfl := Option.some.inj hm; have hz : _ = q24 := hn24; subst hz; replace hm := hm24; try dsimp only at hm
      refine then_normal (wp_seq (wp_region_lit (n_q H (q_assign rfl) rfl ?_))); clear H a; intro a H
      refine n_nil (then_normal (wp_ret ?_))
      obtain rfl := Option.some.inj hm
      refine ret1 H (.inr rfl) rfl rfl ?_
      exact ⟨rfl, hS.x⟩
theorem g_slices_Equal_PortPlan_w {w : World} {A : Nat → Addr} {v0 : Value} {a0 : List GPortPlan} {v1 : Value} {a1 : List GPortPlan} (h0 : SlR w 4 (Flat eGPortPlan) v0 a0) (h1 : SlR w 4 (Flat eGPortPlan) v1 a1) {r : Bool} (hm : g_slices_Equal_PortPlan a0 a1 = some r) :
    Calls Tryd.prog 38 [v0, v1].toArray w (Ret fun u w' => u = .bool r ∧ Ext w w') := by
  have hS := St.begin NB w
  unfold g_slices_Equal_PortPlan at hm
  refine enter Tryd.func38 rfl rfl rfl ?_; intro a H; dsimp only [enumL, Nat.zero_add, Nat.reduceAdd] at H
  refine wp_seq (wp_region_lit (n_q H (q_assign rfl) rfl ?_)); clear H a; intro a H
  refine n_nil (then_normal (wp_seq (wp_seq (wp_region_lit (n_q H (q_move rfl) rfl ?_))))); clear H a; intro a H
  obtain ⟨A21, c21, hv21, hl21, hm21⟩ := SlR.formV (h0.ext (Flat.mono _) hS.x)
  refine n_q H (q_lenV Tryd.underlying24 rfl hv21) rfl (W_q (q_move rfl) rfl ?_); clear H a; intro a H
  obtain ⟨A22, c22, hv22, hl22, hm22⟩ := SlR.formV (h1.ext (Flat.mono _) hS.x)
  refine n_q H (q_lenV Tryd.underlying24 rfl hv22) rfl (W_q (q_neqN (i := a0.length) (j := a1.length) rfl rfl) rfl ?_); clear H a; intro a H
  refine n_nil (then_normal (c_cond H rfl (fun hc23 => ?_) (fun hc23 => ?_)))
  · replace hm := condT hm hc23
    refine wp_seq (wp_region_lit (n_q H (q_assign rfl) rfl ?_)); clear H a; intro a H
    refine n_nil (then_normal (wp_ret (then_ret ?_)))
    obtain rfl := Option.some.inj hm
    refine ret1 H (.inr rfl) rfl rfl ?_
    exact ⟨rfl, hS.x⟩
  · replace hm := condF hm hc23
    refine wp_skip (then_normal (wp_seq (wp_seq (wp_region_lit (n_q H (q_move rfl) rfl (W_q (q_lenV Tryd.underlying24 rfl hv21) rfl (W_q (q_move rfl) rfl ?_))))))); clear H a; intro a H
    refine n_nil (then_normal (wp_block ?_))
    replace hm := bindS hm; obtain ⟨q24, hm, hm24⟩ := hm; replace hm := iter_some hm; obtain ⟨n24, hm⟩ := hm
    refine c_loop (σ := Nat × Nat) (fun (m, i25) => [(0, v0), (1, v1), (12, .int .i64 ((a0.length : Nat) : Int)), (13, .int .i64 ((i25 : Nat) : Int))]) (fun (m, i25) wl => iterN (g_slices_Equal_PortPlan_L1 a0 a1) m i25 = some q24 ∧ St NB w wl []) (fun (m, i25) => m) (n24, 0) H ⟨rfl, rfl, rfl, rfl, trivial⟩ ⟨hm, hS⟩ ?_
    clear H hS hm a; intro xx a w26 H hR; obtain ⟨m, i25⟩ := xx; simp only [ent, List.map_cons, List.map_nil] at H; (try dsimp only at hR); obtain ⟨hm, hS⟩ := hR
    replace hm := iterN_step hm; obtain ⟨m24, o24, rfl, hm, hn24⟩ := hm; try dsimp only [g_slices_Equal_PortPlan_L1] at hm
    refine wp_seq (wp_region_lit (n_q H (q_lssN (i := i25) (j := a0.length) rfl rfl) rfl ?_)); clear H a; intro a H
    refine n_nil (then_normal (wp_seq (c_cond H rfl (fun hc27 => ?_) (fun hc27 => ?_))))
    · replace hm := condT hm hc27
      have hlt28 : i25 < a0.length := of_decide_eq_true hc27
      refine wp_skip (then_normal (wp_seq (wp_block (wp_seq (wp_region_lit (n_q H (q_move rfl) rfl (W_q (q_assign rfl) rfl ?_))))))); clear H a; intro a H
      refine n_nil (then_normal (wp_seq (c_quiet (by kernel_rfl) (by kernel_rfl) ?_)))
      refine qq_q H (q_move rfl) rfl ?_; clear H a; intro a H
      refine qq_q H (q_move rfl) rfl ?_; clear H a; intro a H
      replace hm := bindS hm; obtain ⟨x29, hx29, hm⟩ := hm
      obtain ⟨adx29, hAx29⟩ := SlR.adV (h0.ext (Flat.mono _) hS.x) hv21 hx29
      refine qq_q H (q_ixV (i := i25) Tryd.underlying24 sz70 rfl hv21 hAx29 rfl (natI hx29)) rfl ?_; clear H a; intro a H
      refine qq_q H (q_load rfl (SlR.ldAggV (h0.ext (Flat.mono _) hS.x) hv21 hAx29 ag70 sz70 hx29)) rfl ?_; clear H a; intro a H
      refine qq_q H (q_move rfl) rfl ?_; clear H a; intro a H
      refine qq_q H (q_move rfl) rfl ?_; clear H a; intro a H
      replace hm := bindS hm; obtain ⟨x30, hx30, hm⟩ := hm
      obtain ⟨adx30, hAx30⟩ := SlR.adV (h1.ext (Flat.mono _) hS.x) hv22 hx30
      refine qq_q H (q_ixV (i := i25) Tryd.underlying24 sz70 rfl hv22 hAx30 rfl (natI hx30)) rfl ?_; clear H a; intro a H
      refine qq_q H (q_load rfl (SlR.ldAggV (h1.ext (Flat.mono _) hS.x) hv22 hAx30 ag70 sz70 hx30)) rfl ?_; clear H a; intro a H
      refine qq_q H (q_neqG (structB_guard st70) (eqInGPortPlan x29 x30) (by omega) rfl rfl) rfl ?_; clear H a; intro a H
      refine qq_nil ?_; intro w31 hE32
      replace hS := hS.ext hE32
      refine then_normal (c_cond H rfl (fun hc33 => ?_) (fun hc33 => ?_))
      · replace hm := condT hm hc33
        refine wp_seq (wp_region_lit (n_q H (q_assign rfl) rfl ?_)); clear H a; intro a H
        refine n_nil (then_normal (wp_ret (block_ret (then_ret (then_ret (block_ret (then_ret ?_)))))))
        obtain rfl := Option.some.inj hm; have hz : _ = q24 := hn24; subst hz; replace hm := hm24; try dsimp only at hm
        obtain rfl := Option.some.inj hm
        refine ret1 H (.inr rfl) rfl rfl ?_
        exact ⟨rfl, hS.x⟩
      · replace hm := condF hm hc33
        refine wp_skip (block_normal (then_normal (wp_region_lit (n_q H (q_incr (i := i25) (j := 1) rfl rfl (by omega)) rfl (W_q (q_move rfl) rfl ?_))))); clear H a; intro a H
        refine n_nil (then_normal ?_)
        obtain rfl := Option.some.inj hm
        exact round (m24, i25 + 1) H ⟨rfl, rfl, rfl, rfl, trivial⟩ ⟨hn24, hS⟩ (Nat.lt_succ_self _)
    · replace hm := condF hm hc27
      refine wp_exit (then_exit (then_exit (block_exit ?_)))
      obtain rfl := Option.some.inj hm; have hz : _ = q24 := hn24; subst hz; replace hm := hm24; try dsimp only at hm
      refine then_normal (wp_seq (wp_region_lit (n_q H (q_assign rfl) rfl ?_))); clear H a; intro a H
      refine n_nil (then_normal (wp_ret ?_))
      obtain rfl := Option.some.inj hm
      refine ret1 H (.inr rfl) rfl rfl ?_
      exact ⟨rfl, hS.x⟩
theorem g_slices_Equal_int_w {w : World} {A : Nat → Addr} {v0 : Value} {a0 : List Int} {v1 : Value} {a1 : List Int} (h0 : SlR w 1 (Flat eI) v0 a0) (h1 : SlR w 1 (Flat eI) v1 a1) {r : Bool} (hm : g_slices_Equal_int a0 a1 = some r) :
    Calls Tryd.prog 39 [v0, v1].toArray w (Ret fun u w' => u = .bool r ∧ Ext w w') := by
  have hS := St.begin NB w
  unfold g_slices_Equal_int at hm
  refine enter Tryd.func39 rfl rfl rfl ?_; intro a H; dsimp only [enumL, Nat.zero_add, Nat.reduceAdd] at H
  refine wp_seq (wp_region_lit (n_q H (q_assign rfl) rfl ?_)); clear H a; intro a H
  refine n_nil (then_normal (wp_seq (wp_seq (wp_region_lit (n_q H (q_move rfl) rfl ?_))))); clear H a; intro a H
  obtain ⟨A21, c21, hv21, hl21, hm21⟩ := SlR.formV (h0.ext (Flat.mono _) hS.x)
  refine n_q H (q_lenV Tryd.underlying25 rfl hv21) rfl (W_q (q_move rfl) rfl ?_); clear H a; intro a H
  obtain ⟨A22, c22, hv22, hl22, hm22⟩ := SlR.formV (h1.ext (Flat.mono _) hS.x)
  refine n_q H (q_lenV Tryd.underlying25 rfl hv22) rfl (W_q (q_neqN (i := a0.length) (j := a1.length) rfl rfl) rfl ?_); clear H a; intro a H
  refine n_nil (then_normal (c_cond H rfl (fun hc23 => ?_) (fun hc23 => ?_)))
  · replace hm := condT hm hc23
    refine wp_seq (wp_region_lit (n_q H (q_assign rfl) rfl ?_)); clear H a; intro a H
    refine n_nil (then_normal (wp_ret (then_ret ?_)))
    obtain rfl := Option.some.inj hm
    refine ret1 H (.inr rfl) rfl rfl ?_
    exact ⟨rfl, hS.x⟩
  · replace hm := condF hm hc23
    refine wp_skip (then_normal (wp_seq (wp_seq (wp_region_lit (n_q H (q_move rfl) rfl (W_q (q_lenV Tryd.underlying25 rfl hv21) rfl (W_q (q_move rfl) rfl ?_))))))); clear H a; intro a H
    refine n_nil (then_normal (wp_block ?_))
    replace hm := bindS hm; obtain ⟨q24, hm, hm24⟩ := hm; replace hm := iter_some hm; obtain ⟨n24, hm⟩ := hm
    refine c_loop (σ := Nat × Nat) (fun (m, i25) => [(0, v0), (1, v1), (12, .int .i64 ((a0.length : Nat) : Int)), (13, .int .i64 ((i25 : Nat) : Int))]) (fun (m, i25) wl => iterN (g_slices_Equal_int_L1 a0 a1) m i25 = some q24 ∧ St NB w wl []) (fun (m, i25) => m) (n24, 0) H ⟨rfl, rfl, rfl, rfl, trivial⟩ ⟨hm, hS⟩ ?_
    clear H hS hm a; intro xx a w26 H hR; obtain ⟨m, i25⟩ := xx; simp only [ent, List.map_cons, List.map_nil] at H; (try dsimp only at hR); obtain ⟨hm, hS⟩ := hR
    replace hm := iterN_step hm; obtain ⟨m24, o24, rfl, hm, hn24⟩ := hm; try dsimp only [g_slices_Equal_int_L1] at hm
    refine wp_seq (wp_region_lit (n_q H (q_lssN (i := i25) (j := a0.length) rfl rfl) rfl ?_)); clear H a; intro a H
    refine n_nil (then_normal (wp_seq (c_cond H rfl (fun hc27 => ?_) (fun hc27 => ?_))))
    · replace hm := condT hm hc27
      have hlt28 : i25 < a0.length := of_decide_eq_true hc27
      refine wp_skip (then_normal (wp_seq (wp_block (wp_seq (wp_region_lit (n_q H (q_move rfl) rfl (W_q (q_assign rfl) rfl ?_))))))); clear H a; intro a H
      refine n_nil (then_normal (wp_seq (c_quiet (by kernel_rfl) (by kernel_rfl) ?_)))
      refine qq_q H (q_move rfl) rfl ?_; clear H a; intro a H
      refine qq_q H (q_move rfl) rfl ?_; clear H a; intro a H
      replace hm := bindS hm; obtain ⟨x29, hx29, hm⟩ := hm
      obtain ⟨adx29, hAx29⟩ := SlR.adV (h0.ext (Flat.mono _) hS.x) hv21 hx29
      refine qq_q H (q_ixV (i := i25) Tryd.underlying25 sz3 rfl hv21 hAx29 rfl (natI hx29)) rfl ?_; clear H a; intro a H
      refine qq_q H (q_load rfl (SlR.ldOneV (h0.ext (Flat.mono _) hS.x) hv21 hAx29 ag3 hx29 rfl)) rfl ?_; clear H a; intro a H
      refine qq_q H (q_move rfl) rfl ?_; clear H a; intro a H
      refine qq_q H (q_move rfl) rfl ?_; clear H a; intro a H
      replace hm := bindS hm; obtain ⟨x30, hx30, hm⟩ := hm
      obtain ⟨adx30, hAx30⟩ := SlR.adV (h1.ext (Flat.mono _) hS.x) hv22 hx30
      refine qq_q H (q_ixV (i := i25) Tryd.underlying25 sz3 rfl hv22 hAx30 rfl (natI hx30)) rfl ?_; clear H a; intro a H
      refine qq_q H (q_load rfl (SlR.ldOneV (h1.ext (Flat.mono _) hS.x) hv22 hAx30 ag3 hx30 rfl)) rfl ?_; clear H a; intro a H
      refine qq_q H (q_neqD rfl rfl) rfl ?_; clear H a; intro a H
      refine qq_nil ?_; intro w31 hE32
      replace hS := hS.ext hE32
      refine then_normal (c_cond H rfl (fun hc33 => ?_) (fun hc33 => ?_))
      · replace hm := condT hm hc33
        refine wp_seq (wp_region_lit (n_q H (q_assign rfl) rfl ?_)); clear H a; intro a H
        refine n_nil (then_normal (wp_ret (block_ret (then_ret (then_ret (block_ret (then_ret ?_)))))))
        obtain rfl := Option.some.inj hm; have hz : _ = q24 := hn24; subst hz; replace hm := hm24; try dsimp only at hm
        obtain rfl := Option.some.inj hm
        refine ret1 H (.inr rfl) rfl rfl ?_
        exact ⟨rfl, hS.x⟩
      · replace hm := condF hm hc33
        refine wp_skip (block_normal (then_normal (wp_region_lit (n_q H (q_incr (i := i25) (j := 1) rfl rfl (by omega)) rfl (W_q (q_move rfl) rfl ?_))))); clear H a; intro a H
        refine n_nil (then_normal ?_)
        obtain rfl := Option.some.inj hm
        exact round (m24, i25 + 1) H ⟨rfl, rfl, rfl, rfl, trivial⟩ ⟨hn24, hS⟩ (Nat.lt_succ_self _)
    · replace hm := condF hm hc27
      refine wp_exit (then_exit (then_exit (block_exit ?_)))
      obtain rfl := Option.some.inj hm; have hz : _ = q24 := hn24; subst hz; replace hm := hm24; try dsimp only at hm
      refine then_normal (wp_seq (wp_region_lit (n_q H (q_assign rfl) rfl ?_))); clear H a; intro a H
      refine n_nil (then_normal (wp_ret ?_))
      obtain rfl := Option.some.inj hm
      refine ret1 H (.inr rfl) rfl rfl ?_
      exact ⟨rfl, hS.x⟩
theorem g_plan_Same_w {w : World} {A : Nat → Addr} {cs0 : List Value} {a0 : GPlan} {cs1 : List Value} {a1 : GPlan} (h0 : RGPlan w cs0 a0) (h1 : RGPlan w cs1 a1) {r : Bool} (hm : g_plan_Same a0 a1 = some r) :
    Calls Tryd.prog 18 [.agg cs0.toArray, .agg cs1.toArray].toArray w (Ret fun u w' => u = .bool r ∧ Ext w w') := by
  obtain ⟨vp0_0, vp0_1, vp0_2, vp0_3, rfl, hrp0_0, hrp0_1, hrp0_2, hrp0_3⟩ := h0
  obtain ⟨vp1_0, vp1_1, vp1_2, vp1_3, rfl, hrp1_0, hrp1_1, hrp1_2, hrp1_3⟩ := h1
  have hS := St.begin NB w
  unfold g_plan_Same at hm
  refine enter Tryd.func18 rfl rfl rfl ?_; intro a H; dsimp only [enumL, Nat.zero_add, Nat.reduceAdd] at H
  refine wp_seq (wp_region_lit (n_box H rfl (cs := [.int .i64 a0.Id, .bool a0.Mobile, vp0_0, vp0_1, vp0_2, .int .i64 a0.Events, vp0_3]) rfl rfl ?_))
  clear H; intro b21 w22 hN hE23 hs; clear a; intro a H
  replace hS := hS.newBlk hN hE23 hs; clear hN hs
  refine n_box H rfl (cs := [.int .i64 a1.Id, .bool a1.Mobile, vp1_0, vp1_1, vp1_2, .int .i64 a1.Events, vp1_3]) rfl rfl ?_
  clear H; intro b24 w25 hN hE26 hs; clear a; intro a H
  replace hS := hS.newBlk hN hE26 hs; clear hN hs
  refine n_q H (q_assign rfl) rfl ?_; clear H a; intro a H
  refine n_nil (then_normal (wp_seq (wp_region_lit (n_q H (q_fieldAddr0 rfl fo27_0) rfl (W_q (q_load rfl ((hS.blk 1 rfl).ld ag3 rfl)) rfl (W_q (q_fieldAddr0 rfl fo27_0) rfl (W_q (q_load rfl ((hS.blk 0 rfl).ld ag3 rfl)) rfl (W_q (q_eqlD rfl rfl) rfl (W_q (q_move rfl) rfl ?_))))))))); clear H a; intro a H
  rcases Bool.eq_false_or_eq_true (decide (a0.Id = a1.Id)) with hg27 | hg27
  · replace H := H.know 10 rfl hg27
    replace hm := condT hm hg27
    refine n_yes H rfl rfl (n_q H (q_fieldAddr0 rfl fo27_1) rfl (W_yes rfl rfl (W_q (q_load rfl ((hS.blk 1 rfl).ld ag4 rfl)) rfl (W_yes rfl rfl (W_q (q_fieldAddr0 rfl fo27_1) rfl (W_yes rfl rfl (W_q (q_load rfl ((hS.blk 0 rfl).ld ag4 rfl)) rfl (W_yes rfl rfl (W_q (q_eqlB Tryd.underlying4 rfl rfl) rfl (W_q (q_pickT rfl rfl) rfl (W_q (q_move rfl) rfl ?_))))))))))); clear H a; intro a H
    rcases Bool.eq_false_or_eq_true (a0.Mobile == a1.Mobile) with hg28 | hg28
    · replace H := H.know 17 rfl hg28
      replace hm := condT hm hg28
      refine n_yes H rfl rfl (n_q H (q_fieldAddr0 rfl fo27_5) rfl (W_yes rfl rfl (W_q (q_load rfl ((hS.blk 1 rfl).ld ag3 rfl)) rfl (W_yes rfl rfl (W_q (q_fieldAddr0 rfl fo27_5) rfl (W_yes rfl rfl (W_q (q_load rfl ((hS.blk 0 rfl).ld ag3 rfl)) rfl (W_yes rfl rfl (W_q (q_eqlD rfl rfl) rfl (W_q (q_pickT rfl rfl) rfl (W_q (q_move rfl) rfl ?_))))))))))); clear H a; intro a H
      rcases Bool.eq_false_or_eq_true (decide (a0.Events = a1.Events)) with hg29 | hg29
      · replace H := H.know 24 rfl hg29
        replace hm := condT hm hg29
        refine n_yes H rfl rfl (n_q H (q_fieldAddr0 rfl fo27_2) rfl (W_yes rfl rfl (W_q (q_load rfl ((hS.blk 1 rfl).ld ag22 rfl)) rfl (W_yes rfl rfl (W_q (q_fieldAddr0 rfl fo27_2) rfl (W_yes rfl rfl (W_q (q_load rfl ((hS.blk 0 rfl).ld ag22 rfl)) rfl (W_yes rfl rfl ?_)))))))); clear H a; intro a H
        replace hm := bindS hm; obtain ⟨r30, hr30, hm⟩ := hm
        refine n_call H rfl en36 (g_slices_Equal_PagePlan_w (A := A) (hrp0_0.ext (Flat.mono _) hS.x) (hrp1_0.ext (Flat.mono _) hS.x) hr30) rfl ?_
        clear H; intro x33 w31 hv; clear a; intro a H; obtain ⟨rfl, hE32⟩ := hv
        replace hS := hS.ext hE32
        refine n_q H (q_pickT rfl rfl) rfl (W_q (q_move rfl) rfl ?_); clear H a; intro a H
        rcases Bool.eq_false_or_eq_true r30 with hg34 | hg34
        · replace H := H.know 31 rfl hg34
          replace hm := condT hm hg34
          refine n_yes H rfl rfl (n_q H (q_fieldAddr0 rfl fo27_3) rfl (W_yes rfl rfl (W_q (q_load rfl ((hS.blk 1 rfl).ld ag23 rfl)) rfl (W_yes rfl rfl (W_q (q_fieldAddr0 rfl fo27_3) rfl (W_yes rfl rfl (W_q (q_load rfl ((hS.blk 0 rfl).ld ag23 rfl)) rfl (W_yes rfl rfl ?_)))))))); clear H a; intro a H
          replace hm := bindS hm; obtain ⟨r35, hr35, hm⟩ := hm
          refine n_call H rfl en37 (g_slices_Equal_ProcPlan_w (A := A) (hrp0_1.ext (Flat.mono _) hS.x) (hrp1_1.ext (Flat.mono _) hS.x) hr35) rfl ?_
          clear H; intro x38 w36 hv; clear a; intro a H; obtain ⟨rfl, hE37⟩ := hv
          replace hS := hS.ext hE37
          refine n_q H (q_pickT rfl rfl) rfl (W_q (q_move rfl) rfl ?_); clear H a; intro a H
          rcases Bool.eq_false_or_eq_true r35 with hg39 | hg39
          · replace H := H.know 38 rfl hg39
            replace hm := condT hm hg39
            refine n_yes H rfl rfl (n_q H (q_fieldAddr0 rfl fo27_4) rfl (W_yes rfl rfl (W_q (q_load rfl ((hS.blk 1 rfl).ld ag24 rfl)) rfl (W_yes rfl rfl (W_q (q_fieldAddr0 rfl fo27_4) rfl (W_yes rfl rfl (W_q (q_load rfl ((hS.blk 0 rfl).ld ag24 rfl)) rfl (W_yes rfl rfl ?_)))))))); clear H a; intro a H
            replace hm := bindS hm; obtain ⟨r40, hr40, hm⟩ := hm
            refine n_call H rfl en38 (g_slices_Equal_PortPlan_w (A := A) (hrp0_2.ext (Flat.mono _) hS.x) (hrp1_2.ext (Flat.mono _) hS.x) hr40) rfl ?_
            clear H; intro x43 w41 hv; clear a; intro a H; obtain ⟨rfl, hE42⟩ := hv
            replace hS := hS.ext hE42
            refine n_q H (q_pickT rfl rfl) rfl (W_q (q_move rfl) rfl ?_); clear H a; intro a H
            rcases Bool.eq_false_or_eq_true r40 with hg44 | hg44
            · replace H := H.know 45 rfl hg44
              replace hm := condT hm hg44
              refine n_yes H rfl rfl (n_q H (q_fieldAddr0 rfl fo27_6) rfl (W_yes rfl rfl (W_q (q_load rfl ((hS.blk 1 rfl).ld ag25 rfl)) rfl (W_yes rfl rfl (W_q (q_fieldAddr0 rfl fo27_6) rfl (W_yes rfl rfl (W_q (q_load rfl ((hS.blk 0 rfl).ld ag25 rfl)) rfl (W_yes rfl rfl ?_)))))))); clear H a; intro a H
              replace hm := bindS hm; obtain ⟨r45, hr45, hm⟩ := hm
              refine n_call H rfl en39 (g_slices_Equal_int_w (A := A) (hrp0_3.ext (Flat.mono _) hS.x) (hrp1_3.ext (Flat.mono _) hS.x) hr45) rfl ?_
              clear H; intro x48 w46 hv; clear a; intro a H; obtain ⟨rfl, hE47⟩ := hv
              replace hS := hS.ext hE47
              refine n_q H (q_pickT rfl rfl) rfl (W_q (q_assign rfl) rfl ?_); clear H a; intro a H
              refine n_nil (then_normal (wp_ret ?_))
              obtain rfl := Option.some.inj hm
              replace hS := hS.tk0
              refine ret1 H (.inr rfl) rfl rfl ?_
              exact ⟨rfl, hS.x⟩
            · replace H := H.know 45 rfl hg44
              replace hm := condF hm hg44
              refine n_no H rfl rfl (by decide) rfl (W_no rfl rfl (by decide) rfl (W_no rfl rfl (by decide) rfl (W_no rfl rfl (by decide) rfl (W_no rfl rfl (by decide) rfl (W_q (q_pickF rfl rfl) rfl (W_q (q_assign rfl) rfl ?_)))))); clear H a; intro a H
              refine n_nil (then_normal (wp_ret ?_))
              obtain rfl := Option.some.inj hm
              replace hS := hS.tk0
              refine ret1 H (.inr rfl) rfl rfl ?_
              exact ⟨rfl, hS.x⟩
          · replace H := H.know 38 rfl hg39
            replace hm := condF hm hg39
            refine n_no H rfl rfl (by decide) rfl (W_no rfl rfl (by decide) rfl (W_no rfl rfl (by decide) rfl (W_no rfl rfl (by decide) rfl (W_no rfl rfl (by decide) rfl (W_q (q_pickF rfl rfl) rfl (W_q (q_move rfl) rfl (W_no rfl rfl (by decide) rfl (W_no rfl rfl (by decide) rfl (W_no rfl rfl (by decide) rfl (W_no rfl rfl (by decide) rfl (W_no rfl rfl (by decide) rfl ?_))))))))))); clear H a; intro a H
            refine n_q H (q_pickF rfl rfl) rfl (W_q (q_assign rfl) rfl ?_); clear H a; intro a H
            refine n_nil (then_normal (wp_ret ?_))
            obtain rfl := Option.some.inj hm
            replace hS := hS.tk0
            refine ret1 H (.inr rfl) rfl rfl ?_
            exact ⟨rfl, hS.x⟩
        · replace H := H.know 31 rfl hg34
          replace hm := condF hm hg34
          refine n_no H rfl rfl (by decide) rfl (W_no rfl rfl (by decide) rfl (W_no rfl rfl (by decide) rfl (W_no rfl rfl (by decide) rfl (W_no rfl rfl (by decide) rfl (W_q (q_pickF rfl rfl) rfl (W_q (q_move rfl) rfl (W_no rfl rfl (by decide) rfl (W_no rfl rfl (by decide) rfl (W_no rfl rfl (by decide) rfl (W_no rfl rfl (by decide) rfl (W_no rfl rfl (by decide) rfl ?_))))))))))); clear H a; intro a H
          refine n_q H (q_pickF rfl rfl) rfl (W_q (q_move rfl) rfl (W_no rfl rfl (by decide) rfl (W_no rfl rfl (by decide) rfl (W_no rfl rfl (by decide) rfl (W_no rfl rfl (by decide) rfl (W_no rfl rfl (by decide) rfl (W_q (q_pickF rfl rfl) rfl (W_q (q_assign rfl) rfl ?_)))))))); clear H a; intro a H
          refine n_nil (then_normal (wp_ret ?_))
          obtain rfl := Option.some.inj hm
          replace hS := hS.tk0
          refine ret1 H (.inr rfl) rfl rfl ?_
          exact ⟨rfl, hS.x⟩
      · replace H := H.know 24 rfl hg29
        replace hm := condF hm hg29
        refine n_no H rfl rfl (by decide) rfl (W_no rfl rfl (by decide) rfl (W_no rfl rfl (by decide) rfl (W_no rfl rfl (by decide) rfl (W_no rfl rfl (by decide) rfl (W_q (q_pickF rfl rfl) rfl (W_q (q_move rfl) rfl (W_no rfl rfl (by decide) rfl (W_no rfl rfl (by decide) rfl (W_no rfl rfl (by decide) rfl (W_no rfl rfl (by decide) rfl (W_no rfl rfl (by decide) rfl ?_))))))))))); clear H a; intro a H
        refine n_q H (q_pickF rfl rfl) rfl (W_q (q_move rfl) rfl (W_no rfl rfl (by decide) rfl (W_no rfl rfl (by decide) rfl (W_no rfl rfl (by decide) rfl (W_no rfl rfl (by decide) rfl (W_no rfl rfl (by decide) rfl (W_q (q_pickF rfl rfl) rfl (W_q (q_move rfl) rfl (W_no rfl rfl (by decide) rfl (W_no rfl rfl (by decide) rfl (W_no rfl rfl (by decide) rfl ?_))))))))))); clear H a; intro a H
        refine n_no H rfl rfl (by decide) rfl (W_no rfl rfl (by decide) rfl (W_q (q_pickF rfl rfl) rfl (W_q (q_assign rfl) rfl ?_))); clear H a; intro a H
        refine n_nil (then_normal (wp_ret ?_))
        obtain rfl := Option.some.inj hm
        replace hS := hS.tk0
        refine ret1 H (.inr rfl) rfl rfl ?_
        exact ⟨rfl, hS.x⟩
    · replace H := H.know 17 rfl hg28
      replace hm := condF hm hg28
      refine n_no H rfl rfl (by decide) rfl (W_no rfl rfl (by decide) rfl (W_no rfl rfl (by decide) rfl (W_no rfl rfl (by decide) rfl (W_no rfl rfl (by decide) rfl (W_q (q_pickF rfl rfl) rfl (W_q (q_move rfl) rfl (W_no rfl rfl (by decide) rfl (W_no rfl rfl (by decide) rfl (W_no rfl rfl (by decide) rfl (W_no rfl rfl (by decide) rfl (W_no rfl rfl (by decide) rfl ?_))))))))))); clear H a; intro a H
      refine n_q H (q_pickF rfl rfl) rfl (W_q (q_move rfl) rfl (W_no rfl rfl (by decide) rfl (W_no rfl rfl (by decide) rfl (W_no rfl rfl (by decide) rfl (W_no rfl rfl (by decide) rfl (W_no rfl rfl (by decide) rfl (W_q (q_pickF rfl rfl) rfl (W_q (q_move rfl) rfl (W_no rfl rfl (by decide) rfl (W_no rfl rfl (by decide) rfl (W_no rfl rfl (by decide) rfl ?_))))))))))); clear H a; intro a H
      refine n_no H rfl rfl (by decide) rfl (W_no rfl rfl (by decide) rfl (W_q (q_pickF rfl rfl) rfl (W_q (q_move rfl) rfl (W_no rfl rfl (by decide) rfl (W_no rfl rfl (by decide) rfl (W_no rfl rfl (by decide) rfl (W_no rfl rfl (by decide) rfl (W_no rfl rfl (by decide) rfl (W_q (q_pickF rfl rfl) rfl (W_q (q_assign rfl) rfl ?_)))))))))); clear H a; intro a H
      refine n_nil (then_normal (wp_ret ?_))
      obtain rfl := Option.some.inj hm
      replace hS := hS.tk0
      refine ret1 H (.inr rfl) rfl rfl ?_
      exact ⟨rfl, hS.x⟩
  · replace H := H.know 10 rfl hg27
    replace hm := condF hm hg27
    refine n_no H rfl rfl (by decide) rfl (W_no rfl rfl (by decide) rfl (W_no rfl rfl (by decide) rfl (W_no rfl rfl (by decide) rfl (W_no rfl rfl (by decide) rfl (W_q (q_pickF rfl rfl) rfl (W_q (q_move rfl) rfl (W_no rfl rfl (by decide) rfl (W_no rfl rfl (by decide) rfl (W_no rfl rfl (by decide) rfl (W_no rfl rfl (by decide) rfl (W_no rfl rfl (by decide) rfl ?_))))))))))); clear H a; intro a H
    refine n_q H (q_pickF rfl rfl) rfl (W_q (q_move rfl) rfl (W_no rfl rfl (by decide) rfl (W_no rfl rfl (by decide) rfl (W_no rfl rfl (by decide) rfl (W_no rfl rfl (by decide) rfl (W_no rfl rfl (by decide) rfl (W_q (q_pickF rfl rfl) rfl (W_q (q_move rfl) rfl (W_no rfl rfl (by decide) rfl (W_no rfl rfl (by decide) rfl (W_no rfl rfl (by decide) rfl ?_))))))))))); clear H a; intro a H
    refine n_no H rfl rfl (by decide) rfl (W_no rfl rfl (by decide) rfl (W_q (q_pickF rfl rfl) rfl (W_q (q_move rfl) rfl (W_no rfl rfl (by decide) rfl (W_no rfl rfl (by decide) rfl (W_no rfl rfl (by decide) rfl (W_no rfl rfl (by decide) rfl (W_no rfl rfl (by decide) rfl (W_q (q_pickF rfl rfl) rfl (W_q (q_move rfl) rfl (W_no rfl rfl (by decide) rfl ?_))))))))))); clear H a; intro a H
    refine n_no H rfl rfl (by decide) rfl (W_no rfl rfl (by decide) rfl (W_no rfl rfl (by decide) rfl (W_no rfl rfl (by decide) rfl (W_q (q_pickF rfl rfl) rfl (W_q (q_assign rfl) rfl ?_))))); clear H a; intro a H
    refine n_nil (then_normal (wp_ret ?_))
    obtain rfl := Option.some.inj hm
    replace hS := hS.tk0
    refine ret1 H (.inr rfl) rfl rfl ?_
    exact ⟨rfl, hS.x⟩
theorem g_r10_Same_w {w : World} {A : Nat → Addr} {cs0 : List Value} {a0 : GPlan} {cs1 : List Value} {a1 : GPlan} (h0 : RGPlan w cs0 a0) (h1 : RGPlan w cs1 a1) {r : Bool} (hm : g_r10_Same a0 a1 = some r) :
    Calls Tryd.prog 19 [.agg cs0.toArray, .agg cs1.toArray].toArray w (Ret fun u w' => u = .bool r ∧ Ext w w') := by
  obtain ⟨vp0_0, vp0_1, vp0_2, vp0_3, rfl, hrp0_0, hrp0_1, hrp0_2, hrp0_3⟩ := h0
  obtain ⟨vp1_0, vp1_1, vp1_2, vp1_3, rfl, hrp1_0, hrp1_1, hrp1_2, hrp1_3⟩ := h1
  have hS := St.begin NB w
  unfold g_r10_Same at hm
  refine enter Tryd.func19 rfl rfl rfl ?_; intro a H; dsimp only [enumL, Nat.zero_add, Nat.reduceAdd] at H
  refine wp_seq (wp_region_lit (n_box H rfl (cs := [.int .i64 a0.Id, .bool a0.Mobile, vp0_0, vp0_1, vp0_2, .int .i64 a0.Events, vp0_3]) rfl rfl ?_))
  clear H; intro b21 w22 hN hE23 hs; clear a; intro a H
  replace hS := hS.newBlk hN hE23 hs; clear hN hs
  refine n_box H rfl (cs := [.int .i64 a1.Id, .bool a1.Mobile, vp1_0, vp1_1, vp1_2, .int .i64 a1.Events, vp1_3]) rfl rfl ?_
  clear H; intro b24 w25 hN hE26 hs; clear a; intro a H
  replace hS := hS.newBlk hN hE26 hs; clear hN hs
  refine n_q H (q_assign rfl) rfl ?_; clear H a; intro a H
  refine n_nil (then_normal (wp_seq (wp_seq (wp_region_lit (n_c H (fun HC => ?_)))))); clear H
  refine nc_q HC (q_fieldAddr0 rfl fo27_0) rfl (by kernel_rfl) (V_q (q_load rfl ((hS.blk 1 rfl).ld ag3 rfl)) rfl (by kernel_rfl) (V_q (q_fieldAddr0 rfl fo27_0) rfl (by kernel_rfl) (V_q (q_load rfl ((hS.blk 0 rfl).ld ag3 rfl)) rfl (by kernel_rfl) (V_q (q_neqD rfl rfl) rfl (by kernel_rfl) (V_q (q_move rfl) rfl (by kernel_rfl) (V_g (q_fieldAddr0 rfl fo27_1) (by kernel_rfl) (by kernel_rfl) (by kernel_rfl) (V_g (q_load rfl ((hS.blk 1 rfl).ld ag4 rfl)) (by kernel_rfl) (by kernel_rfl) (by kernel_rfl) (V_g (q_fieldAddr0 rfl fo27_1) (by kernel_rfl) (by kernel_rfl) (by kernel_rfl) (V_g (q_load rfl ((hS.blk 0 rfl).ld ag4 rfl)) (by kernel_rfl) (by kernel_rfl) (by kernel_rfl) (V_g (q_neqB Tryd.underlying4 rfl rfl) (by kernel_rfl) (by kernel_rfl) (by kernel_rfl) (V_or (j := 5) rfl rfl rfl (by kernel_rfl) (by kernel_rfl) ?_))))))))))); clear HC a; intro a HC
  refine nc_q HC (q_move rfl) rfl (by kernel_rfl) (V_g (q_fieldAddr0 rfl fo27_5) (by kernel_rfl) (by kernel_rfl) (by kernel_rfl) (V_g (q_load rfl ((hS.blk 1 rfl).ld ag3 rfl)) (by kernel_rfl) (by kernel_rfl) (by kernel_rfl) (V_g (q_fieldAddr0 rfl fo27_5) (by kernel_rfl) (by kernel_rfl) (by kernel_rfl) (V_g (q_load rfl ((hS.blk 0 rfl).ld ag3 rfl)) (by kernel_rfl) (by kernel_rfl) (by kernel_rfl) (V_g (q_neqD rfl rfl) (by kernel_rfl) (by kernel_rfl) (by kernel_rfl) (V_or (j := 12) rfl rfl rfl (by kernel_rfl) (by kernel_rfl) (V_q (q_move rfl) rfl (by kernel_rfl) (V_g (q_fieldAddr0 rfl fo27_2) (by kernel_rfl) (by kernel_rfl) (by kernel_rfl) (V_g (q_load rfl ((hS.blk 1 rfl).ld ag22 rfl)) (by kernel_rfl) (by kernel_rfl) (by kernel_rfl) ?_))))))))); clear HC a; intro a HC
  obtain ⟨A27, c27, hv27, hl27, hm27⟩ := SlR.formV (hrp0_0.ext (Flat.mono _) hS.x)
  refine nc_g HC (q_lenV Tryd.underlying22 rfl hv27) (by kernel_rfl) (by kernel_rfl) (by kernel_rfl) (V_g (q_fieldAddr0 rfl fo27_2) (by kernel_rfl) (by kernel_rfl) (by kernel_rfl) (V_g (q_load rfl ((hS.blk 0 rfl).ld ag22 rfl)) (by kernel_rfl) (by kernel_rfl) (by kernel_rfl) ?_)); clear HC a; intro a HC
  obtain ⟨A28, c28, hv28, hl28, hm28⟩ := SlR.formV (hrp1_0.ext (Flat.mono _) hS.x)
  refine nc_g HC (q_lenV Tryd.underlying22 rfl hv28) (by kernel_rfl) (by kernel_rfl) (by kernel_rfl) (V_g (q_neqN (i := a0.Pages.length) (j := a1.Pages.length) rfl rfl) (by kernel_rfl) (by kernel_rfl) (by kernel_rfl) (V_or (j := 19) rfl rfl rfl (by kernel_rfl) (by kernel_rfl) (V_q (q_move rfl) rfl (by kernel_rfl) (V_g (q_fieldAddr0 rfl fo27_3) (by kernel_rfl) (by kernel_rfl) (by kernel_rfl) (V_g (q_load rfl ((hS.blk 1 rfl).ld ag23 rfl)) (by kernel_rfl) (by kernel_rfl) (by kernel_rfl) ?_))))); clear HC a; intro a HC
  obtain ⟨A29, c29, hv29, hl29, hm29⟩ := SlR.formV (hrp0_1.ext (Flat.mono _) hS.x)
  refine nc_g HC (q_lenV Tryd.underlying23 rfl hv29) (by kernel_rfl) (by kernel_rfl) (by kernel_rfl) (V_g (q_fieldAddr0 rfl fo27_3) (by kernel_rfl) (by kernel_rfl) (by kernel_rfl) (V_g (q_load rfl ((hS.blk 0 rfl).ld ag23 rfl)) (by kernel_rfl) (by kernel_rfl) (by kernel_rfl) ?_)); clear HC a; intro a HC
  obtain ⟨A30, c30, hv30, hl30, hm30⟩ := SlR.formV (hrp1_1.ext (Flat.mono _) hS.x)
  refine nc_g HC (q_lenV Tryd.underlying23 rfl hv30) (by kernel_rfl) (by kernel_rfl) (by kernel_rfl) (V_g (q_neqN (i := a0.Procs.length) (j := a1.Procs.length) rfl rfl) (by kernel_rfl) (by kernel_rfl) (by kernel_rfl) (V_or (j := 28) rfl rfl rfl (by kernel_rfl) (by kernel_rfl) (V_q (q_move rfl) rfl (by kernel_rfl) (V_g (q_fieldAddr0 rfl fo27_4) (by kernel_rfl) (by kernel_rfl) (by kernel_rfl) (V_g (q_load rfl ((hS.blk 1 rfl).ld ag24 rfl)) (by kernel_rfl) (by kernel_rfl) (by kernel_rfl) ?_))))); clear HC a; intro a HC
  obtain ⟨A31, c31, hv31, hl31, hm31⟩ := SlR.formV (hrp0_2.ext (Flat.mono _) hS.x)
  refine nc_g HC (q_lenV Tryd.underlying24 rfl hv31) (by kernel_rfl) (by kernel_rfl) (by kernel_rfl) (V_g (q_fieldAddr0 rfl fo27_4) (by kernel_rfl) (by kernel_rfl) (by kernel_rfl) (V_g (q_load rfl ((hS.blk 0 rfl).ld ag24 rfl)) (by kernel_rfl) (by kernel_rfl) (by kernel_rfl) ?_)); clear HC a; intro a HC
  obtain ⟨A32, c32, hv32, hl32, hm32⟩ := SlR.formV (hrp1_2.ext (Flat.mono _) hS.x)
  refine nc_g HC (q_lenV Tryd.underlying24 rfl hv32) (by kernel_rfl) (by kernel_rfl) (by kernel_rfl) (V_g (q_neqN (i := a0.Ports.length) (j := a1.Ports.length) rfl rfl) (by kernel_rfl) (by kernel_rfl) (by kernel_rfl) (V_or (j := 37) rfl rfl rfl (by kernel_rfl) (by kernel_rfl) (V_q (q_move rfl) rfl (by kernel_rfl) (V_g (q_fieldAddr0 rfl fo27_6) (by kernel_rfl) (by kernel_rfl) (by kernel_rfl) (V_g (q_load rfl ((hS.blk 1 rfl).ld ag25 rfl)) (by kernel_rfl) (by kernel_rfl) (by kernel_rfl) ?_))))); clear HC a; intro a HC
  obtain ⟨A33, c33, hv33, hl33, hm33⟩ := SlR.formV (hrp0_3.ext (Flat.mono _) hS.x)
  refine nc_g HC (q_lenV Tryd.underlying25 rfl hv33) (by kernel_rfl) (by kernel_rfl) (by kernel_rfl) (V_g (q_fieldAddr0 rfl fo27_6) (by kernel_rfl) (by kernel_rfl) (by kernel_rfl) (V_g (q_load rfl ((hS.blk 0 rfl).ld ag25 rfl)) (by kernel_rfl) (by kernel_rfl) (by kernel_rfl) ?_)); clear HC a; intro a HC
  obtain ⟨A34, c34, hv34, hl34, hm34⟩ := SlR.formV (hrp1_3.ext (Flat.mono _) hS.x)
  refine nc_g HC (q_lenV Tryd.underlying25 rfl hv34) (by kernel_rfl) (by kernel_rfl) (by kernel_rfl) (V_g (q_neqN (i := a0.Sems.length) (j := a1.Sems.length) rfl rfl) (by kernel_rfl) (by kernel_rfl) (by kernel_rfl) (V_or (j := 46) rfl rfl rfl (by kernel_rfl) (by kernel_rfl) ?_)); clear HC a; intro a HC
  have H := HC.has; clear HC
  refine n_nil (then_normal (c_cond H rfl (fun hc35 => ?_) (fun hc35 => ?_)))
  · replace hm := condT hm hc35
    refine wp_seq (wp_region_lit (n_q H (q_assign rfl) rfl ?_)); clear H a; intro a H
    refine n_nil (then_normal (wp_ret (then_ret ?_)))
    obtain rfl := Option.some.inj hm
    replace hS := hS.tk0
    refine ret1 H (.inr rfl) rfl rfl ?_
    exact ⟨rfl, hS.x⟩
  · replace hm := condF hm hc35
    refine wp_skip (then_normal (wp_seq (wp_seq (wp_region_lit (n_q H (q_assign rfl) rfl ?_))))); clear H a; intro a H
    refine n_nil (then_normal (wp_block ?_))
    replace hS := hS.pk1
    replace hm := bindS hm; obtain ⟨q36, hm, hm36⟩ := hm; replace hm := iter_some hm; obtain ⟨n36, hm⟩ := hm
    refine c_loop (σ := Nat × Nat) (fun (m, i37) => [(2, .pointer (some ⟨b21, 0, none⟩)), (3, .pointer (some ⟨b24, 0, none⟩)), (5, .int .i64 ((i37 : Nat) : Int))]) (fun (m, i37) wl => iterN (g_r10_Same_L4 a0 a1) m i37 = some q36 ∧ St NB w wl [blkR b21 [.int .i64 a0.Id, .bool a0.Mobile, vp0_0, vp0_1, vp0_2, .int .i64 a0.Events, vp0_3] 27, blkR b24 [.int .i64 a1.Id, .bool a1.Mobile, vp1_0, vp1_1, vp1_2, .int .i64 a1.Events, vp1_3] 27]) (fun (m, i37) => m) (n36, 0) H ⟨rfl, rfl, rfl, trivial⟩ ⟨hm, hS⟩ ?_
    clear H hS hm a; intro xx a w38 H hR; obtain ⟨m, i37⟩ := xx; simp only [ent, List.map_cons, List.map_nil] at H; (try dsimp only at hR); obtain ⟨hm, hS⟩ := hR
    replace hm := iterN_step hm; obtain ⟨m36, o36, rfl, hm, hn36⟩ := hm; try dsimp only [g_r10_Same_L4] at hm
    refine wp_seq (wp_seq (wp_region_lit (n_q H (q_move rfl) rfl (W_q (q_fieldAddr0 rfl fo27_2) rfl (W_q (q_load rfl ((hS.blk 0 rfl).ld ag22 rfl)) rfl (W_q (q_lenV Tryd.underlying22 rfl hv27) rfl (W_q (q_lssN (i := i37) (j := a0.Pages.length) rfl rfl) rfl ?_))))))); clear H a; intro a H
    refine n_nil (then_normal (c_cond H rfl (fun hc39 => ?_) (fun hc39 => ?_)))
    · replace hm := condT hm hc39
      have hlt40 : i37 < a0.Pages.length := of_decide_eq_true hc39
      refine wp_skip (then_normal (wp_seq (wp_block (wp_seq (c_quiet (by kernel_rfl) (by kernel_rfl) ?_)))))
      refine qq_q H (q_fieldAddr0 rfl fo27_2) rfl ?_; clear H a; intro a H
      refine qq_q H (q_load rfl ((hS.blk 0 rfl).ld ag22 rfl)) rfl ?_; clear H a; intro a H
      refine qq_q H (q_move rfl) rfl ?_; clear H a; intro a H
      replace hm := bindS hm; obtain ⟨x41, hx41, hm⟩ := hm
      obtain ⟨adx41, hAx41⟩ := SlR.adV (hrp0_0.ext (Flat.mono _) hS.x) hv27 hx41
      refine qq_q H (q_ixV (i := i37) Tryd.underlying22 sz41 rfl hv27 hAx41 rfl (natI hx41)) rfl ?_; clear H a; intro a H
      refine qq_q H (q_load rfl (SlR.ldAggV (hrp0_0.ext (Flat.mono _) hS.x) hv27 hAx41 ag41 sz41 hx41)) rfl ?_; clear H a; intro a H
      refine qq_q H (q_fieldAddr0 rfl fo27_2) rfl ?_; clear H a; intro a H
      refine qq_q H (q_load rfl ((hS.blk 1 rfl).ld ag22 rfl)) rfl ?_; clear H a; intro a H
      refine qq_q H (q_move rfl) rfl ?_; clear H a; intro a H
      replace hm := bindS hm; obtain ⟨x42, hx42, hm⟩ := hm
      obtain ⟨adx42, hAx42⟩ := SlR.adV (hrp1_0.ext (Flat.mono _) hS.x) hv28 hx42
      refine qq_q H (q_ixV (i := i37) Tryd.underlying22 sz41 rfl hv28 hAx42 rfl (natI hx42)) rfl ?_; clear H a; intro a H
      refine qq_q H (q_load rfl (SlR.ldAggV (hrp1_0.ext (Flat.mono _) hS.x) hv28 hAx42 ag41 sz41 hx42)) rfl ?_; clear H a; intro a H
      refine qq_q H (q_neqG (structB_guard st41) (eqInGPagePlan x41 x42) (by omega) rfl rfl) rfl ?_; clear H a; intro a H
      refine qq_nil ?_; intro w43 hE44
      replace hS := hS.ext hE44
      refine then_normal (c_cond H rfl (fun hc45 => ?_) (fun hc45 => ?_))
      · replace hm := condT hm hc45
        refine wp_seq (wp_region_lit (n_q H (q_assign rfl) rfl ?_)); clear H a; intro a H
        refine n_nil (then_normal (wp_ret (block_ret (then_ret (then_ret (block_ret (then_ret ?_)))))))
        obtain rfl := Option.some.inj hm; have hz : _ = q36 := hn36; subst hz; replace hm := hm36; try dsimp only at hm
        obtain rfl := Option.some.inj hm
        replace hS := hS.tk0
        refine ret1 H (.inr rfl) rfl rfl ?_
        exact ⟨rfl, hS.x⟩
      · replace hm := condF hm hc45
        refine wp_skip (block_normal (then_normal (wp_region_lit (n_q H (q_move rfl) rfl (W_q (q_incr (i := i37) (j := 1) rfl rfl (by omega)) rfl (W_q (q_assign rfl) rfl ?_)))))); clear H a; intro a H
        refine n_nil (then_normal ?_)
        obtain rfl := Option.some.inj hm
        exact round (m36, i37 + 1) H ⟨rfl, rfl, rfl, trivial⟩ ⟨hn36, hS⟩ (Nat.lt_succ_self _)
    · replace hm := condF hm hc39
      refine wp_exit (then_exit (then_exit (block_exit ?_)))
      obtain rfl := Option.some.inj hm; have hz : _ = q36 := hn36; subst hz; replace hm := hm36; try dsimp only at hm
      refine then_normal (wp_seq (wp_seq (wp_region_lit (n_q H (q_assign rfl) rfl ?_)))); clear H a; intro a H
      refine n_nil (then_normal (wp_block ?_))
      replace hm := bindS hm; obtain ⟨q46, hm, hm46⟩ := hm; replace hm := iter_some hm; obtain ⟨n46, hm⟩ := hm
      refine c_loop (σ := Nat × Nat) (fun (m, i47) => [(2, .pointer (some ⟨b21, 0, none⟩)), (3, .pointer (some ⟨b24, 0, none⟩)), (6, .int .i64 ((i47 : Nat) : Int))]) (fun (m, i47) wl => iterN (g_r10_Same_L3 a0 a1) m i47 = some q46 ∧ St NB w wl [blkR b21 [.int .i64 a0.Id, .bool a0.Mobile, vp0_0, vp0_1, vp0_2, .int .i64 a0.Events, vp0_3] 27, blkR b24 [.int .i64 a1.Id, .bool a1.Mobile, vp1_0, vp1_1, vp1_2, .int .i64 a1.Events, vp1_3] 27]) (fun (m, i47) => m) (n46, 0) H ⟨rfl, rfl, rfl, trivial⟩ ⟨hm, hS⟩ ?_
      clear H hS hm a; intro xx a w48 H hR; obtain ⟨m, i47⟩ := xx; simp only [ent, List.map_cons, List.map_nil] at H; (try dsimp only at hR); obtain ⟨hm, hS⟩ := hR
      replace hm := iterN_step hm; obtain ⟨m46, o46, rfl, hm, hn46⟩ := hm; try dsimp only [g_r10_Same_L3] at hm
      refine wp_seq (wp_seq (wp_region_lit (n_q H (q_move rfl) rfl (W_q (q_fieldAddr0 rfl fo27_3) rfl (W_q (q_load rfl ((hS.blk 0 rfl).ld ag23 rfl)) rfl (W_q (q_lenV Tryd.underlying23 rfl hv29) rfl (W_q (q_lssN (i := i47) (j := a0.Procs.length) rfl rfl) rfl ?_))))))); clear H a; intro a H
      refine n_nil (then_normal (c_cond H rfl (fun hc49 => ?_) (fun hc49 => ?_)))
      · replace hm := condT hm hc49
        have hlt50 : i47 < a0.Procs.length := of_decide_eq_true hc49
        refine wp_skip (then_normal (wp_seq (wp_block (wp_seq (c_quiet (by kernel_rfl) (by kernel_rfl) ?_)))))
        refine qq_q H (q_fieldAddr0 rfl fo27_3) rfl ?_; clear H a; intro a H
        refine qq_q H (q_load rfl ((hS.blk 0 rfl).ld ag23 rfl)) rfl ?_; clear H a; intro a H
        refine qq_q H (q_move rfl) rfl ?_; clear H a; intro a H
        replace hm := bindS hm; obtain ⟨x51, hx51, hm⟩ := hm
        obtain ⟨adx51, hAx51⟩ := SlR.adV (hrp0_1.ext (Flat.mono _) hS.x) hv29 hx51
        refine qq_q H (q_ixV (i := i47) Tryd.underlying23 sz43 rfl hv29 hAx51 rfl (natI hx51)) rfl ?_; clear H a; intro a H
        refine qq_q H (q_load rfl (SlR.ldAggV (hrp0_1.ext (Flat.mono _) hS.x) hv29 hAx51 ag43 sz43 hx51)) rfl ?_; clear H a; intro a H
        refine qq_q H (q_fieldAddr0 rfl fo27_3) rfl ?_; clear H a; intro a H
        refine qq_q H (q_load rfl ((hS.blk 1 rfl).ld ag23 rfl)) rfl ?_; clear H a; intro a H
        refine qq_q H (q_move rfl) rfl ?_; clear H a; intro a H
        replace hm := bindS hm; obtain ⟨x52, hx52, hm⟩ := hm
        obtain ⟨adx52, hAx52⟩ := SlR.adV (hrp1_1.ext (Flat.mono _) hS.x) hv30 hx52
        refine qq_q H (q_ixV (i := i47) Tryd.underlying23 sz43 rfl hv30 hAx52 rfl (natI hx52)) rfl ?_; clear H a; intro a H
        refine qq_q H (q_load rfl (SlR.ldAggV (hrp1_1.ext (Flat.mono _) hS.x) hv30 hAx52 ag43 sz43 hx52)) rfl ?_; clear H a; intro a H
        refine qq_q H (q_neqG (structB_guard st43) (eqInGProcPlan x51 x52) (by omega) rfl rfl) rfl ?_; clear H a; intro a H
        refine qq_nil ?_; intro w53 hE54
        replace hS := hS.ext hE54
        refine then_normal (c_cond H rfl (fun hc55 => ?_) (fun hc55 => ?_))
        · replace hm := condT hm hc55
          refine wp_seq (wp_region_lit (n_q H (q_assign rfl) rfl ?_)); clear H a; intro a H
          refine n_nil (then_normal (wp_ret (block_ret (then_ret (then_ret (block_ret (then_ret ?_)))))))
          obtain rfl := Option.some.inj hm; have hz : _ = q46 := hn46; subst hz; replace hm := hm46; try dsimp only at hm
          obtain rfl := Option.some.inj hm
          replace hS := hS.tk0
          refine ret1 H (.inr rfl) rfl rfl ?_
          exact ⟨rfl, hS.x⟩
        · replace hm := condF hm hc55
          refine wp_skip (block_normal (then_normal (wp_region_lit (n_q H (q_move rfl) rfl (W_q (q_incr (i := i47) (j := 1) rfl rfl (by omega)) rfl (W_q (q_assign rfl) rfl ?_)))))); clear H a; intro a H
          refine n_nil (then_normal ?_)
          obtain rfl := Option.some.inj hm
          exact round (m46, i47 + 1) H ⟨rfl, rfl, rfl, trivial⟩ ⟨hn46, hS⟩ (Nat.lt_succ_self _)
      · replace hm := condF hm hc49
        refine wp_exit (then_exit (then_exit (block_exit ?_)))
        obtain rfl := Option.some.inj hm; have hz : _ = q46 := hn46; subst hz; replace hm := hm46; try dsimp only at hm
        refine then_normal (wp_seq (wp_seq (wp_region_lit (n_q H (q_assign rfl) rfl ?_)))); clear H a; intro a H
        refine n_nil (then_normal (wp_block ?_))
        replace hm := bindS hm; obtain ⟨q56, hm, hm56⟩ := hm; replace hm := iter_some hm; obtain ⟨n56, hm⟩ := hm
        refine c_loop (σ := Nat × Nat) (fun (m, i57) => [(2, .pointer (some ⟨b21, 0, none⟩)), (3, .pointer (some ⟨b24, 0, none⟩)), (7, .int .i64 ((i57 : Nat) : Int))]) (fun (m, i57) wl => iterN (g_r10_Same_L2 a0 a1) m i57 = some q56 ∧ St NB w wl [blkR b21 [.int .i64 a0.Id, .bool a0.Mobile, vp0_0, vp0_1, vp0_2, .int .i64 a0.Events, vp0_3] 27, blkR b24 [.int .i64 a1.Id, .bool a1.Mobile, vp1_0, vp1_1, vp1_2, .int .i64 a1.Events, vp1_3] 27]) (fun (m, i57) => m) (n56, 0) H ⟨rfl, rfl, rfl, trivial⟩ ⟨hm, hS⟩ ?_
        clear H hS hm a; intro xx a w58 H hR; obtain ⟨m, i57⟩ := xx; simp only [ent, List.map_cons, List.map_nil] at H; (try dsimp only at hR); obtain ⟨hm, hS⟩ := hR
        replace hm := iterN_step hm; obtain ⟨m56, o56, rfl, hm, hn56⟩ := hm; try dsimp only [g_r10_Same_L2] at hm
        refine wp_seq (wp_seq (wp_region_lit (n_q H (q_move rfl) rfl (W_q (q_fieldAddr0 rfl fo27_4) rfl (W_q (q_load rfl ((hS.blk 0 rfl).ld ag24 rfl)) rfl (W_q (q_lenV Tryd.underlying24 rfl hv31) rfl (W_q (q_lssN (i := i57) (j := a0.Ports.length) rfl rfl) rfl ?_))))))); clear H a; intro a H
        refine n_nil (then_normal (c_cond H rfl (fun hc59 => ?_) (fun hc59 => ?_)))
        · replace hm := condT hm hc59
          have hlt60 : i57 < a0.Ports.length := of_decide_eq_true hc59
          refine wp_skip (then_normal (wp_seq (wp_block (wp_seq (c_quiet (by kernel_rfl) (by kernel_rfl) ?_)))))
          refine qq_q H (q_fieldAddr0 rfl fo27_4) rfl ?_; clear H a; intro a H
          refine qq_q H (q_load rfl ((hS.blk 0 rfl).ld ag24 rfl)) rfl ?_; clear H a; intro a H
          refine qq_q H (q_move rfl) rfl ?_; clear H a; intro a H
          replace hm := bindS hm; obtain ⟨x61, hx61, hm⟩ := hm
          obtain ⟨adx61, hAx61⟩ := SlR.adV (hrp0_2.ext (Flat.mono _) hS.x) hv31 hx61
          refine qq_q H (q_ixV (i := i57) Tryd.underlying24 sz70 rfl hv31 hAx61 rfl (natI hx61)) rfl ?_; clear H a; intro a H
          refine qq_q H (q_load rfl (SlR.ldAggV (hrp0_2.ext (Flat.mono _) hS.x) hv31 hAx61 ag70 sz70 hx61)) rfl ?_; clear H a; intro a H
          refine qq_q H (q_fieldAddr0 rfl fo27_4) rfl ?_; clear H a; intro a H
          refine qq_q H (q_load rfl ((hS.blk 1 rfl).ld ag24 rfl)) rfl ?_; clear H a; intro a H
          refine qq_q H (q_move rfl) rfl ?_; clear H a; intro a H
          replace hm := bindS hm; obtain ⟨x62, hx62, hm⟩ := hm
          obtain ⟨adx62, hAx62⟩ := SlR.adV (hrp1_2.ext (Flat.mono _) hS.x) hv32 hx62
          refine qq_q H (q_ixV (i := i57) Tryd.underlying24 sz70 rfl hv32 hAx62 rfl (natI hx62)) rfl ?_; clear H a; intro a H
          refine qq_q H (q_load rfl (SlR.ldAggV (hrp1_2.ext (Flat.mono _) hS.x) hv32 hAx62 ag70 sz70 hx62)) rfl ?_; clear H a; intro a H
          refine qq_q H (q_neqG (structB_guard st70) (eqInGPortPlan x61 x62) (by omega) rfl rfl) rfl ?_; clear H a; intro a H
          refine qq_nil ?_; intro w63 hE64
          replace hS := hS.ext hE64
          refine then_normal (c_cond H rfl (fun hc65 => ?_) (fun hc65 => ?_))
          · replace hm := condT hm hc65
            refine wp_seq (wp_region_lit (n_q H (q_assign rfl) rfl ?_)); clear H a; intro a H
            refine n_nil (then_normal (wp_ret (block_ret (then_ret (then_ret (block_ret (then_ret ?_)))))))
            obtain rfl := Option.some.inj hm; have hz : _ = q56 := hn56; subst hz; replace hm := hm56; try dsimp only at hm
            obtain rfl := Option.some.inj hm
            replace hS := hS.tk0
            refine ret1 H (.inr rfl) rfl rfl ?_
            exact ⟨rfl, hS.x⟩
          · replace hm := condF hm hc65
            refine wp_skip (block_normal (then_normal (wp_region_lit (n_q H (q_move rfl) rfl (W_q (q_incr (i := i57) (j := 1) rfl rfl (by omega)) rfl (W_q (q_assign rfl) rfl ?_)))))); clear H a; intro a H
            refine n_nil (then_normal ?_)
            obtain rfl := Option.some.inj hm
            exact round (m56, i57 + 1) H ⟨rfl, rfl, rfl, trivial⟩ ⟨hn56, hS⟩ (Nat.lt_succ_self _)
        · replace hm := condF hm hc59
          refine wp_exit (then_exit (then_exit (block_exit ?_)))
          obtain rfl := Option.some.inj hm; have hz : _ = q56 := hn56; subst hz; replace hm := hm56; try dsimp only at hm
          refine then_normal (wp_seq (wp_seq (wp_region_lit (n_q H (q_assign rfl) rfl ?_)))); clear H a; intro a H
          refine n_nil (then_normal (wp_block ?_))
          replace hm := bindS hm; obtain ⟨q66, hm, hm66⟩ := hm; replace hm := iter_some hm; obtain ⟨n66, hm⟩ := hm
          refine c_loop (σ := Nat × Nat) (fun (m, i67) => [(2, .pointer (some ⟨b21, 0, none⟩)), (3, .pointer (some ⟨b24, 0, none⟩)), (8, .int .i64 ((i67 : Nat) : Int))]) (fun (m, i67) wl => iterN (g_r10_Same_L1 a0 a1) m i67 = some q66 ∧ St NB w wl [blkR b21 [.int .i64 a0.Id, .bool a0.Mobile, vp0_0, vp0_1, vp0_2, .int .i64 a0.Events, vp0_3] 27, blkR b24 [.int .i64 a1.Id, .bool a1.Mobile, vp1_0, vp1_1, vp1_2, .int .i64 a1.Events, vp1_3] 27]) (fun (m, i67) => m) (n66, 0) H ⟨rfl, rfl, rfl, trivial⟩ ⟨hm, hS⟩ ?_
          clear H hS hm a; intro xx a w68 H hR; obtain ⟨m, i67⟩ := xx; simp only [ent, List.map_cons, List.map_nil] at H; (try dsimp only at hR); obtain ⟨hm, hS⟩ := hR
          replace hm := iterN_step hm; obtain ⟨m66, o66, rfl, hm, hn66⟩ := hm; try dsimp only [g_r10_Same_L1] at hm
          refine wp_seq (wp_seq (wp_region_lit (n_q H (q_move rfl) rfl (W_q (q_fieldAddr0 rfl fo27_6) rfl (W_q (q_load rfl ((hS.blk 0 rfl).ld ag25 rfl)) rfl (W_q (q_lenV Tryd.underlying25 rfl hv33) rfl (W_q (q_lssN (i := i67) (j := a0.Sems.length) rfl rfl) rfl ?_))))))); clear H a; intro a H
          refine n_nil (then_normal (c_cond H rfl (fun hc69 => ?_) (fun hc69 => ?_)))
          · replace hm := condT hm hc69
            have hlt70 : i67 < a0.Sems.length := of_decide_eq_true hc69
            refine wp_skip (then_normal (wp_seq (wp_block (wp_seq (c_quiet (by kernel_rfl) (by kernel_rfl) ?_)))))
            refine qq_q H (q_fieldAddr0 rfl fo27_6) rfl ?_; clear H a; intro a H
            refine qq_q H (q_load rfl ((hS.blk 0 rfl).ld ag25 rfl)) rfl ?_; clear H a; intro a H
            refine qq_q H (q_move rfl) rfl ?_; clear H a; intro a H
            replace hm := bindS hm; obtain ⟨x71, hx71, hm⟩ := hm
            obtain ⟨adx71, hAx71⟩ := SlR.adV (hrp0_3.ext (Flat.mono _) hS.x) hv33 hx71
            refine qq_q H (q_ixV (i := i67) Tryd.underlying25 sz3 rfl hv33 hAx71 rfl (natI hx71)) rfl ?_; clear H a; intro a H
            refine qq_q H (q_load rfl (SlR.ldOneV (hrp0_3.ext (Flat.mono _) hS.x) hv33 hAx71 ag3 hx71 rfl)) rfl ?_; clear H a; intro a H
            refine qq_q H (q_fieldAddr0 rfl fo27_6) rfl ?_; clear H a; intro a H
            refine qq_q H (q_load rfl ((hS.blk 1 rfl).ld ag25 rfl)) rfl ?_; clear H a; intro a H
            refine qq_q H (q_move rfl) rfl ?_; clear H a; intro a H
            replace hm := bindS hm; obtain ⟨x72, hx72, hm⟩ := hm
            obtain ⟨adx72, hAx72⟩ := SlR.adV (hrp1_3.ext (Flat.mono _) hS.x) hv34 hx72
            refine qq_q H (q_ixV (i := i67) Tryd.underlying25 sz3 rfl hv34 hAx72 rfl (natI hx72)) rfl ?_; clear H a; intro a H
            refine qq_q H (q_load rfl (SlR.ldOneV (hrp1_3.ext (Flat.mono _) hS.x) hv34 hAx72 ag3 hx72 rfl)) rfl ?_; clear H a; intro a H
            refine qq_q H (q_neqD rfl rfl) rfl ?_; clear H a; intro a H
            refine qq_nil ?_; intro w73 hE74
            replace hS := hS.ext hE74
            refine then_normal (c_cond H rfl (fun hc75 => ?_) (fun hc75 => ?_))
            · replace hm := condT hm hc75
              refine wp_seq (wp_region_lit (n_q H (q_assign rfl) rfl ?_)); clear H a; intro a H
              refine n_nil (then_normal (wp_ret (block_ret (then_ret (then_ret (block_ret (then_ret ?_)))))))
              obtain rfl := Option.some.inj hm; have hz : _ = q66 := hn66; subst hz; replace hm := hm66; try dsimp only at hm
              obtain rfl := Option.some.inj hm
              replace hS := hS.tk0
              refine ret1 H (.inr rfl) rfl rfl ?_
              exact ⟨rfl, hS.x⟩
            · replace hm := condF hm hc75
              refine wp_skip (block_normal (then_normal (wp_region_lit (n_q H (q_move rfl) rfl (W_q (q_incr (i := i67) (j := 1) rfl rfl (by omega)) rfl (W_q (q_assign rfl) rfl ?_)))))); clear H a; intro a H
              refine n_nil (then_normal ?_)
              obtain rfl := Option.some.inj hm
              exact round (m66, i67 + 1) H ⟨rfl, rfl, rfl, trivial⟩ ⟨hn66, hS⟩ (Nat.lt_succ_self _)
          · replace hm := condF hm hc69
            refine wp_exit (then_exit (then_exit (block_exit ?_)))
            obtain rfl := Option.some.inj hm; have hz : _ = q66 := hn66; subst hz; replace hm := hm66; try dsimp only at hm
            refine then_normal (wp_seq (wp_region_lit (n_q H (q_assign rfl) rfl ?_))); clear H a; intro a H
            refine n_nil (then_normal (wp_ret ?_))
            obtain rfl := Option.some.inj hm
            replace hS := hS.tk0
            refine ret1 H (.inr rfl) rfl rfl ?_
            exact ⟨rfl, hS.x⟩
set_option maxHeartbeats 1000000 in
theorem g_law10_PlanChecks_w {w : World} {A : Nat → Addr} {cs0 : List Value} {a0 : GL10Case} (hG : EV A w) (hH : HE w) (h0 : RGL10Case w cs0 a0) {r : Bool} (hm : g_law10_PlanChecks a0 = some r) :
    Calls Tryd.prog 4 [.agg cs0.toArray].toArray w (Ret fun u w' => u = .bool r ∧ Ext w w') := by
  obtain ⟨vp0_0, vp0_1, vp0_2, vp0_3, vp0_4, vp0_5, vp0_6, vp0_7, vp0_8, rfl, hrp0_0, hrp0_1, hrp0_2, hrp0_3, hrp0_4, hrp0_5, hrp0_6, hrp0_7, hrp0_8⟩ := h0
  have hS := St.begin NB w
  unfold g_law10_PlanChecks at hm
  refine enter Tryd.func4 rfl rfl rfl ?_; intro a H; dsimp only [enumL, Nat.zero_add, Nat.reduceAdd] at H
  refine wp_seq (wp_region_lit (n_box H rfl (cs := [.int .i64 a0.P.Id, .bool a0.P.Mobile, vp0_0, vp0_1, vp0_2, .int .i64 a0.P.Events, vp0_3, .int .i64 a0.Q.Id, .bool a0.Q.Mobile, vp0_4, vp0_5, vp0_6, .int .i64 a0.Q.Events, vp0_7, vp0_8, .int .i64 a0.At, .int .u32 a0.Mask]) rfl rfl ?_))
  clear H; intro b21 w22 hN hE23 hs; clear a; intro a H
  replace hS := hS.newBlk hN hE23 hs; clear hN hs
  refine n_q H (q_assign rfl) rfl ?_; clear H a; intro a H
  refine n_nil (then_normal (wp_seq (wp_seq (wp_region_lit ?_))))
  replace hm := bindS hm; obtain ⟨r24, hr24, hm⟩ := hm
  refine n_call H rfl en5 (g_law10_fixed_w (A := A) (hG.ext hS.x) (hH.ext hS.x) hr24) rfl ?_
  clear H; intro x27 w25 hv; clear a; intro a H; obtain ⟨rfl, hE26⟩ := hv
  replace hS := hS.ext hE26
  refine n_q H (q_not rfl) rfl ?_; clear H a; intro a H
  refine n_nil (then_normal (c_cond H rfl (fun hc28 => ?_) (fun hc28 => ?_)))
  · replace hm := condT hm hc28
    refine wp_seq (wp_region_lit (n_q H (q_assign rfl) rfl ?_)); clear H a; intro a H
    refine n_nil (then_normal (wp_ret (then_ret ?_)))
    obtain rfl := Option.some.inj hm
    replace hS := hS.tk0
    refine ret1 H (.inr rfl) rfl rfl ?_
    exact ⟨rfl, hS.x⟩
  · replace hm := condF hm hc28
    refine wp_skip (then_normal (wp_seq (wp_region_lit (n_q H (q_fieldAddr0 rfl fo31_0) rfl (W_q (q_load rfl ((hS.blk 0 rfl).ldPart 0 7 ag27 sz27 (by simp))) rfl (W_q (q_fieldAddr0 rfl fo31_1) rfl (W_q (q_load rfl ((hS.blk 0 rfl).ldPart 7 7 ag27 sz27 (by simp))) rfl ?_))))))); clear H a; intro a H
    refine n_buildSlice H Tryd.underlying46 sz27 ze27 rfl rfl rfl (cs := [.int .i64 a0.P.Id, .bool a0.P.Mobile, vp0_0, vp0_1, vp0_2, .int .i64 a0.P.Events, vp0_3, .int .i64 a0.Q.Id, .bool a0.Q.Mobile, vp0_4, vp0_5, vp0_6, .int .i64 a0.Q.Events, vp0_7]) ((fillA (ds := [.int .i64 a0.P.Id, .bool a0.P.Mobile, vp0_0, vp0_1, vp0_2, .int .i64 a0.P.Events, vp0_3]) rfl rfl rfl (by simp)).trans ((fillA (ds := [.int .i64 a0.Q.Id, .bool a0.Q.Mobile, vp0_4, vp0_5, vp0_6, .int .i64 a0.Q.Events, vp0_7]) rfl rfl rfl (by simp)).trans rfl)) rfl ?_
    clear H; intro b31 w29 hN hE30 hs; clear a; intro a H
    replace hS := hS.newBlk hN hE30 hs; clear hN hs
    refine n_q H (q_assign rfl) rfl ?_; clear H a; intro a H
    refine n_nil (then_normal (wp_seq (wp_seq (wp_region_lit (n_q H (q_assign rfl) rfl ?_))))); clear H a; intro a H
    refine n_nil (then_normal (wp_block ?_))
    replace hm := bindS hm; obtain ⟨q32, hm, hm32⟩ := hm; replace hm := iter_some hm; obtain ⟨n32, hm⟩ := hm
    refine c_loop (σ := Nat × Nat) (fun (m, i33) => [(1, .pointer (some ⟨b21, 0, none⟩)), (3, .slice (some ⟨b31, 0, none⟩) 2 2), (4, .int .i64 ((i33 : Nat) : Int))]) (fun (m, i33) wl => iterN (g_law10_PlanChecks_L31 a0) m i33 = some q32 ∧ St NB w wl [blkR b31 [.int .i64 a0.P.Id, .bool a0.P.Mobile, vp0_0, vp0_1, vp0_2, .int .i64 a0.P.Events, vp0_3, .int .i64 a0.Q.Id, .bool a0.Q.Mobile, vp0_4, vp0_5, vp0_6, .int .i64 a0.Q.Events, vp0_7] 27, blkR b21 [.int .i64 a0.P.Id, .bool a0.P.Mobile, vp0_0, vp0_1, vp0_2, .int .i64 a0.P.Events, vp0_3, .int .i64 a0.Q.Id, .bool a0.Q.Mobile, vp0_4, vp0_5, vp0_6, .int .i64 a0.Q.Events, vp0_7, vp0_8, .int .i64 a0.At, .int .u32 a0.Mask] 31]) (fun (m, i33) => m) (n32, 0) H ⟨rfl, rfl, rfl, trivial⟩ ⟨hm, hS⟩ ?_
    clear H hS hm a; intro xx a w34 H hR; obtain ⟨m, i33⟩ := xx; simp only [ent, List.map_cons, List.map_nil] at H; (try dsimp only at hR); obtain ⟨hm, hS⟩ := hR
    replace hm := iterN_step hm; obtain ⟨m32, o32, rfl, hm, hn32⟩ := hm; try dsimp only [g_law10_PlanChecks_L31] at hm
    refine wp_seq (wp_seq (wp_region_lit (n_q H (q_move rfl) rfl (W_q (q_move rfl) rfl (W_q (q_lenSl Tryd.underlying46 rfl) rfl (W_q (q_lssN (i := i33) (j := 2) rfl rfl) rfl ?_)))))); clear H a; intro a H
    refine n_nil (then_normal (c_cond H rfl (fun hc35 => ?_) (fun hc35 => ?_)))
    · replace hm := condT hm hc35
      have hlt36 : i33 < 2 := of_decide_eq_true hc35
      refine wp_skip (then_normal (wp_seq (wp_block (wp_seq (wp_region_lit (n_q H (q_move rfl) rfl (W_q (q_move rfl) rfl ?_))))))); clear H a; intro a H
      replace hm := bindS hm; obtain ⟨x37, hx37, hm⟩ := hm
      obtain ⟨adx37, hAx37⟩ := SlR.adV (SlR.ofBlk (k := 7) (R := RGPlan) [[.int .i64 a0.P.Id, .bool a0.P.Mobile, vp0_0, vp0_1, vp0_2, .int .i64 a0.P.Events, vp0_3], [.int .i64 a0.Q.Id, .bool a0.Q.Mobile, vp0_4, vp0_5, vp0_6, .int .i64 a0.Q.Events, vp0_7]] [a0.P, a0.Q] (hS.blk 0 rfl) (DIn.cons rfl (by simp [((hrp0_0.ext (Flat.mono _) hS.x)).one, ((hrp0_1.ext (Flat.mono _) hS.x)).one, ((hrp0_2.ext (Flat.mono _) hS.x)).one, ((hrp0_3.ext (Flat.mono _) hS.x)).one]) (⟨_, _, _, _, rfl, (hrp0_0.ext (Flat.mono _) hS.x), (hrp0_1.ext (Flat.mono _) hS.x), (hrp0_2.ext (Flat.mono _) hS.x), (hrp0_3.ext (Flat.mono _) hS.x)⟩ : RGPlan _ [.int .i64 a0.P.Id, .bool a0.P.Mobile, vp0_0, vp0_1, vp0_2, .int .i64 a0.P.Events, vp0_3] a0.P) (DIn.cons rfl (by simp [((hrp0_4.ext (Flat.mono _) hS.x)).one, ((hrp0_5.ext (Flat.mono _) hS.x)).one, ((hrp0_6.ext (Flat.mono _) hS.x)).one, ((hrp0_7.ext (Flat.mono _) hS.x)).one]) (⟨_, _, _, _, rfl, (hrp0_4.ext (Flat.mono _) hS.x), (hrp0_5.ext (Flat.mono _) hS.x), (hrp0_6.ext (Flat.mono _) hS.x), (hrp0_7.ext (Flat.mono _) hS.x)⟩ : RGPlan _ [.int .i64 a0.Q.Id, .bool a0.Q.Mobile, vp0_4, vp0_5, vp0_6, .int .i64 a0.Q.Events, vp0_7] a0.Q) trivial)) rfl (by simp [maxLen])) rfl hx37
      obtain ⟨csx37, hclx37, ⟨vx37_0, vx37_1, vx37_2, vx37_3, rfl, hrx37_0, hrx37_1, hrx37_2, hrx37_3⟩, hcx37⟩ := SlR.elV (SlR.ofBlk (k := 7) (R := RGPlan) [[.int .i64 a0.P.Id, .bool a0.P.Mobile, vp0_0, vp0_1, vp0_2, .int .i64 a0.P.Events, vp0_3], [.int .i64 a0.Q.Id, .bool a0.Q.Mobile, vp0_4, vp0_5, vp0_6, .int .i64 a0.Q.Events, vp0_7]] [a0.P, a0.Q] (hS.blk 0 rfl) (DIn.cons rfl (by simp [((hrp0_0.ext (Flat.mono _) hS.x)).one, ((hrp0_1.ext (Flat.mono _) hS.x)).one, ((hrp0_2.ext (Flat.mono _) hS.x)).one, ((hrp0_3.ext (Flat.mono _) hS.x)).one]) (⟨_, _, _, _, rfl, (hrp0_0.ext (Flat.mono _) hS.x), (hrp0_1.ext (Flat.mono _) hS.x), (hrp0_2.ext (Flat.mono _) hS.x), (hrp0_3.ext (Flat.mono _) hS.x)⟩ : RGPlan _ [.int .i64 a0.P.Id, .bool a0.P.Mobile, vp0_0, vp0_1, vp0_2, .int .i64 a0.P.Events, vp0_3] a0.P) (DIn.cons rfl (by simp [((hrp0_4.ext (Flat.mono _) hS.x)).one, ((hrp0_5.ext (Flat.mono _) hS.x)).one, ((hrp0_6.ext (Flat.mono _) hS.x)).one, ((hrp0_7.ext (Flat.mono _) hS.x)).one]) (⟨_, _, _, _, rfl, (hrp0_4.ext (Flat.mono _) hS.x), (hrp0_5.ext (Flat.mono _) hS.x), (hrp0_6.ext (Flat.mono _) hS.x), (hrp0_7.ext (Flat.mono _) hS.x)⟩ : RGPlan _ [.int .i64 a0.Q.Id, .bool a0.Q.Mobile, vp0_4, vp0_5, vp0_6, .int .i64 a0.Q.Events, vp0_7] a0.Q) trivial)) rfl (by simp [maxLen])) rfl hAx37 hx37
      refine n_q H (q_ixV (i := i33) Tryd.underlying46 sz27 rfl rfl hAx37 rfl (natI hx37)) rfl (W_q (q_load rfl (LdX.ext (ldEl ag27 sz27 rfl hcx37) Ext.rfl')) rfl ?_); clear H a; intro a H
      replace hm := bindS hm; obtain ⟨r38, hr38, hm⟩ := hm
      refine n_call H rfl en11 (g_r10_Check_w (A := A) (⟨_, _, _, _, rfl, (hrx37_0.ext (Flat.mono _) Ext.rfl'), (hrx37_1.ext (Flat.mono _) Ext.rfl'), (hrx37_2.ext (Flat.mono _) Ext.rfl'), (hrx37_3.ext (Flat.mono _) Ext.rfl')⟩ : RGPlan _ [.int .i64 x37.Id, .bool x37.Mobile, vx37_0, vx37_1, vx37_2, .int .i64 x37.Events, vx37_3] x37) hr38) rfl ?_
      clear H; intro x41 w39 hv; clear a; intro a H; obtain ⟨rfl, hE40⟩ := hv
      replace hS := hS.ext hE40
      refine n_alloc H ze48 rfl ?_
      clear H; intro b42 w43 hN hE44 hs; clear a; intro a H
      replace hS := hS.newBlk hN hE44 hs; clear hN hs
      refine n_storeAll H rfl rfl (vs := [.int .i64 r38.Code, .int .i64 r38.Place]) rfl sz48 (hS.blk 0 rfl) rfl (by simp) ?_
      clear H; intro w45 hN hC46 hz; clear a; intro a H; replace hS := hS.setBlk hN hC46; clear hN hz
      refine n_nil (then_normal (wp_seq (wp_region_lit (n_q H (q_move rfl) rfl (W_q (q_move rfl) rfl ?_))))); clear H a; intro a H
      replace hm := bindS hm; obtain ⟨x47, hx47, hm⟩ := hm
      obtain ⟨adx47, hAx47⟩ := SlR.adV (SlR.ofBlk (k := 7) (R := RGPlan) [[.int .i64 a0.P.Id, .bool a0.P.Mobile, vp0_0, vp0_1, vp0_2, .int .i64 a0.P.Events, vp0_3], [.int .i64 a0.Q.Id, .bool a0.Q.Mobile, vp0_4, vp0_5, vp0_6, .int .i64 a0.Q.Events, vp0_7]] [a0.P, a0.Q] (hS.blk 1 rfl) (DIn.cons rfl (by simp [((hrp0_0.ext (Flat.mono _) hS.x)).one, ((hrp0_1.ext (Flat.mono _) hS.x)).one, ((hrp0_2.ext (Flat.mono _) hS.x)).one, ((hrp0_3.ext (Flat.mono _) hS.x)).one]) (⟨_, _, _, _, rfl, (hrp0_0.ext (Flat.mono _) hS.x), (hrp0_1.ext (Flat.mono _) hS.x), (hrp0_2.ext (Flat.mono _) hS.x), (hrp0_3.ext (Flat.mono _) hS.x)⟩ : RGPlan _ [.int .i64 a0.P.Id, .bool a0.P.Mobile, vp0_0, vp0_1, vp0_2, .int .i64 a0.P.Events, vp0_3] a0.P) (DIn.cons rfl (by simp [((hrp0_4.ext (Flat.mono _) hS.x)).one, ((hrp0_5.ext (Flat.mono _) hS.x)).one, ((hrp0_6.ext (Flat.mono _) hS.x)).one, ((hrp0_7.ext (Flat.mono _) hS.x)).one]) (⟨_, _, _, _, rfl, (hrp0_4.ext (Flat.mono _) hS.x), (hrp0_5.ext (Flat.mono _) hS.x), (hrp0_6.ext (Flat.mono _) hS.x), (hrp0_7.ext (Flat.mono _) hS.x)⟩ : RGPlan _ [.int .i64 a0.Q.Id, .bool a0.Q.Mobile, vp0_4, vp0_5, vp0_6, .int .i64 a0.Q.Events, vp0_7] a0.Q) trivial)) rfl (by simp [maxLen])) rfl hx47
      obtain ⟨csx47, hclx47, ⟨vx47_0, vx47_1, vx47_2, vx47_3, rfl, hrx47_0, hrx47_1, hrx47_2, hrx47_3⟩, hcx47⟩ := SlR.elV (SlR.ofBlk (k := 7) (R := RGPlan) [[.int .i64 a0.P.Id, .bool a0.P.Mobile, vp0_0, vp0_1, vp0_2, .int .i64 a0.P.Events, vp0_3], [.int .i64 a0.Q.Id, .bool a0.Q.Mobile, vp0_4, vp0_5, vp0_6, .int .i64 a0.Q.Events, vp0_7]] [a0.P, a0.Q] (hS.blk 1 rfl) (DIn.cons rfl (by simp [((hrp0_0.ext (Flat.mono _) hS.x)).one, ((hrp0_1.ext (Flat.mono _) hS.x)).one, ((hrp0_2.ext (Flat.mono _) hS.x)).one, ((hrp0_3.ext (Flat.mono _) hS.x)).one]) (⟨_, _, _, _, rfl, (hrp0_0.ext (Flat.mono _) hS.x), (hrp0_1.ext (Flat.mono _) hS.x), (hrp0_2.ext (Flat.mono _) hS.x), (hrp0_3.ext (Flat.mono _) hS.x)⟩ : RGPlan _ [.int .i64 a0.P.Id, .bool a0.P.Mobile, vp0_0, vp0_1, vp0_2, .int .i64 a0.P.Events, vp0_3] a0.P) (DIn.cons rfl (by simp [((hrp0_4.ext (Flat.mono _) hS.x)).one, ((hrp0_5.ext (Flat.mono _) hS.x)).one, ((hrp0_6.ext (Flat.mono _) hS.x)).one, ((hrp0_7.ext (Flat.mono _) hS.x)).one]) (⟨_, _, _, _, rfl, (hrp0_4.ext (Flat.mono _) hS.x), (hrp0_5.ext (Flat.mono _) hS.x), (hrp0_6.ext (Flat.mono _) hS.x), (hrp0_7.ext (Flat.mono _) hS.x)⟩ : RGPlan _ [.int .i64 a0.Q.Id, .bool a0.Q.Mobile, vp0_4, vp0_5, vp0_6, .int .i64 a0.Q.Events, vp0_7] a0.Q) trivial)) rfl (by simp [maxLen])) rfl hAx47 hx47
      refine n_q H (q_ixV (i := i33) Tryd.underlying46 sz27 rfl rfl hAx47 rfl (natI hx47)) rfl (W_q (q_load rfl (LdX.ext (ldEl ag27 sz27 rfl hcx47) Ext.rfl')) rfl ?_); clear H a; intro a H
      replace hm := bindS hm; obtain ⟨r48, hr48, hm⟩ := hm
      refine n_call H rfl en12 (g_r10_Bound_w (A := A) (⟨_, _, _, _, rfl, (hrx47_0.ext (Flat.mono _) Ext.rfl'), (hrx47_1.ext (Flat.mono _) Ext.rfl'), (hrx47_2.ext (Flat.mono _) Ext.rfl'), (hrx47_3.ext (Flat.mono _) Ext.rfl')⟩ : RGPlan _ [.int .i64 x47.Id, .bool x47.Mobile, vx47_0, vx47_1, vx47_2, .int .i64 x47.Events, vx47_3] x47) hr48) rfl ?_
      clear H; intro x51 w49 hv; clear a; intro a H; obtain ⟨rfl, hE50⟩ := hv
      replace hS := hS.ext hE50
      refine n_q H (q_move rfl) rfl (W_q (q_extract rfl rfl) rfl (W_q (q_extract rfl rfl) rfl (W_q (q_assign rfl) rfl (W_q (q_assign rfl) rfl ?_)))); clear H a; intro a H
      refine n_nil (then_normal (wp_seq (wp_region_lit (n_q H (q_move rfl) rfl (W_q (q_move rfl) rfl ?_))))); clear H a; intro a H
      replace hm := bindS hm; obtain ⟨x52, hx52, hm⟩ := hm
      obtain ⟨adx52, hAx52⟩ := SlR.adV (SlR.ofBlk (k := 7) (R := RGPlan) [[.int .i64 a0.P.Id, .bool a0.P.Mobile, vp0_0, vp0_1, vp0_2, .int .i64 a0.P.Events, vp0_3], [.int .i64 a0.Q.Id, .bool a0.Q.Mobile, vp0_4, vp0_5, vp0_6, .int .i64 a0.Q.Events, vp0_7]] [a0.P, a0.Q] (hS.blk 1 rfl) (DIn.cons rfl (by simp [((hrp0_0.ext (Flat.mono _) hS.x)).one, ((hrp0_1.ext (Flat.mono _) hS.x)).one, ((hrp0_2.ext (Flat.mono _) hS.x)).one, ((hrp0_3.ext (Flat.mono _) hS.x)).one]) (⟨_, _, _, _, rfl, (hrp0_0.ext (Flat.mono _) hS.x), (hrp0_1.ext (Flat.mono _) hS.x), (hrp0_2.ext (Flat.mono _) hS.x), (hrp0_3.ext (Flat.mono _) hS.x)⟩ : RGPlan _ [.int .i64 a0.P.Id, .bool a0.P.Mobile, vp0_0, vp0_1, vp0_2, .int .i64 a0.P.Events, vp0_3] a0.P) (DIn.cons rfl (by simp [((hrp0_4.ext (Flat.mono _) hS.x)).one, ((hrp0_5.ext (Flat.mono _) hS.x)).one, ((hrp0_6.ext (Flat.mono _) hS.x)).one, ((hrp0_7.ext (Flat.mono _) hS.x)).one]) (⟨_, _, _, _, rfl, (hrp0_4.ext (Flat.mono _) hS.x), (hrp0_5.ext (Flat.mono _) hS.x), (hrp0_6.ext (Flat.mono _) hS.x), (hrp0_7.ext (Flat.mono _) hS.x)⟩ : RGPlan _ [.int .i64 a0.Q.Id, .bool a0.Q.Mobile, vp0_4, vp0_5, vp0_6, .int .i64 a0.Q.Events, vp0_7] a0.Q) trivial)) rfl (by simp [maxLen])) rfl hx52
      obtain ⟨csx52, hclx52, ⟨vx52_0, vx52_1, vx52_2, vx52_3, rfl, hrx52_0, hrx52_1, hrx52_2, hrx52_3⟩, hcx52⟩ := SlR.elV (SlR.ofBlk (k := 7) (R := RGPlan) [[.int .i64 a0.P.Id, .bool a0.P.Mobile, vp0_0, vp0_1, vp0_2, .int .i64 a0.P.Events, vp0_3], [.int .i64 a0.Q.Id, .bool a0.Q.Mobile, vp0_4, vp0_5, vp0_6, .int .i64 a0.Q.Events, vp0_7]] [a0.P, a0.Q] (hS.blk 1 rfl) (DIn.cons rfl (by simp [((hrp0_0.ext (Flat.mono _) hS.x)).one, ((hrp0_1.ext (Flat.mono _) hS.x)).one, ((hrp0_2.ext (Flat.mono _) hS.x)).one, ((hrp0_3.ext (Flat.mono _) hS.x)).one]) (⟨_, _, _, _, rfl, (hrp0_0.ext (Flat.mono _) hS.x), (hrp0_1.ext (Flat.mono _) hS.x), (hrp0_2.ext (Flat.mono _) hS.x), (hrp0_3.ext (Flat.mono _) hS.x)⟩ : RGPlan _ [.int .i64 a0.P.Id, .bool a0.P.Mobile, vp0_0, vp0_1, vp0_2, .int .i64 a0.P.Events, vp0_3] a0.P) (DIn.cons rfl (by simp [((hrp0_4.ext (Flat.mono _) hS.x)).one, ((hrp0_5.ext (Flat.mono _) hS.x)).one, ((hrp0_6.ext (Flat.mono _) hS.x)).one, ((hrp0_7.ext (Flat.mono _) hS.x)).one]) (⟨_, _, _, _, rfl, (hrp0_4.ext (Flat.mono _) hS.x), (hrp0_5.ext (Flat.mono _) hS.x), (hrp0_6.ext (Flat.mono _) hS.x), (hrp0_7.ext (Flat.mono _) hS.x)⟩ : RGPlan _ [.int .i64 a0.Q.Id, .bool a0.Q.Mobile, vp0_4, vp0_5, vp0_6, .int .i64 a0.Q.Events, vp0_7] a0.Q) trivial)) rfl (by simp [maxLen])) rfl hAx52 hx52
      refine n_q H (q_ixV (i := i33) Tryd.underlying46 sz27 rfl rfl hAx52 rfl (natI hx52)) rfl (W_q (q_load rfl (LdX.ext (ldEl ag27 sz27 rfl hcx52) Ext.rfl')) rfl ?_); clear H a; intro a H
      replace hm := bindS hm; obtain ⟨r53, hr53, hm⟩ := hm
      refine n_call H rfl en13 (g_r10_Span_w (A := A) (⟨_, _, _, _, rfl, (hrx52_0.ext (Flat.mono _) Ext.rfl'), (hrx52_1.ext (Flat.mono _) Ext.rfl'), (hrx52_2.ext (Flat.mono _) Ext.rfl'), (hrx52_3.ext (Flat.mono _) Ext.rfl')⟩ : RGPlan _ [.int .i64 x52.Id, .bool x52.Mobile, vx52_0, vx52_1, vx52_2, .int .i64 x52.Events, vx52_3] x52) hr53) rfl ?_
      clear H; intro x56 w54 hv; clear a; intro a H; obtain ⟨rfl, hE55⟩ := hv
      replace hS := hS.ext hE55
      refine n_q H (q_move rfl) rfl (W_q (q_extract rfl rfl) rfl (W_q (q_extract rfl rfl) rfl (W_q (q_assign rfl) rfl (W_q (q_assign rfl) rfl ?_)))); clear H a; intro a H
      refine n_nil (then_normal (wp_seq (wp_region_lit (n_q H (q_move rfl) rfl (W_q (q_move rfl) rfl ?_))))); clear H a; intro a H
      replace hm := bindS hm; obtain ⟨x57, hx57, hm⟩ := hm
      obtain ⟨adx57, hAx57⟩ := SlR.adV (SlR.ofBlk (k := 7) (R := RGPlan) [[.int .i64 a0.P.Id, .bool a0.P.Mobile, vp0_0, vp0_1, vp0_2, .int .i64 a0.P.Events, vp0_3], [.int .i64 a0.Q.Id, .bool a0.Q.Mobile, vp0_4, vp0_5, vp0_6, .int .i64 a0.Q.Events, vp0_7]] [a0.P, a0.Q] (hS.blk 1 rfl) (DIn.cons rfl (by simp [((hrp0_0.ext (Flat.mono _) hS.x)).one, ((hrp0_1.ext (Flat.mono _) hS.x)).one, ((hrp0_2.ext (Flat.mono _) hS.x)).one, ((hrp0_3.ext (Flat.mono _) hS.x)).one]) (⟨_, _, _, _, rfl, (hrp0_0.ext (Flat.mono _) hS.x), (hrp0_1.ext (Flat.mono _) hS.x), (hrp0_2.ext (Flat.mono _) hS.x), (hrp0_3.ext (Flat.mono _) hS.x)⟩ : RGPlan _ [.int .i64 a0.P.Id, .bool a0.P.Mobile, vp0_0, vp0_1, vp0_2, .int .i64 a0.P.Events, vp0_3] a0.P) (DIn.cons rfl (by simp [((hrp0_4.ext (Flat.mono _) hS.x)).one, ((hrp0_5.ext (Flat.mono _) hS.x)).one, ((hrp0_6.ext (Flat.mono _) hS.x)).one, ((hrp0_7.ext (Flat.mono _) hS.x)).one]) (⟨_, _, _, _, rfl, (hrp0_4.ext (Flat.mono _) hS.x), (hrp0_5.ext (Flat.mono _) hS.x), (hrp0_6.ext (Flat.mono _) hS.x), (hrp0_7.ext (Flat.mono _) hS.x)⟩ : RGPlan _ [.int .i64 a0.Q.Id, .bool a0.Q.Mobile, vp0_4, vp0_5, vp0_6, .int .i64 a0.Q.Events, vp0_7] a0.Q) trivial)) rfl (by simp [maxLen])) rfl hx57
      obtain ⟨csx57, hclx57, ⟨vx57_0, vx57_1, vx57_2, vx57_3, rfl, hrx57_0, hrx57_1, hrx57_2, hrx57_3⟩, hcx57⟩ := SlR.elV (SlR.ofBlk (k := 7) (R := RGPlan) [[.int .i64 a0.P.Id, .bool a0.P.Mobile, vp0_0, vp0_1, vp0_2, .int .i64 a0.P.Events, vp0_3], [.int .i64 a0.Q.Id, .bool a0.Q.Mobile, vp0_4, vp0_5, vp0_6, .int .i64 a0.Q.Events, vp0_7]] [a0.P, a0.Q] (hS.blk 1 rfl) (DIn.cons rfl (by simp [((hrp0_0.ext (Flat.mono _) hS.x)).one, ((hrp0_1.ext (Flat.mono _) hS.x)).one, ((hrp0_2.ext (Flat.mono _) hS.x)).one, ((hrp0_3.ext (Flat.mono _) hS.x)).one]) (⟨_, _, _, _, rfl, (hrp0_0.ext (Flat.mono _) hS.x), (hrp0_1.ext (Flat.mono _) hS.x), (hrp0_2.ext (Flat.mono _) hS.x), (hrp0_3.ext (Flat.mono _) hS.x)⟩ : RGPlan _ [.int .i64 a0.P.Id, .bool a0.P.Mobile, vp0_0, vp0_1, vp0_2, .int .i64 a0.P.Events, vp0_3] a0.P) (DIn.cons rfl (by simp [((hrp0_4.ext (Flat.mono _) hS.x)).one, ((hrp0_5.ext (Flat.mono _) hS.x)).one, ((hrp0_6.ext (Flat.mono _) hS.x)).one, ((hrp0_7.ext (Flat.mono _) hS.x)).one]) (⟨_, _, _, _, rfl, (hrp0_4.ext (Flat.mono _) hS.x), (hrp0_5.ext (Flat.mono _) hS.x), (hrp0_6.ext (Flat.mono _) hS.x), (hrp0_7.ext (Flat.mono _) hS.x)⟩ : RGPlan _ [.int .i64 a0.Q.Id, .bool a0.Q.Mobile, vp0_4, vp0_5, vp0_6, .int .i64 a0.Q.Events, vp0_7] a0.Q) trivial)) rfl (by simp [maxLen])) rfl hAx57 hx57
      refine n_q H (q_ixV (i := i33) Tryd.underlying46 sz27 rfl rfl hAx57 rfl (natI hx57)) rfl (W_q (q_load rfl (LdX.ext (ldEl ag27 sz27 rfl hcx57) Ext.rfl')) rfl ?_); clear H a; intro a H
      replace hm := bindS hm; obtain ⟨r58, hr58, hm⟩ := hm
      refine n_call H rfl en6 (g_r10_Copy_w (A := A) (⟨_, _, _, _, rfl, (hrx57_0.ext (Flat.mono _) Ext.rfl'), (hrx57_1.ext (Flat.mono _) Ext.rfl'), (hrx57_2.ext (Flat.mono _) Ext.rfl'), (hrx57_3.ext (Flat.mono _) Ext.rfl')⟩ : RGPlan _ [.int .i64 x57.Id, .bool x57.Mobile, vx57_0, vx57_1, vx57_2, .int .i64 x57.Events, vx57_3] x57) hr58) rfl ?_
      clear H; intro x69 w67 hv; clear a; intro a H; obtain ⟨u59, u60, u61, u62, rfl, hE68⟩ := hv
      replace hS := hS.new hE68; simp only [List.cons_append, List.nil_append] at hS
      replace hm := bindS hm; obtain ⟨r70, hr70, hm⟩ := hm
      refine n_call H rfl en14 (g_plan_Check_w (A := A) (hG.ext hS.x) (⟨_, _, _, _, rfl, ((hS.own 0 rfl).slr rfl (fun _ _ => rfl)), ((hS.own 1 rfl).slr rfl (fun _ _ => rfl)), ((hS.own 2 rfl).slr rfl (fun _ _ => rfl)), ((hS.own 3 rfl).slr rfl (fun _ _ => rfl))⟩ : RGPlan _ [.int .i64 r58.Id, .bool r58.Mobile, u59, u60, u61, .int .i64 r58.Events, u62] r58) hr70) rfl ?_
      clear H; intro u71 w73 hv; clear a; intro a H; obtain ⟨_, rfl, hE74⟩ := hv
      replace hS := hS.new hE74; simp only [List.cons_append, List.nil_append] at hS
      refine n_q H (q_assign rfl) rfl ?_; clear H a; intro a H
      refine n_nil (then_normal (wp_seq ?_))
      replace hm := bindS hm; obtain ⟨j76, hm, hm76⟩ := hm
      refine c_join (σ := Bool) H (fun q577 => [(1, .pointer (some ⟨b21, 0, none⟩)), (3, .slice (some ⟨b31, 0, none⟩) 2 2), (4, .int .i64 ((i33 : Nat) : Int)), (6, .int .i64 r48.1), (7, .int .i64 r48.2), (8, .int .i64 r53.1), (9, .int .i64 r53.2), (63, .bool q577)]) (fun q577 wl => (g_law10_PlanChecks_J30 a0 i33 r48 r53) q577 = some o32 ∧ St NB w wl [blkR b31 [.int .i64 a0.P.Id, .bool a0.P.Mobile, vp0_0, vp0_1, vp0_2, .int .i64 a0.P.Events, vp0_3, .int .i64 a0.Q.Id, .bool a0.Q.Mobile, vp0_4, vp0_5, vp0_6, .int .i64 a0.Q.Events, vp0_7] 27, blkR b21 [.int .i64 a0.P.Id, .bool a0.P.Mobile, vp0_0, vp0_1, vp0_2, .int .i64 a0.P.Events, vp0_3, .int .i64 a0.Q.Id, .bool a0.Q.Mobile, vp0_4, vp0_5, vp0_6, .int .i64 a0.Q.Events, vp0_7, vp0_8, .int .i64 a0.At, .int .u32 a0.Mask] 31]) ?_ ?_
      · skip
        refine c_quiet (by kernel_rfl) (by kernel_rfl) ?_
        refine qq_q H (q_move rfl) rfl ?_; clear H a; intro a H
        refine qq_call H rfl en15 (fun w' hw => code_w ((hG.ext hS.x).ext hw) (IsErr.ext (hS.any 0 rfl : IsE A w73 u71 r70) hw)) rfl ?_; clear H a; intro a H
        refine qq_q H (q_fieldAddr0 rfl fo48_0) rfl ?_; clear H a; intro a H
        refine qq_q H (q_load rfl ((hS.blk 5 rfl).ld ag3 rfl)) rfl ?_; clear H a; intro a H
        refine qq_q H (q_neqD rfl rfl) rfl ?_; clear H a; intro a H
        refine qq_q H (q_move rfl) rfl ?_; clear H a; intro a H
        rcases Bool.eq_false_or_eq_true (!decide ((ErrM.code r70) = r38.Code)) with hg578 | hg578
        · replace H := H.know 57 rfl hg578
          replace hm := condT hm hg578
          refine qq_no H rfl rfl (by decide) rfl ?_; clear H a; intro a H
          refine qq_no H rfl rfl (by decide) rfl ?_; clear H a; intro a H
          refine qq_no H rfl rfl (by decide) rfl ?_; clear H a; intro a H
          refine qq_no H rfl rfl (by decide) rfl ?_; clear H a; intro a H
          refine qq_no H rfl rfl (by decide) rfl ?_; clear H a; intro a H
          refine qq_q H (q_pickT rfl rfl) rfl ?_; clear H a; intro a H
          refine qq_nil ?_; intro w579 hE580
          replace hS := hS.ext hE580
          refine then_normal ?_
          obtain rfl := Option.some.inj hm; replace hm := hm76; try dsimp only at hm
          replace hS := hS.pk7
          replace hS := hS.pk7
          replace hS := hS.tk2
          exact join true H ⟨rfl, rfl, rfl, rfl, rfl, rfl, rfl, rfl, trivial⟩ ⟨hm, hS⟩
        · replace H := H.know 57 rfl hg578
          replace hm := condF hm hg578
          refine qq_yes H rfl rfl ?_
          refine qq_q H (q_move rfl) rfl ?_; clear H a; intro a H
          refine qq_yes H rfl rfl ?_
          refine qq_call H rfl en16 (fun w' hw => place_w ((hH.ext hS.x).ext hw) (IsErr.ext (hS.any 0 rfl : IsE A w73 u71 r70) hw)) rfl ?_; clear H a; intro a H
          refine qq_yes H rfl rfl ?_
          refine qq_q H (q_fieldAddr0 rfl fo48_1) rfl ?_; clear H a; intro a H
          refine qq_yes H rfl rfl ?_
          refine qq_q H (q_load rfl ((hS.blk 5 rfl).ld ag3 rfl)) rfl ?_; clear H a; intro a H
          refine qq_yes H rfl rfl ?_
          refine qq_q H (q_neqD rfl rfl) rfl ?_; clear H a; intro a H
          refine qq_q H (q_pickF rfl rfl) rfl ?_; clear H a; intro a H
          refine qq_nil ?_; intro w581 hE582
          replace hS := hS.ext hE582
          refine then_normal ?_
          obtain rfl := Option.some.inj hm; replace hm := hm76; try dsimp only at hm
          replace hS := hS.pk7
          replace hS := hS.pk7
          replace hS := hS.tk2
          exact join (!decide ((ErrM.place r70) = r38.Place)) H ⟨rfl, rfl, rfl, rfl, rfl, rfl, rfl, rfl, trivial⟩ ⟨hm, hS⟩
      · clear H hS hm a; intro q577 a w583 H hR
        simp only [ent, List.map_cons, List.map_nil] at H; (try dsimp only at hR); obtain ⟨hm, hS⟩ := hR; try dsimp only [g_law10_PlanChecks_J30] at hm
        refine c_cond H rfl (fun hc584 => ?_) (fun hc584 => ?_)
        · replace hm := condT hm hc584
          refine wp_seq (wp_region_lit (n_q H (q_assign rfl) rfl ?_)); clear H a; intro a H
          refine n_nil (then_normal (wp_ret (then_ret (block_ret (then_ret (then_ret (block_ret (then_ret ?_))))))))
          obtain rfl := Option.some.inj hm; have hz : _ = q32 := hn32; subst hz; replace hm := hm32; try dsimp only at hm
          obtain rfl := Option.some.inj hm
          replace hS := hS.tk0
          refine ret1 H (.inr rfl) rfl rfl ?_
          exact ⟨rfl, hS.x⟩
        · replace hm := condF hm hc584
          refine wp_skip (then_normal (wp_seq (wp_region_lit (n_q H (q_move rfl) rfl (W_q (q_move rfl) rfl ?_))))); clear H a; intro a H
          replace hm := bindS hm; obtain ⟨x585, hx585, hm⟩ := hm
          obtain ⟨adx585, hAx585⟩ := SlR.adV (SlR.ofBlk (k := 7) (R := RGPlan) [[.int .i64 a0.P.Id, .bool a0.P.Mobile, vp0_0, vp0_1, vp0_2, .int .i64 a0.P.Events, vp0_3], [.int .i64 a0.Q.Id, .bool a0.Q.Mobile, vp0_4, vp0_5, vp0_6, .int .i64 a0.Q.Events, vp0_7]] [a0.P, a0.Q] (hS.blk 0 rfl) (DIn.cons rfl (by simp [((hrp0_0.ext (Flat.mono _) hS.x)).one, ((hrp0_1.ext (Flat.mono _) hS.x)).one, ((hrp0_2.ext (Flat.mono _) hS.x)).one, ((hrp0_3.ext (Flat.mono _) hS.x)).one]) (⟨_, _, _, _, rfl, (hrp0_0.ext (Flat.mono _) hS.x), (hrp0_1.ext (Flat.mono _) hS.x), (hrp0_2.ext (Flat.mono _) hS.x), (hrp0_3.ext (Flat.mono _) hS.x)⟩ : RGPlan _ [.int .i64 a0.P.Id, .bool a0.P.Mobile, vp0_0, vp0_1, vp0_2, .int .i64 a0.P.Events, vp0_3] a0.P) (DIn.cons rfl (by simp [((hrp0_4.ext (Flat.mono _) hS.x)).one, ((hrp0_5.ext (Flat.mono _) hS.x)).one, ((hrp0_6.ext (Flat.mono _) hS.x)).one, ((hrp0_7.ext (Flat.mono _) hS.x)).one]) (⟨_, _, _, _, rfl, (hrp0_4.ext (Flat.mono _) hS.x), (hrp0_5.ext (Flat.mono _) hS.x), (hrp0_6.ext (Flat.mono _) hS.x), (hrp0_7.ext (Flat.mono _) hS.x)⟩ : RGPlan _ [.int .i64 a0.Q.Id, .bool a0.Q.Mobile, vp0_4, vp0_5, vp0_6, .int .i64 a0.Q.Events, vp0_7] a0.Q) trivial)) rfl (by simp [maxLen])) rfl hx585
          obtain ⟨csx585, hclx585, ⟨vx585_0, vx585_1, vx585_2, vx585_3, rfl, hrx585_0, hrx585_1, hrx585_2, hrx585_3⟩, hcx585⟩ := SlR.elV (SlR.ofBlk (k := 7) (R := RGPlan) [[.int .i64 a0.P.Id, .bool a0.P.Mobile, vp0_0, vp0_1, vp0_2, .int .i64 a0.P.Events, vp0_3], [.int .i64 a0.Q.Id, .bool a0.Q.Mobile, vp0_4, vp0_5, vp0_6, .int .i64 a0.Q.Events, vp0_7]] [a0.P, a0.Q] (hS.blk 0 rfl) (DIn.cons rfl (by simp [((hrp0_0.ext (Flat.mono _) hS.x)).one, ((hrp0_1.ext (Flat.mono _) hS.x)).one, ((hrp0_2.ext (Flat.mono _) hS.x)).one, ((hrp0_3.ext (Flat.mono _) hS.x)).one]) (⟨_, _, _, _, rfl, (hrp0_0.ext (Flat.mono _) hS.x), (hrp0_1.ext (Flat.mono _) hS.x), (hrp0_2.ext (Flat.mono _) hS.x), (hrp0_3.ext (Flat.mono _) hS.x)⟩ : RGPlan _ [.int .i64 a0.P.Id, .bool a0.P.Mobile, vp0_0, vp0_1, vp0_2, .int .i64 a0.P.Events, vp0_3] a0.P) (DIn.cons rfl (by simp [((hrp0_4.ext (Flat.mono _) hS.x)).one, ((hrp0_5.ext (Flat.mono _) hS.x)).one, ((hrp0_6.ext (Flat.mono _) hS.x)).one, ((hrp0_7.ext (Flat.mono _) hS.x)).one]) (⟨_, _, _, _, rfl, (hrp0_4.ext (Flat.mono _) hS.x), (hrp0_5.ext (Flat.mono _) hS.x), (hrp0_6.ext (Flat.mono _) hS.x), (hrp0_7.ext (Flat.mono _) hS.x)⟩ : RGPlan _ [.int .i64 a0.Q.Id, .bool a0.Q.Mobile, vp0_4, vp0_5, vp0_6, .int .i64 a0.Q.Events, vp0_7] a0.Q) trivial)) rfl (by simp [maxLen])) rfl hAx585 hx585
          refine n_q H (q_ixV (i := i33) Tryd.underlying46 sz27 rfl rfl hAx585 rfl (natI hx585)) rfl (W_q (q_load rfl (LdX.ext (ldEl ag27 sz27 rfl hcx585) Ext.rfl')) rfl ?_); clear H a; intro a H
          replace hm := bindS hm; obtain ⟨r586, hr586, hm⟩ := hm
          refine n_call H rfl en6 (g_r10_Copy_w (A := A) (⟨_, _, _, _, rfl, (hrx585_0.ext (Flat.mono _) Ext.rfl'), (hrx585_1.ext (Flat.mono _) Ext.rfl'), (hrx585_2.ext (Flat.mono _) Ext.rfl'), (hrx585_3.ext (Flat.mono _) Ext.rfl')⟩ : RGPlan _ [.int .i64 x585.Id, .bool x585.Mobile, vx585_0, vx585_1, vx585_2, .int .i64 x585.Events, vx585_3] x585) hr586) rfl ?_
          clear H; intro x597 w595 hv; clear a; intro a H; obtain ⟨u587, u588, u589, u590, rfl, hE596⟩ := hv
          replace hS := hS.new hE596; simp only [List.cons_append, List.nil_append] at hS
          replace hm := bindS hm; obtain ⟨r598, hr598, hm⟩ := hm
          refine n_call H rfl en9 (g_plan_Bound_w (A := A) (hG.ext hS.x) (⟨_, _, _, _, rfl, ((hS.own 0 rfl).slr rfl (fun _ _ => rfl)), ((hS.own 1 rfl).slr rfl (fun _ _ => rfl)), ((hS.own 2 rfl).slr rfl (fun _ _ => rfl)), ((hS.own 3 rfl).slr rfl (fun _ _ => rfl))⟩ : RGPlan _ [.int .i64 r586.Id, .bool r586.Mobile, u587, u588, u589, .int .i64 r586.Events, u590] r586) hr598) rfl ?_
          clear H; intro x603 w601 hv; clear a; intro a H; obtain ⟨u599, rfl, hE602⟩ := hv
          replace hS := hS.new hE602; simp only [List.cons_append, List.nil_append] at hS
          refine n_q H (q_move rfl) rfl (W_q (q_extract rfl rfl) rfl (W_q (q_extract rfl rfl) rfl (W_q (q_assign rfl) rfl (W_q (q_assign rfl) rfl ?_)))); clear H a; intro a H
          refine n_nil (then_normal (wp_seq ?_))
          replace hm := bindS hm; obtain ⟨j604, hm, hm604⟩ := hm
          refine c_join (σ := Bool) H (fun q1105 => [(1, .pointer (some ⟨b21, 0, none⟩)), (3, .slice (some ⟨b31, 0, none⟩) 2 2), (4, .int .i64 ((i33 : Nat) : Int)), (8, .int .i64 r53.1), (9, .int .i64 r53.2), (81, .bool q1105)]) (fun q1105 wl => (g_law10_PlanChecks_J29 a0 i33 r53) q1105 = some o32 ∧ St NB w wl [blkR b31 [.int .i64 a0.P.Id, .bool a0.P.Mobile, vp0_0, vp0_1, vp0_2, .int .i64 a0.P.Events, vp0_3, .int .i64 a0.Q.Id, .bool a0.Q.Mobile, vp0_4, vp0_5, vp0_6, .int .i64 a0.Q.Events, vp0_7] 27, blkR b21 [.int .i64 a0.P.Id, .bool a0.P.Mobile, vp0_0, vp0_1, vp0_2, .int .i64 a0.P.Events, vp0_3, .int .i64 a0.Q.Id, .bool a0.Q.Mobile, vp0_4, vp0_5, vp0_6, .int .i64 a0.Q.Events, vp0_7, vp0_8, .int .i64 a0.At, .int .u32 a0.Mask] 31]) ?_ ?_
          · skip
            refine wp_region_lit (n_q H (q_move rfl) rfl (W_q (q_move rfl) rfl (W_q (q_neqD rfl rfl) rfl (W_q (q_move rfl) rfl ?_)))); clear H a; intro a H
            rcases Bool.eq_false_or_eq_true (!decide (r598.1 = r48.1)) with hg1106 | hg1106
            · replace H := H.know 76 rfl hg1106
              replace hm := condT hm hg1106
              refine n_no H rfl rfl (by decide) rfl (W_no rfl rfl (by decide) rfl (W_no rfl rfl (by decide) rfl (W_no rfl rfl (by decide) rfl (W_q (q_pickT rfl rfl) rfl ?_)))); clear H a; intro a H
              refine n_nil (then_normal ?_)
              obtain rfl := Option.some.inj hm; replace hm := hm604; try dsimp only at hm
              replace hS := hS.pk6
              replace hS := hS.pk6
              replace hS := hS.tk2
              exact join true H ⟨rfl, rfl, rfl, rfl, rfl, rfl, trivial⟩ ⟨hm, hS⟩
            · replace H := H.know 76 rfl hg1106
              replace hm := condF hm hg1106
              refine n_yes H rfl rfl (n_q H (q_move rfl) rfl (W_yes rfl rfl (W_q (q_move rfl) rfl (W_yes rfl rfl ?_)))); clear H a; intro a H
              replace hm := bindS hm; obtain ⟨r1107, hr1107, hm⟩ := hm
              refine n_call H rfl en10 (g_law10_same_w (A := A) (hG.ext hS.x) (hH.ext hS.x) (hS.any 0 rfl : IsE A w601 u599 r598.2) hr1107) rfl ?_
              clear H; intro x1110 w1108 hv; clear a; intro a H; obtain ⟨rfl, hE1109⟩ := hv
              replace hS := hS.ext hE1109
              refine n_yes H rfl rfl (n_q H (q_not rfl) rfl (W_q (q_pickF rfl rfl) rfl ?_)); clear H a; intro a H
              refine n_nil (then_normal ?_)
              obtain rfl := Option.some.inj hm; replace hm := hm604; try dsimp only at hm
              replace hS := hS.pk6
              replace hS := hS.pk6
              replace hS := hS.tk2
              exact join (!r1107) H ⟨rfl, rfl, rfl, rfl, rfl, rfl, trivial⟩ ⟨hm, hS⟩
          · clear H hS hm a; intro q1105 a w1111 H hR
            simp only [ent, List.map_cons, List.map_nil] at H; (try dsimp only at hR); obtain ⟨hm, hS⟩ := hR; try dsimp only [g_law10_PlanChecks_J29] at hm
            refine c_cond H rfl (fun hc1112 => ?_) (fun hc1112 => ?_)
            · replace hm := condT hm hc1112
              refine wp_seq (wp_region_lit (n_q H (q_assign rfl) rfl ?_)); clear H a; intro a H
              refine n_nil (then_normal (wp_ret (then_ret (block_ret (then_ret (then_ret (block_ret (then_ret ?_))))))))
              obtain rfl := Option.some.inj hm; have hz : _ = q32 := hn32; subst hz; replace hm := hm32; try dsimp only at hm
              obtain rfl := Option.some.inj hm
              replace hS := hS.tk0
              refine ret1 H (.inr rfl) rfl rfl ?_
              exact ⟨rfl, hS.x⟩
            · replace hm := condF hm hc1112
              refine wp_skip (then_normal (wp_seq (wp_region_lit (n_q H (q_move rfl) rfl (W_q (q_move rfl) rfl ?_))))); clear H a; intro a H
              replace hm := bindS hm; obtain ⟨x1113, hx1113, hm⟩ := hm
              obtain ⟨adx1113, hAx1113⟩ := SlR.adV (SlR.ofBlk (k := 7) (R := RGPlan) [[.int .i64 a0.P.Id, .bool a0.P.Mobile, vp0_0, vp0_1, vp0_2, .int .i64 a0.P.Events, vp0_3], [.int .i64 a0.Q.Id, .bool a0.Q.Mobile, vp0_4, vp0_5, vp0_6, .int .i64 a0.Q.Events, vp0_7]] [a0.P, a0.Q] (hS.blk 0 rfl) (DIn.cons rfl (by simp [((hrp0_0.ext (Flat.mono _) hS.x)).one, ((hrp0_1.ext (Flat.mono _) hS.x)).one, ((hrp0_2.ext (Flat.mono _) hS.x)).one, ((hrp0_3.ext (Flat.mono _) hS.x)).one]) (⟨_, _, _, _, rfl, (hrp0_0.ext (Flat.mono _) hS.x), (hrp0_1.ext (Flat.mono _) hS.x), (hrp0_2.ext (Flat.mono _) hS.x), (hrp0_3.ext (Flat.mono _) hS.x)⟩ : RGPlan _ [.int .i64 a0.P.Id, .bool a0.P.Mobile, vp0_0, vp0_1, vp0_2, .int .i64 a0.P.Events, vp0_3] a0.P) (DIn.cons rfl (by simp [((hrp0_4.ext (Flat.mono _) hS.x)).one, ((hrp0_5.ext (Flat.mono _) hS.x)).one, ((hrp0_6.ext (Flat.mono _) hS.x)).one, ((hrp0_7.ext (Flat.mono _) hS.x)).one]) (⟨_, _, _, _, rfl, (hrp0_4.ext (Flat.mono _) hS.x), (hrp0_5.ext (Flat.mono _) hS.x), (hrp0_6.ext (Flat.mono _) hS.x), (hrp0_7.ext (Flat.mono _) hS.x)⟩ : RGPlan _ [.int .i64 a0.Q.Id, .bool a0.Q.Mobile, vp0_4, vp0_5, vp0_6, .int .i64 a0.Q.Events, vp0_7] a0.Q) trivial)) rfl (by simp [maxLen])) rfl hx1113
              obtain ⟨csx1113, hclx1113, ⟨vx1113_0, vx1113_1, vx1113_2, vx1113_3, rfl, hrx1113_0, hrx1113_1, hrx1113_2, hrx1113_3⟩, hcx1113⟩ := SlR.elV (SlR.ofBlk (k := 7) (R := RGPlan) [[.int .i64 a0.P.Id, .bool a0.P.Mobile, vp0_0, vp0_1, vp0_2, .int .i64 a0.P.Events, vp0_3], [.int .i64 a0.Q.Id, .bool a0.Q.Mobile, vp0_4, vp0_5, vp0_6, .int .i64 a0.Q.Events, vp0_7]] [a0.P, a0.Q] (hS.blk 0 rfl) (DIn.cons rfl (by simp [((hrp0_0.ext (Flat.mono _) hS.x)).one, ((hrp0_1.ext (Flat.mono _) hS.x)).one, ((hrp0_2.ext (Flat.mono _) hS.x)).one, ((hrp0_3.ext (Flat.mono _) hS.x)).one]) (⟨_, _, _, _, rfl, (hrp0_0.ext (Flat.mono _) hS.x), (hrp0_1.ext (Flat.mono _) hS.x), (hrp0_2.ext (Flat.mono _) hS.x), (hrp0_3.ext (Flat.mono _) hS.x)⟩ : RGPlan _ [.int .i64 a0.P.Id, .bool a0.P.Mobile, vp0_0, vp0_1, vp0_2, .int .i64 a0.P.Events, vp0_3] a0.P) (DIn.cons rfl (by simp [((hrp0_4.ext (Flat.mono _) hS.x)).one, ((hrp0_5.ext (Flat.mono _) hS.x)).one, ((hrp0_6.ext (Flat.mono _) hS.x)).one, ((hrp0_7.ext (Flat.mono _) hS.x)).one]) (⟨_, _, _, _, rfl, (hrp0_4.ext (Flat.mono _) hS.x), (hrp0_5.ext (Flat.mono _) hS.x), (hrp0_6.ext (Flat.mono _) hS.x), (hrp0_7.ext (Flat.mono _) hS.x)⟩ : RGPlan _ [.int .i64 a0.Q.Id, .bool a0.Q.Mobile, vp0_4, vp0_5, vp0_6, .int .i64 a0.Q.Events, vp0_7] a0.Q) trivial)) rfl (by simp [maxLen])) rfl hAx1113 hx1113
              refine n_q H (q_ixV (i := i33) Tryd.underlying46 sz27 rfl rfl hAx1113 rfl (natI hx1113)) rfl (W_q (q_load rfl (LdX.ext (ldEl ag27 sz27 rfl hcx1113) Ext.rfl')) rfl ?_); clear H a; intro a H
              replace hm := bindS hm; obtain ⟨r1114, hr1114, hm⟩ := hm
              refine n_call H rfl en6 (g_r10_Copy_w (A := A) (⟨_, _, _, _, rfl, (hrx1113_0.ext (Flat.mono _) Ext.rfl'), (hrx1113_1.ext (Flat.mono _) Ext.rfl'), (hrx1113_2.ext (Flat.mono _) Ext.rfl'), (hrx1113_3.ext (Flat.mono _) Ext.rfl')⟩ : RGPlan _ [.int .i64 x1113.Id, .bool x1113.Mobile, vx1113_0, vx1113_1, vx1113_2, .int .i64 x1113.Events, vx1113_3] x1113) hr1114) rfl ?_
              clear H; intro x1125 w1123 hv; clear a; intro a H; obtain ⟨u1115, u1116, u1117, u1118, rfl, hE1124⟩ := hv
              replace hS := hS.new hE1124; simp only [List.cons_append, List.nil_append] at hS
              replace hm := bindS hm; obtain ⟨r1126, hr1126, hm⟩ := hm
              refine n_call H rfl en17 (g_plan_Span_w (A := A) (hG.ext hS.x) (⟨_, _, _, _, rfl, ((hS.own 0 rfl).slr rfl (fun _ _ => rfl)), ((hS.own 1 rfl).slr rfl (fun _ _ => rfl)), ((hS.own 2 rfl).slr rfl (fun _ _ => rfl)), ((hS.own 3 rfl).slr rfl (fun _ _ => rfl))⟩ : RGPlan _ [.int .i64 r1114.Id, .bool r1114.Mobile, u1115, u1116, u1117, .int .i64 r1114.Events, u1118] r1114) hr1126) rfl ?_
              clear H; intro x1131 w1129 hv; clear a; intro a H; obtain ⟨u1127, rfl, hE1130⟩ := hv
              replace hS := hS.new hE1130; simp only [List.cons_append, List.nil_append] at hS
              refine n_q H (q_move rfl) rfl (W_q (q_extract rfl rfl) rfl (W_q (q_extract rfl rfl) rfl (W_q (q_assign rfl) rfl (W_q (q_assign rfl) rfl ?_)))); clear H a; intro a H
              refine n_nil (then_normal ?_)
              replace hm := bindS hm; obtain ⟨j1132, hm, hm1132⟩ := hm
              refine c_join (σ := Bool) H (fun q1633 => [(1, .pointer (some ⟨b21, 0, none⟩)), (3, .slice (some ⟨b31, 0, none⟩) 2 2), (4, .int .i64 ((i33 : Nat) : Int)), (99, .bool q1633)]) (fun q1633 wl => (g_law10_PlanChecks_J28 i33) q1633 = some o32 ∧ St NB w wl [blkR b31 [.int .i64 a0.P.Id, .bool a0.P.Mobile, vp0_0, vp0_1, vp0_2, .int .i64 a0.P.Events, vp0_3, .int .i64 a0.Q.Id, .bool a0.Q.Mobile, vp0_4, vp0_5, vp0_6, .int .i64 a0.Q.Events, vp0_7] 27, blkR b21 [.int .i64 a0.P.Id, .bool a0.P.Mobile, vp0_0, vp0_1, vp0_2, .int .i64 a0.P.Events, vp0_3, .int .i64 a0.Q.Id, .bool a0.Q.Mobile, vp0_4, vp0_5, vp0_6, .int .i64 a0.Q.Events, vp0_7, vp0_8, .int .i64 a0.At, .int .u32 a0.Mask] 31]) ?_ ?_
              · skip
                refine wp_region_lit (n_q H (q_move rfl) rfl (W_q (q_move rfl) rfl (W_q (q_neqD rfl rfl) rfl (W_q (q_move rfl) rfl ?_)))); clear H a; intro a H
                rcases Bool.eq_false_or_eq_true (!decide (r1126.1 = r53.1)) with hg1634 | hg1634
                · replace H := H.know 94 rfl hg1634
                  replace hm := condT hm hg1634
                  refine n_no H rfl rfl (by decide) rfl (W_no rfl rfl (by decide) rfl (W_no rfl rfl (by decide) rfl (W_no rfl rfl (by decide) rfl (W_q (q_pickT rfl rfl) rfl ?_)))); clear H a; intro a H
                  refine n_nil (then_normal ?_)
                  obtain rfl := Option.some.inj hm; replace hm := hm1132; try dsimp only at hm
                  replace hS := hS.pk6
                  replace hS := hS.pk6
                  replace hS := hS.tk2
                  exact join true H ⟨rfl, rfl, rfl, rfl, trivial⟩ ⟨hm, hS⟩
                · replace H := H.know 94 rfl hg1634
                  replace hm := condF hm hg1634
                  refine n_yes H rfl rfl (n_q H (q_move rfl) rfl (W_yes rfl rfl (W_q (q_move rfl) rfl (W_yes rfl rfl ?_)))); clear H a; intro a H
                  replace hm := bindS hm; obtain ⟨r1635, hr1635, hm⟩ := hm
                  refine n_call H rfl en10 (g_law10_same_w (A := A) (hG.ext hS.x) (hH.ext hS.x) (hS.any 0 rfl : IsE A w1129 u1127 r1126.2) hr1635) rfl ?_
                  clear H; intro x1638 w1636 hv; clear a; intro a H; obtain ⟨rfl, hE1637⟩ := hv
                  replace hS := hS.ext hE1637
                  refine n_yes H rfl rfl (n_q H (q_not rfl) rfl (W_q (q_pickF rfl rfl) rfl ?_)); clear H a; intro a H
                  refine n_nil (then_normal ?_)
                  obtain rfl := Option.some.inj hm; replace hm := hm1132; try dsimp only at hm
                  replace hS := hS.pk6
                  replace hS := hS.pk6
                  replace hS := hS.tk2
                  exact join (!r1635) H ⟨rfl, rfl, rfl, rfl, trivial⟩ ⟨hm, hS⟩
              · clear H hS hm a; intro q1633 a w1639 H hR
                simp only [ent, List.map_cons, List.map_nil] at H; (try dsimp only at hR); obtain ⟨hm, hS⟩ := hR; try dsimp only [g_law10_PlanChecks_J28] at hm
                refine c_cond H rfl (fun hc1640 => ?_) (fun hc1640 => ?_)
                · replace hm := condT hm hc1640
                  refine wp_seq (wp_region_lit (n_q H (q_assign rfl) rfl ?_)); clear H a; intro a H
                  refine n_nil (then_normal (wp_ret (block_ret (then_ret (then_ret (block_ret (then_ret ?_)))))))
                  obtain rfl := Option.some.inj hm; have hz : _ = q32 := hn32; subst hz; replace hm := hm32; try dsimp only at hm
                  obtain rfl := Option.some.inj hm
                  replace hS := hS.tk0
                  refine ret1 H (.inr rfl) rfl rfl ?_
                  exact ⟨rfl, hS.x⟩
                · replace hm := condF hm hc1640
                  refine wp_skip (block_normal (then_normal (wp_region_lit (n_q H (q_move rfl) rfl (W_q (q_incr (i := i33) (j := 1) rfl rfl (by omega)) rfl (W_q (q_assign rfl) rfl ?_)))))); clear H a; intro a H
                  refine n_nil (then_normal ?_)
                  obtain rfl := Option.some.inj hm
                  exact round (m32, i33 + 1) H ⟨rfl, rfl, rfl, trivial⟩ ⟨hn32, hS⟩ (Nat.lt_succ_self _)
    · replace hm := condF hm hc35
      refine wp_exit (then_exit (then_exit (block_exit ?_)))
      obtain rfl := Option.some.inj hm; have hz : _ = q32 := hn32; subst hz; replace hm := hm32; try dsimp only at hm
      refine then_normal (wp_seq (c_ord [] 23 (by kernel_rfl) ?_))
      obtain ⟨w1641, hw1641⟩ : ∃ x, x = w34.drew := ⟨_, rfl⟩; rw [← hw1641]; have hE1642 : Ext w34 w1641 := by rw [hw1641]; exact Ext.drew' _
      clear hw1641
      replace hS := hS.ext hE1642
      have hS1643 := hS
      have hW := Nat.le_refl w1641.heap.size
      refine k_takeT 0 H rfl (q_fieldAddr0 rfl fo31_0) rfl (by kernel_rfl) (by kernel_rfl) (by kernel_rfl) (by kernel_rfl) (fun _ _ _ h => h) ?_; clear H a; intro a H
      refine k_take 1 H rfl (q_load rfl (LdC.old ((hS1643.blk 1 rfl).ldPart 0 7 ag27 sz27 (by simp)) Ext.rfl' (Nat.le_refl _) (by simp))) rfl (by kernel_rfl) (by kernel_rfl) (by kernel_rfl) (by kernel_rfl) (fun _ _ _ h => h) ?_; clear H a; intro a H
      refine k_takeT 3 H rfl (q_fieldAddr0 rfl fo31_1) rfl (by kernel_rfl) (by kernel_rfl) (by kernel_rfl) (by kernel_rfl) (fun _ _ _ h => h) ?_; clear H a; intro a H
      refine k_take 4 H rfl (q_load rfl (LdC.old ((hS1643.blk 1 rfl).ldPart 7 7 ag27 sz27 (by simp)) Ext.rfl' (Nat.le_refl _) (by simp))) rfl (by kernel_rfl) (by kernel_rfl) (by kernel_rfl) (by kernel_rfl) (fun _ _ _ h => h) ?_; clear H a; intro a H
      refine k_takeT 7 H rfl (q_fieldAddr0 rfl fo31_0) rfl (by kernel_rfl) (by kernel_rfl) (by kernel_rfl) (by kernel_rfl) (fun _ _ _ h => h) ?_; clear H a; intro a H
      refine k_take 8 H rfl (q_load rfl (LdC.old ((hS1643.blk 1 rfl).ldPart 0 7 ag27 sz27 (by simp)) Ext.rfl' (Nat.le_refl _) (by simp))) rfl (by kernel_rfl) (by kernel_rfl) (by kernel_rfl) (by kernel_rfl) (fun _ _ _ h => h) ?_; clear H a; intro a H
      refine k_takeT 9 H rfl (q_fieldAddr0 rfl fo31_1) rfl (by kernel_rfl) (by kernel_rfl) (by kernel_rfl) (by kernel_rfl) (fun _ _ _ h => h) ?_; clear H a; intro a H
      refine k_take 10 H rfl (q_load rfl (LdC.old ((hS1643.blk 1 rfl).ldPart 7 7 ag27 sz27 (by simp)) Ext.rfl' (Nat.le_refl _) (by simp))) rfl (by kernel_rfl) (by kernel_rfl) (by kernel_rfl) (by kernel_rfl) (fun _ _ _ h => h) ?_; clear H a; intro a H
      replace hm := bindS hm; obtain ⟨r1644, hr1644, hm⟩ := hm
      refine k_of_kk 2 (by kernel_rfl) ?_
      refine kk_call 2 H rfl rfl en6 (g_r10_Copy_w (A := A) (⟨_, _, _, _, rfl, (hrp0_0.ext (Flat.mono _) hS.x), (hrp0_1.ext (Flat.mono _) hS.x), (hrp0_2.ext (Flat.mono _) hS.x), (hrp0_3.ext (Flat.mono _) hS.x)⟩ : RGPlan _ [.int .i64 a0.P.Id, .bool a0.P.Mobile, vp0_0, vp0_1, vp0_2, .int .i64 a0.P.Events, vp0_3] a0.P) hr1644) rfl (fun v w hv => .inl (ChgF.of_ext (by obtain ⟨_, _, _, _, _, hE0⟩ := hv; exact hE0.x))) ?_
      clear H; intro x1655 w1653 hv; clear a; intro a H; obtain ⟨u1645, u1646, u1647, u1648, rfl, hE1654⟩ := hv
      replace hS := hS.new hE1654; simp only [List.cons_append, List.nil_append] at hS
      replace hW := Nat.le_trans hW hE1654.x.size
      replace hm := bindS hm; obtain ⟨r1656, hr1656, hm⟩ := hm
      refine k_of_kk 5 (by kernel_rfl) ?_
      refine kk_call 5 H rfl rfl en6 (g_r10_Copy_w (A := A) (⟨_, _, _, _, rfl, (hrp0_4.ext (Flat.mono _) hS.x), (hrp0_5.ext (Flat.mono _) hS.x), (hrp0_6.ext (Flat.mono _) hS.x), (hrp0_7.ext (Flat.mono _) hS.x)⟩ : RGPlan _ [.int .i64 a0.Q.Id, .bool a0.Q.Mobile, vp0_4, vp0_5, vp0_6, .int .i64 a0.Q.Events, vp0_7] a0.Q) hr1656) rfl (fun v w hv => .inl (ChgF.of_ext (by obtain ⟨_, _, _, _, _, hE0⟩ := hv; exact hE0.x))) ?_
      clear H; intro x1667 w1665 hv; clear a; intro a H; obtain ⟨u1657, u1658, u1659, u1660, rfl, hE1666⟩ := hv
      replace hS := hS.new hE1666; simp only [List.cons_append, List.nil_append] at hS
      replace hW := Nat.le_trans hW hE1666.x.size
      replace hm := bindS hm; obtain ⟨r1668, hr1668, hm⟩ := hm
      refine k_of_kk 6 (by kernel_rfl) ?_
      refine kk_call 6 H rfl rfl en18 (g_plan_Same_w (A := A) (⟨_, _, _, _, rfl, ((hS.own 4 rfl).slr rfl (fun _ _ => rfl)), ((hS.own 5 rfl).slr rfl (fun _ _ => rfl)), ((hS.own 6 rfl).slr rfl (fun _ _ => rfl)), ((hS.own 7 rfl).slr rfl (fun _ _ => rfl))⟩ : RGPlan _ [.int .i64 r1644.Id, .bool r1644.Mobile, u1645, u1646, u1647, .int .i64 r1644.Events, u1648] r1644) (⟨_, _, _, _, rfl, ((hS.own 0 rfl).slr rfl (fun _ _ => rfl)), ((hS.own 1 rfl).slr rfl (fun _ _ => rfl)), ((hS.own 2 rfl).slr rfl (fun _ _ => rfl)), ((hS.own 3 rfl).slr rfl (fun _ _ => rfl))⟩ : RGPlan _ [.int .i64 r1656.Id, .bool r1656.Mobile, u1657, u1658, u1659, .int .i64 r1656.Events, u1660] r1656) hr1668) rfl (fun v w hv => .inl (ChgF.of_ext (by obtain ⟨_, hE0⟩ := hv; exact hE0))) ?_
      clear H; intro x1671 w1669 hv; clear a; intro a H; obtain ⟨rfl, hE1670⟩ := hv
      replace hS := hS.ext hE1670
      replace hW := Nat.le_trans hW hE1670.size
      replace hm := bindS hm; obtain ⟨r1672, hr1672, hm⟩ := hm
      refine k_of_kk 11 (by kernel_rfl) ?_
      refine kk_call 11 H rfl rfl en19 (g_r10_Same_w (A := A) (⟨_, _, _, _, rfl, (hrp0_0.ext (Flat.mono _) hS.x), (hrp0_1.ext (Flat.mono _) hS.x), (hrp0_2.ext (Flat.mono _) hS.x), (hrp0_3.ext (Flat.mono _) hS.x)⟩ : RGPlan _ [.int .i64 a0.P.Id, .bool a0.P.Mobile, vp0_0, vp0_1, vp0_2, .int .i64 a0.P.Events, vp0_3] a0.P) (⟨_, _, _, _, rfl, (hrp0_4.ext (Flat.mono _) hS.x), (hrp0_5.ext (Flat.mono _) hS.x), (hrp0_6.ext (Flat.mono _) hS.x), (hrp0_7.ext (Flat.mono _) hS.x)⟩ : RGPlan _ [.int .i64 a0.Q.Id, .bool a0.Q.Mobile, vp0_4, vp0_5, vp0_6, .int .i64 a0.Q.Events, vp0_7] a0.Q) hr1672) rfl (fun v w hv => .inl (ChgF.of_ext (by obtain ⟨_, hE0⟩ := hv; exact hE0))) ?_
      clear H; intro x1675 w1673 hv; clear a; intro a H; obtain ⟨rfl, hE1674⟩ := hv
      replace hS := hS.ext hE1674
      replace hW := Nat.le_trans hW hE1674.size
      refine k_takeT 12 H rfl (q_eqlB Tryd.underlying4 rfl rfl) rfl (by kernel_rfl) (by kernel_rfl) (by kernel_rfl) (by kernel_rfl) (fun _ _ _ h => h) ?_; clear H a; intro a H
      refine k_takeT 13 H rfl (q_move rfl) rfl (by kernel_rfl) (by kernel_rfl) (by kernel_rfl) (by kernel_rfl) (fun _ _ _ h => h) ?_; clear H a; intro a H
      rcases Bool.eq_false_or_eq_true (r1668 == r1672) with hg1676 | hg1676
      · replace H := H.know 113 rfl hg1676
        replace hm := condT hm hg1676
        refine kg_takeT 14 H rfl rfl rfl (q_fieldAddr0 rfl fo31_0) rfl (by kernel_rfl) (by kernel_rfl) (by kernel_rfl) (by kernel_rfl) (fun _ _ _ h => h) ?_; clear H a; intro a H
        refine kg_take 15 H rfl rfl rfl (q_load rfl (LdC.old ((hS1643.blk 1 rfl).ldPart 0 7 ag27 sz27 (by simp)) (Ext.trans' (Ext.trans' (Ext.trans' hE1654.x hE1666.x) hE1670) hE1674) (Nat.le_refl _) (by simp))) rfl (by kernel_rfl) (by kernel_rfl) (by kernel_rfl) (by kernel_rfl) (fun _ _ _ h => h) ?_; clear H a; intro a H
        refine kg_takeT 17 H rfl rfl rfl (q_fieldAddr0 rfl fo31_0) rfl (by kernel_rfl) (by kernel_rfl) (by kernel_rfl) (by kernel_rfl) (fun _ _ _ h => h) ?_; clear H a; intro a H
        refine kg_take 18 H rfl rfl rfl (q_load rfl (LdC.old ((hS1643.blk 1 rfl).ldPart 0 7 ag27 sz27 (by simp)) (Ext.trans' (Ext.trans' (Ext.trans' hE1654.x hE1666.x) hE1670) hE1674) (Nat.le_refl _) (by simp))) rfl (by kernel_rfl) (by kernel_rfl) (by kernel_rfl) (by kernel_rfl) (fun _ _ _ h => h) ?_; clear H a; intro a H
        replace hm := bindS hm; obtain ⟨r1677, hr1677, hm⟩ := hm
        refine kg_call 16 H rfl rfl rfl rfl en6 (g_r10_Copy_w (A := A) (⟨_, _, _, _, rfl, (hrp0_0.ext (Flat.mono _) hS.x), (hrp0_1.ext (Flat.mono _) hS.x), (hrp0_2.ext (Flat.mono _) hS.x), (hrp0_3.ext (Flat.mono _) hS.x)⟩ : RGPlan _ [.int .i64 a0.P.Id, .bool a0.P.Mobile, vp0_0, vp0_1, vp0_2, .int .i64 a0.P.Events, vp0_3] a0.P) hr1677) rfl (by kernel_rfl) (fun v w hv => .inl (ChgF.of_ext (by obtain ⟨_, _, _, _, _, hE0⟩ := hv; exact hE0.x))) ?_
        clear H; intro x1688 w1686 hv; clear a; intro a H; obtain ⟨u1678, u1679, u1680, u1681, rfl, hE1687⟩ := hv
        replace hS := hS.new hE1687; simp only [List.cons_append, List.nil_append] at hS
        replace hW := Nat.le_trans hW hE1687.x.size
        replace hm := bindS hm; obtain ⟨r1689, hr1689, hm⟩ := hm
        refine kg_call 19 H rfl rfl rfl rfl en6 (g_r10_Copy_w (A := A) (⟨_, _, _, _, rfl, (hrp0_0.ext (Flat.mono _) hS.x), (hrp0_1.ext (Flat.mono _) hS.x), (hrp0_2.ext (Flat.mono _) hS.x), (hrp0_3.ext (Flat.mono _) hS.x)⟩ : RGPlan _ [.int .i64 a0.P.Id, .bool a0.P.Mobile, vp0_0, vp0_1, vp0_2, .int .i64 a0.P.Events, vp0_3] a0.P) hr1689) rfl (by kernel_rfl) (fun v w hv => .inl (ChgF.of_ext (by obtain ⟨_, _, _, _, _, hE0⟩ := hv; exact hE0.x))) ?_
        clear H; intro x1700 w1698 hv; clear a; intro a H; obtain ⟨u1690, u1691, u1692, u1693, rfl, hE1699⟩ := hv
        replace hS := hS.new hE1699; simp only [List.cons_append, List.nil_append] at hS
        replace hW := Nat.le_trans hW hE1699.x.size
        replace hm := bindS hm; obtain ⟨r1701, hr1701, hm⟩ := hm
        refine kg_call 20 H rfl rfl rfl rfl en18 (g_plan_Same_w (A := A) (⟨_, _, _, _, rfl, ((hS.own 4 rfl).slr rfl (fun _ _ => rfl)), ((hS.own 5 rfl).slr rfl (fun _ _ => rfl)), ((hS.own 6 rfl).slr rfl (fun _ _ => rfl)), ((hS.own 7 rfl).slr rfl (fun _ _ => rfl))⟩ : RGPlan _ [.int .i64 r1677.Id, .bool r1677.Mobile, u1678, u1679, u1680, .int .i64 r1677.Events, u1681] r1677) (⟨_, _, _, _, rfl, ((hS.own 0 rfl).slr rfl (fun _ _ => rfl)), ((hS.own 1 rfl).slr rfl (fun _ _ => rfl)), ((hS.own 2 rfl).slr rfl (fun _ _ => rfl)), ((hS.own 3 rfl).slr rfl (fun _ _ => rfl))⟩ : RGPlan _ [.int .i64 r1689.Id, .bool r1689.Mobile, u1690, u1691, u1692, .int .i64 r1689.Events, u1693] r1689) hr1701) rfl (by kernel_rfl) (fun v w hv => .inl (ChgF.of_ext (by obtain ⟨_, hE0⟩ := hv; exact hE0))) ?_
        clear H; intro x1704 w1702 hv; clear a; intro a H; obtain ⟨rfl, hE1703⟩ := hv
        replace hS := hS.ext hE1703
        replace hW := Nat.le_trans hW hE1703.size
        refine k_takeT 21 H rfl (q_pickT rfl rfl) rfl (by kernel_rfl) (by kernel_rfl) (by kernel_rfl) (by kernel_rfl) (fun _ _ _ h => h) ?_; clear H a; intro a H
        refine k_takeT 22 H rfl (q_assign rfl) rfl (by kernel_rfl) (by kernel_rfl) (by kernel_rfl) (by kernel_rfl) (fun _ _ _ h => h) ?_; clear H a; intro a H
        refine k_done (by kernel_rfl) ?_
        refine then_normal (wp_ret ?_)
        obtain rfl := Option.some.inj hm
        replace hS := hS.tk0
        refine ret1 H (.inr rfl) rfl rfl ?_
        exact ⟨rfl, hS.x⟩
      · replace H := H.know 113 rfl hg1676
        replace hm := condF hm hg1676
        refine k_no 14 H rfl rfl rfl (by decide) rfl (by kernel_rfl) (by kernel_rfl) (by kernel_rfl) (by kernel_rfl) (fun _ _ _ h => h) ?_; clear H a; intro a H
        refine k_no 15 H rfl rfl rfl (by decide) rfl (by kernel_rfl) (by kernel_rfl) (by kernel_rfl) (by kernel_rfl) (fun _ _ _ h => h) ?_; clear H a; intro a H
        refine k_no 17 H rfl rfl rfl (by decide) rfl (by kernel_rfl) (by kernel_rfl) (by kernel_rfl) (by kernel_rfl) (fun _ _ _ h => h) ?_; clear H a; intro a H
        refine k_no 18 H rfl rfl rfl (by decide) rfl (by kernel_rfl) (by kernel_rfl) (by kernel_rfl) (by kernel_rfl) (fun _ _ _ h => h) ?_; clear H a; intro a H
        refine k_no 16 H rfl rfl rfl (by decide) rfl (by kernel_rfl) (by kernel_rfl) (by kernel_rfl) (by kernel_rfl) (fun _ _ _ h => h) ?_; clear H a; intro a H
        refine k_no 19 H rfl rfl rfl (by decide) rfl (by kernel_rfl) (by kernel_rfl) (by kernel_rfl) (by kernel_rfl) (fun _ _ _ h => h) ?_; clear H a; intro a H
        refine k_no 20 H rfl rfl rfl (by decide) rfl (by kernel_rfl) (by kernel_rfl) (by kernel_rfl) (by kernel_rfl) (fun _ _ _ h => h) ?_; clear H a; intro a H
        refine k_takeT 21 H rfl (q_pickF rfl rfl) rfl (by kernel_rfl) (by kernel_rfl) (by kernel_rfl) (by kernel_rfl) (fun _ _ _ h => h) ?_; clear H a; intro a H
        refine k_takeT 22 H rfl (q_assign rfl) rfl (by kernel_rfl) (by kernel_rfl) (by kernel_rfl) (by kernel_rfl) (fun _ _ _ h => h) ?_; clear H a; intro a H
        refine k_done (by kernel_rfl) ?_
        refine then_normal (wp_ret ?_)
        obtain rfl := Option.some.inj hm
        replace hS := hS.tk0
        refine ret1 H (.inr rfl) rfl rfl ?_
        exact ⟨rfl, hS.x⟩
end Go.Proofs.YtpnmaabhjgiggaaDoor
