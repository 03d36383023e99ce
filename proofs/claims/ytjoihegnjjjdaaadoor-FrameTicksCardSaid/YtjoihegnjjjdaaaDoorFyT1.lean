/- Fy (written by wip/tools) -/
import Derived.Test.YtjoihegnjjjdaaaDoorFyC
set_option linter.unusedVariables false
set_option linter.unusedSimpArgs false
set_option maxRecDepth 10000
namespace Go.Proofs.YtjoihegnjjjdaaaDoor
open Go Go.RowKit
theorem en11 : entersB Tryd.prog 11 = true := by kernel_rfl
theorem en18 : entersB Tryd.prog 18 = true := by kernel_rfl
theorem en36 : entersB Tryd.prog 36 = true := by kernel_rfl
theorem en39 : entersB Tryd.prog 39 = true := by kernel_rfl
theorem en40 : entersB Tryd.prog 40 = true := by kernel_rfl
theorem fo31_0 : fOff Tryd.prog 31 0 = some 0 := by kernel_rfl

theorem g_frame_Idle_w {w : World} {A : Nat → Addr} {cs0 : List Value} {a0 : GConfig} (hG : EV A w) (h0 : RGConfig w cs0 a0) {r : Int × ErrM} (hm : g_frame_Idle a0 = some r) :
    Calls Tryd.prog 36 [.agg cs0.toArray].toArray w (Ret fun u w' => ∃ h_0, u = .tuple #[.int .i64 r.1, h_0] ∧ St NB w w' [erQ A h_0 r.2]) := by
  obtain ⟨vp0_0, vp0_1, vp0_2, vp0_3, rfl, hrp0_0, hrp0_1, hrp0_2, hrp0_3⟩ := h0
  have hS := St.begin NB w
  unfold g_frame_Idle at hm
  refine enter Tryd.func36 rfl rfl rfl ?_; intro a H; dsimp only [enumL, Nat.zero_add, Nat.reduceAdd] at H
  refine wp_seq (wp_region_lit (n_box H rfl (cs := [.int .i64 a0.Ticks, vp0_0, vp0_1, vp0_2, vp0_3, .int .i64 a0.Tries]) rfl rfl ?_))
  clear H; intro b21 w22 hN hE23 hs; clear a; intro a H
  replace hS := hS.newBlk hN hE23 hs; clear hN hs
  refine n_q H (q_assign rfl) rfl (W_q (q_assign rfl) rfl ?_); clear H a; intro a H
  refine n_nil (then_normal (wp_seq (wp_seq (wp_region_lit (n_q H (q_load rfl ((hS.blk 0 rfl).ldAll ag27 sz27)) rfl ?_))))); clear H a; intro a H
  replace hm := bindS hm; obtain ⟨r24, hr24, hm⟩ := hm
  refine n_call H rfl en35 (g_frame_Check_w (A := A) (hG.ext hS.x) (⟨_, _, _, _, rfl, (hrp0_0.ext RGPlan.mono hS.x), (hrp0_1.ext (Flat.mono _) hS.x), (hrp0_2.ext (Flat.mono _) hS.x), (hrp0_3.ext (Flat.mono _) hS.x)⟩ : RGConfig _ [.int .i64 a0.Ticks, vp0_0, vp0_1, vp0_2, vp0_3, .int .i64 a0.Tries] a0) hr24) rfl ?_
  clear H; intro u25 w27 hv; clear a; intro a H; obtain ⟨_, rfl, hE28⟩ := hv
  replace hS := hS.new hE28; simp only [List.cons_append, List.nil_append] at hS
  refine n_q H (q_cast (q_nnilI Tryd.underlying36 rfl rfl (hS.any 0 rfl : IsE A w27 u25 r24).form) (show _ = Value.bool (!decide (r24 = .nil)) by rw [IsErr.isNil (hS.any 0 rfl : IsE A w27 u25 r24)])) rfl ?_; clear H a; intro a H
  refine n_nil (then_normal (c_cond H rfl (fun hc30 => ?_) (fun hc30 => ?_)))
  · replace hm := condT hm hc30
    refine wp_seq (c_quiet (by kernel_rfl) (by kernel_rfl) ?_)
    refine qq_q H (q_load rfl ((hG.ext hS.x).ld gPlan (by decide) ag36)) rfl ?_; clear H a; intro a H
    refine qq_q H (q_assign rfl) rfl ?_; clear H a; intro a H
    refine qq_q H (q_assign rfl) rfl ?_; clear H a; intro a H
    refine qq_nil ?_; intro w31 hE32
    replace hS := hS.ext hE32
    refine then_normal (wp_ret (then_ret ?_))
    obtain rfl := Option.some.inj hm
    replace hS := hS.dVar (A := A) (g := gPlan) (by decide)
    replace hS := hS.take 1; simp only [List.take_succ_cons, List.take_zero] at hS
    refine ret2 H (.inr rfl) rfl rfl rfl ?_
    exact ⟨_, rfl, hS⟩
  · replace hm := condF hm hc30
    refine wp_skip (then_normal (wp_seq (c_quiet (by kernel_rfl) (by kernel_rfl) ?_)))
    refine qq_q H (q_fieldAddr0 rfl fo27_0) rfl ?_; clear H a; intro a H
    refine qq_q H (q_load rfl ((hS.blk 1 rfl).ld ag3 rfl)) rfl ?_; clear H a; intro a H
    refine qq_q H (q_fieldAddr0 rfl fo27_3) rfl ?_; clear H a; intro a H
    refine qq_q H (q_load rfl ((hS.blk 1 rfl).ld ag24 rfl)) rfl ?_; clear H a; intro a H
    replace hm := bindS hm; obtain ⟨r34, hr34, hm⟩ := hm
    refine qq_call H rfl en71 (fun w' hw => g_frame_sum_w (A := A) ((hrp0_2.ext (Flat.mono _) hS.x).ext (Flat.mono _) hw) hr34) rfl ?_; clear H a; intro a H
    refine qq_q H (q_subW rfl rfl) rfl ?_; clear H a; intro a H
    refine qq_q H (q_assign rfl) rfl ?_; clear H a; intro a H
    refine qq_q H (q_assign rfl) rfl ?_; clear H a; intro a H
    refine qq_nil ?_; intro w35 hE36
    replace hS := hS.ext hE36
    refine then_normal (wp_ret ?_)
    obtain rfl := Option.some.inj hm
    replace hS := hS.dNil (A := A)
    replace hS := hS.take 1; simp only [List.take_succ_cons, List.take_zero] at hS
    refine ret2 H (.inr rfl) rfl rfl rfl ?_
    exact ⟨_, rfl, hS⟩
theorem g_law14_walks_w {w : World} {A : Nat → Addr} {cs0 : List Value} {a0 : GConfig} {a1 : Int} {v2 : Value} {a2 : List GWindow} (hG : EV A w) (h0 : RGConfig w cs0 a0) (h2 : SlR w 3 (Flat eGWindow) v2 a2) {r : Bool} (hm : g_law14_walks a0 a1 a2 = some r) :
    Calls Tryd.prog 39 [.agg cs0.toArray, .int .i64 a1, v2].toArray w (Ret fun u w' => u = .bool r ∧ Ext w w') := by
  obtain ⟨vp0_0, vp0_1, vp0_2, vp0_3, rfl, hrp0_0, hrp0_1, hrp0_2, hrp0_3⟩ := h0
  have hS := St.begin NB w
  unfold g_law14_walks at hm
  refine enter Tryd.func39 rfl rfl rfl ?_; intro a H; dsimp only [enumL, Nat.zero_add, Nat.reduceAdd] at H
  refine wp_seq (wp_region_lit (n_box H rfl (cs := [.int .i64 a0.Ticks, vp0_0, vp0_1, vp0_2, vp0_3, .int .i64 a0.Tries]) rfl rfl ?_))
  clear H; intro b21 w22 hN hE23 hs; clear a; intro a H
  replace hS := hS.newBlk hN hE23 hs; clear hN hs
  refine n_q H (q_assign rfl) rfl ?_; clear H a; intro a H
  refine n_nil (then_normal (wp_seq (wp_region_lit (n_q H (q_assign rfl) rfl ?_)))); clear H a; intro a H
  refine n_nil (then_normal (wp_seq (wp_seq (wp_region_lit (n_q H (q_assign rfl) rfl ?_))))); clear H a; intro a H
  refine n_nil (then_normal (wp_block ?_))
  replace hm := bindS hm; obtain ⟨q24, hm, hm24⟩ := hm; replace hm := iter_some hm; obtain ⟨n24, hm⟩ := hm
  refine c_loop (σ := Nat × Int × Nat) (fun (m, z27, i26) => [(1, .int .i64 a1), (2, v2), (3, .pointer (some ⟨b21, 0, none⟩)), (7, .int .i64 z27), (8, .int .i64 ((i26 : Nat) : Int))]) (fun (m, z27, i26) wl => iterN (g_law14_walks_L17 a0 a1 a2) m (z27, i26) = some q24 ∧ St NB w wl [blkR b21 [.int .i64 a0.Ticks, vp0_0, vp0_1, vp0_2, vp0_3, .int .i64 a0.Tries] 27]) (fun (m, z27, i26) => m) (n24, 0, 0) H ⟨rfl, rfl, rfl, rfl, rfl, trivial⟩ ⟨hm, hS⟩ ?_
  clear H hS hm a; intro xx a w28 H hR; obtain ⟨m, z27, i26⟩ := xx; simp only [ent, List.map_cons, List.map_nil] at H; (try dsimp only at hR); obtain ⟨hm, hS⟩ := hR
  replace hm := iterN_step hm; obtain ⟨m24, o24, rfl, hm, hn24⟩ := hm; try dsimp only [g_law14_walks_L17] at hm
  refine wp_seq (wp_seq (wp_region_lit (n_q H (q_move rfl) rfl (W_q (q_move rfl) rfl ?_)))); clear H a; intro a H
  obtain ⟨A29, c29, hv29, hl29, hm29⟩ := SlR.formV (h2.ext (Flat.mono _) hS.x)
  refine n_q H (q_lenV Tryd.underlying24 rfl hv29) rfl (W_q (q_lssN (i := i26) (j := a2.length) rfl rfl) rfl ?_); clear H a; intro a H
  refine n_nil (then_normal (c_cond H rfl (fun hc30 => ?_) (fun hc30 => ?_)))
  · replace hm := condT hm hc30
    have hlt31 : i26 < a2.length := of_decide_eq_true hc30
    refine wp_skip (then_normal (wp_seq (wp_block (wp_seq (wp_region_lit (n_q H (q_load rfl ((hS.blk 0 rfl).ldAll ag27 sz27)) rfl (W_q (q_move rfl) rfl (W_q (q_move rfl) rfl ?_)))))))); clear H a; intro a H
    replace hm := bindS hm; obtain ⟨r32, hr32, hm⟩ := hm
    refine n_call H rfl en41 (g_frame_Next_w (A := A) (hG.ext hS.x) (⟨_, _, _, _, rfl, (hrp0_0.ext RGPlan.mono hS.x), (hrp0_1.ext (Flat.mono _) hS.x), (hrp0_2.ext (Flat.mono _) hS.x), (hrp0_3.ext (Flat.mono _) hS.x)⟩ : RGConfig _ [.int .i64 a0.Ticks, vp0_0, vp0_1, vp0_2, vp0_3, .int .i64 a0.Tries] a0) hr32) rfl ?_
    clear H; intro x37 w35 hv; clear a; intro a H; obtain ⟨u33, rfl, hE36⟩ := hv
    replace hS := hS.new hE36; simp only [List.cons_append, List.nil_append] at hS
    refine n_q H (q_move rfl) rfl (W_q (q_extract rfl rfl) rfl (W_q (q_extract rfl rfl) rfl (W_q (q_assign rfl) rfl (W_q (q_assign rfl) rfl ?_)))); clear H a; intro a H
    refine n_nil (then_normal (wp_seq ?_))
    replace hm := bindS hm; obtain ⟨j38, hm, hm38⟩ := hm
    refine c_join (σ := Bool) H (fun q539 => [(1, .int .i64 a1), (2, v2), (3, .pointer (some ⟨b21, 0, none⟩)), (8, .int .i64 ((i26 : Nat) : Int)), (36, .bool q539)]) (fun q539 wl => (g_law14_walks_J16 a0 a2 i26) q539 = some o24 ∧ St NB w wl [blkR b21 [.int .i64 a0.Ticks, vp0_0, vp0_1, vp0_2, vp0_3, .int .i64 a0.Tries] 27]) ?_ ?_
    · skip
      refine wp_region_lit (n_q H (q_move rfl) rfl (W_q (q_cast (q_nnilI Tryd.underlying36 rfl rfl (hS.any 0 rfl : IsE A w35 u33 r32.2).form) (show _ = Value.bool (!decide (r32.2 = .nil)) by rw [IsErr.isNil (hS.any 0 rfl : IsE A w35 u33 r32.2)])) rfl (W_q (q_move rfl) rfl ?_))); clear H a; intro a H
      rcases Bool.eq_false_or_eq_true (!decide (r32.2 = .nil)) with hg540 | hg540
      · replace H := H.know 28 rfl hg540
        replace hm := condT hm hg540
        refine n_no H rfl rfl (by decide) rfl (W_no rfl rfl (by decide) rfl (W_no rfl rfl (by decide) rfl (W_no rfl rfl (by decide) rfl (W_no rfl rfl (by decide) rfl (W_no rfl rfl (by decide) rfl (W_no rfl rfl (by decide) rfl (W_q (q_pickT rfl rfl) rfl ?_))))))); clear H a; intro a H
        refine n_nil (then_normal ?_)
        obtain rfl := Option.some.inj hm; replace hm := hm38; try dsimp only at hm
        replace hS := hS.pick 1 rfl; dsimp only [List.eraseIdx] at hS
        replace hS := hS.take 1; simp only [List.take_succ_cons, List.take_zero] at hS
        exact join true H ⟨rfl, rfl, rfl, rfl, rfl, trivial⟩ ⟨hm, hS⟩
      · replace H := H.know 28 rfl hg540
        replace hm := condF hm hg540
        refine n_yes H rfl rfl (n_q H (q_move rfl) rfl (W_yes rfl rfl (W_q (q_move rfl) rfl (W_yes rfl rfl (W_q (q_move rfl) rfl (W_yes rfl rfl ?_)))))); clear H a; intro a H
        replace hm := bindS hm; obtain ⟨x541, hx541, hm⟩ := hm
        obtain ⟨adx541, hAx541⟩ := SlR.adV (h2.ext (Flat.mono _) hS.x) hv29 hx541
        refine n_q H (q_ixV (i := i26) Tryd.underlying24 sz105 rfl hv29 hAx541 rfl (natI hx541)) rfl (W_yes rfl rfl (W_q (q_fieldAddr rfl fo105_1) rfl (W_yes rfl rfl (W_q (q_load rfl (SlR.ldCellV (j := 1) (h2.ext (Flat.mono _) hS.x) hv29 hAx541 ag3 hx541 rfl)) rfl (W_yes rfl rfl (W_q (q_neqD rfl rfl) rfl (W_q (q_pickF rfl rfl) rfl ?_))))))); clear H a; intro a H
        refine n_nil (then_normal ?_)
        obtain rfl := Option.some.inj hm; replace hm := hm38; try dsimp only at hm
        replace hS := hS.pick 1 rfl; dsimp only [List.eraseIdx] at hS
        replace hS := hS.take 1; simp only [List.take_succ_cons, List.take_zero] at hS
        exact join (!decide (r32.1 = x541.Start)) H ⟨rfl, rfl, rfl, rfl, rfl, trivial⟩ ⟨hm, hS⟩
    · clear H hS hm a; intro q539 a w542 H hR
      simp only [ent, List.map_cons, List.map_nil] at H; (try dsimp only at hR); obtain ⟨hm, hS⟩ := hR; try dsimp only [g_law14_walks_J16] at hm
      refine c_cond H rfl (fun hc543 => ?_) (fun hc543 => ?_)
      · replace hm := condT hm hc543
        refine wp_seq (wp_region_lit (n_q H (q_assign rfl) rfl ?_)); clear H a; intro a H
        refine n_nil (then_normal (wp_ret (then_ret (block_ret (then_ret (then_ret (block_ret (then_ret ?_))))))))
        obtain rfl := Option.some.inj hm; have hz : _ = q24 := hn24; subst hz; replace hm := hm24; try dsimp only at hm
        obtain rfl := Option.some.inj hm
        replace hS := hS.take 0; simp only [List.take_succ_cons, List.take_zero] at hS
        refine ret1 H (.inr rfl) rfl rfl ?_
        exact ⟨rfl, hS.x⟩
      · replace hm := condF hm hc543
        refine wp_skip (then_normal (wp_seq (c_quiet (by kernel_rfl) (by kernel_rfl) ?_)))
        refine qq_q H (q_move rfl) rfl ?_; clear H a; intro a H
        refine qq_q H (q_move rfl) rfl ?_; clear H a; intro a H
        replace hm := bindS hm; obtain ⟨x544, hx544, hm⟩ := hm
        obtain ⟨adx544, hAx544⟩ := SlR.adV (h2.ext (Flat.mono _) hS.x) hv29 hx544
        refine qq_q H (q_ixV (i := i26) Tryd.underlying24 sz105 rfl hv29 hAx544 rfl (natI hx544)) rfl ?_; clear H a; intro a H
        refine qq_q H (q_fieldAddr rfl fo105_1) rfl ?_; clear H a; intro a H
        refine qq_q H (q_load rfl (SlR.ldCellV (j := 1) (h2.ext (Flat.mono _) hS.x) hv29 hAx544 ag3 hx544 rfl)) rfl ?_; clear H a; intro a H
        refine qq_q H (q_move rfl) rfl ?_; clear H a; intro a H
        refine qq_q H (q_move rfl) rfl ?_; clear H a; intro a H
        replace hm := bindS hm; obtain ⟨x545, hx545, hm⟩ := hm
        obtain ⟨adx545, hAx545⟩ := SlR.adV (h2.ext (Flat.mono _) hS.x) hv29 hx545
        refine qq_q H (q_ixV (i := i26) Tryd.underlying24 sz105 rfl hv29 hAx545 rfl (natI hx545)) rfl ?_; clear H a; intro a H
        refine qq_q H (q_fieldAddr rfl fo105_2) rfl ?_; clear H a; intro a H
        refine qq_q H (q_load rfl (SlR.ldCellV (j := 2) (h2.ext (Flat.mono _) hS.x) hv29 hAx545 ag3 hx545 rfl)) rfl ?_; clear H a; intro a H
        refine qq_q H (q_addW rfl rfl) rfl ?_; clear H a; intro a H
        refine qq_q H (q_assign rfl) rfl ?_; clear H a; intro a H
        refine qq_nil ?_; intro w546 hE547
        replace hS := hS.ext hE547
        refine then_normal (wp_seq (wp_region_lit (n_q H (q_move rfl) rfl (W_q (q_fieldAddr0 rfl fo27_0) rfl (W_q (q_load rfl ((hS.blk 0 rfl).ld ag3 rfl)) rfl (W_q (q_geq rfl rfl) rfl ?_)))))); clear H a; intro a H
        refine n_nil (then_normal (c_cond H rfl (fun hc548 => ?_) (fun hc548 => ?_)))
        · replace hm := condT hm hc548
          refine wp_seq (wp_region_lit (n_q H (q_move rfl) rfl (W_q (q_incr (i := i26) (j := 1) rfl rfl (by omega)) rfl (W_q (q_move rfl) rfl (W_q (q_lenV Tryd.underlying24 rfl hv29) rfl (W_q (q_eqlN (i := (i26 + 1)) (j := a2.length) rfl rfl) rfl (W_q (q_assign rfl) rfl ?_))))))); clear H a; intro a H
          refine n_nil (then_normal (wp_ret (block_ret (then_ret (then_ret (block_ret (then_ret ?_)))))))
          obtain rfl := Option.some.inj hm; have hz : _ = q24 := hn24; subst hz; replace hm := hm24; try dsimp only at hm
          obtain rfl := Option.some.inj hm
          replace hS := hS.take 0; simp only [List.take_succ_cons, List.take_zero] at hS
          refine ret1 H (.inr rfl) rfl rfl ?_
          exact ⟨rfl, hS.x⟩
        · replace hm := condF hm hc548
          refine wp_skip (block_normal (then_normal (wp_region_lit (n_q H (q_move rfl) rfl (W_q (q_incr (i := i26) (j := 1) rfl rfl (by omega)) rfl (W_q (q_assign rfl) rfl ?_)))))); clear H a; intro a H
          refine n_nil (then_normal ?_)
          obtain rfl := Option.some.inj hm
          exact round (m24, (IntKind.i64.wrap (x544.Start + x545.Len)), i26 + 1) H ⟨rfl, rfl, rfl, rfl, rfl, trivial⟩ ⟨hn24, hS⟩ (Nat.lt_succ_self _)
  · replace hm := condF hm hc30
    refine wp_exit (then_exit (then_exit (block_exit ?_)))
    obtain rfl := Option.some.inj hm; have hz : _ = q24 := hn24; subst hz; replace hm := hm24; try dsimp only at hm
    refine then_normal (wp_seq (wp_region_lit (n_q H (q_load rfl ((hS.blk 0 rfl).ldAll ag27 sz27)) rfl (W_q (q_move rfl) rfl (W_q (q_move rfl) rfl ?_))))); clear H a; intro a H
    replace hm := bindS hm; obtain ⟨r549, hr549, hm⟩ := hm
    refine n_call H rfl en41 (g_frame_Next_w (A := A) (hG.ext hS.x) (⟨_, _, _, _, rfl, (hrp0_0.ext RGPlan.mono hS.x), (hrp0_1.ext (Flat.mono _) hS.x), (hrp0_2.ext (Flat.mono _) hS.x), (hrp0_3.ext (Flat.mono _) hS.x)⟩ : RGConfig _ [.int .i64 a0.Ticks, vp0_0, vp0_1, vp0_2, vp0_3, .int .i64 a0.Tries] a0) hr549) rfl ?_
    clear H; intro x554 w552 hv; clear a; intro a H; obtain ⟨u550, rfl, hE553⟩ := hv
    replace hS := hS.new hE553; simp only [List.cons_append, List.nil_append] at hS
    refine n_q H (q_move rfl) rfl (W_q (q_extract rfl rfl) rfl (W_q (q_extract rfl rfl) rfl (W_q (q_assign rfl) rfl (W_q (q_assign rfl) rfl ?_)))); clear H a; intro a H
    refine n_nil (then_normal (wp_seq (wp_region_lit (n_q H (q_move rfl) rfl ?_)))); clear H a; intro a H
    refine n_call H rfl en23 (code_w (hG.ext hS.x) (hS.any 0 rfl : IsE A w552 u550 r549.2)) rfl ?_
    clear H; intro x557 w555 hv; clear a; intro a H; obtain ⟨rfl, hE556⟩ := hv; replace hS := hS.ext hE556
    refine n_q H (q_eqlD rfl rfl) rfl (W_q (q_assign rfl) rfl ?_); clear H a; intro a H
    refine n_nil (then_normal (wp_ret ?_))
    obtain rfl := Option.some.inj hm
    replace hS := hS.take 0; simp only [List.take_succ_cons, List.take_zero] at hS
    refine ret1 H (.inr rfl) rfl rfl ?_
    exact ⟨rfl, hS.x⟩
theorem g_frame_At_w {w : World} {A : Nat → Addr} {cs0 : List Value} {a0 : GConfig} {a1 : Int} (hG : EV A w) (h0 : RGConfig w cs0 a0) {r : Int × ErrM} (hm : g_frame_At a0 a1 = some r) :
    Calls Tryd.prog 40 [.agg cs0.toArray, .int .i64 a1].toArray w (Ret fun u w' => ∃ h_0, u = .tuple #[.int .i64 r.1, h_0] ∧ St NB w w' [erQ A h_0 r.2]) := by
  obtain ⟨vp0_0, vp0_1, vp0_2, vp0_3, rfl, hrp0_0, hrp0_1, hrp0_2, hrp0_3⟩ := h0
  have hS := St.begin NB w
  unfold g_frame_At at hm
  refine enter Tryd.func40 rfl rfl rfl ?_; intro a H; dsimp only [enumL, Nat.zero_add, Nat.reduceAdd] at H
  refine wp_seq (wp_region_lit (n_box H rfl (cs := [.int .i64 a0.Ticks, vp0_0, vp0_1, vp0_2, vp0_3, .int .i64 a0.Tries]) rfl rfl ?_))
  clear H; intro b21 w22 hN hE23 hs; clear a; intro a H
  replace hS := hS.newBlk hN hE23 hs; clear hN hs
  refine n_q H (q_assign rfl) rfl (W_q (q_assign rfl) rfl ?_); clear H a; intro a H
  refine n_nil (then_normal (wp_seq (wp_seq (wp_region_lit (n_q H (q_load rfl ((hS.blk 0 rfl).ldAll ag27 sz27)) rfl ?_))))); clear H a; intro a H
  replace hm := bindS hm; obtain ⟨r24, hr24, hm⟩ := hm
  refine n_call H rfl en35 (g_frame_Check_w (A := A) (hG.ext hS.x) (⟨_, _, _, _, rfl, (hrp0_0.ext RGPlan.mono hS.x), (hrp0_1.ext (Flat.mono _) hS.x), (hrp0_2.ext (Flat.mono _) hS.x), (hrp0_3.ext (Flat.mono _) hS.x)⟩ : RGConfig _ [.int .i64 a0.Ticks, vp0_0, vp0_1, vp0_2, vp0_3, .int .i64 a0.Tries] a0) hr24) rfl ?_
  clear H; intro u25 w27 hv; clear a; intro a H; obtain ⟨_, rfl, hE28⟩ := hv
  replace hS := hS.new hE28; simp only [List.cons_append, List.nil_append] at hS
  refine n_q H (q_cast (q_nnilI Tryd.underlying36 rfl rfl (hS.any 0 rfl : IsE A w27 u25 r24).form) (show _ = Value.bool (!decide (r24 = .nil)) by rw [IsErr.isNil (hS.any 0 rfl : IsE A w27 u25 r24)])) rfl ?_; clear H a; intro a H
  refine n_nil (then_normal (c_cond H rfl (fun hc30 => ?_) (fun hc30 => ?_)))
  · replace hm := condT hm hc30
    refine wp_seq (c_quiet (by kernel_rfl) (by kernel_rfl) ?_)
    refine qq_q H (q_load rfl ((hG.ext hS.x).ld gPlan (by decide) ag36)) rfl ?_; clear H a; intro a H
    refine qq_q H (q_assign rfl) rfl ?_; clear H a; intro a H
    refine qq_q H (q_assign rfl) rfl ?_; clear H a; intro a H
    refine qq_nil ?_; intro w31 hE32
    replace hS := hS.ext hE32
    refine then_normal (wp_ret (then_ret ?_))
    obtain rfl := Option.some.inj hm
    replace hS := hS.dVar (A := A) (g := gPlan) (by decide)
    replace hS := hS.take 1; simp only [List.take_succ_cons, List.take_zero] at hS
    refine ret2 H (.inr rfl) rfl rfl rfl ?_
    exact ⟨_, rfl, hS⟩
  · replace hm := condF hm hc30
    refine wp_skip (then_normal (wp_seq (wp_seq (wp_region_lit (n_c H (fun HC => ?_)))))); clear H
    refine nc_q HC (q_move rfl) rfl (by kernel_rfl) (V_q (q_lss rfl rfl) rfl (by kernel_rfl) (V_q (q_move rfl) rfl (by kernel_rfl) (V_g (q_move rfl) (by kernel_rfl) (by kernel_rfl) (by kernel_rfl) (V_g (q_fieldAddr0 rfl fo27_0) (by kernel_rfl) (by kernel_rfl) (by kernel_rfl) (V_g (q_load rfl ((hS.blk 1 rfl).ld ag3 rfl)) (by kernel_rfl) (by kernel_rfl) (by kernel_rfl) (V_g (q_geq rfl rfl) (by kernel_rfl) (by kernel_rfl) (by kernel_rfl) (V_or (j := 2) rfl rfl rfl (by kernel_rfl) (by kernel_rfl) ?_))))))); clear HC a; intro a HC
    have H := HC.has; clear HC
    refine n_nil (then_normal (c_cond H rfl (fun hc34 => ?_) (fun hc34 => ?_)))
    · replace hm := condT hm hc34
      refine wp_seq (c_quiet (by kernel_rfl) (by kernel_rfl) ?_)
      refine qq_q H (q_load rfl ((hG.ext hS.x).ld gArg (by decide) ag36)) rfl ?_; clear H a; intro a H
      refine qq_q H (q_assign rfl) rfl ?_; clear H a; intro a H
      refine qq_q H (q_assign rfl) rfl ?_; clear H a; intro a H
      refine qq_nil ?_; intro w35 hE36
      replace hS := hS.ext hE36
      refine then_normal (wp_ret (then_ret ?_))
      obtain rfl := Option.some.inj hm
      replace hS := hS.dVar (A := A) (g := gArg) (by decide)
      replace hS := hS.take 1; simp only [List.take_succ_cons, List.take_zero] at hS
      refine ret2 H (.inr rfl) rfl rfl rfl ?_
      exact ⟨_, rfl, hS⟩
    · replace hm := condF hm hc34
      refine wp_skip (then_normal (wp_seq (wp_seq (wp_region_lit (n_q H (q_fieldAddr0 rfl fo27_3) rfl (W_q (q_load rfl ((hS.blk 1 rfl).ld ag24 rfl)) rfl ?_)))))); clear H a; intro a H
      obtain ⟨A38, c38, hv38, hl38, hm38⟩ := SlR.formV (hrp0_2.ext (Flat.mono _) hS.x)
      refine n_q H (q_lenV Tryd.underlying24 rfl hv38) rfl (W_q (q_move rfl) rfl ?_); clear H a; intro a H
      refine n_nil (then_normal (wp_block ?_))
      replace hS := hS.take 0; simp only [List.take_succ_cons, List.take_zero] at hS
      replace hm := bindS hm; obtain ⟨q39, hm, hm39⟩ := hm; replace hm := iter_some hm; obtain ⟨n39, hm⟩ := hm
      refine c_loop (σ := Nat × Nat) (fun (m, i40) => [(1, .int .i64 a1), (22, vp0_2), (23, .int .i64 ((a0.Windows.length : Nat) : Int)), (24, .int .i64 ((i40 : Nat) : Int))]) (fun (m, i40) wl => iterN (g_frame_At_L1 a0 a1) m i40 = some q39 ∧ St NB w wl []) (fun (m, i40) => m) (n39, 0) H ⟨rfl, rfl, rfl, rfl, trivial⟩ ⟨hm, hS⟩ ?_
      clear H hS hm a; intro xx a w41 H hR; obtain ⟨m, i40⟩ := xx; simp only [ent, List.map_cons, List.map_nil] at H; (try dsimp only at hR); obtain ⟨hm, hS⟩ := hR
      replace hm := iterN_step hm; obtain ⟨m39, o39, rfl, hm, hn39⟩ := hm; try dsimp only [g_frame_At_L1] at hm
      refine wp_seq (wp_region_lit (n_q H (q_lssN (i := i40) (j := a0.Windows.length) rfl rfl) rfl ?_)); clear H a; intro a H
      refine n_nil (then_normal (wp_seq (c_cond H rfl (fun hc42 => ?_) (fun hc42 => ?_))))
      · replace hm := condT hm hc42
        have hlt43 : i40 < a0.Windows.length := of_decide_eq_true hc42
        refine wp_skip (then_normal (wp_seq (wp_block (wp_seq (wp_region_lit ?_)))))
        replace hm := bindS hm; obtain ⟨x44, hx44, hm⟩ := hm
        obtain ⟨adx44, hAx44⟩ := SlR.adV (hrp0_2.ext (Flat.mono _) hS.x) hv38 hx44
        refine n_q H (q_ixV (i := i40) Tryd.underlying24 sz105 rfl hv38 hAx44 rfl (natI hx44)) rfl (W_q (q_load rfl (SlR.ldAggV (hrp0_2.ext (Flat.mono _) hS.x) hv38 hAx44 ag105 sz105 hx44)) rfl ?_); clear H a; intro a H
        refine n_alloc H ze105 rfl ?_
        clear H; intro b45 w46 hN hE47 hs; clear a; intro a H
        replace hS := hS.newBlk hN hE47 hs; clear hN hs
        refine n_storeAll H rfl rfl (vs := [.int .i64 x44.Part, .int .i64 x44.Start, .int .i64 x44.Len]) rfl sz105 (hS.blk 0 rfl) rfl (by simp) ?_
        clear H; intro w48 hN hC49 hz; clear a; intro a H; replace hS := hS.setBlk hN hC49; clear hN hz
        refine n_nil (then_normal (wp_seq (wp_region_lit (n_c H (fun HC => ?_))))); clear H
        refine nc_q HC (q_move rfl) rfl (by kernel_rfl) (V_q (q_fieldAddr0 rfl fo105_1) rfl (by kernel_rfl) (V_q (q_load rfl ((hS.blk 0 rfl).ld ag3 rfl)) rfl (by kernel_rfl) (V_q (q_geq rfl rfl) rfl (by kernel_rfl) (V_q (q_move rfl) rfl (by kernel_rfl) (V_g (q_move rfl) (by kernel_rfl) (by kernel_rfl) (by kernel_rfl) (V_g (q_fieldAddr0 rfl fo105_1) (by kernel_rfl) (by kernel_rfl) (by kernel_rfl) (V_g (q_load rfl ((hS.blk 0 rfl).ld ag3 rfl)) (by kernel_rfl) (by kernel_rfl) (by kernel_rfl) (V_g (q_fieldAddr0 rfl fo105_2) (by kernel_rfl) (by kernel_rfl) (by kernel_rfl) (V_g (q_load rfl ((hS.blk 0 rfl).ld ag3 rfl)) (by kernel_rfl) (by kernel_rfl) (by kernel_rfl) (V_g (q_addW rfl rfl) (by kernel_rfl) (by kernel_rfl) (by kernel_rfl) (V_g (q_lss rfl rfl) (by kernel_rfl) (by kernel_rfl) (by kernel_rfl) ?_))))))))))); clear HC a; intro a HC
        refine nc_and (j := 4) HC rfl rfl rfl (by kernel_rfl) (by kernel_rfl) ?_; clear HC a; intro a HC
        have H := HC.has; clear HC
        refine n_nil (then_normal (c_cond H rfl (fun hc50 => ?_) (fun hc50 => ?_)))
        · replace hm := condT hm hc50
          refine wp_seq (wp_region_lit (n_q H (q_fieldAddr0 rfl fo105_0) rfl (W_q (q_load rfl ((hS.blk 0 rfl).ld ag3 rfl)) rfl (W_q (q_assign rfl) rfl (W_q (q_assign rfl) rfl ?_))))); clear H a; intro a H
          refine n_nil (then_normal (wp_ret (block_ret (then_ret (then_ret (block_ret (then_ret ?_)))))))
          obtain rfl := Option.some.inj hm; have hz : _ = q39 := hn39; subst hz; replace hm := hm39; try dsimp only at hm
          obtain rfl := Option.some.inj hm
          replace hS := hS.dNil (A := A)
          replace hS := hS.take 1; simp only [List.take_succ_cons, List.take_zero] at hS
          refine ret2 H (.inr rfl) rfl rfl rfl ?_
          exact ⟨_, rfl, hS⟩
        · replace hm := condF hm hc50
          refine wp_skip (block_normal (then_normal (wp_region_lit (n_q H (q_incr (i := i40) (j := 1) rfl rfl (by omega)) rfl (W_q (q_move rfl) rfl ?_))))); clear H a; intro a H
          refine n_nil (then_normal ?_)
          obtain rfl := Option.some.inj hm
          replace hS := hS.take 0; simp only [List.take_succ_cons, List.take_zero] at hS
          exact round (m39, i40 + 1) H ⟨rfl, rfl, rfl, rfl, trivial⟩ ⟨hn39, hS⟩ (Nat.lt_succ_self _)
      · replace hm := condF hm hc42
        refine wp_exit (then_exit (then_exit (block_exit ?_)))
        obtain rfl := Option.some.inj hm; have hz : _ = q39 := hn39; subst hz; replace hm := hm39; try dsimp only at hm
        refine then_normal (wp_seq (c_quiet (by kernel_rfl) (by kernel_rfl) ?_))
        refine qq_q H (q_load rfl ((hG.ext hS.x).ld gNone (by decide) ag36)) rfl ?_; clear H a; intro a H
        refine qq_q H (q_assign rfl) rfl ?_; clear H a; intro a H
        refine qq_q H (q_assign rfl) rfl ?_; clear H a; intro a H
        refine qq_nil ?_; intro w52 hE53
        replace hS := hS.ext hE53
        refine then_normal (wp_ret ?_)
        obtain rfl := Option.some.inj hm
        replace hS := hS.dVar (A := A) (g := gNone) (by decide)
        refine ret2 H (.inr rfl) rfl rfl rfl ?_
        exact ⟨_, rfl, hS⟩
set_option maxHeartbeats 1000000 in
theorem g_law14_FrameTicks_w {w : World} {A : Nat → Addr} {cs0 : List Value} {a0 : GL14Case} (hG : EV A w) (hH : HE w) (h0 : RGL14Case w cs0 a0) {r : Bool} (hm : g_law14_FrameTicks a0 = some r) :
    Calls Tryd.prog 8 [.agg cs0.toArray].toArray w (Ret fun u w' => u = .bool r ∧ Ext w w') := by
  obtain ⟨vp0_0, vp0_1, vp0_2, vp0_3, vp0_4, vp0_5, vp0_6, vp0_7, vp0_8, vp0_9, vp0_10, rfl, hrp0_0, hrp0_1, hrp0_2, hrp0_3, hrp0_4, hrp0_5, hrp0_6, hrp0_7, hrp0_8, hrp0_9, hrp0_10⟩ := h0
  have hS := St.begin NB w
  unfold g_law14_FrameTicks at hm
  refine enter Tryd.func8 rfl rfl rfl ?_; intro a H; dsimp only [enumL, Nat.zero_add, Nat.reduceAdd] at H
  refine wp_seq (wp_region_lit (n_box H rfl (cs := [.int .i64 a0.C.Ticks, vp0_0, vp0_1, vp0_2, vp0_3, .int .i64 a0.C.Tries, .int .i64 a0.D.Ticks, vp0_4, vp0_5, vp0_6, vp0_7, .int .i64 a0.D.Tries, vp0_8, vp0_9, vp0_10]) rfl rfl ?_))
  clear H; intro b21 w22 hN hE23 hs; clear a; intro a H
  replace hS := hS.newBlk hN hE23 hs; clear hN hs
  refine n_q H (q_assign rfl) rfl ?_; clear H a; intro a H
  refine n_nil (then_normal (wp_seq (wp_seq (wp_region_lit ?_))))
  replace hm := bindS hm; obtain ⟨r24, hr24, hm⟩ := hm
  refine n_call H rfl en11 (g_law14_fixed_w (A := A) (hG.ext hS.x) (hH.ext hS.x) hr24) rfl ?_
  clear H; intro x27 w25 hv; clear a; intro a H; obtain ⟨rfl, hE26⟩ := hv
  replace hS := hS.ext hE26
  refine n_q H (q_not rfl) rfl ?_; clear H a; intro a H
  refine n_nil (then_normal (c_cond H rfl (fun hc28 => ?_) (fun hc28 => ?_)))
  · replace hm := condT hm hc28
    refine wp_seq (wp_region_lit (n_q H (q_assign rfl) rfl ?_)); clear H a; intro a H
    refine n_nil (then_normal (wp_ret (then_ret ?_)))
    obtain rfl := Option.some.inj hm
    replace hS := hS.take 0; simp only [List.take_succ_cons, List.take_zero] at hS
    refine ret1 H (.inr rfl) rfl rfl ?_
    exact ⟨rfl, hS.x⟩
  · replace hm := condF hm hc28
    refine wp_skip (then_normal (wp_seq (wp_region_lit (n_q H (q_fieldAddr0 rfl fo31_0) rfl (W_q (q_load rfl ((hS.blk 0 rfl).ldPart 0 6 ag27 sz27 (by simp))) rfl ?_))))); clear H a; intro a H
    refine n_alloc H ze27 rfl ?_
    clear H; intro b29 w30 hN hE31 hs; clear a; intro a H
    replace hS := hS.newBlk hN hE31 hs; clear hN hs
    refine n_storeAll H rfl rfl (vs := [.int .i64 a0.C.Ticks, vp0_0, vp0_1, vp0_2, vp0_3, .int .i64 a0.C.Tries]) rfl sz27 (hS.blk 0 rfl) rfl (by simp [((hrp0_0.ext RGPlan.mono hS.x)).one, ((hrp0_1.ext (Flat.mono _) hS.x)).one, ((hrp0_2.ext (Flat.mono _) hS.x)).one, ((hrp0_3.ext (Flat.mono _) hS.x)).one]) ?_
    clear H; intro w32 hN hC33 hz; clear a; intro a H; replace hS := hS.setBlk hN hC33; clear hN hz
    refine n_nil (then_normal (wp_seq (wp_seq (wp_region_lit (n_q H (q_load rfl ((hS.blk 0 rfl).ldAll ag27 sz27)) rfl ?_))))); clear H a; intro a H
    replace hm := bindS hm; obtain ⟨r34, hr34, hm⟩ := hm
    refine n_call H rfl en18 (g_r14_Good_w (A := A) (⟨_, _, _, _, rfl, (hrp0_0.ext RGPlan.mono hS.x), (hrp0_1.ext (Flat.mono _) hS.x), (hrp0_2.ext (Flat.mono _) hS.x), (hrp0_3.ext (Flat.mono _) hS.x)⟩ : RGConfig _ [.int .i64 a0.C.Ticks, vp0_0, vp0_1, vp0_2, vp0_3, .int .i64 a0.C.Tries] a0.C) hr34) rfl ?_
    clear H; intro x37 w35 hv; clear a; intro a H; obtain ⟨rfl, hE36⟩ := hv
    replace hS := hS.ext hE36
    refine n_q H (q_not rfl) rfl ?_; clear H a; intro a H
    refine n_nil (then_normal (c_cond H rfl (fun hc38 => ?_) (fun hc38 => ?_)))
    · replace hm := condT hm hc38
      refine wp_seq (wp_region_lit (n_q H (q_load rfl ((hS.blk 0 rfl).ldAll ag27 sz27)) rfl ?_)); clear H a; intro a H
      replace hm := bindS hm; obtain ⟨r39, hr39, hm⟩ := hm
      refine n_call H rfl en35 (g_frame_Check_w (A := A) (hG.ext hS.x) (⟨_, _, _, _, rfl, (hrp0_0.ext RGPlan.mono hS.x), (hrp0_1.ext (Flat.mono _) hS.x), (hrp0_2.ext (Flat.mono _) hS.x), (hrp0_3.ext (Flat.mono _) hS.x)⟩ : RGConfig _ [.int .i64 a0.C.Ticks, vp0_0, vp0_1, vp0_2, vp0_3, .int .i64 a0.C.Tries] a0.C) hr39) rfl ?_
      clear H; intro u40 w42 hv; clear a; intro a H; obtain ⟨_, rfl, hE43⟩ := hv
      replace hS := hS.new hE43; simp only [List.cons_append, List.nil_append] at hS
      refine n_q H (q_cast (q_nnilI Tryd.underlying36 rfl rfl (hS.any 0 rfl : IsE A w42 u40 r39).form) (show _ = Value.bool (!decide (r39 = .nil)) by rw [IsErr.isNil (hS.any 0 rfl : IsE A w42 u40 r39)])) rfl (W_q (q_assign rfl) rfl ?_); clear H a; intro a H
      refine n_nil (then_normal (wp_ret (then_ret ?_)))
      obtain rfl := Option.some.inj hm
      replace hS := hS.take 0; simp only [List.take_succ_cons, List.take_zero] at hS
      refine ret1 H (.inr rfl) rfl rfl ?_
      exact ⟨rfl, hS.x⟩
    · replace hm := condF hm hc38
      refine wp_skip (then_normal (wp_seq (wp_region_lit (n_q H (q_load rfl ((hS.blk 0 rfl).ldAll ag27 sz27)) rfl ?_)))); clear H a; intro a H
      replace hm := bindS hm; obtain ⟨r45, hr45, hm⟩ := hm
      refine n_call H rfl en36 (g_frame_Idle_w (A := A) (hG.ext hS.x) (⟨_, _, _, _, rfl, (hrp0_0.ext RGPlan.mono hS.x), (hrp0_1.ext (Flat.mono _) hS.x), (hrp0_2.ext (Flat.mono _) hS.x), (hrp0_3.ext (Flat.mono _) hS.x)⟩ : RGConfig _ [.int .i64 a0.C.Ticks, vp0_0, vp0_1, vp0_2, vp0_3, .int .i64 a0.C.Tries] a0.C) hr45) rfl ?_
      clear H; intro x50 w48 hv; clear a; intro a H; obtain ⟨u46, rfl, hE49⟩ := hv
      replace hS := hS.new hE49; simp only [List.cons_append, List.nil_append] at hS
      refine n_q H (q_move rfl) rfl (W_q (q_extract rfl rfl) rfl (W_q (q_extract rfl rfl) rfl (W_q (q_assign rfl) rfl (W_q (q_assign rfl) rfl ?_)))); clear H a; intro a H
      refine n_nil (then_normal (wp_seq (wp_seq (wp_region_lit (n_q H (q_move rfl) rfl (W_q (q_cast (q_nnilI Tryd.underlying36 rfl rfl (hS.any 0 rfl : IsE A w48 u46 r45.2).form) (show _ = Value.bool (!decide (r45.2 = .nil)) by rw [IsErr.isNil (hS.any 0 rfl : IsE A w48 u46 r45.2)])) rfl ?_)))))); clear H a; intro a H
      refine n_nil (then_normal (c_cond H rfl (fun hc51 => ?_) (fun hc51 => ?_)))
      · replace hm := condT hm hc51
        refine wp_seq (wp_region_lit (n_q H (q_assign rfl) rfl ?_)); clear H a; intro a H
        refine n_nil (then_normal (wp_ret (then_ret ?_)))
        obtain rfl := Option.some.inj hm
        replace hS := hS.take 0; simp only [List.take_succ_cons, List.take_zero] at hS
        refine ret1 H (.inr rfl) rfl rfl ?_
        exact ⟨rfl, hS.x⟩
      · replace hm := condF hm hc51
        refine wp_skip (then_normal (wp_seq (wp_region_lit (n_q H (q_move rfl) rfl (W_q (q_assign rfl) rfl ?_))))); clear H a; intro a H
        refine n_nil (then_normal (wp_seq (wp_seq (wp_region_lit (n_q H (q_assign rfl) rfl ?_))))); clear H a; intro a H
        refine n_nil (then_normal (wp_block ?_))
        replace hS := hS.pick 1 rfl; dsimp only [List.eraseIdx] at hS
        replace hS := hS.take 1; simp only [List.take_succ_cons, List.take_zero] at hS
        replace hm := bindS hm; obtain ⟨q52, hm, hm52⟩ := hm; replace hm := iter_some hm; obtain ⟨n52, hm⟩ := hm
        refine c_loop (σ := Nat × Int × Int) (fun (m, z53, z54) => [(3, .pointer (some ⟨b29, 0, none⟩)), (4, .int .i64 r45.1), (6, .int .i64 z53), (7, .int .i64 z54)]) (fun (m, z53, z54) wl => iterN (g_law14_FrameTicks_L18 a0) m (z53, z54) = some q52 ∧ St NB w wl [blkR b29 [.int .i64 a0.C.Ticks, vp0_0, vp0_1, vp0_2, vp0_3, .int .i64 a0.C.Tries] 27]) (fun (m, z53, z54) => m) (n52, r45.1, (-1)) H ⟨rfl, rfl, rfl, rfl, trivial⟩ ⟨hm, hS⟩ ?_
        clear H hS hm a; intro xx a w55 H hR; obtain ⟨m, z53, z54⟩ := xx; simp only [ent, List.map_cons, List.map_nil] at H; (try dsimp only at hR); obtain ⟨hm, hS⟩ := hR
        replace hm := iterN_step hm; obtain ⟨m52, o52, rfl, hm, hn52⟩ := hm; try dsimp only [g_law14_FrameTicks_L18] at hm
        refine wp_seq (wp_seq (wp_region_lit (n_q H (q_move rfl) rfl (W_q (q_fieldAddr0 rfl fo27_1) rfl (W_q (q_load rfl ((hS.blk 0 rfl).ld ag22 rfl)) rfl ?_))))); clear H a; intro a H
        obtain ⟨A56, c56, hv56, hl56, hm56⟩ := SlR.formV (hrp0_0.ext RGPlan.mono hS.x)
        refine n_q H (q_lenV Tryd.underlying22 rfl hv56) rfl (W_q (q_lss rfl rfl) rfl ?_); clear H a; intro a H
        refine n_nil (then_normal (c_cond H rfl (fun hc57 => ?_) (fun hc57 => ?_)))
        · replace hm := condT hm hc57
          refine wp_skip (then_normal (wp_seq (wp_block (wp_seq (wp_region_lit (n_q H (q_load rfl ((hS.blk 0 rfl).ldAll ag27 sz27)) rfl (W_q (q_move rfl) rfl ?_))))))); clear H a; intro a H
          replace hm := bindS hm; obtain ⟨r58, hr58, hm⟩ := hm
          refine n_call H rfl en37 (g_frame_Load_w (A := A) (hG.ext hS.x) (⟨_, _, _, _, rfl, (hrp0_0.ext RGPlan.mono hS.x), (hrp0_1.ext (Flat.mono _) hS.x), (hrp0_2.ext (Flat.mono _) hS.x), (hrp0_3.ext (Flat.mono _) hS.x)⟩ : RGConfig _ [.int .i64 a0.C.Ticks, vp0_0, vp0_1, vp0_2, vp0_3, .int .i64 a0.C.Tries] a0.C) hr58) rfl ?_
          clear H; intro x63 w61 hv; clear a; intro a H; obtain ⟨u59, rfl, hE62⟩ := hv
          replace hS := hS.new hE62; simp only [List.cons_append, List.nil_append] at hS
          refine n_q H (q_move rfl) rfl (W_q (q_extract rfl rfl) rfl (W_q (q_extract rfl rfl) rfl (W_q (q_assign rfl) rfl (W_q (q_assign rfl) rfl ?_)))); clear H a; intro a H
          refine n_nil (then_normal (wp_seq (wp_region_lit (n_q H (q_load rfl ((hS.blk 1 rfl).ldAll ag27 sz27)) rfl (W_q (q_move rfl) rfl ?_))))); clear H a; intro a H
          replace hm := bindS hm; obtain ⟨r64, hr64, hm⟩ := hm
          refine n_call H rfl en38 (g_frame_Windows_w (A := A) (hG.ext hS.x) (⟨_, _, _, _, rfl, (hrp0_0.ext RGPlan.mono hS.x), (hrp0_1.ext (Flat.mono _) hS.x), (hrp0_2.ext (Flat.mono _) hS.x), (hrp0_3.ext (Flat.mono _) hS.x)⟩ : RGConfig _ [.int .i64 a0.C.Ticks, vp0_0, vp0_1, vp0_2, vp0_3, .int .i64 a0.C.Tries] a0.C) hr64) rfl ?_
          clear H; intro x71 w69 hv; clear a; intro a H; obtain ⟨u65, u66, rfl, hE70⟩ := hv
          replace hS := hS.new hE70; simp only [List.cons_append, List.nil_append] at hS
          refine n_q H (q_move rfl) rfl (W_q (q_extract rfl rfl) rfl (W_q (q_extract rfl rfl) rfl (W_q (q_assign rfl) rfl (W_q (q_assign rfl) rfl ?_)))); clear H a; intro a H
          refine n_nil (then_normal (wp_seq (wp_seq (wp_region_lit (n_c H (fun HC => ?_)))))); clear H
          refine nc_q HC (q_move rfl) rfl (by kernel_rfl) (V_q (q_cast (q_nnilI Tryd.underlying36 rfl rfl (hS.any 2 rfl : IsE A w69 u59 r58.2).form) (show _ = Value.bool (!decide (r58.2 = .nil)) by rw [IsErr.isNil (hS.any 2 rfl : IsE A w69 u59 r58.2)])) rfl (by kernel_rfl) (V_q (q_move rfl) rfl (by kernel_rfl) (V_g (q_move rfl) (by kernel_rfl) (by kernel_rfl) (by kernel_rfl) (V_g (q_cast (q_nnilI Tryd.underlying36 rfl rfl (hS.any 1 rfl : IsE A w69 u66 r64.2).form) (show _ = Value.bool (!decide (r64.2 = .nil)) by rw [IsErr.isNil (hS.any 1 rfl : IsE A w69 u66 r64.2)])) (by kernel_rfl) (by kernel_rfl) (by kernel_rfl) (V_or (j := 2) rfl rfl rfl (by kernel_rfl) (by kernel_rfl) ?_))))); clear HC a; intro a HC
          have H := HC.has; clear HC
          refine n_nil (then_normal (c_cond H rfl (fun hc72 => ?_) (fun hc72 => ?_)))
          · replace hm := condT hm hc72
            refine wp_seq (wp_region_lit (n_q H (q_assign rfl) rfl ?_)); clear H a; intro a H
            refine n_nil (then_normal (wp_ret (then_ret (block_ret (then_ret (then_ret (block_ret (then_ret ?_))))))))
            obtain rfl := Option.some.inj hm; have hz : _ = q52 := hn52; subst hz; replace hm := hm52; try dsimp only at hm
            obtain rfl := Option.some.inj hm
            replace hS := hS.take 0; simp only [List.take_succ_cons, List.take_zero] at hS
            refine ret1 H (.inr rfl) rfl rfl ?_
            exact ⟨rfl, hS.x⟩
          · replace hm := condF hm hc72
            refine wp_skip (then_normal (wp_seq (wp_region_lit (n_q H (q_move rfl) rfl (W_q (q_move rfl) rfl (W_q (q_addW rfl rfl) rfl (W_q (q_assign rfl) rfl ?_))))))); clear H a; intro a H
            refine n_nil (then_normal (wp_seq (wp_seq (wp_region_lit (n_q H (q_assign rfl) rfl ?_))))); clear H a; intro a H
            refine n_nil (then_normal (wp_block ?_))
            replace hS := hS.pick 3 rfl; dsimp only [List.eraseIdx] at hS
            replace hS := hS.pick 1 rfl; dsimp only [List.eraseIdx] at hS
            replace hS := hS.take 2; simp only [List.take_succ_cons, List.take_zero] at hS
            replace hm := bindS hm; obtain ⟨q73, hm, hm73⟩ := hm; replace hm := iter_some hm; obtain ⟨n73, hm⟩ := hm
            refine c_loop (σ := Nat × Int × Nat) (fun (m, z74, i75) => [(3, .pointer (some ⟨b29, 0, none⟩)), (4, .int .i64 r45.1), (6, .int .i64 (IntKind.i64.wrap (z53 + r58.1))), (7, .int .i64 z54), (8, .int .i64 z74), (10, u65), (12, .int .i64 ((i75 : Nat) : Int))]) (fun (m, z74, i75) wl => iterN (g_law14_FrameTicks_L12 z54 r64) m (z74, i75) = some q73 ∧ St NB w wl [ownR 105 3 u65 r64.1.length (r64.1.flatMap eGWindow), blkR b29 [.int .i64 a0.C.Ticks, vp0_0, vp0_1, vp0_2, vp0_3, .int .i64 a0.C.Tries] 27]) (fun (m, z74, i75) => m) (n73, r58.1, 0) H ⟨rfl, rfl, rfl, rfl, rfl, rfl, rfl, trivial⟩ ⟨hm, hS⟩ ?_
            clear H hS hm a; intro xx a w76 H hR; obtain ⟨m, z74, i75⟩ := xx; simp only [ent, List.map_cons, List.map_nil] at H; (try dsimp only at hR); obtain ⟨hm, hS⟩ := hR
            replace hm := iterN_step hm; obtain ⟨m73, o73, rfl, hm, hn73⟩ := hm; try dsimp only [g_law14_FrameTicks_L12] at hm
            refine wp_seq (wp_seq (wp_region_lit (n_q H (q_move rfl) rfl (W_q (q_move rfl) rfl ?_)))); clear H a; intro a H
            obtain ⟨A77, c77, hv77, hl77, hm77⟩ := SlR.formV ((hS.own 0 rfl).slr rfl (fun _ _ => rfl))
            refine n_q H (q_lenV Tryd.underlying24 rfl hv77) rfl (W_q (q_lssN (i := i75) (j := r64.1.length) rfl rfl) rfl ?_); clear H a; intro a H
            refine n_nil (then_normal (c_cond H rfl (fun hc78 => ?_) (fun hc78 => ?_)))
            · replace hm := condT hm hc78
              have hlt79 : i75 < r64.1.length := of_decide_eq_true hc78
              refine wp_skip (then_normal (wp_seq (wp_block (wp_seq (wp_seq (wp_region_lit (n_q H (q_move rfl) rfl (W_q (q_move rfl) rfl ?_)))))))); clear H a; intro a H
              replace hm := bindS hm; obtain ⟨x80, hx80, hm⟩ := hm
              obtain ⟨adx80, hAx80⟩ := SlR.adV ((hS.own 0 rfl).slr rfl (fun _ _ => rfl)) hv77 hx80
              refine n_q H (q_ixV (i := i75) Tryd.underlying24 sz105 rfl hv77 hAx80 rfl (natI hx80)) rfl (W_q (q_fieldAddr rfl fo105_0) rfl (W_q (q_load rfl (SlR.ldCellV (j := 0) ((hS.own 0 rfl).slr rfl (fun _ _ => rfl)) hv77 hAx80 ag3 hx80 rfl)) rfl (W_q (q_move rfl) rfl (W_q (q_neqD rfl rfl) rfl ?_)))); clear H a; intro a H
              refine n_nil (then_normal (c_cond H rfl (fun hc81 => ?_) (fun hc81 => ?_)))
              · replace hm := condT hm hc81
                refine wp_seq (wp_region_lit (n_q H (q_assign rfl) rfl ?_)); clear H a; intro a H
                refine n_nil (then_normal (wp_ret (then_ret (block_ret (then_ret (then_ret (block_ret (then_ret (block_ret (then_ret (then_ret (block_ret (then_ret ?_)))))))))))))
                obtain rfl := Option.some.inj hm; have hz : _ = q73 := hn73; subst hz; replace hm := hm73; try dsimp only at hm
                obtain rfl := Option.some.inj hm; have hz : _ = q52 := hn52; subst hz; replace hm := hm52; try dsimp only at hm
                obtain rfl := Option.some.inj hm
                replace hS := hS.take 0; simp only [List.take_succ_cons, List.take_zero] at hS
                refine ret1 H (.inr rfl) rfl rfl ?_
                exact ⟨rfl, hS.x⟩
              · replace hm := condF hm hc81
                refine wp_skip (then_normal (wp_region_lit (n_q H (q_move rfl) rfl (W_q (q_move rfl) rfl (W_q (q_move rfl) rfl ?_))))); clear H a; intro a H
                replace hm := bindS hm; obtain ⟨x82, hx82, hm⟩ := hm
                obtain ⟨adx82, hAx82⟩ := SlR.adV ((hS.own 0 rfl).slr rfl (fun _ _ => rfl)) hv77 hx82
                refine n_q H (q_ixV (i := i75) Tryd.underlying24 sz105 rfl hv77 hAx82 rfl (natI hx82)) rfl (W_q (q_fieldAddr rfl fo105_2) rfl (W_q (q_load rfl (SlR.ldCellV (j := 2) ((hS.own 0 rfl).slr rfl (fun _ _ => rfl)) hv77 hAx82 ag3 hx82 rfl)) rfl (W_q (q_subW rfl rfl) rfl (W_q (q_assign rfl) rfl ?_)))); clear H a; intro a H
                refine n_nil (block_normal (then_normal (wp_region_lit (n_q H (q_move rfl) rfl (W_q (q_incr (i := i75) (j := 1) rfl rfl (by omega)) rfl (W_q (q_assign rfl) rfl ?_)))))); clear H a; intro a H
                refine n_nil (then_normal ?_)
                obtain rfl := Option.some.inj hm
                exact round (m73, (IntKind.i64.wrap (z74 - x82.Len)), i75 + 1) H ⟨rfl, rfl, rfl, rfl, rfl, rfl, rfl, trivial⟩ ⟨hn73, hS⟩ (Nat.lt_succ_self _)
            · replace hm := condF hm hc78
              refine wp_exit (then_exit (then_exit (block_exit ?_)))
              obtain rfl := Option.some.inj hm; have hz : _ = q73 := hn73; subst hz; replace hm := hm73; try dsimp only at hm
              refine then_normal ?_
              replace hm := bindS hm; obtain ⟨j83, hm, hm83⟩ := hm
              refine c_join (σ := Bool) H (fun q584 => [(3, .pointer (some ⟨b29, 0, none⟩)), (4, .int .i64 r45.1), (6, .int .i64 (IntKind.i64.wrap (z53 + r58.1))), (7, .int .i64 z54), (92, .bool q584)]) (fun q584 wl => (g_law14_FrameTicks_J11 z53 z54 r58) q584 = some o52 ∧ St NB w wl [blkR b29 [.int .i64 a0.C.Ticks, vp0_0, vp0_1, vp0_2, vp0_3, .int .i64 a0.C.Tries] 27]) ?_ ?_
              · skip
                refine wp_region_lit (n_q H (q_move rfl) rfl (W_q (q_neqD rfl rfl) rfl (W_q (q_move rfl) rfl ?_))); clear H a; intro a H
                rcases Bool.eq_false_or_eq_true (!decide (z74 = 0)) with hg585 | hg585
                · replace H := H.know 86 rfl hg585
                  replace hm := condT hm hg585
                  refine n_no H rfl rfl (by decide) rfl (W_no rfl rfl (by decide) rfl (W_no rfl rfl (by decide) rfl (W_no rfl rfl (by decide) rfl (W_no rfl rfl (by decide) rfl (W_q (q_pickT rfl rfl) rfl ?_))))); clear H a; intro a H
                  refine n_nil (then_normal ?_)
                  obtain rfl := Option.some.inj hm; replace hm := hm83; try dsimp only at hm
                  replace hS := hS.pick 1 rfl; dsimp only [List.eraseIdx] at hS
                  replace hS := hS.take 1; simp only [List.take_succ_cons, List.take_zero] at hS
                  exact join true H ⟨rfl, rfl, rfl, rfl, rfl, trivial⟩ ⟨hm, hS⟩
                · replace H := H.know 86 rfl hg585
                  replace hm := condF hm hg585
                  refine n_yes H rfl rfl (n_q H (q_load rfl ((hS.blk 1 rfl).ldAll ag27 sz27)) rfl (W_yes rfl rfl (W_q (q_move rfl) rfl (W_yes rfl rfl (W_q (q_move rfl) rfl (W_yes rfl rfl ?_)))))); clear H a; intro a H
                  replace hm := bindS hm; obtain ⟨r586, hr586, hm⟩ := hm
                  refine n_call H rfl en39 (g_law14_walks_w (A := A) (hG.ext hS.x) (⟨_, _, _, _, rfl, (hrp0_0.ext RGPlan.mono hS.x), (hrp0_1.ext (Flat.mono _) hS.x), (hrp0_2.ext (Flat.mono _) hS.x), (hrp0_3.ext (Flat.mono _) hS.x)⟩ : RGConfig _ [.int .i64 a0.C.Ticks, vp0_0, vp0_1, vp0_2, vp0_3, .int .i64 a0.C.Tries] a0.C) ((hS.own 0 rfl).slr rfl (fun _ _ => rfl)) hr586) rfl ?_
                  clear H; intro x589 w587 hv; clear a; intro a H; obtain ⟨rfl, hE588⟩ := hv
                  replace hS := hS.ext hE588
                  refine n_yes H rfl rfl (n_q H (q_not rfl) rfl (W_q (q_pickF rfl rfl) rfl ?_)); clear H a; intro a H
                  refine n_nil (then_normal ?_)
                  obtain rfl := Option.some.inj hm; replace hm := hm83; try dsimp only at hm
                  replace hS := hS.pick 1 rfl; dsimp only [List.eraseIdx] at hS
                  replace hS := hS.take 1; simp only [List.take_succ_cons, List.take_zero] at hS
                  exact join (!r586) H ⟨rfl, rfl, rfl, rfl, rfl, trivial⟩ ⟨hm, hS⟩
              · clear H hS hm a; intro q584 a w590 H hR
                simp only [ent, List.map_cons, List.map_nil] at H; (try dsimp only at hR); obtain ⟨hm, hS⟩ := hR; try dsimp only [g_law14_FrameTicks_J11] at hm
                refine c_cond H rfl (fun hc591 => ?_) (fun hc591 => ?_)
                · replace hm := condT hm hc591
                  refine wp_seq (wp_region_lit (n_q H (q_assign rfl) rfl ?_)); clear H a; intro a H
                  refine n_nil (then_normal (wp_ret (block_ret (then_ret (then_ret (block_ret (then_ret ?_)))))))
                  obtain rfl := Option.some.inj hm; have hz : _ = q52 := hn52; subst hz; replace hm := hm52; try dsimp only at hm
                  obtain rfl := Option.some.inj hm
                  replace hS := hS.take 0; simp only [List.take_succ_cons, List.take_zero] at hS
                  refine ret1 H (.inr rfl) rfl rfl ?_
                  exact ⟨rfl, hS.x⟩
                · replace hm := condF hm hc591
                  refine wp_skip (block_normal (then_normal (wp_region_lit (n_q H (q_move rfl) rfl (W_q (q_addW rfl rfl) rfl (W_q (q_assign rfl) rfl ?_)))))); clear H a; intro a H
                  refine n_nil (then_normal ?_)
                  obtain rfl := Option.some.inj hm
                  exact round (m52, (IntKind.i64.wrap (z53 + r58.1)), (IntKind.i64.wrap (z54 + 1))) H ⟨rfl, rfl, rfl, rfl, trivial⟩ ⟨hn52, hS⟩ (Nat.lt_succ_self _)
        · replace hm := condF hm hc57
          refine wp_exit (then_exit (then_exit (block_exit ?_)))
          obtain rfl := Option.some.inj hm; have hz : _ = q52 := hn52; subst hz; replace hm := hm52; try dsimp only at hm
          refine then_normal (wp_seq (wp_seq (wp_region_lit (n_q H (q_move rfl) rfl (W_q (q_fieldAddr0 rfl fo27_0) rfl (W_q (q_load rfl ((hS.blk 0 rfl).ld ag3 rfl)) rfl (W_q (q_neqD rfl rfl) rfl ?_))))))); clear H a; intro a H
          refine n_nil (then_normal (c_cond H rfl (fun hc592 => ?_) (fun hc592 => ?_)))
          · replace hm := condT hm hc592
            refine wp_seq (wp_region_lit (n_q H (q_assign rfl) rfl ?_)); clear H a; intro a H
            refine n_nil (then_normal (wp_ret (then_ret ?_)))
            obtain rfl := Option.some.inj hm
            replace hS := hS.take 0; simp only [List.take_succ_cons, List.take_zero] at hS
            refine ret1 H (.inr rfl) rfl rfl ?_
            exact ⟨rfl, hS.x⟩
          · replace hm := condF hm hc592
            refine wp_skip (then_normal (wp_seq (wp_region_lit (n_q H (q_fieldAddr0 rfl fo27_0) rfl (W_q (q_load rfl ((hS.blk 0 rfl).ld ag3 rfl)) rfl (W_q (q_quoW rfl rfl (by decide)) rfl (W_q (q_addW rfl rfl) rfl (W_q (q_assign rfl) rfl ?_)))))))); clear H a; intro a H
            refine n_nil (then_normal (wp_seq (wp_seq (wp_region_lit (n_q H (q_assign rfl) rfl ?_))))); clear H a; intro a H
            refine n_nil (then_normal (wp_block ?_))
            replace hm := bindS hm; obtain ⟨q593, hm, hm593⟩ := hm; replace hm := iter_some hm; obtain ⟨n593, hm⟩ := hm
            refine c_loop (σ := Nat × Int × Int) (fun (m, z594, z596) => [(3, .pointer (some ⟨b29, 0, none⟩)), (4, .int .i64 z594), (13, .int .i64 (IntKind.i64.wrap (1 + (IntKind.i64.wrap (Int.tdiv a0.C.Ticks 97))))), (14, .int .i64 z596)]) (fun (m, z594, z596) wl => iterN (g_law14_FrameTicks_L17 a0) m (z594, z596) = some q593 ∧ St NB w wl [blkR b29 [.int .i64 a0.C.Ticks, vp0_0, vp0_1, vp0_2, vp0_3, .int .i64 a0.C.Tries] 27]) (fun (m, z594, z596) => m) (n593, r45.1, 0) H ⟨rfl, rfl, rfl, rfl, trivial⟩ ⟨hm, hS⟩ ?_
            clear H hS hm a; intro xx a w597 H hR; obtain ⟨m, z594, z596⟩ := xx; simp only [ent, List.map_cons, List.map_nil] at H; (try dsimp only at hR); obtain ⟨hm, hS⟩ := hR
            replace hm := iterN_step hm; obtain ⟨m593, o593, rfl, hm, hn593⟩ := hm; try dsimp only [g_law14_FrameTicks_L17] at hm
            refine wp_seq (wp_seq (wp_region_lit (n_q H (q_move rfl) rfl (W_q (q_fieldAddr0 rfl fo27_0) rfl (W_q (q_load rfl ((hS.blk 0 rfl).ld ag3 rfl)) rfl (W_q (q_lss rfl rfl) rfl ?_)))))); clear H a; intro a H
            refine n_nil (then_normal (c_cond H rfl (fun hc598 => ?_) (fun hc598 => ?_)))
            · replace hm := condT hm hc598
              refine wp_skip (then_normal ?_)
              replace hm := bindS hm; obtain ⟨j599, hm, hm599⟩ := hm
              refine c_join (σ := Int) H (fun z1100 => [(3, .pointer (some ⟨b29, 0, none⟩)), (4, .int .i64 z1100), (13, .int .i64 (IntKind.i64.wrap (1 + (IntKind.i64.wrap (Int.tdiv a0.C.Ticks 97))))), (14, .int .i64 z596)]) (fun z1100 wl => (g_law14_FrameTicks_J16 a0 z596) z1100 = some o593 ∧ St NB w wl [blkR b29 [.int .i64 a0.C.Ticks, vp0_0, vp0_1, vp0_2, vp0_3, .int .i64 a0.C.Tries] 27]) ?_ ?_
              · skip
                refine wp_block (wp_seq (wp_region_lit (n_q H (q_load rfl ((hS.blk 0 rfl).ldAll ag27 sz27)) rfl (W_q (q_move rfl) rfl ?_)))); clear H a; intro a H
                replace hm := bindS hm; obtain ⟨r1101, hr1101, hm⟩ := hm
                refine n_call H rfl en40 (g_frame_At_w (A := A) (hG.ext hS.x) (⟨_, _, _, _, rfl, (hrp0_0.ext RGPlan.mono hS.x), (hrp0_1.ext (Flat.mono _) hS.x), (hrp0_2.ext (Flat.mono _) hS.x), (hrp0_3.ext (Flat.mono _) hS.x)⟩ : RGConfig _ [.int .i64 a0.C.Ticks, vp0_0, vp0_1, vp0_2, vp0_3, .int .i64 a0.C.Tries] a0.C) hr1101) rfl ?_
                clear H; intro x1106 w1104 hv; clear a; intro a H; obtain ⟨u1102, rfl, hE1105⟩ := hv
                replace hS := hS.new hE1105; simp only [List.cons_append, List.nil_append] at hS
                refine n_q H (q_move rfl) rfl (W_q (q_extract rfl rfl) rfl (W_q (q_extract rfl rfl) rfl (W_q (q_assign rfl) rfl (W_q (q_assign rfl) rfl ?_)))); clear H a; intro a H
                refine n_nil (then_normal (wp_seq (wp_seq (wp_region_lit (n_q H (q_move rfl) rfl (W_q (q_cast (q_nnilI Tryd.underlying36 rfl rfl (hS.any 0 rfl : IsE A w1104 u1102 r1101.2).form) (show _ = Value.bool (!decide (r1101.2 = .nil)) by rw [IsErr.isNil (hS.any 0 rfl : IsE A w1104 u1102 r1101.2)])) rfl ?_)))))); clear H a; intro a H
                refine n_nil (then_normal (c_cond H rfl (fun hc1107 => ?_) (fun hc1107 => ?_)))
                · replace hm := condT hm hc1107
                  refine wp_seq (wp_seq (wp_region_lit (n_q H (q_move rfl) rfl ?_))); clear H a; intro a H
                  refine n_call H rfl en23 (code_w (hG.ext hS.x) (hS.any 0 rfl : IsE A w1104 u1102 r1101.2)) rfl ?_
                  clear H; intro x1110 w1108 hv; clear a; intro a H; obtain ⟨rfl, hE1109⟩ := hv; replace hS := hS.ext hE1109
                  refine n_q H (q_neqD rfl rfl) rfl ?_; clear H a; intro a H
                  refine n_nil (then_normal (c_cond H rfl (fun hc1111 => ?_) (fun hc1111 => ?_)))
                  · replace hm := condT hm hc1111
                    refine wp_seq (wp_region_lit (n_q H (q_assign rfl) rfl ?_)); clear H a; intro a H
                    refine n_nil (then_normal (wp_ret (then_ret (then_ret (block_ret (then_ret (then_ret (block_ret (then_ret ?_)))))))))
                    obtain rfl := Option.some.inj hm; replace hm := hm599; try dsimp only at hm
                    obtain rfl := Option.some.inj hm; have hz : _ = q593 := hn593; subst hz; replace hm := hm593; try dsimp only at hm
                    obtain rfl := Option.some.inj hm
                    replace hS := hS.take 0; simp only [List.take_succ_cons, List.take_zero] at hS
                    refine ret1 H (.inr rfl) rfl rfl ?_
                    exact ⟨rfl, hS.x⟩
                  · replace hm := condF hm hc1111
                    refine wp_skip (then_normal (wp_seq (wp_region_lit (n_q H (q_move rfl) rfl (W_q (q_subW rfl rfl) rfl (W_q (q_assign rfl) rfl ?_)))))); clear H a; intro a H
                    refine n_nil (then_normal (wp_exit (then_exit (block_exit (then_normal ?_)))))
                    obtain rfl := Option.some.inj hm; replace hm := hm599; try dsimp only at hm
                    replace hS := hS.pick 1 rfl; dsimp only [List.eraseIdx] at hS
                    replace hS := hS.take 1; simp only [List.take_succ_cons, List.take_zero] at hS
                    exact join (IntKind.i64.wrap (z594 - 1)) H ⟨rfl, rfl, rfl, rfl, trivial⟩ ⟨hm, hS⟩
                · replace hm := condF hm hc1107
                  refine wp_skip (then_normal (wp_seq (wp_region_lit (n_q H (q_load rfl ((hS.blk 1 rfl).ldAll ag27 sz27)) rfl (W_q (q_move rfl) rfl (W_q (q_move rfl) rfl ?_)))))); clear H a; intro a H
                  replace hm := bindS hm; obtain ⟨r1112, hr1112, hm⟩ := hm
                  refine n_call H rfl en41 (g_frame_Next_w (A := A) (hG.ext hS.x) (⟨_, _, _, _, rfl, (hrp0_0.ext RGPlan.mono hS.x), (hrp0_1.ext (Flat.mono _) hS.x), (hrp0_2.ext (Flat.mono _) hS.x), (hrp0_3.ext (Flat.mono _) hS.x)⟩ : RGConfig _ [.int .i64 a0.C.Ticks, vp0_0, vp0_1, vp0_2, vp0_3, .int .i64 a0.C.Tries] a0.C) hr1112) rfl ?_
                  clear H; intro x1117 w1115 hv; clear a; intro a H; obtain ⟨u1113, rfl, hE1116⟩ := hv
                  replace hS := hS.new hE1116; simp only [List.cons_append, List.nil_append] at hS
                  refine n_q H (q_move rfl) rfl (W_q (q_extract rfl rfl) rfl (W_q (q_extract rfl rfl) rfl (W_q (q_assign rfl) rfl (W_q (q_assign rfl) rfl ?_)))); clear H a; intro a H
                  refine n_nil (then_normal (wp_seq (wp_region_lit (n_c H (fun HC => ?_))))); clear H
                  refine nc_q HC (q_move rfl) rfl (by kernel_rfl) (V_q (q_cast (q_nnilI Tryd.underlying36 rfl rfl (hS.any 0 rfl : IsE A w1115 u1113 r1112.2).form) (show _ = Value.bool (!decide (r1112.2 = .nil)) by rw [IsErr.isNil (hS.any 0 rfl : IsE A w1115 u1113 r1112.2)])) rfl (by kernel_rfl) (V_q (q_move rfl) rfl (by kernel_rfl) (V_g (q_move rfl) (by kernel_rfl) (by kernel_rfl) (by kernel_rfl) (V_g (q_move rfl) (by kernel_rfl) (by kernel_rfl) (by kernel_rfl) (V_g (q_neqD rfl rfl) (by kernel_rfl) (by kernel_rfl) (by kernel_rfl) (V_or (j := 2) rfl rfl rfl (by kernel_rfl) (by kernel_rfl) ?_)))))); clear HC a; intro a HC
                  have H := HC.has; clear HC
                  refine n_nil (then_normal (c_cond H rfl (fun hc1118 => ?_) (fun hc1118 => ?_)))
                  · replace hm := condT hm hc1118
                    refine wp_seq (wp_region_lit (n_q H (q_assign rfl) rfl ?_)); clear H a; intro a H
                    refine n_nil (then_normal (wp_ret (block_ret (then_ret (then_ret (block_ret (then_ret ?_)))))))
                    obtain rfl := Option.some.inj hm; replace hm := hm599; try dsimp only at hm
                    obtain rfl := Option.some.inj hm; have hz : _ = q593 := hn593; subst hz; replace hm := hm593; try dsimp only at hm
                    obtain rfl := Option.some.inj hm
                    replace hS := hS.take 0; simp only [List.take_succ_cons, List.take_zero] at hS
                    refine ret1 H (.inr rfl) rfl rfl ?_
                    exact ⟨rfl, hS.x⟩
                  · replace hm := condF hm hc1118
                    refine wp_skip (block_normal (then_normal ?_))
                    obtain rfl := Option.some.inj hm; replace hm := hm599; try dsimp only at hm
                    replace hS := hS.pick 2 rfl; dsimp only [List.eraseIdx] at hS
                    replace hS := hS.take 1; simp only [List.take_succ_cons, List.take_zero] at hS
                    exact join z594 H ⟨rfl, rfl, rfl, rfl, trivial⟩ ⟨hm, hS⟩
              · clear H hS hm a; intro z1100 a w1119 H hR
                simp only [ent, List.map_cons, List.map_nil] at H; (try dsimp only at hR); obtain ⟨hm, hS⟩ := hR; try dsimp only [g_law14_FrameTicks_J16] at hm
                refine wp_region_lit (n_q H (q_move rfl) rfl (W_q (q_move rfl) rfl (W_q (q_addW rfl rfl) rfl (W_q (q_assign rfl) rfl ?_)))); clear H a; intro a H
                refine n_nil (then_normal ?_)
                obtain rfl := Option.some.inj hm
                exact round (m593, z1100, (IntKind.i64.wrap (z596 + (IntKind.i64.wrap (1 + (IntKind.i64.wrap (Int.tdiv a0.C.Ticks 97))))))) H ⟨rfl, rfl, rfl, rfl, trivial⟩ ⟨hn593, hS⟩ (Nat.lt_succ_self _)
            · replace hm := condF hm hc598
              refine wp_exit (then_exit (then_exit (block_exit ?_)))
              obtain rfl := Option.some.inj hm; have hz : _ = q593 := hn593; subst hz; replace hm := hm593; try dsimp only at hm
              refine then_normal (wp_seq (wp_region_lit (n_q H (q_move rfl) rfl (W_q (q_geq rfl rfl) rfl (W_q (q_assign rfl) rfl ?_))))); clear H a; intro a H
              refine n_nil (then_normal (wp_ret ?_))
              obtain rfl := Option.some.inj hm
              replace hS := hS.take 0; simp only [List.take_succ_cons, List.take_zero] at hS
              refine ret1 H (.inr rfl) rfl rfl ?_
              exact ⟨rfl, hS.x⟩
end Go.Proofs.YtjoihegnjjjdaaaDoor
