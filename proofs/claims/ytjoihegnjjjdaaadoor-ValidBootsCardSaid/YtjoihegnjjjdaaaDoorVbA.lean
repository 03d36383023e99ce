/- Vb (written by wip/tools) -/
import Derived.Test.YtjoihegnjjjdaaaDoorVbD
set_option linter.unusedVariables false
set_option linter.unusedSimpArgs false
set_option maxRecDepth 10000
namespace Go.Proofs.YtjoihegnjjjdaaaDoor
open Go Go.RowKit
theorem ag118 : aggB Tryd.prog 118 = some false := by kernel_rfl
theorem ag120 : aggB Tryd.prog 120 = some true := by kernel_rfl
theorem ag136 : aggB Tryd.prog 136 = some false := by kernel_rfl
theorem ag167 : aggB Tryd.prog 167 = some true := by kernel_rfl
theorem ag169 : aggB Tryd.prog 169 = some true := by kernel_rfl
theorem ag23 : aggB Tryd.prog 23 = some false := by kernel_rfl
theorem ag254 : aggB Tryd.prog 254 = some true := by kernel_rfl
theorem ag53 : aggB Tryd.prog 53 = some false := by kernel_rfl
theorem ag64 : aggB Tryd.prog 64 = some false := by kernel_rfl
theorem ag65 : aggB Tryd.prog 65 = some false := by kernel_rfl
theorem ag66 : aggB Tryd.prog 66 = some false := by kernel_rfl
theorem ag68 : aggB Tryd.prog 68 = some true := by kernel_rfl
theorem ag69 : aggB Tryd.prog 69 = some false := by kernel_rfl
theorem ag70 : aggB Tryd.prog 70 = some false := by kernel_rfl
theorem ag71 : aggB Tryd.prog 71 = some false := by kernel_rfl
theorem ag80 : aggB Tryd.prog 80 = some true := by kernel_rfl
theorem ag87 : aggB Tryd.prog 87 = some true := by kernel_rfl
theorem ag9 : aggB Tryd.prog 9 = some false := by kernel_rfl
theorem bd146 : bdB Tryd.prog 146 = true := by kernel_rfl
theorem pl146 : placesB Tryd.prog 146 = some #[(0, 1), (1, 1)] := by kernel_rfl
theorem en100 : entersB Tryd.prog 100 = true := by kernel_rfl
theorem en112 : entersB Tryd.prog 112 = true := by kernel_rfl
theorem en113 : entersB Tryd.prog 113 = true := by kernel_rfl
theorem en117 : entersB Tryd.prog 117 = true := by kernel_rfl
theorem en158 : entersB Tryd.prog 158 = true := by kernel_rfl
theorem en159 : entersB Tryd.prog 159 = true := by kernel_rfl
theorem en160 : entersB Tryd.prog 160 = true := by kernel_rfl
theorem en161 : entersB Tryd.prog 161 = true := by kernel_rfl
theorem en162 : entersB Tryd.prog 162 = true := by kernel_rfl
theorem en181 : entersB Tryd.prog 181 = true := by kernel_rfl
theorem en182 : entersB Tryd.prog 182 = true := by kernel_rfl
theorem en183 : entersB Tryd.prog 183 = true := by kernel_rfl
theorem en184 : entersB Tryd.prog 184 = true := by kernel_rfl
theorem en97 : entersB Tryd.prog 97 = true := by kernel_rfl
theorem en98 : entersB Tryd.prog 98 = true := by kernel_rfl
theorem en99 : entersB Tryd.prog 99 = true := by kernel_rfl
theorem fo120_0 : fOff Tryd.prog 120 0 = some 0 := by kernel_rfl
theorem fo120_1 : fOff Tryd.prog 120 1 = some 1 := by kernel_rfl
theorem fo139_0 : fOff Tryd.prog 139 0 = some 0 := by kernel_rfl
theorem fo139_1 : fOff Tryd.prog 139 1 = some 7 := by kernel_rfl
theorem fo167_0 : fOff Tryd.prog 167 0 = some 0 := by kernel_rfl
theorem fo167_1 : fOff Tryd.prog 167 1 = some 1 := by kernel_rfl
theorem fo169_0 : fOff Tryd.prog 169 0 = some 0 := by kernel_rfl
theorem fo169_1 : fOff Tryd.prog 169 1 = some 1 := by kernel_rfl
theorem fo169_2 : fOff Tryd.prog 169 2 = some 2 := by kernel_rfl
theorem fo169_3 : fOff Tryd.prog 169 3 = some 3 := by kernel_rfl
theorem fo254_0 : fOff Tryd.prog 254 0 = some 0 := by kernel_rfl
theorem fo254_1 : fOff Tryd.prog 254 1 = some 1 := by kernel_rfl
theorem fo68_0 : fOff Tryd.prog 68 0 = some 0 := by kernel_rfl
theorem fo68_2 : fOff Tryd.prog 68 2 = some 2 := by kernel_rfl
theorem fo68_3 : fOff Tryd.prog 68 3 = some 3 := by kernel_rfl
theorem fo68_4 : fOff Tryd.prog 68 4 = some 4 := by kernel_rfl
theorem fo68_5 : fOff Tryd.prog 68 5 = some 5 := by kernel_rfl
theorem fo68_6 : fOff Tryd.prog 68 6 = some 6 := by kernel_rfl
theorem fo74_3 : fOff Tryd.prog 74 3 = some 3 := by kernel_rfl
theorem fo74_4 : fOff Tryd.prog 74 4 = some 4 := by kernel_rfl
theorem fo74_5 : fOff Tryd.prog 74 5 = some 5 := by kernel_rfl
theorem fo74_8 : fOff Tryd.prog 74 8 = some 8 := by kernel_rfl
theorem fo80_0 : fOff Tryd.prog 80 0 = some 0 := by kernel_rfl
theorem fo80_2 : fOff Tryd.prog 80 2 = some 17 := by kernel_rfl
theorem fo80_3 : fOff Tryd.prog 80 3 = some 18 := by kernel_rfl
theorem fo80_4 : fOff Tryd.prog 80 4 = some 19 := by kernel_rfl
theorem fo80_5 : fOff Tryd.prog 80 5 = some 20 := by kernel_rfl
theorem fo87_0 : fOff Tryd.prog 87 0 = some 0 := by kernel_rfl
theorem fo87_1 : fOff Tryd.prog 87 1 = some 1 := by kernel_rfl
theorem sz120 : sizeB Tryd.prog 120 = some 2 := by kernel_rfl
theorem sz136 : sizeB Tryd.prog 136 = some 1 := by kernel_rfl
theorem sz167 : sizeB Tryd.prog 167 = some 3 := by kernel_rfl
theorem sz169 : sizeB Tryd.prog 169 = some 4 := by kernel_rfl
theorem sz254 : sizeB Tryd.prog 254 = some 2 := by kernel_rfl
theorem sz3 : sizeB Tryd.prog 3 = some 1 := by kernel_rfl
theorem sz53 : sizeB Tryd.prog 53 = some 1 := by kernel_rfl
theorem sz68 : sizeB Tryd.prog 68 = some 7 := by kernel_rfl
theorem sz80 : sizeB Tryd.prog 80 = some 21 := by kernel_rfl
theorem sz87 : sizeB Tryd.prog 87 = some 2 := by kernel_rfl
theorem sz9 : sizeB Tryd.prog 9 = some 1 := by kernel_rfl
theorem ze136 : zeroB Tryd.prog 136 = some [.nilFunc] := by kernel_rfl
theorem ze146 : zeroB Tryd.prog 146 = some [.int .i64 0, .nilIface] := by kernel_rfl
theorem ze167 : zeroB Tryd.prog 167 = some [.int .i64 0, .int .i64 0, .bool false] := by kernel_rfl
theorem ze169 : zeroB Tryd.prog 169 = some [.int .i64 0, .int .i64 0, .int .i64 0, .int .i64 0] := by kernel_rfl
theorem ze254 : zeroB Tryd.prog 254 = some [.int .i64 0, .int .i64 0] := by kernel_rfl
theorem ze80 : zeroB Tryd.prog 80 = some [.int .u32 0, .int .u32 0, .int .u32 0, .int .u32 0, .int .u32 0, .int .u32 0, .int .u32 0, .int .u32 0, .int .u32 0, .int .u32 0, .int .u32 0, .int .u32 0, .int .u32 0, .int .u32 0, .int .u32 0, .int .u32 0, .int .u32 0, .int .i64 0, .int .i64 0, .int .i64 0, .int .i64 0] := by kernel_rfl
theorem ze87 : zeroB Tryd.prog 87 = some [.int .i64 0, .string ⟨#[]⟩] := by kernel_rfl

theorem g_plan_at_w {w : World} {A : Nat → Addr} {a0 : Int} {v1 : Value} {a1 : ErrM} (h1 : IsE A w v1 a1) {r : ErrM} (hm : g_plan_at a0 a1 = some r) :
    Calls Tryd.prog 158 [.int .i64 a0, v1].toArray w (Ret fun u w' => ∃ h_0, u = h_0 ∧ St NB w w' [erQ A h_0 r]) := by
  have hS := St.begin NB w
  unfold g_plan_at at hm
  refine enter Tryd.func158 rfl rfl rfl ?_; intro a H; dsimp only [enumL, Nat.zero_add, Nat.reduceAdd] at H
  refine wp_seq (wp_region_lit (n_q H (q_assign rfl) rfl ?_)); clear H a; intro a H
  refine n_nil (then_normal (wp_seq (wp_region_lit (n_q H (q_move rfl) rfl (W_q (q_move rfl) rfl (W_q (q_build (cs := [.int .i64 a0, v1]) ze146 bd146 pl146 rfl ((fill1 rfl rfl (by simp)).trans ((fill1 (IsErr.ext h1 hS.x).one rfl (by simp)).trans rfl))) rfl ?_)))))); clear H a; intro a H
  refine n_box H rfl (cs := [.int .i64 a0, v1]) rfl rfl ?_
  clear H; intro b21 w22 hN hE23 hs; clear a; intro a H
  replace hS := hS.newBlk hN hE23 hs; clear hN hs
  replace hm := bindS hm; obtain ⟨r24, hr24, hm⟩ := hm
  have hIr24 := (IsErr.ext h1 hS.x)
  refine n_q H (q_makeInterface Tryd.underlying142 (by simp) rfl) rfl ?_; clear H a; intro a H
  replace hS := hS.dAtE hIr24 hr24
  refine n_q H (q_assign rfl) rfl ?_; clear H a; intro a H
  refine n_nil (then_normal (wp_ret ?_))
  obtain rfl := Option.some.inj hm
  refine ret1 H (.inr rfl) rfl rfl ?_
  exact ⟨_, rfl, hS⟩
theorem g_plan_checkPages_w {w : World} {A : Nat → Addr} {cs0 : List Value} {a0 : GPlan} (hG : EV A w) (h0 : RGPlan w cs0 a0) {r : ErrM} (hm : g_plan_checkPages a0 = some r) :
    Calls Tryd.prog 97 [.agg cs0.toArray].toArray w (Ret fun u w' => ∃ h_0, u = h_0 ∧ St NB w w' [erQ A h_0 r]) := by
  obtain ⟨vp0_0, vp0_1, vp0_2, vp0_3, rfl, hrp0_0, hrp0_1, hrp0_2, hrp0_3⟩ := h0
  have hS := St.begin NB w
  unfold g_plan_checkPages at hm
  refine enter Tryd.func97 rfl rfl rfl ?_; intro a H; dsimp only [enumL, Nat.zero_add, Nat.reduceAdd] at H
  refine wp_seq (wp_region_lit (n_box H rfl (cs := [.int .i64 a0.Id, .bool a0.Mobile, vp0_0, vp0_1, vp0_2, .int .i64 a0.Events, vp0_3]) rfl rfl ?_))
  clear H; intro b21 w22 hN hE23 hs; clear a; intro a H
  replace hS := hS.newBlk hN hE23 hs; clear hN hs
  refine n_q H (q_assign rfl) rfl ?_; clear H a; intro a H
  refine n_nil (then_normal (wp_seq (wp_seq (wp_region_lit (n_c H (fun HC => ?_)))))); clear H
  refine nc_q HC (q_fieldAddr0 rfl fo68_2) rfl (by kernel_rfl) (V_q (q_load rfl ((hS.blk 0 rfl).ld ag64 rfl)) rfl (by kernel_rfl) ?_); clear HC a; intro a HC
  obtain ⟨A24, c24, hv24, hl24, hm24⟩ := SlR.formV (hrp0_0.ext (Flat.mono _) hS.x)
  refine nc_q HC (q_lenV Tryd.underlying64 rfl hv24) rfl (by kernel_rfl) (V_q (q_lssN (i := a0.Pages.length) (j := 1) rfl rfl) rfl (by kernel_rfl) (V_q (q_move rfl) rfl (by kernel_rfl) (V_g (q_fieldAddr0 rfl fo68_2) (by kernel_rfl) (by kernel_rfl) (by kernel_rfl) (V_g (q_load rfl ((hS.blk 0 rfl).ld ag64 rfl)) (by kernel_rfl) (by kernel_rfl) (by kernel_rfl) (V_g (q_lenV Tryd.underlying64 rfl hv24) (by kernel_rfl) (by kernel_rfl) (by kernel_rfl) (V_g (q_gtrN (i := a0.Pages.length) (j := 32) rfl rfl) (by kernel_rfl) (by kernel_rfl) (by kernel_rfl) (V_or (j := 4) rfl rfl rfl (by kernel_rfl) (by kernel_rfl) ?_))))))); clear HC a; intro a HC
  have H := HC.has; clear HC
  refine n_nil (then_normal (c_cond H rfl (fun hc25 => ?_) (fun hc25 => ?_)))
  · replace hm := condT hm hc25
    refine wp_seq (wp_region_lit (n_q H (q_load rfl ((hG.ext hS.x).ld gSize (by decide) ag36)) rfl (W_q (q_assign rfl) rfl ?_))); clear H a; intro a H
    refine n_nil (then_normal (wp_ret (then_ret ?_)))
    obtain rfl := Option.some.inj hm
    replace hS := hS.dVar (A := A) (g := gSize) (by decide)
    replace hS := hS.take 1; simp only [List.take_succ_cons, List.take_zero] at hS
    refine ret1 H (.inr rfl) rfl rfl ?_
    exact ⟨_, rfl, hS⟩
  · replace hm := condF hm hc25
    refine wp_skip (then_normal (wp_seq (wp_seq (wp_region_lit (n_q H (q_fieldAddr0 rfl fo68_2) rfl (W_q (q_load rfl ((hS.blk 0 rfl).ld ag64 rfl)) rfl (W_q (q_lenV Tryd.underlying64 rfl hv24) rfl (W_q (q_move rfl) rfl ?_)))))))); clear H a; intro a H
    refine n_nil (then_normal (wp_block ?_))
    replace hS := hS.take 0; simp only [List.take_succ_cons, List.take_zero] at hS
    replace hm := bindS hm; obtain ⟨q27, hm, hm27⟩ := hm; replace hm := iter_some hm; obtain ⟨n27, hm⟩ := hm
    refine c_loop (σ := Nat × Nat) (fun (m, i28) => [(17, vp0_0), (18, .int .i64 ((a0.Pages.length : Nat) : Int)), (19, .int .i64 ((i28 : Nat) : Int))]) (fun (m, i28) wl => iterN (g_plan_checkPages_L1 a0) m i28 = some q27 ∧ St NB w wl []) (fun (m, i28) => m) (n27, 0) H ⟨rfl, rfl, rfl, trivial⟩ ⟨hm, hS⟩ ?_
    clear H hS hm a; intro xx a w29 H hR; obtain ⟨m, i28⟩ := xx; simp only [ent, List.map_cons, List.map_nil] at H; (try dsimp only at hR); obtain ⟨hm, hS⟩ := hR
    replace hm := iterN_step hm; obtain ⟨m27, o27, rfl, hm, hn27⟩ := hm; try dsimp only [g_plan_checkPages_L1] at hm
    refine wp_seq (wp_region_lit (n_q H (q_lssN (i := i28) (j := a0.Pages.length) rfl rfl) rfl ?_)); clear H a; intro a H
    refine n_nil (then_normal (wp_seq (c_cond H rfl (fun hc30 => ?_) (fun hc30 => ?_))))
    · replace hm := condT hm hc30
      have hlt31 : i28 < a0.Pages.length := of_decide_eq_true hc30
      refine wp_skip (then_normal (wp_seq (wp_block (wp_seq (wp_region_lit (n_q H (q_move rfl) rfl ?_)))))); clear H a; intro a H
      replace hm := bindS hm; obtain ⟨x32, hx32, hm⟩ := hm
      obtain ⟨adx32, hAx32⟩ := SlR.adV (hrp0_0.ext (Flat.mono _) hS.x) hv24 hx32
      refine n_q H (q_ixV (i := i28) Tryd.underlying64 sz87 rfl hv24 hAx32 rfl (natI hx32)) rfl (W_q (q_load rfl (SlR.ldAggV (hrp0_0.ext (Flat.mono _) hS.x) hv24 hAx32 ag87 sz87 hx32)) rfl ?_); clear H a; intro a H
      refine n_alloc H ze87 rfl ?_
      clear H; intro b33 w34 hN hE35 hs; clear a; intro a H
      replace hS := hS.newBlk hN hE35 hs; clear hN hs
      refine n_q H (q_assign rfl) rfl ?_; clear H a; intro a H
      refine n_storeAll H rfl rfl (vs := [.int .i64 x32.Rights, .string x32.Init]) rfl sz87 (hS.blk 0 rfl) rfl (by simp) ?_
      clear H; intro w36 hN hC37 hz; clear a; intro a H; replace hS := hS.setBlk hN hC37; clear hN hz
      refine n_nil (then_normal (wp_seq (wp_seq (wp_region_lit (n_c H (fun HC => ?_)))))); clear H
      refine nc_q HC (q_fieldAddr0 rfl fo87_0) rfl (by kernel_rfl) (V_q (q_load rfl ((hS.blk 0 rfl).ld ag3 rfl)) rfl (by kernel_rfl) (V_q (q_lss rfl rfl) rfl (by kernel_rfl) (V_q (q_move rfl) rfl (by kernel_rfl) (V_g (q_fieldAddr0 rfl fo87_0) (by kernel_rfl) (by kernel_rfl) (by kernel_rfl) (V_g (q_load rfl ((hS.blk 0 rfl).ld ag3 rfl)) (by kernel_rfl) (by kernel_rfl) (by kernel_rfl) (V_g (q_gtr rfl rfl) (by kernel_rfl) (by kernel_rfl) (by kernel_rfl) (V_or (j := 3) rfl rfl rfl (by kernel_rfl) (by kernel_rfl) ?_))))))); clear HC a; intro a HC
      have H := HC.has; clear HC
      refine n_nil (then_normal (c_cond H rfl (fun hc38 => ?_) (fun hc38 => ?_)))
      · replace hm := condT hm hc38
        refine wp_seq (wp_region_lit (n_q H (q_move rfl) rfl (W_q (q_load rfl ((hG.ext hS.x).ld gRange (by decide) ag36)) rfl ?_))); clear H a; intro a H
        replace hm := bindS hm; obtain ⟨r39, hr39, hm⟩ := hm
        refine n_call H rfl en158 (g_plan_at_w (A := A) (IsErr.var (by decide) : IsE A w36 _ (.v gRange)) hr39) rfl ?_
        clear H; intro u40 w42 hv; clear a; intro a H; obtain ⟨_, rfl, hE43⟩ := hv
        replace hS := hS.new hE43; simp only [List.cons_append, List.nil_append] at hS
        refine n_q H (q_assign rfl) rfl ?_; clear H a; intro a H
        refine n_nil (then_normal (wp_ret (then_ret (block_ret (then_ret (then_ret (block_ret (then_ret ?_))))))))
        obtain rfl := Option.some.inj hm; have hz : _ = q27 := hn27; subst hz; replace hm := hm27; try dsimp only at hm
        obtain rfl := Option.some.inj hm
        replace hS := hS.take 1; simp only [List.take_succ_cons, List.take_zero] at hS
        refine ret1 H (.inr rfl) rfl rfl ?_
        exact ⟨_, rfl, hS⟩
      · replace hm := condF hm hc38
        refine wp_skip (then_normal (wp_seq (wp_region_lit (n_q H (q_fieldAddr0 rfl fo87_1) rfl (W_q (q_load rfl ((hS.blk 0 rfl).ld ag9 rfl)) rfl (W_q (q_lenS Tryd.underlying9 rfl) rfl (W_q (q_gtrN (i := x32.Init.size) (j := 64) rfl rfl) rfl ?_))))))); clear H a; intro a H
        refine n_nil (then_normal (c_cond H rfl (fun hc45 => ?_) (fun hc45 => ?_)))
        · replace hm := condT hm hc45
          refine wp_seq (wp_region_lit (n_q H (q_move rfl) rfl (W_q (q_load rfl ((hG.ext hS.x).ld gLength (by decide) ag36)) rfl ?_))); clear H a; intro a H
          replace hm := bindS hm; obtain ⟨r46, hr46, hm⟩ := hm
          refine n_call H rfl en158 (g_plan_at_w (A := A) (IsErr.var (by decide) : IsE A w36 _ (.v gLength)) hr46) rfl ?_
          clear H; intro u47 w49 hv; clear a; intro a H; obtain ⟨_, rfl, hE50⟩ := hv
          replace hS := hS.new hE50; simp only [List.cons_append, List.nil_append] at hS
          refine n_q H (q_assign rfl) rfl ?_; clear H a; intro a H
          refine n_nil (then_normal (wp_ret (block_ret (then_ret (then_ret (block_ret (then_ret ?_)))))))
          obtain rfl := Option.some.inj hm; have hz : _ = q27 := hn27; subst hz; replace hm := hm27; try dsimp only at hm
          obtain rfl := Option.some.inj hm
          replace hS := hS.take 1; simp only [List.take_succ_cons, List.take_zero] at hS
          refine ret1 H (.inr rfl) rfl rfl ?_
          exact ⟨_, rfl, hS⟩
        · replace hm := condF hm hc45
          refine wp_skip (block_normal (then_normal (wp_region_lit (n_q H (q_incr (i := i28) (j := 1) rfl rfl (by omega)) rfl (W_q (q_move rfl) rfl ?_))))); clear H a; intro a H
          refine n_nil (then_normal ?_)
          obtain rfl := Option.some.inj hm
          replace hS := hS.take 0; simp only [List.take_succ_cons, List.take_zero] at hS
          exact round (m27, i28 + 1) H ⟨rfl, rfl, rfl, trivial⟩ ⟨hn27, hS⟩ (Nat.lt_succ_self _)
    · replace hm := condF hm hc30
      refine wp_exit (then_exit (then_exit (block_exit ?_)))
      obtain rfl := Option.some.inj hm; have hz : _ = q27 := hn27; subst hz; replace hm := hm27; try dsimp only at hm
      refine then_normal (wp_seq (wp_region_lit (n_q H (q_assign rfl) rfl ?_))); clear H a; intro a H
      refine n_nil (then_normal (wp_ret ?_))
      obtain rfl := Option.some.inj hm
      replace hS := hS.dNil (A := A)
      refine ret1 H (.inr rfl) rfl rfl ?_
      exact ⟨_, rfl, hS⟩
theorem g_plan_checkProcs_w {w : World} {A : Nat → Addr} {cs0 : List Value} {a0 : GPlan} (hG : EV A w) (h0 : RGPlan w cs0 a0) {r : ErrM} (hm : g_plan_checkProcs a0 = some r) :
    Calls Tryd.prog 98 [.agg cs0.toArray].toArray w (Ret fun u w' => ∃ h_0, u = h_0 ∧ St NB w w' [erQ A h_0 r]) := by
  obtain ⟨vp0_0, vp0_1, vp0_2, vp0_3, rfl, hrp0_0, hrp0_1, hrp0_2, hrp0_3⟩ := h0
  have hS := St.begin NB w
  unfold g_plan_checkProcs at hm
  refine enter Tryd.func98 rfl rfl rfl ?_; intro a H; dsimp only [enumL, Nat.zero_add, Nat.reduceAdd] at H
  refine wp_seq (wp_region_lit (n_box H rfl (cs := [.int .i64 a0.Id, .bool a0.Mobile, vp0_0, vp0_1, vp0_2, .int .i64 a0.Events, vp0_3]) rfl rfl ?_))
  clear H; intro b21 w22 hN hE23 hs; clear a; intro a H
  replace hS := hS.newBlk hN hE23 hs; clear hN hs
  refine n_q H (q_assign rfl) rfl ?_; clear H a; intro a H
  refine n_nil (then_normal (wp_seq (wp_seq (wp_region_lit (n_c H (fun HC => ?_)))))); clear H
  refine nc_q HC (q_fieldAddr0 rfl fo68_3) rfl (by kernel_rfl) (V_q (q_load rfl ((hS.blk 0 rfl).ld ag65 rfl)) rfl (by kernel_rfl) ?_); clear HC a; intro a HC
  obtain ⟨A24, c24, hv24, hl24, hm24⟩ := SlR.formV (hrp0_1.ext (Flat.mono _) hS.x)
  refine nc_q HC (q_lenV Tryd.underlying65 rfl hv24) rfl (by kernel_rfl) (V_q (q_lssN (i := a0.Procs.length) (j := 1) rfl rfl) rfl (by kernel_rfl) (V_q (q_move rfl) rfl (by kernel_rfl) (V_g (q_fieldAddr0 rfl fo68_3) (by kernel_rfl) (by kernel_rfl) (by kernel_rfl) (V_g (q_load rfl ((hS.blk 0 rfl).ld ag65 rfl)) (by kernel_rfl) (by kernel_rfl) (by kernel_rfl) (V_g (q_lenV Tryd.underlying65 rfl hv24) (by kernel_rfl) (by kernel_rfl) (by kernel_rfl) (V_g (q_gtrN (i := a0.Procs.length) (j := 8) rfl rfl) (by kernel_rfl) (by kernel_rfl) (by kernel_rfl) (V_or (j := 4) rfl rfl rfl (by kernel_rfl) (by kernel_rfl) ?_))))))); clear HC a; intro a HC
  have H := HC.has; clear HC
  refine n_nil (then_normal (c_cond H rfl (fun hc25 => ?_) (fun hc25 => ?_)))
  · replace hm := condT hm hc25
    refine wp_seq (wp_region_lit (n_q H (q_load rfl ((hG.ext hS.x).ld gSize (by decide) ag36)) rfl (W_q (q_assign rfl) rfl ?_))); clear H a; intro a H
    refine n_nil (then_normal (wp_ret (then_ret ?_)))
    obtain rfl := Option.some.inj hm
    replace hS := hS.dVar (A := A) (g := gSize) (by decide)
    replace hS := hS.take 1; simp only [List.take_succ_cons, List.take_zero] at hS
    refine ret1 H (.inr rfl) rfl rfl ?_
    exact ⟨_, rfl, hS⟩
  · replace hm := condF hm hc25
    refine wp_skip (then_normal (wp_seq (wp_seq (wp_region_lit (n_q H (q_fieldAddr0 rfl fo68_3) rfl (W_q (q_load rfl ((hS.blk 0 rfl).ld ag65 rfl)) rfl (W_q (q_lenV Tryd.underlying65 rfl hv24) rfl (W_q (q_move rfl) rfl ?_)))))))); clear H a; intro a H
    refine n_nil (then_normal (wp_block ?_))
    replace hm := bindS hm; obtain ⟨q27, hm, hm27⟩ := hm; replace hm := iter_some hm; obtain ⟨n27, hm⟩ := hm
    refine c_loop (σ := Nat × Nat) (fun (m, i28) => [(1, .pointer (some ⟨b21, 0, none⟩)), (17, vp0_1), (18, .int .i64 ((a0.Procs.length : Nat) : Int)), (19, .int .i64 ((i28 : Nat) : Int))]) (fun (m, i28) wl => iterN (g_plan_checkProcs_L7 a0) m i28 = some q27 ∧ St NB w wl [blkR b21 [.int .i64 a0.Id, .bool a0.Mobile, vp0_0, vp0_1, vp0_2, .int .i64 a0.Events, vp0_3] 68]) (fun (m, i28) => m) (n27, 0) H ⟨rfl, rfl, rfl, rfl, trivial⟩ ⟨hm, hS⟩ ?_
    clear H hS hm a; intro xx a w29 H hR; obtain ⟨m, i28⟩ := xx; simp only [ent, List.map_cons, List.map_nil] at H; (try dsimp only at hR); obtain ⟨hm, hS⟩ := hR
    replace hm := iterN_step hm; obtain ⟨m27, o27, rfl, hm, hn27⟩ := hm; try dsimp only [g_plan_checkProcs_L7] at hm
    refine wp_seq (wp_region_lit (n_q H (q_lssN (i := i28) (j := a0.Procs.length) rfl rfl) rfl ?_)); clear H a; intro a H
    refine n_nil (then_normal (wp_seq (c_cond H rfl (fun hc30 => ?_) (fun hc30 => ?_))))
    · replace hm := condT hm hc30
      have hlt31 : i28 < a0.Procs.length := of_decide_eq_true hc30
      refine wp_skip (then_normal (wp_seq (wp_block (wp_seq (wp_region_lit (n_q H (q_move rfl) rfl ?_)))))); clear H a; intro a H
      replace hm := bindS hm; obtain ⟨x32, hx32, hm⟩ := hm
      obtain ⟨adx32, hAx32⟩ := SlR.adV (hrp0_1.ext (Flat.mono _) hS.x) hv24 hx32
      refine n_q H (q_ixV (i := i28) Tryd.underlying65 sz167 rfl hv24 hAx32 rfl (natI hx32)) rfl (W_q (q_load rfl (SlR.ldAggV (hrp0_1.ext (Flat.mono _) hS.x) hv24 hAx32 ag167 sz167 hx32)) rfl ?_); clear H a; intro a H
      refine n_alloc H ze167 rfl ?_
      clear H; intro b33 w34 hN hE35 hs; clear a; intro a H
      replace hS := hS.newBlk hN hE35 hs; clear hN hs
      refine n_q H (q_assign rfl) rfl ?_; clear H a; intro a H
      refine n_storeAll H rfl rfl (vs := [.int .i64 x32.Entry, .int .i64 x32.Prio, .bool x32.Auto]) rfl sz167 (hS.blk 0 rfl) rfl (by simp) ?_
      clear H; intro w36 hN hC37 hz; clear a; intro a H; replace hS := hS.setBlk hN hC37; clear hN hz
      refine n_nil (then_normal ?_)
      replace hm := bindS hm; obtain ⟨j38, hm, hm38⟩ := hm
      refine c_join (σ := Bool) H (fun q539 => [(1, .pointer (some ⟨b21, 0, none⟩)), (3, .int .i64 ((i28 : Nat) : Int)), (17, vp0_1), (18, .int .i64 ((a0.Procs.length : Nat) : Int)), (19, .int .i64 ((i28 : Nat) : Int)), (51, .bool q539)]) (fun q539 wl => (g_plan_checkProcs_J6 i28) q539 = some o27 ∧ St NB w wl [blkR b21 [.int .i64 a0.Id, .bool a0.Mobile, vp0_0, vp0_1, vp0_2, .int .i64 a0.Events, vp0_3] 68]) ?_ ?_
      · skip
        refine wp_region_lit (n_q H (q_fieldAddr0 rfl fo167_0) rfl (W_q (q_load rfl ((hS.blk 0 rfl).ld ag3 rfl)) rfl (W_q (q_lss rfl rfl) rfl (W_q (q_move rfl) rfl ?_)))); clear H a; intro a H
        rcases Bool.eq_false_or_eq_true (decide (x32.Entry < 0)) with hg540 | hg540
        · replace H := H.know 27 rfl hg540
          replace hm := condT hm hg540
          refine n_no H rfl rfl (by decide) rfl (W_no rfl rfl (by decide) rfl (W_no rfl rfl (by decide) rfl (W_no rfl rfl (by decide) rfl (W_no rfl rfl (by decide) rfl (W_no rfl rfl (by decide) rfl (W_no rfl rfl (by decide) rfl (W_q (q_pickT rfl rfl) rfl (W_q (q_move rfl) rfl (W_no rfl rfl (by decide) rfl (W_no rfl rfl (by decide) rfl (W_no rfl rfl (by decide) rfl ?_))))))))))); clear H a; intro a H
          refine n_no H rfl rfl (by decide) rfl (W_q (q_pickT rfl rfl) rfl (W_q (q_move rfl) rfl (W_no rfl rfl (by decide) rfl (W_no rfl rfl (by decide) rfl (W_no rfl rfl (by decide) rfl (W_q (q_pickT rfl rfl) rfl (W_q (q_move rfl) rfl (W_no rfl rfl (by decide) rfl (W_no rfl rfl (by decide) rfl (W_no rfl rfl (by decide) rfl (W_q (q_pickT rfl rfl) rfl ?_))))))))))); clear H a; intro a H
          refine n_nil (then_normal ?_)
          obtain rfl := Option.some.inj hm; replace hm := hm38; try dsimp only at hm
          replace hS := hS.pick 1 rfl; dsimp only [List.eraseIdx] at hS
          replace hS := hS.take 1; simp only [List.take_succ_cons, List.take_zero] at hS
          exact join true H ⟨rfl, rfl, rfl, rfl, rfl, rfl, trivial⟩ ⟨hm, hS⟩
        · replace H := H.know 27 rfl hg540
          replace hm := condF hm hg540
          refine n_yes H rfl rfl (n_q H (q_fieldAddr0 rfl fo167_0) rfl (W_yes rfl rfl (W_q (q_load rfl ((hS.blk 0 rfl).ld ag3 rfl)) rfl (W_yes rfl rfl (W_q (q_fieldAddr0 rfl fo68_2) rfl (W_yes rfl rfl (W_q (q_load rfl ((hS.blk 1 rfl).ld ag64 rfl)) rfl (W_yes rfl rfl ?_)))))))); clear H a; intro a H
          obtain ⟨A541, c541, hv541, hl541, hm541⟩ := SlR.formV (hrp0_0.ext (Flat.mono _) hS.x)
          refine n_q H (q_lenV Tryd.underlying64 rfl hv541) rfl (W_yes rfl rfl (W_q (q_mulW rfl rfl) rfl (W_yes rfl rfl (W_q (q_geq rfl rfl) rfl (W_q (q_pickF rfl rfl) rfl (W_q (q_move rfl) rfl ?_)))))); clear H a; intro a H
          rcases Bool.eq_false_or_eq_true (decide ((IntKind.i64.wrap (64 * ((a0.Pages.length : Nat) : Int))) ≤ x32.Entry)) with hg542 | hg542
          · replace H := H.know 36 rfl hg542
            replace hm := condT hm hg542
            refine n_no H rfl rfl (by decide) rfl (W_no rfl rfl (by decide) rfl (W_no rfl rfl (by decide) rfl (W_no rfl rfl (by decide) rfl (W_q (q_pickT rfl rfl) rfl (W_q (q_move rfl) rfl (W_no rfl rfl (by decide) rfl (W_no rfl rfl (by decide) rfl (W_no rfl rfl (by decide) rfl (W_q (q_pickT rfl rfl) rfl (W_q (q_move rfl) rfl (W_no rfl rfl (by decide) rfl ?_))))))))))); clear H a; intro a H
            refine n_no H rfl rfl (by decide) rfl (W_no rfl rfl (by decide) rfl (W_q (q_pickT rfl rfl) rfl ?_)); clear H a; intro a H
            refine n_nil (then_normal ?_)
            obtain rfl := Option.some.inj hm; replace hm := hm38; try dsimp only at hm
            replace hS := hS.pick 1 rfl; dsimp only [List.eraseIdx] at hS
            replace hS := hS.take 1; simp only [List.take_succ_cons, List.take_zero] at hS
            exact join true H ⟨rfl, rfl, rfl, rfl, rfl, rfl, trivial⟩ ⟨hm, hS⟩
          · replace H := H.know 36 rfl hg542
            replace hm := condF hm hg542
            refine n_yes H rfl rfl (n_q H (q_fieldAddr0 rfl fo167_0) rfl (W_yes rfl rfl (W_q (q_load rfl ((hS.blk 0 rfl).ld ag3 rfl)) rfl (W_yes rfl rfl (W_q (q_remW rfl rfl (by decide)) rfl (W_yes rfl rfl (W_q (q_neqD rfl rfl) rfl (W_q (q_pickF rfl rfl) rfl (W_q (q_move rfl) rfl ?_))))))))); clear H a; intro a H
            rcases Bool.eq_false_or_eq_true (!decide ((Int.tmod x32.Entry 4) = 0)) with hg543 | hg543
            · replace H := H.know 42 rfl hg543
              replace hm := condT hm hg543
              refine n_no H rfl rfl (by decide) rfl (W_no rfl rfl (by decide) rfl (W_no rfl rfl (by decide) rfl (W_q (q_pickT rfl rfl) rfl (W_q (q_move rfl) rfl (W_no rfl rfl (by decide) rfl (W_no rfl rfl (by decide) rfl (W_no rfl rfl (by decide) rfl (W_q (q_pickT rfl rfl) rfl ?_)))))))); clear H a; intro a H
              refine n_nil (then_normal ?_)
              obtain rfl := Option.some.inj hm; replace hm := hm38; try dsimp only at hm
              replace hS := hS.pick 1 rfl; dsimp only [List.eraseIdx] at hS
              replace hS := hS.take 1; simp only [List.take_succ_cons, List.take_zero] at hS
              exact join true H ⟨rfl, rfl, rfl, rfl, rfl, rfl, trivial⟩ ⟨hm, hS⟩
            · replace H := H.know 42 rfl hg543
              replace hm := condF hm hg543
              refine n_yes H rfl rfl (n_q H (q_fieldAddr0 rfl fo167_1) rfl (W_yes rfl rfl (W_q (q_load rfl ((hS.blk 0 rfl).ld ag3 rfl)) rfl (W_yes rfl rfl (W_q (q_lss rfl rfl) rfl (W_q (q_pickF rfl rfl) rfl (W_q (q_move rfl) rfl ?_))))))); clear H a; intro a H
              rcases Bool.eq_false_or_eq_true (decide (x32.Prio < 0)) with hg544 | hg544
              · replace H := H.know 47 rfl hg544
                replace hm := condT hm hg544
                refine n_no H rfl rfl (by decide) rfl (W_no rfl rfl (by decide) rfl (W_no rfl rfl (by decide) rfl (W_q (q_pickT rfl rfl) rfl ?_))); clear H a; intro a H
                refine n_nil (then_normal ?_)
                obtain rfl := Option.some.inj hm; replace hm := hm38; try dsimp only at hm
                replace hS := hS.pick 1 rfl; dsimp only [List.eraseIdx] at hS
                replace hS := hS.take 1; simp only [List.take_succ_cons, List.take_zero] at hS
                exact join true H ⟨rfl, rfl, rfl, rfl, rfl, rfl, trivial⟩ ⟨hm, hS⟩
              · replace H := H.know 47 rfl hg544
                replace hm := condF hm hg544
                refine n_yes H rfl rfl (n_q H (q_fieldAddr0 rfl fo167_1) rfl (W_yes rfl rfl (W_q (q_load rfl ((hS.blk 0 rfl).ld ag3 rfl)) rfl (W_yes rfl rfl (W_q (q_gtr rfl rfl) rfl (W_q (q_pickF rfl rfl) rfl ?_)))))); clear H a; intro a H
                refine n_nil (then_normal ?_)
                obtain rfl := Option.some.inj hm; replace hm := hm38; try dsimp only at hm
                replace hS := hS.pick 1 rfl; dsimp only [List.eraseIdx] at hS
                replace hS := hS.take 1; simp only [List.take_succ_cons, List.take_zero] at hS
                exact join (decide (255 < x32.Prio)) H ⟨rfl, rfl, rfl, rfl, rfl, rfl, trivial⟩ ⟨hm, hS⟩
      · clear H hS hm a; intro q539 a w545 H hR
        simp only [ent, List.map_cons, List.map_nil] at H; (try dsimp only at hR); obtain ⟨hm, hS⟩ := hR; try dsimp only [g_plan_checkProcs_J6] at hm
        refine c_cond H rfl (fun hc546 => ?_) (fun hc546 => ?_)
        · replace hm := condT hm hc546
          refine wp_seq (wp_region_lit (n_q H (q_move rfl) rfl (W_q (q_load rfl ((hG.ext hS.x).ld gRange (by decide) ag36)) rfl ?_))); clear H a; intro a H
          replace hm := bindS hm; obtain ⟨r547, hr547, hm⟩ := hm
          refine n_call H rfl en158 (g_plan_at_w (A := A) (IsErr.var (by decide) : IsE A w545 _ (.v gRange)) hr547) rfl ?_
          clear H; intro u548 w550 hv; clear a; intro a H; obtain ⟨_, rfl, hE551⟩ := hv
          replace hS := hS.new hE551; simp only [List.cons_append, List.nil_append] at hS
          refine n_q H (q_assign rfl) rfl ?_; clear H a; intro a H
          refine n_nil (then_normal (wp_ret (block_ret (then_ret (then_ret (block_ret (then_ret ?_)))))))
          obtain rfl := Option.some.inj hm; have hz : _ = q27 := hn27; subst hz; replace hm := hm27; try dsimp only at hm
          obtain rfl := Option.some.inj hm
          replace hS := hS.take 1; simp only [List.take_succ_cons, List.take_zero] at hS
          refine ret1 H (.inr rfl) rfl rfl ?_
          exact ⟨_, rfl, hS⟩
        · replace hm := condF hm hc546
          refine wp_skip (block_normal (then_normal (wp_region_lit (n_q H (q_incr (i := i28) (j := 1) rfl rfl (by omega)) rfl (W_q (q_move rfl) rfl ?_))))); clear H a; intro a H
          refine n_nil (then_normal ?_)
          obtain rfl := Option.some.inj hm
          exact round (m27, i28 + 1) H ⟨rfl, rfl, rfl, rfl, trivial⟩ ⟨hn27, hS⟩ (Nat.lt_succ_self _)
    · replace hm := condF hm hc30
      refine wp_exit (then_exit (then_exit (block_exit ?_)))
      obtain rfl := Option.some.inj hm; have hz : _ = q27 := hn27; subst hz; replace hm := hm27; try dsimp only at hm
      refine then_normal (wp_seq (wp_region_lit (n_q H (q_assign rfl) rfl ?_))); clear H a; intro a H
      refine n_nil (then_normal (wp_ret ?_))
      obtain rfl := Option.some.inj hm
      replace hS := hS.dNil (A := A)
      replace hS := hS.take 1; simp only [List.take_succ_cons, List.take_zero] at hS
      refine ret1 H (.inr rfl) rfl rfl ?_
      exact ⟨_, rfl, hS⟩
theorem g_port_isQueue_w {w : World} {A : Nat → Addr} {a0 : GPortPlan} {r : Bool} (hm : g_port_isQueue a0 = some r) :
    Calls Tryd.prog 181 [.agg (eGPortPlan a0).toArray].toArray w (Ret fun u w' => u = .bool r ∧ Ext w w') := by
  have hS := St.begin NB w
  unfold g_port_isQueue at hm
  refine enter Tryd.func181 rfl rfl rfl ?_; intro a H; dsimp only [enumL, Nat.zero_add, Nat.reduceAdd] at H
  refine wp_seq (wp_region_lit (n_box H rfl (cs := [.int .i64 a0.Kind, .int .i64 a0.Size, .int .i64 a0.Depth, .int .i64 a0.Refresh]) rfl rfl ?_))
  clear H; intro b21 w22 hN hE23 hs; clear a; intro a H
  replace hS := hS.newBlk hN hE23 hs; clear hN hs
  refine n_q H (q_assign rfl) rfl ?_; clear H a; intro a H
  refine n_nil (then_normal (wp_seq (wp_region_lit (n_c H (fun HC => ?_))))); clear H
  refine nc_q HC (q_fieldAddr0 rfl fo169_0) rfl (by kernel_rfl) (V_q (q_load rfl ((hS.blk 0 rfl).ld ag3 rfl)) rfl (by kernel_rfl) (V_q (q_eqlD rfl rfl) rfl (by kernel_rfl) (V_q (q_move rfl) rfl (by kernel_rfl) (V_g (q_fieldAddr0 rfl fo169_0) (by kernel_rfl) (by kernel_rfl) (by kernel_rfl) (V_g (q_load rfl ((hS.blk 0 rfl).ld ag3 rfl)) (by kernel_rfl) (by kernel_rfl) (by kernel_rfl) (V_g (q_eqlD rfl rfl) (by kernel_rfl) (by kernel_rfl) (by kernel_rfl) (V_or (j := 3) rfl rfl rfl (by kernel_rfl) (by kernel_rfl) (V_q (q_assign rfl) rfl (by kernel_rfl) ?_)))))))); clear HC a; intro a HC
  have H := HC.has; clear HC
  refine n_nil (then_normal (wp_ret ?_))
  obtain rfl := Option.some.inj hm
  replace hS := hS.take 0; simp only [List.take_succ_cons, List.take_zero] at hS
  refine ret1 H (.inr rfl) rfl rfl ?_
  exact ⟨rfl, hS.x⟩
theorem g_port_isIn_w {w : World} {A : Nat → Addr} {a0 : GPortPlan} {r : Bool} (hm : g_port_isIn a0 = some r) :
    Calls Tryd.prog 182 [.agg (eGPortPlan a0).toArray].toArray w (Ret fun u w' => u = .bool r ∧ Ext w w') := by
  have hS := St.begin NB w
  unfold g_port_isIn at hm
  refine enter Tryd.func182 rfl rfl rfl ?_; intro a H; dsimp only [enumL, Nat.zero_add, Nat.reduceAdd] at H
  refine wp_seq (wp_region_lit (n_box H rfl (cs := [.int .i64 a0.Kind, .int .i64 a0.Size, .int .i64 a0.Depth, .int .i64 a0.Refresh]) rfl rfl ?_))
  clear H; intro b21 w22 hN hE23 hs; clear a; intro a H
  replace hS := hS.newBlk hN hE23 hs; clear hN hs
  refine n_q H (q_assign rfl) rfl ?_; clear H a; intro a H
  refine n_nil (then_normal (wp_seq (wp_region_lit (n_c H (fun HC => ?_))))); clear H
  refine nc_q HC (q_fieldAddr0 rfl fo169_0) rfl (by kernel_rfl) (V_q (q_load rfl ((hS.blk 0 rfl).ld ag3 rfl)) rfl (by kernel_rfl) (V_q (q_eqlD rfl rfl) rfl (by kernel_rfl) (V_q (q_move rfl) rfl (by kernel_rfl) (V_g (q_fieldAddr0 rfl fo169_0) (by kernel_rfl) (by kernel_rfl) (by kernel_rfl) (V_g (q_load rfl ((hS.blk 0 rfl).ld ag3 rfl)) (by kernel_rfl) (by kernel_rfl) (by kernel_rfl) (V_g (q_eqlD rfl rfl) (by kernel_rfl) (by kernel_rfl) (by kernel_rfl) (V_or (j := 3) rfl rfl rfl (by kernel_rfl) (by kernel_rfl) (V_q (q_assign rfl) rfl (by kernel_rfl) ?_)))))))); clear HC a; intro a HC
  have H := HC.has; clear HC
  refine n_nil (then_normal (wp_ret ?_))
  obtain rfl := Option.some.inj hm
  replace hS := hS.take 0; simp only [List.take_succ_cons, List.take_zero] at hS
  refine ret1 H (.inr rfl) rfl rfl ?_
  exact ⟨rfl, hS.x⟩
theorem g_port_isOut_w {w : World} {A : Nat → Addr} {a0 : GPortPlan} {r : Bool} (hm : g_port_isOut a0 = some r) :
    Calls Tryd.prog 183 [.agg (eGPortPlan a0).toArray].toArray w (Ret fun u w' => u = .bool r ∧ Ext w w') := by
  have hS := St.begin NB w
  unfold g_port_isOut at hm
  refine enter Tryd.func183 rfl rfl rfl ?_; intro a H; dsimp only [enumL, Nat.zero_add, Nat.reduceAdd] at H
  refine wp_seq (wp_region_lit (n_box H rfl (cs := [.int .i64 a0.Kind, .int .i64 a0.Size, .int .i64 a0.Depth, .int .i64 a0.Refresh]) rfl rfl ?_))
  clear H; intro b21 w22 hN hE23 hs; clear a; intro a H
  replace hS := hS.newBlk hN hE23 hs; clear hN hs
  refine n_q H (q_assign rfl) rfl ?_; clear H a; intro a H
  refine n_nil (then_normal (wp_seq (wp_region_lit (n_c H (fun HC => ?_))))); clear H
  refine nc_q HC (q_fieldAddr0 rfl fo169_0) rfl (by kernel_rfl) (V_q (q_load rfl ((hS.blk 0 rfl).ld ag3 rfl)) rfl (by kernel_rfl) (V_q (q_eqlD rfl rfl) rfl (by kernel_rfl) (V_q (q_move rfl) rfl (by kernel_rfl) (V_g (q_fieldAddr0 rfl fo169_0) (by kernel_rfl) (by kernel_rfl) (by kernel_rfl) (V_g (q_load rfl ((hS.blk 0 rfl).ld ag3 rfl)) (by kernel_rfl) (by kernel_rfl) (by kernel_rfl) (V_g (q_eqlD rfl rfl) (by kernel_rfl) (by kernel_rfl) (by kernel_rfl) (V_or (j := 3) rfl rfl rfl (by kernel_rfl) (by kernel_rfl) (V_q (q_assign rfl) rfl (by kernel_rfl) ?_)))))))); clear HC a; intro a HC
  have H := HC.has; clear HC
  refine n_nil (then_normal (wp_ret ?_))
  obtain rfl := Option.some.inj hm
  replace hS := hS.take 0; simp only [List.take_succ_cons, List.take_zero] at hS
  refine ret1 H (.inr rfl) rfl rfl ?_
  exact ⟨rfl, hS.x⟩
theorem g_port_CheckPlan_w {w : World} {A : Nat → Addr} {a0 : GPortPlan} (hG : EV A w) {r : ErrM} (hm : g_port_CheckPlan a0 = some r) :
    Calls Tryd.prog 159 [.agg (eGPortPlan a0).toArray].toArray w (Ret fun u w' => ∃ h_0, u = h_0 ∧ St NB w w' [erQ A h_0 r]) := by
  have hS := St.begin NB w
  unfold g_port_CheckPlan at hm
  refine enter Tryd.func159 rfl rfl rfl ?_; intro a H; dsimp only [enumL, Nat.zero_add, Nat.reduceAdd] at H
  refine wp_seq (wp_region_lit (n_box H rfl (cs := [.int .i64 a0.Kind, .int .i64 a0.Size, .int .i64 a0.Depth, .int .i64 a0.Refresh]) rfl rfl ?_))
  clear H; intro b21 w22 hN hE23 hs; clear a; intro a H
  replace hS := hS.newBlk hN hE23 hs; clear hN hs
  refine n_q H (q_assign rfl) rfl ?_; clear H a; intro a H
  refine n_nil (then_normal (wp_seq (wp_region_lit (n_q H (q_assign rfl) rfl (W_q (q_assign rfl) rfl ?_))))); clear H a; intro a H
  refine n_nil (then_normal ?_)
  replace hm := bindS hm; obtain ⟨j24, hm, hm24⟩ := hm
  refine c_join (σ := Nat) H (fun i525 => [(1, .pointer (some ⟨b21, 0, none⟩)), (3, .int .i64 ((i525 : Nat) : Int)), (4, .int .i64 0)]) (fun i525 wl => (g_port_CheckPlan_J3 a0) i525 = some r ∧ St NB w wl [blkR b21 [.int .i64 a0.Kind, .int .i64 a0.Size, .int .i64 a0.Depth, .int .i64 a0.Refresh] 169]) ?_ ?_
  · skip
    refine wp_seq (wp_region_lit (n_q H (q_load rfl ((hS.blk 0 rfl).ldAll ag169 sz169)) rfl ?_)); clear H a; intro a H
    replace hm := bindS hm; obtain ⟨r526, hr526, hm⟩ := hm
    refine n_call H rfl en181 (g_port_isQueue_w (A := A) hr526) rfl ?_
    clear H; intro x529 w527 hv; clear a; intro a H; obtain ⟨rfl, hE528⟩ := hv
    replace hS := hS.ext hE528
    refine n_nil (then_normal (c_cond H rfl (fun hc530 => ?_) (fun hc530 => ?_)))
    · replace hm := condT hm hc530
      refine wp_region_lit (n_q H (q_assign rfl) rfl ?_); clear H a; intro a H
      refine n_nil (then_normal ?_)
      obtain rfl := Option.some.inj hm; replace hm := hm24; try dsimp only at hm
      exact join 8 H ⟨rfl, rfl, rfl, trivial⟩ ⟨hm, hS⟩
    · replace hm := condF hm hc530
      refine wp_skip (then_normal ?_)
      obtain rfl := Option.some.inj hm; replace hm := hm24; try dsimp only at hm
      exact join 1 H ⟨rfl, rfl, rfl, trivial⟩ ⟨hm, hS⟩
  · clear H hS hm a; intro i525 a w531 H hR
    simp only [ent, List.map_cons, List.map_nil] at H; (try dsimp only at hR); obtain ⟨hm, hS⟩ := hR; try dsimp only [g_port_CheckPlan_J3] at hm
    replace hm := bindS hm; obtain ⟨j532, hm, hm532⟩ := hm
    refine c_join (σ := Nat) H (fun i1033 => [(1, .pointer (some ⟨b21, 0, none⟩)), (3, .int .i64 ((i525 : Nat) : Int)), (4, .int .i64 ((i1033 : Nat) : Int))]) (fun i1033 wl => (g_port_CheckPlan_J2 a0 i525) i1033 = some r ∧ St NB w wl [blkR b21 [.int .i64 a0.Kind, .int .i64 a0.Size, .int .i64 a0.Depth, .int .i64 a0.Refresh] 169]) ?_ ?_
    · skip
      refine wp_seq (wp_region_lit (n_q H (q_fieldAddr0 rfl fo169_0) rfl (W_q (q_load rfl ((hS.blk 0 rfl).ld ag3 rfl)) rfl (W_q (q_eqlD rfl rfl) rfl ?_)))); clear H a; intro a H
      refine n_nil (then_normal (c_cond H rfl (fun hc1034 => ?_) (fun hc1034 => ?_)))
      · replace hm := condT hm hc1034
        refine wp_region_lit (n_q H (q_assign rfl) rfl ?_); clear H a; intro a H
        refine n_nil (then_normal ?_)
        obtain rfl := Option.some.inj hm; replace hm := hm532; try dsimp only at hm
        exact join 255 H ⟨rfl, rfl, rfl, trivial⟩ ⟨hm, hS⟩
      · replace hm := condF hm hc1034
        refine wp_skip (then_normal ?_)
        obtain rfl := Option.some.inj hm; replace hm := hm532; try dsimp only at hm
        exact join 0 H ⟨rfl, rfl, rfl, trivial⟩ ⟨hm, hS⟩
    · clear H hS hm a; intro i1033 a w1035 H hR
      simp only [ent, List.map_cons, List.map_nil] at H; (try dsimp only at hR); obtain ⟨hm, hS⟩ := hR; try dsimp only [g_port_CheckPlan_J2] at hm
      refine wp_seq (wp_block ?_)
      replace hm := bindS hm; obtain ⟨j1036, hm, hm1036⟩ := hm
      refine c_join (σ := Bool) H (fun q1537 => [(1, .pointer (some ⟨b21, 0, none⟩)), (3, .int .i64 ((i525 : Nat) : Int)), (4, .int .i64 ((i1033 : Nat) : Int)), (10, .bool q1537)]) (fun q1537 wl => (g_port_CheckPlan_J1 a0 i525 i1033) q1537 = some r ∧ St NB w wl [blkR b21 [.int .i64 a0.Kind, .int .i64 a0.Size, .int .i64 a0.Depth, .int .i64 a0.Refresh] 169]) ?_ ?_
      · skip
        refine wp_region_lit (n_q H (q_load rfl ((hS.blk 0 rfl).ldAll ag169 sz169)) rfl ?_); clear H a; intro a H
        replace hm := bindS hm; obtain ⟨r1538, hr1538, hm⟩ := hm
        refine n_call H rfl en182 (g_port_isIn_w (A := A) hr1538) rfl ?_
        clear H; intro x1541 w1539 hv; clear a; intro a H; obtain ⟨rfl, hE1540⟩ := hv
        replace hS := hS.ext hE1540
        refine n_q H (q_not rfl) rfl (W_q (q_move rfl) rfl ?_); clear H a; intro a H
        rcases Bool.eq_false_or_eq_true (!r1538) with hg1542 | hg1542
        · replace H := H.know 14 rfl hg1542
          replace hm := condT hm hg1542
          refine n_yes H rfl rfl (n_q H (q_load rfl ((hS.blk 0 rfl).ldAll ag169 sz169)) rfl (W_yes rfl rfl ?_)); clear H a; intro a H
          replace hm := bindS hm; obtain ⟨r1543, hr1543, hm⟩ := hm
          refine n_call H rfl en183 (g_port_isOut_w (A := A) hr1543) rfl ?_
          clear H; intro x1546 w1544 hv; clear a; intro a H; obtain ⟨rfl, hE1545⟩ := hv
          replace hS := hS.ext hE1545
          refine n_yes H rfl rfl (n_q H (q_not rfl) rfl (W_q (q_pickT rfl rfl) rfl (W_q (q_assign rfl) rfl ?_))); clear H a; intro a H
          refine n_nil (then_normal ?_)
          obtain rfl := Option.some.inj hm; replace hm := hm1036; try dsimp only at hm
          exact join (!r1543) H ⟨rfl, rfl, rfl, rfl, trivial⟩ ⟨hm, hS⟩
        · replace H := H.know 14 rfl hg1542
          replace hm := condF hm hg1542
          refine n_no H rfl rfl (by decide) rfl (W_no rfl rfl (by decide) rfl (W_no rfl rfl (by decide) rfl (W_q (q_pickF rfl rfl) rfl (W_q (q_assign rfl) rfl ?_)))); clear H a; intro a H
          refine n_nil (then_normal ?_)
          obtain rfl := Option.some.inj hm; replace hm := hm1036; try dsimp only at hm
          exact join false H ⟨rfl, rfl, rfl, rfl, trivial⟩ ⟨hm, hS⟩
      · clear H hS hm a; intro q1537 a w1547 H hR
        simp only [ent, List.map_cons, List.map_nil] at H; (try dsimp only at hR); obtain ⟨hm, hS⟩ := hR; try dsimp only [g_port_CheckPlan_J1] at hm
        refine c_cond H rfl (fun hc1548 => ?_) (fun hc1548 => ?_)
        · replace hm := condT hm hc1548
          refine wp_seq (wp_region_lit (n_q H (q_load rfl ((hG.ext hS.x).ld gKind (by decide) ag36)) rfl (W_q (q_assign rfl) rfl ?_))); clear H a; intro a H
          refine n_nil (then_normal (wp_ret (block_ret (then_ret ?_))))
          obtain rfl := Option.some.inj hm
          replace hS := hS.dVar (A := A) (g := gKind) (by decide)
          replace hS := hS.take 1; simp only [List.take_succ_cons, List.take_zero] at hS
          refine ret1 H (.inr rfl) rfl rfl ?_
          exact ⟨_, rfl, hS⟩
        · replace hm := condF hm hc1548
          refine wp_seq (wp_region_lit (n_c H (fun HC => ?_))); clear H
          refine nc_q HC (q_fieldAddr0 rfl fo169_1) rfl (by kernel_rfl) (V_q (q_load rfl ((hS.blk 0 rfl).ld ag3 rfl)) rfl (by kernel_rfl) (V_q (q_lss rfl rfl) rfl (by kernel_rfl) (V_q (q_move rfl) rfl (by kernel_rfl) (V_g (q_fieldAddr0 rfl fo169_1) (by kernel_rfl) (by kernel_rfl) (by kernel_rfl) (V_g (q_load rfl ((hS.blk 0 rfl).ld ag3 rfl)) (by kernel_rfl) (by kernel_rfl) (by kernel_rfl) (V_g (q_gtr rfl rfl) (by kernel_rfl) (by kernel_rfl) (by kernel_rfl) (V_or (j := 3) rfl rfl rfl (by kernel_rfl) (by kernel_rfl) (V_q (q_assign rfl) rfl (by kernel_rfl) ?_)))))))); clear HC a; intro a HC
          have H := HC.has; clear HC
          refine n_nil (then_normal (c_cond H rfl (fun hc1550 => ?_) (fun hc1550 => ?_)))
          · replace hm := condT hm hc1550
            refine wp_seq (wp_region_lit (n_q H (q_load rfl ((hG.ext hS.x).ld gSize (by decide) ag36)) rfl (W_q (q_assign rfl) rfl ?_))); clear H a; intro a H
            refine n_nil (then_normal (wp_ret (block_ret (then_ret ?_))))
            obtain rfl := Option.some.inj hm
            replace hS := hS.dVar (A := A) (g := gSize) (by decide)
            replace hS := hS.take 1; simp only [List.take_succ_cons, List.take_zero] at hS
            refine ret1 H (.inr rfl) rfl rfl ?_
            exact ⟨_, rfl, hS⟩
          · replace hm := condF hm hc1550
            refine wp_seq (wp_region_lit (n_c H (fun HC => ?_))); clear H
            refine nc_q HC (q_fieldAddr0 rfl fo169_2) rfl (by kernel_rfl) (V_q (q_load rfl ((hS.blk 0 rfl).ld ag3 rfl)) rfl (by kernel_rfl) (V_q (q_lss rfl rfl) rfl (by kernel_rfl) (V_q (q_move rfl) rfl (by kernel_rfl) (V_g (q_fieldAddr0 rfl fo169_2) (by kernel_rfl) (by kernel_rfl) (by kernel_rfl) (V_g (q_load rfl ((hS.blk 0 rfl).ld ag3 rfl)) (by kernel_rfl) (by kernel_rfl) (by kernel_rfl) (V_g (q_move rfl) (by kernel_rfl) (by kernel_rfl) (by kernel_rfl) (V_g (q_gtr rfl rfl) (by kernel_rfl) (by kernel_rfl) (by kernel_rfl) (V_or (j := 3) rfl rfl rfl (by kernel_rfl) (by kernel_rfl) (V_q (q_move rfl) rfl (by kernel_rfl) (V_g (q_fieldAddr0 rfl fo169_3) (by kernel_rfl) (by kernel_rfl) (by kernel_rfl) (V_g (q_load rfl ((hS.blk 0 rfl).ld ag3 rfl)) (by kernel_rfl) (by kernel_rfl) (by kernel_rfl) ?_))))))))))); clear HC a; intro a HC
            refine nc_g HC (q_lss rfl rfl) (by kernel_rfl) (by kernel_rfl) (by kernel_rfl) (V_or (j := 9) rfl rfl rfl (by kernel_rfl) (by kernel_rfl) (V_q (q_move rfl) rfl (by kernel_rfl) (V_g (q_fieldAddr0 rfl fo169_3) (by kernel_rfl) (by kernel_rfl) (by kernel_rfl) (V_g (q_load rfl ((hS.blk 0 rfl).ld ag3 rfl)) (by kernel_rfl) (by kernel_rfl) (by kernel_rfl) (V_g (q_move rfl) (by kernel_rfl) (by kernel_rfl) (by kernel_rfl) (V_g (q_gtr rfl rfl) (by kernel_rfl) (by kernel_rfl) (by kernel_rfl) (V_or (j := 14) rfl rfl rfl (by kernel_rfl) (by kernel_rfl) (V_q (q_assign rfl) rfl (by kernel_rfl) ?_)))))))); clear HC a; intro a HC
            have H := HC.has; clear HC
            refine n_nil (then_normal (c_cond H rfl (fun hc1552 => ?_) (fun hc1552 => ?_)))
            · replace hm := condT hm hc1552
              refine wp_seq (wp_region_lit (n_q H (q_load rfl ((hG.ext hS.x).ld gRange (by decide) ag36)) rfl (W_q (q_assign rfl) rfl ?_))); clear H a; intro a H
              refine n_nil (then_normal (wp_ret (block_ret (then_ret ?_))))
              obtain rfl := Option.some.inj hm
              replace hS := hS.dVar (A := A) (g := gRange) (by decide)
              replace hS := hS.take 1; simp only [List.take_succ_cons, List.take_zero] at hS
              refine ret1 H (.inr rfl) rfl rfl ?_
              exact ⟨_, rfl, hS⟩
            · replace hm := condF hm hc1552
              refine wp_skip (block_normal (then_normal (wp_seq (wp_region_lit (n_q H (q_assign rfl) rfl ?_))))); clear H a; intro a H
              refine n_nil (then_normal (wp_ret ?_))
              obtain rfl := Option.some.inj hm
              replace hS := hS.dNil (A := A)
              replace hS := hS.take 1; simp only [List.take_succ_cons, List.take_zero] at hS
              refine ret1 H (.inr rfl) rfl rfl ?_
              exact ⟨_, rfl, hS⟩
theorem g_port_Most_w {w : World} {A : Nat → Addr} {a0 : GPortPlan} (hG : EV A w) {r : Int × ErrM} (hm : g_port_Most a0 = some r) :
    Calls Tryd.prog 184 [.agg (eGPortPlan a0).toArray].toArray w (Ret fun u w' => ∃ h_0, u = .tuple #[.int .i64 r.1, h_0] ∧ St NB w w' [erQ A h_0 r.2]) := by
  have hS := St.begin NB w
  unfold g_port_Most at hm
  refine enter Tryd.func184 rfl rfl rfl ?_; intro a H; dsimp only [enumL, Nat.zero_add, Nat.reduceAdd] at H
  refine wp_seq (wp_region_lit (n_box H rfl (cs := [.int .i64 a0.Kind, .int .i64 a0.Size, .int .i64 a0.Depth, .int .i64 a0.Refresh]) rfl rfl ?_))
  clear H; intro b21 w22 hN hE23 hs; clear a; intro a H
  replace hS := hS.newBlk hN hE23 hs; clear hN hs
  refine n_q H (q_assign rfl) rfl (W_q (q_assign rfl) rfl ?_); clear H a; intro a H
  refine n_nil (then_normal (wp_seq (wp_seq (wp_region_lit (n_q H (q_load rfl ((hS.blk 0 rfl).ldAll ag169 sz169)) rfl ?_))))); clear H a; intro a H
  replace hm := bindS hm; obtain ⟨r24, hr24, hm⟩ := hm
  refine n_call H rfl en159 (g_port_CheckPlan_w (A := A) (hG.ext hS.x) hr24) rfl ?_
  clear H; intro u25 w27 hv; clear a; intro a H; obtain ⟨_, rfl, hE28⟩ := hv
  replace hS := hS.new hE28; simp only [List.cons_append, List.nil_append] at hS
  refine n_q H (q_cast (q_nnilI Tryd.underlying36 rfl rfl (hS.any 0 rfl : IsE A w27 u25 r24).form) (show _ = Value.bool (!decide (r24 = .nil)) by rw [IsErr.isNil (hS.any 0 rfl : IsE A w27 u25 r24)])) rfl ?_; clear H a; intro a H
  refine n_nil (then_normal (c_cond H rfl (fun hc30 => ?_) (fun hc30 => ?_)))
  · replace hm := condT hm hc30
    refine wp_seq (c_quiet (by kernel_rfl) (by kernel_rfl) ?_)
    refine qq_q H (q_load rfl ((hG.ext hS.x).ld gPlan (by decide) ag36)) rfl ?_; clear H a; intro a H
    refine qq_q H (q_assign rfl) rfl ?_; clear H a; intro a H
    refine qq_q H (q_assign rfl) rfl ?_; clear H a; intro a H
    refine qq_nil ?_; intro w31 hE32
    replace hS := hS.ext hE32
    refine then_normal (wp_ret (then_ret ?_))
    obtain rfl := Option.some.inj hm
    replace hS := hS.dVar (A := A) (g := gPlan) (by decide)
    replace hS := hS.take 1; simp only [List.take_succ_cons, List.take_zero] at hS
    refine ret2 H (.inr rfl) rfl rfl rfl ?_
    exact ⟨_, rfl, hS⟩
  · replace hm := condF hm hc30
    refine wp_skip (then_normal (wp_seq (wp_seq (wp_region_lit (n_q H (q_load rfl ((hS.blk 1 rfl).ldAll ag169 sz169)) rfl ?_))))); clear H a; intro a H
    replace hm := bindS hm; obtain ⟨r34, hr34, hm⟩ := hm
    refine n_call H rfl en183 (g_port_isOut_w (A := A) hr34) rfl ?_
    clear H; intro x37 w35 hv; clear a; intro a H; obtain ⟨rfl, hE36⟩ := hv
    replace hS := hS.ext hE36
    refine n_nil (then_normal (c_cond H rfl (fun hc38 => ?_) (fun hc38 => ?_)))
    · replace hm := condT hm hc38
      refine wp_seq (wp_region_lit (n_q H (q_assign rfl) rfl (W_q (q_assign rfl) rfl ?_))); clear H a; intro a H
      refine n_nil (then_normal (wp_ret (then_ret ?_)))
      obtain rfl := Option.some.inj hm
      replace hS := hS.dNil (A := A)
      replace hS := hS.take 1; simp only [List.take_succ_cons, List.take_zero] at hS
      refine ret2 H (.inr rfl) rfl rfl rfl ?_
      exact ⟨_, rfl, hS⟩
    · replace hm := condF hm hc38
      refine wp_skip (then_normal (wp_seq (wp_region_lit (n_q H (q_fieldAddr0 rfl fo169_2) rfl (W_q (q_load rfl ((hS.blk 1 rfl).ld ag3 rfl)) rfl (W_q (q_fieldAddr0 rfl fo169_1) rfl (W_q (q_load rfl ((hS.blk 1 rfl).ld ag3 rfl)) rfl (W_q (q_addW rfl rfl) rfl (W_q (q_mulW rfl rfl) rfl (W_q (q_addW rfl rfl) rfl (W_q (q_assign rfl) rfl (W_q (q_assign rfl) rfl ?_)))))))))))); clear H a; intro a H
      refine n_nil (then_normal (wp_ret ?_))
      obtain rfl := Option.some.inj hm
      replace hS := hS.dNil (A := A)
      replace hS := hS.take 1; simp only [List.take_succ_cons, List.take_zero] at hS
      refine ret2 H (.inr rfl) rfl rfl rfl ?_
      exact ⟨_, rfl, hS⟩
theorem g_plan_bound_w {w : World} {A : Nat → Addr} {cs0 : List Value} {a0 : GPlan} (hG : EV A w) (h0 : RGPlan w cs0 a0) {r : Int} (hm : g_plan_bound a0 = some r) :
    Calls Tryd.prog 160 [.agg cs0.toArray].toArray w (Ret fun u w' => u = .int .i64 r ∧ Ext w w') := by
  obtain ⟨vp0_0, vp0_1, vp0_2, vp0_3, rfl, hrp0_0, hrp0_1, hrp0_2, hrp0_3⟩ := h0
  have hS := St.begin NB w
  unfold g_plan_bound at hm
  refine enter Tryd.func160 rfl rfl rfl ?_; intro a H; dsimp only [enumL, Nat.zero_add, Nat.reduceAdd] at H
  refine wp_seq (wp_region_lit (n_box H rfl (cs := [.int .i64 a0.Id, .bool a0.Mobile, vp0_0, vp0_1, vp0_2, .int .i64 a0.Events, vp0_3]) rfl rfl ?_))
  clear H; intro b21 w22 hN hE23 hs; clear a; intro a H
  replace hS := hS.newBlk hN hE23 hs; clear hN hs
  refine n_q H (q_assign rfl) rfl ?_; clear H a; intro a H
  refine n_nil (then_normal (wp_seq (wp_region_lit (n_q H (q_fieldAddr0 rfl fo68_3) rfl (W_q (q_load rfl ((hS.blk 0 rfl).ld ag65 rfl)) rfl ?_))))); clear H a; intro a H
  obtain ⟨A24, c24, hv24, hl24, hm24⟩ := SlR.formV (hrp0_1.ext (Flat.mono _) hS.x)
  refine n_q H (q_lenV Tryd.underlying65 rfl hv24) rfl (W_q (q_mulW rfl rfl) rfl (W_q (q_addW rfl rfl) rfl (W_q (q_fieldAddr0 rfl fo68_2) rfl (W_q (q_load rfl ((hS.blk 0 rfl).ld ag64 rfl)) rfl ?_)))); clear H a; intro a H
  obtain ⟨A25, c25, hv25, hl25, hm25⟩ := SlR.formV (hrp0_0.ext (Flat.mono _) hS.x)
  refine n_q H (q_lenV Tryd.underlying64 rfl hv25) rfl (W_q (q_mulW rfl rfl) rfl (W_q (q_addW rfl rfl) rfl (W_q (q_fieldAddr0 rfl fo68_5) rfl (W_q (q_load rfl ((hS.blk 0 rfl).ld ag3 rfl)) rfl (W_q (q_addW rfl rfl) rfl (W_q (q_fieldAddr0 rfl fo68_6) rfl (W_q (q_load rfl ((hS.blk 0 rfl).ld ag23 rfl)) rfl ?_))))))); clear H a; intro a H
  obtain ⟨A26, c26, hv26, hl26, hm26⟩ := SlR.formV (hrp0_3.ext (Flat.mono _) hS.x)
  refine n_q H (q_lenV Tryd.underlying23 rfl hv26) rfl (W_q (q_addW rfl rfl) rfl (W_q (q_assign rfl) rfl ?_)); clear H a; intro a H
  refine n_nil (then_normal (wp_seq (wp_seq (wp_region_lit (n_q H (q_fieldAddr0 rfl fo68_4) rfl (W_q (q_load rfl ((hS.blk 0 rfl).ld ag66 rfl)) rfl ?_)))))); clear H a; intro a H
  obtain ⟨A27, c27, hv27, hl27, hm27⟩ := SlR.formV (hrp0_2.ext (Flat.mono _) hS.x)
  refine n_q H (q_lenV Tryd.underlying66 rfl hv27) rfl (W_q (q_move rfl) rfl ?_); clear H a; intro a H
  refine n_nil (then_normal (wp_block ?_))
  replace hS := hS.take 0; simp only [List.take_succ_cons, List.take_zero] at hS
  replace hm := bindS hm; obtain ⟨q28, hm, hm28⟩ := hm; replace hm := iter_some hm; obtain ⟨n28, hm⟩ := hm
  refine c_loop (σ := Nat × Int × Nat) (fun (m, z29, i30) => [(3, .int .i64 z29), (26, vp0_2), (27, .int .i64 ((a0.Ports.length : Nat) : Int)), (28, .int .i64 ((i30 : Nat) : Int))]) (fun (m, z29, i30) wl => iterN (g_plan_bound_L1 a0) m (z29, i30) = some q28 ∧ St NB w wl []) (fun (m, z29, i30) => m) (n28, (IntKind.i64.wrap ((IntKind.i64.wrap ((IntKind.i64.wrap ((IntKind.i64.wrap (58 + (IntKind.i64.wrap (76 * ((a0.Procs.length : Nat) : Int))))) + (IntKind.i64.wrap (68 * ((a0.Pages.length : Nat) : Int))))) + a0.Events)) + ((a0.Sems.length : Nat) : Int))), 0) H ⟨rfl, rfl, rfl, rfl, trivial⟩ ⟨hm, hS⟩ ?_
  clear H hS hm a; intro xx a w31 H hR; obtain ⟨m, z29, i30⟩ := xx; simp only [ent, List.map_cons, List.map_nil] at H; (try dsimp only at hR); obtain ⟨hm, hS⟩ := hR
  replace hm := iterN_step hm; obtain ⟨m28, o28, rfl, hm, hn28⟩ := hm; try dsimp only [g_plan_bound_L1] at hm
  refine wp_seq (wp_region_lit (n_q H (q_lssN (i := i30) (j := a0.Ports.length) rfl rfl) rfl ?_)); clear H a; intro a H
  refine n_nil (then_normal (wp_seq (c_cond H rfl (fun hc32 => ?_) (fun hc32 => ?_))))
  · replace hm := condT hm hc32
    have hlt33 : i30 < a0.Ports.length := of_decide_eq_true hc32
    refine wp_skip (then_normal (wp_seq (wp_block (wp_seq (wp_region_lit ?_)))))
    replace hm := bindS hm; obtain ⟨x34, hx34, hm⟩ := hm
    obtain ⟨adx34, hAx34⟩ := SlR.adV (hrp0_2.ext (Flat.mono _) hS.x) hv27 hx34
    refine n_q H (q_ixV (i := i30) Tryd.underlying66 sz169 rfl hv27 hAx34 rfl (natI hx34)) rfl (W_q (q_load rfl (SlR.ldAggV (hrp0_2.ext (Flat.mono _) hS.x) hv27 hAx34 ag169 sz169 hx34)) rfl ?_); clear H a; intro a H
    refine n_alloc H ze169 rfl ?_
    clear H; intro b35 w36 hN hE37 hs; clear a; intro a H
    replace hS := hS.newBlk hN hE37 hs; clear hN hs
    refine n_storeAll H rfl rfl (vs := [.int .i64 x34.Kind, .int .i64 x34.Size, .int .i64 x34.Depth, .int .i64 x34.Refresh]) rfl sz169 (hS.blk 0 rfl) rfl (by simp) ?_
    clear H; intro w38 hN hC39 hz; clear a; intro a H; replace hS := hS.setBlk hN hC39; clear hN hz
    refine n_nil (then_normal (wp_seq (wp_region_lit (n_q H (q_load rfl ((hS.blk 0 rfl).ldAll ag169 sz169)) rfl ?_)))); clear H a; intro a H
    replace hm := bindS hm; obtain ⟨r40, hr40, hm⟩ := hm
    refine n_call H rfl en184 (g_port_Most_w (A := A) (hG.ext hS.x) hr40) rfl ?_
    clear H; intro x45 w43 hv; clear a; intro a H; obtain ⟨u41, rfl, hE44⟩ := hv
    replace hS := hS.new hE44; simp only [List.cons_append, List.nil_append] at hS
    refine n_q H (q_move rfl) rfl (W_q (q_extract rfl rfl) rfl (W_q (q_extract rfl rfl) rfl (W_q (q_assign rfl) rfl (W_q (q_assign rfl) rfl ?_)))); clear H a; intro a H
    refine n_nil (then_normal (wp_region_lit (n_q H (q_move rfl) rfl (W_q (q_move rfl) rfl (W_q (q_addW rfl rfl) rfl (W_q (q_addW rfl rfl) rfl (W_q (q_assign rfl) rfl ?_))))))); clear H a; intro a H
    refine n_nil (block_normal (then_normal (wp_region_lit (n_q H (q_incr (i := i30) (j := 1) rfl rfl (by omega)) rfl (W_q (q_move rfl) rfl ?_))))); clear H a; intro a H
    refine n_nil (then_normal ?_)
    obtain rfl := Option.some.inj hm
    replace hS := hS.take 0; simp only [List.take_succ_cons, List.take_zero] at hS
    exact round (m28, (IntKind.i64.wrap (z29 + (IntKind.i64.wrap (3 + r40.1)))), i30 + 1) H ⟨rfl, rfl, rfl, rfl, trivial⟩ ⟨hn28, hS⟩ (Nat.lt_succ_self _)
  · replace hm := condF hm hc32
    refine wp_exit (then_exit (then_exit (block_exit ?_)))
    obtain rfl := Option.some.inj hm; have hz : _ = q28 := hn28; subst hz; replace hm := hm28; try dsimp only at hm
    refine then_normal (wp_seq (wp_region_lit (n_q H (q_move rfl) rfl (W_q (q_assign rfl) rfl ?_)))); clear H a; intro a H
    refine n_nil (then_normal (wp_ret ?_))
    obtain rfl := Option.some.inj hm
    refine ret1 H (.inr rfl) rfl rfl ?_
    exact ⟨rfl, hS.x⟩
theorem g_plan_checkRest_w {w : World} {A : Nat → Addr} {cs0 : List Value} {a0 : GPlan} (hG : EV A w) (h0 : RGPlan w cs0 a0) {r : ErrM} (hm : g_plan_checkRest a0 = some r) :
    Calls Tryd.prog 99 [.agg cs0.toArray].toArray w (Ret fun u w' => ∃ h_0, u = h_0 ∧ St NB w w' [erQ A h_0 r]) := by
  obtain ⟨vp0_0, vp0_1, vp0_2, vp0_3, rfl, hrp0_0, hrp0_1, hrp0_2, hrp0_3⟩ := h0
  have hS := St.begin NB w
  unfold g_plan_checkRest at hm
  refine enter Tryd.func99 rfl rfl rfl ?_; intro a H; dsimp only [enumL, Nat.zero_add, Nat.reduceAdd] at H
  refine wp_seq (wp_region_lit (n_box H rfl (cs := [.int .i64 a0.Id, .bool a0.Mobile, vp0_0, vp0_1, vp0_2, .int .i64 a0.Events, vp0_3]) rfl rfl ?_))
  clear H; intro b21 w22 hN hE23 hs; clear a; intro a H
  replace hS := hS.newBlk hN hE23 hs; clear hN hs
  refine n_q H (q_assign rfl) rfl ?_; clear H a; intro a H
  refine n_nil (then_normal (wp_seq (wp_seq (wp_region_lit (n_q H (q_fieldAddr0 rfl fo68_4) rfl (W_q (q_load rfl ((hS.blk 0 rfl).ld ag66 rfl)) rfl ?_)))))); clear H a; intro a H
  obtain ⟨A24, c24, hv24, hl24, hm24⟩ := SlR.formV (hrp0_2.ext (Flat.mono _) hS.x)
  refine n_q H (q_lenV Tryd.underlying66 rfl hv24) rfl (W_q (q_gtrN (i := a0.Ports.length) (j := 8) rfl rfl) rfl ?_); clear H a; intro a H
  refine n_nil (then_normal (c_cond H rfl (fun hc25 => ?_) (fun hc25 => ?_)))
  · replace hm := condT hm hc25
    refine wp_seq (wp_region_lit (n_q H (q_load rfl ((hG.ext hS.x).ld gSize (by decide) ag36)) rfl (W_q (q_assign rfl) rfl ?_))); clear H a; intro a H
    refine n_nil (then_normal (wp_ret (then_ret ?_)))
    obtain rfl := Option.some.inj hm
    replace hS := hS.dVar (A := A) (g := gSize) (by decide)
    replace hS := hS.take 1; simp only [List.take_succ_cons, List.take_zero] at hS
    refine ret1 H (.inr rfl) rfl rfl ?_
    exact ⟨_, rfl, hS⟩
  · replace hm := condF hm hc25
    refine wp_skip (then_normal (wp_seq (wp_seq (wp_region_lit (n_q H (q_fieldAddr0 rfl fo68_4) rfl (W_q (q_load rfl ((hS.blk 0 rfl).ld ag66 rfl)) rfl (W_q (q_lenV Tryd.underlying66 rfl hv24) rfl (W_q (q_move rfl) rfl ?_)))))))); clear H a; intro a H
    refine n_nil (then_normal (wp_block ?_))
    replace hm := bindS hm; obtain ⟨q27, hm, hm27⟩ := hm; replace hm := iter_some hm; obtain ⟨n27, hm⟩ := hm
    refine c_loop (σ := Nat × Nat) (fun (m, i28) => [(1, .pointer (some ⟨b21, 0, none⟩)), (14, vp0_2), (15, .int .i64 ((a0.Ports.length : Nat) : Int)), (16, .int .i64 ((i28 : Nat) : Int))]) (fun (m, i28) wl => iterN (g_plan_checkRest_L2 a0) m i28 = some q27 ∧ St NB w wl [blkR b21 [.int .i64 a0.Id, .bool a0.Mobile, vp0_0, vp0_1, vp0_2, .int .i64 a0.Events, vp0_3] 68]) (fun (m, i28) => m) (n27, 0) H ⟨rfl, rfl, rfl, rfl, trivial⟩ ⟨hm, hS⟩ ?_
    clear H hS hm a; intro xx a w29 H hR; obtain ⟨m, i28⟩ := xx; simp only [ent, List.map_cons, List.map_nil] at H; (try dsimp only at hR); obtain ⟨hm, hS⟩ := hR
    replace hm := iterN_step hm; obtain ⟨m27, o27, rfl, hm, hn27⟩ := hm; try dsimp only [g_plan_checkRest_L2] at hm
    refine wp_seq (wp_region_lit (n_q H (q_lssN (i := i28) (j := a0.Ports.length) rfl rfl) rfl ?_)); clear H a; intro a H
    refine n_nil (then_normal (wp_seq (c_cond H rfl (fun hc30 => ?_) (fun hc30 => ?_))))
    · replace hm := condT hm hc30
      have hlt31 : i28 < a0.Ports.length := of_decide_eq_true hc30
      refine wp_skip (then_normal (wp_seq (wp_block (wp_seq (wp_region_lit (n_q H (q_move rfl) rfl ?_)))))); clear H a; intro a H
      replace hm := bindS hm; obtain ⟨x32, hx32, hm⟩ := hm
      obtain ⟨adx32, hAx32⟩ := SlR.adV (hrp0_2.ext (Flat.mono _) hS.x) hv24 hx32
      refine n_q H (q_ixV (i := i28) Tryd.underlying66 sz169 rfl hv24 hAx32 rfl (natI hx32)) rfl (W_q (q_load rfl (SlR.ldAggV (hrp0_2.ext (Flat.mono _) hS.x) hv24 hAx32 ag169 sz169 hx32)) rfl ?_); clear H a; intro a H
      refine n_alloc H ze169 rfl ?_
      clear H; intro b33 w34 hN hE35 hs; clear a; intro a H
      replace hS := hS.newBlk hN hE35 hs; clear hN hs
      refine n_q H (q_assign rfl) rfl ?_; clear H a; intro a H
      refine n_storeAll H rfl rfl (vs := [.int .i64 x32.Kind, .int .i64 x32.Size, .int .i64 x32.Depth, .int .i64 x32.Refresh]) rfl sz169 (hS.blk 0 rfl) rfl (by simp) ?_
      clear H; intro w36 hN hC37 hz; clear a; intro a H; replace hS := hS.setBlk hN hC37; clear hN hz
      refine n_nil (then_normal (wp_seq (wp_region_lit (n_q H (q_load rfl ((hS.blk 0 rfl).ldAll ag169 sz169)) rfl ?_)))); clear H a; intro a H
      replace hm := bindS hm; obtain ⟨r38, hr38, hm⟩ := hm
      refine n_call H rfl en159 (g_port_CheckPlan_w (A := A) (hG.ext hS.x) hr38) rfl ?_
      clear H; intro u39 w41 hv; clear a; intro a H; obtain ⟨_, rfl, hE42⟩ := hv
      replace hS := hS.new hE42; simp only [List.cons_append, List.nil_append] at hS
      refine n_q H (q_assign rfl) rfl ?_; clear H a; intro a H
      refine n_nil (then_normal (wp_seq (wp_region_lit (n_q H (q_move rfl) rfl (W_q (q_cast (q_nnilI Tryd.underlying36 rfl rfl (hS.any 0 rfl : IsE A w41 u39 r38).form) (show _ = Value.bool (!decide (r38 = .nil)) by rw [IsErr.isNil (hS.any 0 rfl : IsE A w41 u39 r38)])) rfl ?_))))); clear H a; intro a H
      refine n_nil (then_normal (c_cond H rfl (fun hc44 => ?_) (fun hc44 => ?_)))
      · replace hm := condT hm hc44
        refine wp_seq (wp_region_lit (n_q H (q_move rfl) rfl (W_q (q_move rfl) rfl ?_))); clear H a; intro a H
        replace hm := bindS hm; obtain ⟨r45, hr45, hm⟩ := hm
        refine n_call H rfl en158 (g_plan_at_w (A := A) (hS.any 0 rfl : IsE A w41 u39 r38) hr45) rfl ?_
        clear H; intro u46 w48 hv; clear a; intro a H; obtain ⟨_, rfl, hE49⟩ := hv
        replace hS := hS.new hE49; simp only [List.cons_append, List.nil_append] at hS
        refine n_q H (q_assign rfl) rfl ?_; clear H a; intro a H
        refine n_nil (then_normal (wp_ret (block_ret (then_ret (then_ret (block_ret (then_ret ?_)))))))
        obtain rfl := Option.some.inj hm; have hz : _ = q27 := hn27; subst hz; replace hm := hm27; try dsimp only at hm
        obtain rfl := Option.some.inj hm
        replace hS := hS.take 1; simp only [List.take_succ_cons, List.take_zero] at hS
        refine ret1 H (.inr rfl) rfl rfl ?_
        exact ⟨_, rfl, hS⟩
      · replace hm := condF hm hc44
        refine wp_skip (block_normal (then_normal (wp_region_lit (n_q H (q_incr (i := i28) (j := 1) rfl rfl (by omega)) rfl (W_q (q_move rfl) rfl ?_))))); clear H a; intro a H
        refine n_nil (then_normal ?_)
        obtain rfl := Option.some.inj hm
        replace hS := hS.pick 2 rfl; dsimp only [List.eraseIdx] at hS
        replace hS := hS.take 1; simp only [List.take_succ_cons, List.take_zero] at hS
        exact round (m27, i28 + 1) H ⟨rfl, rfl, rfl, rfl, trivial⟩ ⟨hn27, hS⟩ (Nat.lt_succ_self _)
    · replace hm := condF hm hc30
      refine wp_exit (then_exit (then_exit (block_exit ?_)))
      obtain rfl := Option.some.inj hm; have hz : _ = q27 := hn27; subst hz; replace hm := hm27; try dsimp only at hm
      refine then_normal (wp_seq (wp_seq (wp_region_lit (n_c H (fun HC => ?_))))); clear H
      refine nc_q HC (q_fieldAddr0 rfl fo68_5) rfl (by kernel_rfl) (V_q (q_load rfl ((hS.blk 0 rfl).ld ag3 rfl)) rfl (by kernel_rfl) (V_q (q_lss rfl rfl) rfl (by kernel_rfl) (V_q (q_move rfl) rfl (by kernel_rfl) (V_g (q_fieldAddr0 rfl fo68_5) (by kernel_rfl) (by kernel_rfl) (by kernel_rfl) (V_g (q_load rfl ((hS.blk 0 rfl).ld ag3 rfl)) (by kernel_rfl) (by kernel_rfl) (by kernel_rfl) (V_g (q_gtr rfl rfl) (by kernel_rfl) (by kernel_rfl) (by kernel_rfl) (V_or (j := 3) rfl rfl rfl (by kernel_rfl) (by kernel_rfl) ?_))))))); clear HC a; intro a HC
      have H := HC.has; clear HC
      refine n_nil (then_normal (c_cond H rfl (fun hc51 => ?_) (fun hc51 => ?_)))
      · replace hm := condT hm hc51
        refine wp_seq (wp_region_lit (n_q H (q_load rfl ((hG.ext hS.x).ld gRange (by decide) ag36)) rfl (W_q (q_assign rfl) rfl ?_))); clear H a; intro a H
        refine n_nil (then_normal (wp_ret (then_ret ?_)))
        obtain rfl := Option.some.inj hm
        replace hS := hS.dVar (A := A) (g := gRange) (by decide)
        replace hS := hS.take 1; simp only [List.take_succ_cons, List.take_zero] at hS
        refine ret1 H (.inr rfl) rfl rfl ?_
        exact ⟨_, rfl, hS⟩
      · replace hm := condF hm hc51
        refine wp_skip (then_normal (wp_seq (wp_seq (wp_region_lit (n_q H (q_fieldAddr0 rfl fo68_6) rfl (W_q (q_load rfl ((hS.blk 0 rfl).ld ag23 rfl)) rfl ?_)))))); clear H a; intro a H
        obtain ⟨A53, c53, hv53, hl53, hm53⟩ := SlR.formV (hrp0_3.ext (Flat.mono _) hS.x)
        refine n_q H (q_lenV Tryd.underlying23 rfl hv53) rfl (W_q (q_gtrN (i := a0.Sems.length) (j := 8) rfl rfl) rfl ?_); clear H a; intro a H
        refine n_nil (then_normal (c_cond H rfl (fun hc54 => ?_) (fun hc54 => ?_)))
        · replace hm := condT hm hc54
          refine wp_seq (wp_region_lit (n_q H (q_load rfl ((hG.ext hS.x).ld gSize (by decide) ag36)) rfl (W_q (q_assign rfl) rfl ?_))); clear H a; intro a H
          refine n_nil (then_normal (wp_ret (then_ret ?_)))
          obtain rfl := Option.some.inj hm
          replace hS := hS.dVar (A := A) (g := gSize) (by decide)
          replace hS := hS.take 1; simp only [List.take_succ_cons, List.take_zero] at hS
          refine ret1 H (.inr rfl) rfl rfl ?_
          exact ⟨_, rfl, hS⟩
        · replace hm := condF hm hc54
          refine wp_skip (then_normal (wp_seq (wp_seq (wp_region_lit (n_q H (q_fieldAddr0 rfl fo68_6) rfl (W_q (q_load rfl ((hS.blk 0 rfl).ld ag23 rfl)) rfl (W_q (q_lenV Tryd.underlying23 rfl hv53) rfl (W_q (q_move rfl) rfl ?_)))))))); clear H a; intro a H
          refine n_nil (then_normal (wp_block ?_))
          replace hm := bindS hm; obtain ⟨q56, hm, hm56⟩ := hm; replace hm := iter_some hm; obtain ⟨n56, hm⟩ := hm
          refine c_loop (σ := Nat × Nat) (fun (m, i57) => [(1, .pointer (some ⟨b21, 0, none⟩)), (44, vp0_3), (45, .int .i64 ((a0.Sems.length : Nat) : Int)), (46, .int .i64 ((i57 : Nat) : Int))]) (fun (m, i57) wl => iterN (g_plan_checkRest_L1 a0) m i57 = some q56 ∧ St NB w wl [blkR b21 [.int .i64 a0.Id, .bool a0.Mobile, vp0_0, vp0_1, vp0_2, .int .i64 a0.Events, vp0_3] 68]) (fun (m, i57) => m) (n56, 0) H ⟨rfl, rfl, rfl, rfl, trivial⟩ ⟨hm, hS⟩ ?_
          clear H hS hm a; intro xx a w58 H hR; obtain ⟨m, i57⟩ := xx; simp only [ent, List.map_cons, List.map_nil] at H; (try dsimp only at hR); obtain ⟨hm, hS⟩ := hR
          replace hm := iterN_step hm; obtain ⟨m56, o56, rfl, hm, hn56⟩ := hm; try dsimp only [g_plan_checkRest_L1] at hm
          refine wp_seq (wp_region_lit (n_q H (q_lssN (i := i57) (j := a0.Sems.length) rfl rfl) rfl ?_)); clear H a; intro a H
          refine n_nil (then_normal (wp_seq (c_cond H rfl (fun hc59 => ?_) (fun hc59 => ?_))))
          · replace hm := condT hm hc59
            have hlt60 : i57 < a0.Sems.length := of_decide_eq_true hc59
            refine wp_skip (then_normal (wp_seq (wp_block (wp_seq (wp_region_lit (n_q H (q_move rfl) rfl ?_)))))); clear H a; intro a H
            replace hm := bindS hm; obtain ⟨x61, hx61, hm⟩ := hm
            obtain ⟨adx61, hAx61⟩ := SlR.adV (hrp0_3.ext (Flat.mono _) hS.x) hv53 hx61
            refine n_q H (q_ixV (i := i57) Tryd.underlying23 sz3 rfl hv53 hAx61 rfl (natI hx61)) rfl (W_q (q_load rfl (SlR.ldOneV (hrp0_3.ext (Flat.mono _) hS.x) hv53 hAx61 ag3 hx61 rfl)) rfl (W_q (q_assign rfl) rfl (W_q (q_assign rfl) rfl ?_))); clear H a; intro a H
            refine n_nil (then_normal (wp_seq (wp_region_lit (n_c H (fun HC => ?_))))); clear H
            refine nc_q HC (q_move rfl) rfl (by kernel_rfl) (V_q (q_lss rfl rfl) rfl (by kernel_rfl) (V_q (q_move rfl) rfl (by kernel_rfl) (V_g (q_move rfl) (by kernel_rfl) (by kernel_rfl) (by kernel_rfl) (V_g (q_gtr rfl rfl) (by kernel_rfl) (by kernel_rfl) (by kernel_rfl) (V_or (j := 2) rfl rfl rfl (by kernel_rfl) (by kernel_rfl) ?_))))); clear HC a; intro a HC
            have H := HC.has; clear HC
            refine n_nil (then_normal (c_cond H rfl (fun hc62 => ?_) (fun hc62 => ?_)))
            · replace hm := condT hm hc62
              refine wp_seq (wp_region_lit (n_q H (q_move rfl) rfl (W_q (q_load rfl ((hG.ext hS.x).ld gRange (by decide) ag36)) rfl ?_))); clear H a; intro a H
              replace hm := bindS hm; obtain ⟨r63, hr63, hm⟩ := hm
              refine n_call H rfl en158 (g_plan_at_w (A := A) (IsErr.var (by decide) : IsE A w58 _ (.v gRange)) hr63) rfl ?_
              clear H; intro u64 w66 hv; clear a; intro a H; obtain ⟨_, rfl, hE67⟩ := hv
              replace hS := hS.new hE67; simp only [List.cons_append, List.nil_append] at hS
              refine n_q H (q_assign rfl) rfl ?_; clear H a; intro a H
              refine n_nil (then_normal (wp_ret (block_ret (then_ret (then_ret (block_ret (then_ret ?_)))))))
              obtain rfl := Option.some.inj hm; have hz : _ = q56 := hn56; subst hz; replace hm := hm56; try dsimp only at hm
              obtain rfl := Option.some.inj hm
              replace hS := hS.take 1; simp only [List.take_succ_cons, List.take_zero] at hS
              refine ret1 H (.inr rfl) rfl rfl ?_
              exact ⟨_, rfl, hS⟩
            · replace hm := condF hm hc62
              refine wp_skip (block_normal (then_normal (wp_region_lit (n_q H (q_incr (i := i57) (j := 1) rfl rfl (by omega)) rfl (W_q (q_move rfl) rfl ?_))))); clear H a; intro a H
              refine n_nil (then_normal ?_)
              obtain rfl := Option.some.inj hm
              exact round (m56, i57 + 1) H ⟨rfl, rfl, rfl, rfl, trivial⟩ ⟨hn56, hS⟩ (Nat.lt_succ_self _)
          · replace hm := condF hm hc59
            refine wp_exit (then_exit (then_exit (block_exit ?_)))
            obtain rfl := Option.some.inj hm; have hz : _ = q56 := hn56; subst hz; replace hm := hm56; try dsimp only at hm
            refine then_normal (wp_seq (wp_seq (wp_region_lit (n_q H (q_load rfl ((hS.blk 0 rfl).ldAll ag68 sz68)) rfl ?_)))); clear H a; intro a H
            replace hm := bindS hm; obtain ⟨r69, hr69, hm⟩ := hm
            refine n_call H rfl en160 (g_plan_bound_w (A := A) (hG.ext hS.x) (⟨_, _, _, _, rfl, (hrp0_0.ext (Flat.mono _) hS.x), (hrp0_1.ext (Flat.mono _) hS.x), (hrp0_2.ext (Flat.mono _) hS.x), (hrp0_3.ext (Flat.mono _) hS.x)⟩ : RGPlan _ [.int .i64 a0.Id, .bool a0.Mobile, vp0_0, vp0_1, vp0_2, .int .i64 a0.Events, vp0_3] a0) hr69) rfl ?_
            clear H; intro x72 w70 hv; clear a; intro a H; obtain ⟨rfl, hE71⟩ := hv
            replace hS := hS.ext hE71
            refine n_q H (q_gtr rfl rfl) rfl ?_; clear H a; intro a H
            refine n_nil (then_normal (c_cond H rfl (fun hc73 => ?_) (fun hc73 => ?_)))
            · replace hm := condT hm hc73
              refine wp_seq (wp_region_lit (n_q H (q_load rfl ((hG.ext hS.x).ld gSize (by decide) ag36)) rfl (W_q (q_assign rfl) rfl ?_))); clear H a; intro a H
              refine n_nil (then_normal (wp_ret (then_ret ?_)))
              obtain rfl := Option.some.inj hm
              replace hS := hS.dVar (A := A) (g := gSize) (by decide)
              replace hS := hS.take 1; simp only [List.take_succ_cons, List.take_zero] at hS
              refine ret1 H (.inr rfl) rfl rfl ?_
              exact ⟨_, rfl, hS⟩
            · replace hm := condF hm hc73
              refine wp_skip (then_normal (wp_seq (wp_region_lit (n_q H (q_assign rfl) rfl ?_)))); clear H a; intro a H
              refine n_nil (then_normal (wp_ret ?_))
              obtain rfl := Option.some.inj hm
              replace hS := hS.dNil (A := A)
              replace hS := hS.take 1; simp only [List.take_succ_cons, List.take_zero] at hS
              refine ret1 H (.inr rfl) rfl rfl ?_
              exact ⟨_, rfl, hS⟩
theorem g_plan_Check_w {w : World} {A : Nat → Addr} {cs0 : List Value} {a0 : GPlan} (hG : EV A w) (h0 : RGPlan w cs0 a0) {r : ErrM} (hm : g_plan_Check a0 = some r) :
    Calls Tryd.prog 62 [.agg cs0.toArray].toArray w (Ret fun u w' => ∃ h_0, u = h_0 ∧ St NB w w' [erQ A h_0 r]) := by
  obtain ⟨vp0_0, vp0_1, vp0_2, vp0_3, rfl, hrp0_0, hrp0_1, hrp0_2, hrp0_3⟩ := h0
  have hS := St.begin NB w
  unfold g_plan_Check at hm
  refine enter Tryd.func62 rfl rfl rfl ?_; intro a H; dsimp only [enumL, Nat.zero_add, Nat.reduceAdd] at H
  refine wp_seq (wp_region_lit (n_box H rfl (cs := [.int .i64 a0.Id, .bool a0.Mobile, vp0_0, vp0_1, vp0_2, .int .i64 a0.Events, vp0_3]) rfl rfl ?_))
  clear H; intro b21 w22 hN hE23 hs; clear a; intro a H
  replace hS := hS.newBlk hN hE23 hs; clear hN hs
  refine n_q H (q_assign rfl) rfl ?_; clear H a; intro a H
  refine n_nil (then_normal (wp_seq (wp_seq (wp_region_lit (n_c H (fun HC => ?_)))))); clear H
  refine nc_q HC (q_fieldAddr0 rfl fo68_0) rfl (by kernel_rfl) (V_q (q_load rfl ((hS.blk 0 rfl).ld ag3 rfl)) rfl (by kernel_rfl) (V_q (q_lss rfl rfl) rfl (by kernel_rfl) (V_q (q_move rfl) rfl (by kernel_rfl) (V_g (q_fieldAddr0 rfl fo68_0) (by kernel_rfl) (by kernel_rfl) (by kernel_rfl) (V_g (q_load rfl ((hS.blk 0 rfl).ld ag3 rfl)) (by kernel_rfl) (by kernel_rfl) (by kernel_rfl) (V_g (q_gtr rfl rfl) (by kernel_rfl) (by kernel_rfl) (by kernel_rfl) (V_or (j := 3) rfl rfl rfl (by kernel_rfl) (by kernel_rfl) ?_))))))); clear HC a; intro a HC
  have H := HC.has; clear HC
  refine n_nil (then_normal (c_cond H rfl (fun hc24 => ?_) (fun hc24 => ?_)))
  · replace hm := condT hm hc24
    refine wp_seq (wp_region_lit (n_q H (q_load rfl ((hG.ext hS.x).ld gRange (by decide) ag36)) rfl (W_q (q_assign rfl) rfl ?_))); clear H a; intro a H
    refine n_nil (then_normal (wp_ret (then_ret ?_)))
    obtain rfl := Option.some.inj hm
    replace hS := hS.dVar (A := A) (g := gRange) (by decide)
    replace hS := hS.take 1; simp only [List.take_succ_cons, List.take_zero] at hS
    refine ret1 H (.inr rfl) rfl rfl ?_
    exact ⟨_, rfl, hS⟩
  · replace hm := condF hm hc24
    refine wp_skip (then_normal (wp_seq (wp_seq (wp_region_lit (n_buildSlice H Tryd.underlying186 sz136 ze136 rfl rfl rfl (cs := [.func (.func 97) [].toArray [].toArray, .func (.func 98) [].toArray [].toArray, .func (.func 99) [].toArray [].toArray]) (by kernel_rfl) rfl ?_)))))
    clear H; intro b28 w26 hN hE27 hs; clear a; intro a H
    replace hS := hS.newBlk hN hE27 hs; clear hN hs
    refine n_q H (q_lenSl Tryd.underlying186 rfl) rfl (W_q (q_move rfl) rfl ?_); clear H a; intro a H
    refine n_nil (then_normal (wp_block (wp_loop_rounds 4 ?_)))
    refine Eq.mpr (rounds_succ (n := 3)) ?_
    refine wp_seq (wp_region_lit (n_q H (q_cast (q_lss rfl rfl) (show _ = Value.bool true from rfl)) rfl ?_)); clear H a; intro a H
    refine n_nil (then_normal (wp_seq (c_condKT H rfl ?_)))
    refine wp_skip (then_normal (wp_seq (wp_block (wp_seq (wp_region_lit (n_q H (q_cast (q_indexAddr Tryd.underlying186 sz136 rfl rfl (by decide) (by decide)) (show _ = Value.pointer (some ⟨b28, 0, none⟩) by simp [plain_add])) rfl (W_q (q_load rfl ((hS.blk 0 rfl).ld ag136 rfl)) rfl (W_q (q_assign rfl) rfl ?_)))))))); clear H a; intro a H
    refine n_nil (then_normal (wp_seq (wp_region_lit (n_q H (q_move rfl) rfl (W_q (q_load rfl ((hS.blk 1 rfl).ldAll ag68 sz68)) rfl ?_))))); clear H a; intro a H
    replace hm := bindS hm; obtain ⟨r30, hr30, hm⟩ := hm
    refine n_callv H rfl rfl en97 (g_plan_checkPages_w (A := A) (hG.ext hS.x) (⟨_, _, _, _, rfl, (hrp0_0.ext (Flat.mono _) hS.x), (hrp0_1.ext (Flat.mono _) hS.x), (hrp0_2.ext (Flat.mono _) hS.x), (hrp0_3.ext (Flat.mono _) hS.x)⟩ : RGPlan _ [.int .i64 a0.Id, .bool a0.Mobile, vp0_0, vp0_1, vp0_2, .int .i64 a0.Events, vp0_3] a0) hr30) rfl ?_
    clear H; intro u31 w33 hv; clear a; intro a H; obtain ⟨_, rfl, hE34⟩ := hv
    replace hS := hS.new hE34; simp only [List.cons_append, List.nil_append] at hS
    refine n_q H (q_assign rfl) rfl ?_; clear H a; intro a H
    refine n_nil (then_normal (wp_seq (wp_region_lit (n_q H (q_move rfl) rfl (W_q (q_cast (q_nnilI Tryd.underlying36 rfl rfl (hS.any 0 rfl : IsE A w33 u31 r30).form) (show _ = Value.bool (!decide (r30 = .nil)) by rw [IsErr.isNil (hS.any 0 rfl : IsE A w33 u31 r30)])) rfl ?_))))); clear H a; intro a H
    refine n_nil (then_normal (c_cond H rfl (fun hc36 => ?_) (fun hc36 => ?_)))
    · replace hm := condT hm hc36
      refine wp_seq (wp_region_lit (n_q H (q_move rfl) rfl (W_q (q_assign rfl) rfl ?_))); clear H a; intro a H
      refine n_nil (then_normal (wp_ret (block_ret (then_ret (then_ret (block_ret (then_ret ?_)))))))
      obtain rfl := Option.some.inj hm
      replace hS := hS.take 1; simp only [List.take_succ_cons, List.take_zero] at hS
      refine ret1 H (.inr rfl) rfl rfl ?_
      exact ⟨_, rfl, hS⟩
    · replace hm := condF hm hc36
      refine wp_skip (block_normal (then_normal (wp_region_lit (n_q H (q_cast (q_addW rfl rfl) (show _ = Value.int .i64 1 from rfl)) rfl (W_q (q_move rfl) rfl ?_))))); clear H a; intro a H
      refine n_nil (then_normal (Eq.mpr (rounds_succ (n := 2)) ?_))
      refine wp_seq (wp_region_lit (n_q H (q_cast (q_lss rfl rfl) (show _ = Value.bool true from rfl)) rfl ?_)); clear H a; intro a H
      refine n_nil (then_normal (wp_seq (c_condKT H rfl ?_)))
      refine wp_skip (then_normal (wp_seq (wp_block (wp_seq (wp_region_lit (n_q H (q_cast (q_indexAddr Tryd.underlying186 sz136 rfl rfl (by decide) (by decide)) (show _ = Value.pointer (some ⟨b28, 1, none⟩) by simp [plain_add])) rfl (W_q (q_load rfl ((hS.blk 1 rfl).ld ag136 rfl)) rfl (W_q (q_assign rfl) rfl ?_)))))))); clear H a; intro a H
      refine n_nil (then_normal (wp_seq (wp_region_lit (n_q H (q_move rfl) rfl (W_q (q_load rfl ((hS.blk 2 rfl).ldAll ag68 sz68)) rfl ?_))))); clear H a; intro a H
      replace hm := bindS hm; obtain ⟨r38, hr38, hm⟩ := hm
      refine n_callv H rfl rfl en98 (g_plan_checkProcs_w (A := A) (hG.ext hS.x) (⟨_, _, _, _, rfl, (hrp0_0.ext (Flat.mono _) hS.x), (hrp0_1.ext (Flat.mono _) hS.x), (hrp0_2.ext (Flat.mono _) hS.x), (hrp0_3.ext (Flat.mono _) hS.x)⟩ : RGPlan _ [.int .i64 a0.Id, .bool a0.Mobile, vp0_0, vp0_1, vp0_2, .int .i64 a0.Events, vp0_3] a0) hr38) rfl ?_
      clear H; intro u39 w41 hv; clear a; intro a H; obtain ⟨_, rfl, hE42⟩ := hv
      replace hS := hS.new hE42; simp only [List.cons_append, List.nil_append] at hS
      refine n_q H (q_assign rfl) rfl ?_; clear H a; intro a H
      refine n_nil (then_normal (wp_seq (wp_region_lit (n_q H (q_move rfl) rfl (W_q (q_cast (q_nnilI Tryd.underlying36 rfl rfl (hS.any 0 rfl : IsE A w41 u39 r38).form) (show _ = Value.bool (!decide (r38 = .nil)) by rw [IsErr.isNil (hS.any 0 rfl : IsE A w41 u39 r38)])) rfl ?_))))); clear H a; intro a H
      refine n_nil (then_normal (c_cond H rfl (fun hc44 => ?_) (fun hc44 => ?_)))
      · replace hm := condT hm hc44
        refine wp_seq (wp_region_lit (n_q H (q_move rfl) rfl (W_q (q_assign rfl) rfl ?_))); clear H a; intro a H
        refine n_nil (then_normal (wp_ret (block_ret (then_ret (then_ret (block_ret (then_ret ?_)))))))
        obtain rfl := Option.some.inj hm
        replace hS := hS.take 1; simp only [List.take_succ_cons, List.take_zero] at hS
        refine ret1 H (.inr rfl) rfl rfl ?_
        exact ⟨_, rfl, hS⟩
      · replace hm := condF hm hc44
        refine wp_skip (block_normal (then_normal (wp_region_lit (n_q H (q_cast (q_addW rfl rfl) (show _ = Value.int .i64 2 from rfl)) rfl (W_q (q_move rfl) rfl ?_))))); clear H a; intro a H
        refine n_nil (then_normal (Eq.mpr (rounds_succ (n := 1)) ?_))
        refine wp_seq (wp_region_lit (n_q H (q_cast (q_lss rfl rfl) (show _ = Value.bool true from rfl)) rfl ?_)); clear H a; intro a H
        refine n_nil (then_normal (wp_seq (c_condKT H rfl ?_)))
        refine wp_skip (then_normal (wp_seq (wp_block (wp_seq (wp_region_lit (n_q H (q_cast (q_indexAddr Tryd.underlying186 sz136 rfl rfl (by decide) (by decide)) (show _ = Value.pointer (some ⟨b28, 2, none⟩) by simp [plain_add])) rfl (W_q (q_load rfl ((hS.blk 2 rfl).ld ag136 rfl)) rfl (W_q (q_assign rfl) rfl ?_)))))))); clear H a; intro a H
        refine n_nil (then_normal (wp_seq (wp_region_lit (n_q H (q_move rfl) rfl (W_q (q_load rfl ((hS.blk 3 rfl).ldAll ag68 sz68)) rfl ?_))))); clear H a; intro a H
        replace hm := bindS hm; obtain ⟨r46, hr46, hm⟩ := hm
        refine n_callv H rfl rfl en99 (g_plan_checkRest_w (A := A) (hG.ext hS.x) (⟨_, _, _, _, rfl, (hrp0_0.ext (Flat.mono _) hS.x), (hrp0_1.ext (Flat.mono _) hS.x), (hrp0_2.ext (Flat.mono _) hS.x), (hrp0_3.ext (Flat.mono _) hS.x)⟩ : RGPlan _ [.int .i64 a0.Id, .bool a0.Mobile, vp0_0, vp0_1, vp0_2, .int .i64 a0.Events, vp0_3] a0) hr46) rfl ?_
        clear H; intro u47 w49 hv; clear a; intro a H; obtain ⟨_, rfl, hE50⟩ := hv
        replace hS := hS.new hE50; simp only [List.cons_append, List.nil_append] at hS
        refine n_q H (q_assign rfl) rfl ?_; clear H a; intro a H
        refine n_nil (then_normal (wp_seq (wp_region_lit (n_q H (q_move rfl) rfl (W_q (q_cast (q_nnilI Tryd.underlying36 rfl rfl (hS.any 0 rfl : IsE A w49 u47 r46).form) (show _ = Value.bool (!decide (r46 = .nil)) by rw [IsErr.isNil (hS.any 0 rfl : IsE A w49 u47 r46)])) rfl ?_))))); clear H a; intro a H
        refine n_nil (then_normal (c_cond H rfl (fun hc52 => ?_) (fun hc52 => ?_)))
        · replace hm := condT hm hc52
          refine wp_seq (wp_region_lit (n_q H (q_move rfl) rfl (W_q (q_assign rfl) rfl ?_))); clear H a; intro a H
          refine n_nil (then_normal (wp_ret (block_ret (then_ret (then_ret (block_ret (then_ret ?_)))))))
          obtain rfl := Option.some.inj hm
          replace hS := hS.take 1; simp only [List.take_succ_cons, List.take_zero] at hS
          refine ret1 H (.inr rfl) rfl rfl ?_
          exact ⟨_, rfl, hS⟩
        · replace hm := condF hm hc52
          refine wp_skip (block_normal (then_normal (wp_region_lit (n_q H (q_cast (q_addW rfl rfl) (show _ = Value.int .i64 3 from rfl)) rfl (W_q (q_move rfl) rfl ?_))))); clear H a; intro a H
          refine n_nil (then_normal (Eq.mpr (rounds_succ (n := 0)) ?_))
          refine wp_seq (wp_region_lit (n_q H (q_cast (q_lss rfl rfl) (show _ = Value.bool false from rfl)) rfl ?_)); clear H a; intro a H
          refine n_nil (then_normal (wp_seq (c_condKF H rfl ?_)))
          refine wp_exit (then_exit (then_exit (block_exit (then_normal (wp_seq (wp_region_lit (n_q H (q_assign rfl) rfl ?_))))))); clear H a; intro a H
          refine n_nil (then_normal (wp_ret ?_))
          obtain rfl := Option.some.inj hm
          replace hS := hS.dNil (A := A)
          replace hS := hS.take 1; simp only [List.take_succ_cons, List.take_zero] at hS
          refine ret1 H (.inr rfl) rfl rfl ?_
          exact ⟨_, rfl, hS⟩
theorem g_valid_between_w {w : World} {A : Nat → Addr} {a0 : Int} {a1 : Int} {a2 : Int} {r : Bool} (hm : g_valid_between a0 a1 a2 = some r) :
    Calls Tryd.prog 100 [.int .i64 a0, .int .i64 a1, .int .i64 a2].toArray w (Ret fun u w' => u = .bool r ∧ Ext w w') := by
  have hS := St.begin NB w
  unfold g_valid_between at hm
  refine enter Tryd.func100 rfl rfl rfl ?_; intro a H; dsimp only [enumL, Nat.zero_add, Nat.reduceAdd] at H
  refine wp_seq (wp_region_lit (n_q H (q_assign rfl) rfl ?_)); clear H a; intro a H
  refine n_nil (then_normal (wp_seq (wp_region_lit (n_c H (fun HC => ?_))))); clear H
  refine nc_q HC (q_move rfl) rfl (by kernel_rfl) (V_q (q_move rfl) rfl (by kernel_rfl) (V_q (q_leq rfl rfl) rfl (by kernel_rfl) (V_q (q_move rfl) rfl (by kernel_rfl) (V_g (q_move rfl) (by kernel_rfl) (by kernel_rfl) (by kernel_rfl) (V_g (q_move rfl) (by kernel_rfl) (by kernel_rfl) (by kernel_rfl) (V_g (q_leq rfl rfl) (by kernel_rfl) (by kernel_rfl) (by kernel_rfl) (V_and (j := 3) rfl rfl rfl (by kernel_rfl) (by kernel_rfl) (V_q (q_assign rfl) rfl (by kernel_rfl) ?_)))))))); clear HC a; intro a HC
  have H := HC.has; clear HC
  refine n_nil (then_normal (wp_ret ?_))
  obtain rfl := Option.some.inj hm
  refine ret1 H (.inr rfl) rfl rfl ?_
  exact ⟨rfl, hS.x⟩
theorem g_valid_asked_procs_w {w : World} {A : Nat → Addr} {cs0 : List Value} {a0 : GValidAsked} {g1 : Nat} {fs1 : List Value} {cp1 : List Value} {a1 : GProc → Option Bool} (h0 : RGValidAsked w cs0 a0) (he1 : entersB Tryd.prog g1 = true) (hf1 : ∀ w1, Ext w w1 → ∀ (x0 : GProc) (r : Bool), a1 x0 = some r → Calls Tryd.prog g1 (fs1 ++ [Value.agg (eGProc x0).toArray] ++ cp1).toArray w1 (Ret fun u w' => u = .bool r ∧ Ext w1 w')) {r : Bool} (hm : g_valid_asked_procs a0 a1 = some r) :
    Calls Tryd.prog 101 [.agg cs0.toArray, .func (.func g1) fs1.toArray cp1.toArray].toArray w (Ret fun u w' => u = .bool r ∧ Ext w w') := by
  obtain ⟨vp0_0, vp0_1, vp0_2, vp0_3, vp0_4, vp0_5, vp0_6, vp0_7, vp0_8, vp0_9, vp0_10, rfl, hrp0_0, hrp0_1, hrp0_2, hrp0_3, hrp0_4, hrp0_5, hrp0_6, hrp0_7, hrp0_8, hrp0_9, hrp0_10⟩ := h0
  have hS := St.begin NB w
  unfold g_valid_asked_procs at hm
  refine enter Tryd.func101 rfl rfl rfl ?_; intro a H; dsimp only [enumL, Nat.zero_add, Nat.reduceAdd] at H
  refine wp_seq (wp_region_lit (n_box H rfl (cs := [.int .i64 a0.p_.Id, .bool a0.p_.Mobile, vp0_0, vp0_1, vp0_2, .int .i64 a0.p_.Events, vp0_3, .int .i64 a0.s_.Id, .int .i64 a0.s_.Frame, .int .i64 a0.s_.Epoch, vp0_4, vp0_5, vp0_6, vp0_7, vp0_8, vp0_9, vp0_10]) rfl rfl ?_))
  clear H; intro b21 w22 hN hE23 hs; clear a; intro a H
  replace hS := hS.newBlk hN hE23 hs; clear hN hs
  refine n_q H (q_assign rfl) rfl ?_; clear H a; intro a H
  refine n_nil (then_normal (wp_seq (wp_seq (wp_region_lit (n_q H (q_fieldAddr0 rfl fo139_1) rfl (W_q (q_fieldAddrO rfl fo74_3) rfl (W_q (q_load rfl ((hS.blk 0 rfl).ld ag69 rfl)) rfl ?_))))))); clear H a; intro a H
  obtain ⟨A24, c24, hv24, hl24, hm24⟩ := SlR.formV (hrp0_4.ext (Flat.mono _) hS.x)
  refine n_q H (q_lenV Tryd.underlying69 rfl hv24) rfl (W_q (q_move rfl) rfl ?_); clear H a; intro a H
  refine n_nil (then_normal (wp_block ?_))
  replace hS := hS.take 0; simp only [List.take_succ_cons, List.take_zero] at hS
  replace hm := bindS hm; obtain ⟨q25, hm, hm25⟩ := hm; replace hm := iter_some hm; obtain ⟨n25, hm⟩ := hm
  refine c_loop (σ := Nat × Nat) (fun (m, i26) => [(1, .func (.func g1) fs1.toArray cp1.toArray), (9, vp0_4), (10, .int .i64 ((a0.s_.Procs.length : Nat) : Int)), (11, .int .i64 ((i26 : Nat) : Int))]) (fun (m, i26) wl => iterN (g_valid_asked_procs_L1 a0 a1) m i26 = some q25 ∧ St NB w wl []) (fun (m, i26) => m) (n25, 0) H ⟨rfl, rfl, rfl, rfl, trivial⟩ ⟨hm, hS⟩ ?_
  clear H hS hm a; intro xx a w27 H hR; obtain ⟨m, i26⟩ := xx; simp only [ent, List.map_cons, List.map_nil] at H; (try dsimp only at hR); obtain ⟨hm, hS⟩ := hR
  replace hm := iterN_step hm; obtain ⟨m25, o25, rfl, hm, hn25⟩ := hm; try dsimp only [g_valid_asked_procs_L1] at hm
  refine wp_seq (wp_region_lit (n_q H (q_lssN (i := i26) (j := a0.s_.Procs.length) rfl rfl) rfl ?_)); clear H a; intro a H
  refine n_nil (then_normal (wp_seq (c_cond H rfl (fun hc28 => ?_) (fun hc28 => ?_))))
  · replace hm := condT hm hc28
    have hlt29 : i26 < a0.s_.Procs.length := of_decide_eq_true hc28
    refine wp_skip (then_normal (wp_seq (wp_block (wp_seq (wp_region_lit ?_)))))
    replace hm := bindS hm; obtain ⟨x30, hx30, hm⟩ := hm
    obtain ⟨adx30, hAx30⟩ := SlR.adV (hrp0_4.ext (Flat.mono _) hS.x) hv24 hx30
    refine n_q H (q_ixV (i := i26) Tryd.underlying69 sz80 rfl hv24 hAx30 rfl (natI hx30)) rfl (W_q (q_load rfl (SlR.ldAggV (hrp0_4.ext (Flat.mono _) hS.x) hv24 hAx30 ag80 sz80 hx30)) rfl ?_); clear H a; intro a H
    refine n_alloc H ze80 rfl ?_
    clear H; intro b31 w32 hN hE33 hs; clear a; intro a H
    replace hS := hS.newBlk hN hE33 hs; clear hN hs
    refine n_storeAll H rfl rfl (vs := (x30.Regs.toList.map (Value.int .u32) ++ [.int .u32 x30.Pc, .int .i64 x30.State, .int .i64 x30.Prio, .int .i64 x30.Wait, .int .i64 x30.Obj])) rfl (sz80.trans (by simp)) (hS.blk 0 rfl) (by simp) (eGProc_one _) ?_
    clear H; intro w34 hN hC35 hz; clear a; intro a H; replace hS := hS.setBlk hN hC35; clear hN hz
    refine n_nil (then_normal (wp_seq (wp_region_lit (n_q H (q_move rfl) rfl (W_q (q_load rfl ((hS.blk 0 rfl).ldAll ag80 (sz80.trans (by simp)))) rfl ?_))))); clear H a; intro a H
    replace hm := bindS hm; obtain ⟨r36, hr36, hm⟩ := hm
    refine n_callv H rfl rfl he1 (hf1 _ hS.x x30 _ hr36) rfl ?_
    clear H; intro x39 w37 hv; clear a; intro a H; obtain ⟨rfl, hE38⟩ := hv
    replace hS := hS.ext hE38
    refine n_q H (q_not rfl) rfl ?_; clear H a; intro a H
    refine n_nil (then_normal (c_cond H rfl (fun hc40 => ?_) (fun hc40 => ?_)))
    · replace hm := condT hm hc40
      refine wp_seq (wp_region_lit (n_q H (q_assign rfl) rfl ?_)); clear H a; intro a H
      refine n_nil (then_normal (wp_ret (block_ret (then_ret (then_ret (block_ret (then_ret ?_)))))))
      obtain rfl := Option.some.inj hm; have hz : _ = q25 := hn25; subst hz; replace hm := hm25; try dsimp only at hm
      obtain rfl := Option.some.inj hm
      replace hS := hS.take 0; simp only [List.take_succ_cons, List.take_zero] at hS
      refine ret1 H (.inr rfl) rfl rfl ?_
      exact ⟨rfl, hS.x⟩
    · replace hm := condF hm hc40
      refine wp_skip (block_normal (then_normal (wp_region_lit (n_q H (q_incr (i := i26) (j := 1) rfl rfl (by omega)) rfl (W_q (q_move rfl) rfl ?_))))); clear H a; intro a H
      refine n_nil (then_normal ?_)
      obtain rfl := Option.some.inj hm
      replace hS := hS.take 0; simp only [List.take_succ_cons, List.take_zero] at hS
      exact round (m25, i26 + 1) H ⟨rfl, rfl, rfl, rfl, trivial⟩ ⟨hn25, hS⟩ (Nat.lt_succ_self _)
  · replace hm := condF hm hc28
    refine wp_exit (then_exit (then_exit (block_exit ?_)))
    obtain rfl := Option.some.inj hm; have hz : _ = q25 := hn25; subst hz; replace hm := hm25; try dsimp only at hm
    refine then_normal (wp_seq (wp_region_lit (n_q H (q_assign rfl) rfl ?_))); clear H a; intro a H
    refine n_nil (then_normal (wp_ret ?_))
    obtain rfl := Option.some.inj hm
    refine ret1 H (.inr rfl) rfl rfl ?_
    exact ⟨rfl, hS.x⟩
theorem g_valid_numbers_w {w : World} {A : Nat → Addr} {a0 : GProc} {r : Bool} (hm : g_valid_numbers a0 = some r) :
    Calls Tryd.prog 102 [.agg (eGProc a0).toArray].toArray w (Ret fun u w' => u = .bool r ∧ Ext w w') := by
  have hS := St.begin NB w
  unfold g_valid_numbers at hm
  refine enter Tryd.func102 rfl rfl rfl ?_; intro a H; dsimp only [enumL, Nat.zero_add, Nat.reduceAdd] at H
  refine wp_seq (wp_region_lit (n_box H rfl (cs := (a0.Regs.toList.map (Value.int .u32) ++ [.int .u32 a0.Pc, .int .i64 a0.State, .int .i64 a0.Prio, .int .i64 a0.Wait, .int .i64 a0.Obj])) rfl rfl ?_))
  clear H; intro b21 w22 hN hE23 hs; clear a; intro a H
  replace hS := hS.newBlk hN hE23 hs; clear hN hs
  refine n_q H (q_assign rfl) rfl ?_; clear H a; intro a H
  refine n_nil (then_normal (wp_seq (wp_region_lit (n_q H (q_fieldAddr0 rfl fo80_0) rfl ?_)))); clear H a; intro a H
  replace hm := bindS hm; obtain ⟨x24, hx24, hm⟩ := hm
  obtain ⟨h0x24, h1x24, hxx24⟩ := rdV_some hx24
  refine n_q H (q_ixArrB Tryd.underlying78 sz53 rfl rfl h0x24 h1x24) rfl (W_q (q_load rfl ((hS.blk 0 rfl).ld ag53 (arr_at0 (f := (Value.int .u32)) hxx24))) rfl (W_q (q_eqlD rfl rfl) rfl (W_q (q_move rfl) rfl ?_))); clear H a; intro a H
  rcases Bool.eq_false_or_eq_true (decide (x24 = 0)) with hg25 | hg25
  · replace H := H.know 7 rfl hg25
    replace hm := condT hm hg25
    refine n_yes H rfl rfl (n_q H (q_fieldAddr0 rfl fo80_2) rfl (W_yes rfl rfl (W_q (q_load rfl ((hS.blk 0 rfl).ld (v := Value.int .i64 a0.State) ag3 (by simp))) rfl (W_yes rfl rfl ?_)))); clear H a; intro a H
    replace hm := bindS hm; obtain ⟨r26, hr26, hm⟩ := hm
    refine n_call H rfl en100 (g_valid_between_w (A := A) hr26) rfl ?_
    clear H; intro x29 w27 hv; clear a; intro a H; obtain ⟨rfl, hE28⟩ := hv
    replace hS := hS.ext hE28
    refine n_q H (q_pickT rfl rfl) rfl (W_q (q_move rfl) rfl ?_); clear H a; intro a H
    rcases Bool.eq_false_or_eq_true r26 with hg30 | hg30
    · replace H := H.know 12 rfl hg30
      replace hm := condT hm hg30
      refine n_yes H rfl rfl (n_q H (q_fieldAddr0 rfl fo80_3) rfl (W_yes rfl rfl (W_q (q_load rfl ((hS.blk 0 rfl).ld (v := Value.int .i64 a0.Prio) ag3 (by simp))) rfl (W_yes rfl rfl ?_)))); clear H a; intro a H
      replace hm := bindS hm; obtain ⟨r31, hr31, hm⟩ := hm
      refine n_call H rfl en100 (g_valid_between_w (A := A) hr31) rfl ?_
      clear H; intro x34 w32 hv; clear a; intro a H; obtain ⟨rfl, hE33⟩ := hv
      replace hS := hS.ext hE33
      refine n_q H (q_pickT rfl rfl) rfl (W_q (q_move rfl) rfl ?_); clear H a; intro a H
      rcases Bool.eq_false_or_eq_true r31 with hg35 | hg35
      · replace H := H.know 17 rfl hg35
        replace hm := condT hm hg35
        refine n_yes H rfl rfl (n_q H (q_fieldAddr0 rfl fo80_4) rfl (W_yes rfl rfl (W_q (q_load rfl ((hS.blk 0 rfl).ld (v := Value.int .i64 a0.Wait) ag3 (by simp))) rfl (W_yes rfl rfl ?_)))); clear H a; intro a H
        replace hm := bindS hm; obtain ⟨r36, hr36, hm⟩ := hm
        refine n_call H rfl en100 (g_valid_between_w (A := A) hr36) rfl ?_
        clear H; intro x39 w37 hv; clear a; intro a H; obtain ⟨rfl, hE38⟩ := hv
        replace hS := hS.ext hE38
        refine n_q H (q_pickT rfl rfl) rfl (W_q (q_assign rfl) rfl ?_); clear H a; intro a H
        refine n_nil (then_normal (wp_ret ?_))
        obtain rfl := Option.some.inj hm
        replace hS := hS.take 0; simp only [List.take_succ_cons, List.take_zero] at hS
        refine ret1 H (.inr rfl) rfl rfl ?_
        exact ⟨rfl, hS.x⟩
      · replace H := H.know 17 rfl hg35
        replace hm := condF hm hg35
        refine n_no H rfl rfl (by decide) rfl (W_no rfl rfl (by decide) rfl (W_no rfl rfl (by decide) rfl (W_q (q_pickF rfl rfl) rfl (W_q (q_assign rfl) rfl ?_)))); clear H a; intro a H
        refine n_nil (then_normal (wp_ret ?_))
        obtain rfl := Option.some.inj hm
        replace hS := hS.take 0; simp only [List.take_succ_cons, List.take_zero] at hS
        refine ret1 H (.inr rfl) rfl rfl ?_
        exact ⟨rfl, hS.x⟩
    · replace H := H.know 12 rfl hg30
      replace hm := condF hm hg30
      refine n_no H rfl rfl (by decide) rfl (W_no rfl rfl (by decide) rfl (W_no rfl rfl (by decide) rfl (W_q (q_pickF rfl rfl) rfl (W_q (q_move rfl) rfl (W_no rfl rfl (by decide) rfl (W_no rfl rfl (by decide) rfl (W_no rfl rfl (by decide) rfl (W_q (q_pickF rfl rfl) rfl (W_q (q_assign rfl) rfl ?_))))))))); clear H a; intro a H
      refine n_nil (then_normal (wp_ret ?_))
      obtain rfl := Option.some.inj hm
      replace hS := hS.take 0; simp only [List.take_succ_cons, List.take_zero] at hS
      refine ret1 H (.inr rfl) rfl rfl ?_
      exact ⟨rfl, hS.x⟩
  · replace H := H.know 7 rfl hg25
    replace hm := condF hm hg25
    refine n_no H rfl rfl (by decide) rfl (W_no rfl rfl (by decide) rfl (W_no rfl rfl (by decide) rfl (W_q (q_pickF rfl rfl) rfl (W_q (q_move rfl) rfl (W_no rfl rfl (by decide) rfl (W_no rfl rfl (by decide) rfl (W_no rfl rfl (by decide) rfl (W_q (q_pickF rfl rfl) rfl (W_q (q_move rfl) rfl (W_no rfl rfl (by decide) rfl (W_no rfl rfl (by decide) rfl ?_))))))))))); clear H a; intro a H
    refine n_no H rfl rfl (by decide) rfl (W_q (q_pickF rfl rfl) rfl (W_q (q_assign rfl) rfl ?_)); clear H a; intro a H
    refine n_nil (then_normal (wp_ret ?_))
    obtain rfl := Option.some.inj hm
    replace hS := hS.take 0; simp only [List.take_succ_cons, List.take_zero] at hS
    refine ret1 H (.inr rfl) rfl rfl ?_
    exact ⟨rfl, hS.x⟩
theorem g_valid_asked_rules_1_w {w : World} {A : Nat → Addr} {a0 : GProc} {r : Bool} (hm : g_valid_asked_rules_1 a0 = some r) :
    Calls Tryd.prog 103 [.agg (eGProc a0).toArray].toArray w (Ret fun u w' => u = .bool r ∧ Ext w w') := by
  have hS := St.begin NB w
  unfold g_valid_asked_rules_1 at hm
  refine enter Tryd.func103 rfl rfl rfl ?_; intro a H; dsimp only [enumL, Nat.zero_add, Nat.reduceAdd] at H
  refine wp_seq (wp_region_lit (n_box H rfl (cs := (a0.Regs.toList.map (Value.int .u32) ++ [.int .u32 a0.Pc, .int .i64 a0.State, .int .i64 a0.Prio, .int .i64 a0.Wait, .int .i64 a0.Obj])) rfl rfl ?_))
  clear H; intro b21 w22 hN hE23 hs; clear a; intro a H
  replace hS := hS.newBlk hN hE23 hs; clear hN hs
  refine n_q H (q_assign rfl) rfl ?_; clear H a; intro a H
  refine n_nil (then_normal (wp_seq (wp_region_lit (n_q H (q_fieldAddr0 rfl fo80_4) rfl (W_q (q_load rfl ((hS.blk 0 rfl).ld (v := Value.int .i64 a0.Wait) ag3 (by simp))) rfl (W_q (q_neqD rfl rfl) rfl (W_q (q_fieldAddr0 rfl fo80_2) rfl (W_q (q_load rfl ((hS.blk 0 rfl).ld (v := Value.int .i64 a0.State) ag3 (by simp))) rfl (W_q (q_eqlD rfl rfl) rfl (W_q (q_eqlB Tryd.underlying4 rfl rfl) rfl (W_q (q_assign rfl) rfl ?_))))))))))); clear H a; intro a H
  refine n_nil (then_normal (wp_ret ?_))
  obtain rfl := Option.some.inj hm
  replace hS := hS.take 0; simp only [List.take_succ_cons, List.take_zero] at hS
  refine ret1 H (.inr rfl) rfl rfl ?_
  exact ⟨rfl, hS.x⟩
theorem g_valid_within_w {w : World} {A : Nat → Addr} {a0 : Int} {a1 : Int} {r : Bool} (hm : g_valid_within a0 a1 = some r) :
    Calls Tryd.prog 117 [.int .i64 a0, .int .i64 a1].toArray w (Ret fun u w' => u = .bool r ∧ Ext w w') := by
  have hS := St.begin NB w
  unfold g_valid_within at hm
  refine enter Tryd.func117 rfl rfl rfl ?_; intro a H; dsimp only [enumL, Nat.zero_add, Nat.reduceAdd] at H
  refine wp_seq (wp_region_lit (n_q H (q_assign rfl) rfl ?_)); clear H a; intro a H
  refine n_nil (then_normal (wp_seq (wp_region_lit (n_c H (fun HC => ?_))))); clear H
  refine nc_q HC (q_move rfl) rfl (by kernel_rfl) (V_q (q_geq rfl rfl) rfl (by kernel_rfl) (V_q (q_move rfl) rfl (by kernel_rfl) (V_g (q_move rfl) (by kernel_rfl) (by kernel_rfl) (by kernel_rfl) (V_g (q_move rfl) (by kernel_rfl) (by kernel_rfl) (by kernel_rfl) (V_g (q_lss rfl rfl) (by kernel_rfl) (by kernel_rfl) (by kernel_rfl) (V_and (j := 2) rfl rfl rfl (by kernel_rfl) (by kernel_rfl) (V_q (q_assign rfl) rfl (by kernel_rfl) ?_))))))); clear HC a; intro a HC
  have H := HC.has; clear HC
  refine n_nil (then_normal (wp_ret ?_))
  obtain rfl := Option.some.inj hm
  refine ret1 H (.inr rfl) rfl rfl ?_
  exact ⟨rfl, hS.x⟩
theorem g_valid_asked_object_w {w : World} {A : Nat → Addr} {cs0 : List Value} {a0 : GValidAsked} {a1 : GProc} (h0 : RGValidAsked w cs0 a0) {r : Bool} (hm : g_valid_asked_object a0 a1 = some r) :
    Calls Tryd.prog 104 [.agg cs0.toArray, .agg (eGProc a1).toArray].toArray w (Ret fun u w' => u = .bool r ∧ Ext w w') := by
  obtain ⟨vp0_0, vp0_1, vp0_2, vp0_3, vp0_4, vp0_5, vp0_6, vp0_7, vp0_8, vp0_9, vp0_10, rfl, hrp0_0, hrp0_1, hrp0_2, hrp0_3, hrp0_4, hrp0_5, hrp0_6, hrp0_7, hrp0_8, hrp0_9, hrp0_10⟩ := h0
  have hS := St.begin NB w
  unfold g_valid_asked_object at hm
  refine enter Tryd.func104 rfl rfl rfl ?_; intro a H; dsimp only [enumL, Nat.zero_add, Nat.reduceAdd] at H
  refine wp_seq (wp_region_lit (n_box H rfl (cs := [.int .i64 a0.p_.Id, .bool a0.p_.Mobile, vp0_0, vp0_1, vp0_2, .int .i64 a0.p_.Events, vp0_3, .int .i64 a0.s_.Id, .int .i64 a0.s_.Frame, .int .i64 a0.s_.Epoch, vp0_4, vp0_5, vp0_6, vp0_7, vp0_8, vp0_9, vp0_10]) rfl rfl ?_))
  clear H; intro b21 w22 hN hE23 hs; clear a; intro a H
  replace hS := hS.newBlk hN hE23 hs; clear hN hs
  refine n_box H rfl (cs := (a1.Regs.toList.map (Value.int .u32) ++ [.int .u32 a1.Pc, .int .i64 a1.State, .int .i64 a1.Prio, .int .i64 a1.Wait, .int .i64 a1.Obj])) rfl rfl ?_
  clear H; intro b24 w25 hN hE26 hs; clear a; intro a H
  replace hS := hS.newBlk hN hE26 hs; clear hN hs
  refine n_q H (q_assign rfl) rfl ?_; clear H a; intro a H
  refine n_nil (then_normal (wp_seq (wp_seq (wp_region_lit (n_q H (q_fieldAddr0 rfl fo80_4) rfl (W_q (q_load rfl ((hS.blk 0 rfl).ld (v := Value.int .i64 a1.Wait) ag3 (by simp))) rfl ?_)))))); clear H a; intro a H
  refine n_nil (then_normal (wp_block (wp_seq (wp_region_lit (n_q H (q_eqlD rfl rfl) rfl (W_q (q_assign rfl) rfl ?_)))))); clear H a; intro a H
  refine n_nil (then_normal (c_cond H rfl (fun hc27 => ?_) (fun hc27 => ?_)))
  · replace hm := condT hm hc27
    refine wp_seq (wp_region_lit (n_q H (q_fieldAddr0 rfl fo80_5) rfl (W_q (q_load rfl ((hS.blk 0 rfl).ld (v := Value.int .i64 a1.Obj) ag3 (by simp))) rfl (W_q (q_fieldAddr0 rfl fo139_0) rfl (W_q (q_fieldAddr0 rfl fo68_5) rfl (W_q (q_load rfl ((hS.blk 1 rfl).ld ag3 rfl)) rfl ?_)))))); clear H a; intro a H
    replace hm := bindS hm; obtain ⟨r28, hr28, hm⟩ := hm
    refine n_call H rfl en117 (g_valid_within_w (A := A) hr28) rfl ?_
    clear H; intro x31 w29 hv; clear a; intro a H; obtain ⟨rfl, hE30⟩ := hv
    replace hS := hS.ext hE30
    refine n_q H (q_assign rfl) rfl ?_; clear H a; intro a H
    refine n_nil (then_normal (wp_ret (block_ret (then_ret ?_))))
    obtain rfl := Option.some.inj hm
    replace hS := hS.take 0; simp only [List.take_succ_cons, List.take_zero] at hS
    refine ret1 H (.inr rfl) rfl rfl ?_
    exact ⟨rfl, hS.x⟩
  · replace hm := condF hm hc27
    refine wp_seq (wp_region_lit (n_q H (q_eqlD rfl rfl) rfl (W_q (q_assign rfl) rfl ?_))); clear H a; intro a H
    refine n_nil (then_normal (c_cond H rfl (fun hc32 => ?_) (fun hc32 => ?_)))
    · replace hm := condT hm hc32
      refine wp_seq (wp_region_lit (n_q H (q_fieldAddr0 rfl fo80_5) rfl (W_q (q_load rfl ((hS.blk 0 rfl).ld (v := Value.int .i64 a1.Obj) ag3 (by simp))) rfl (W_q (q_fieldAddr0 rfl fo139_0) rfl (W_q (q_fieldAddr0 rfl fo68_6) rfl (W_q (q_load rfl ((hS.blk 1 rfl).ld ag23 rfl)) rfl ?_)))))); clear H a; intro a H
      obtain ⟨A33, c33, hv33, hl33, hm33⟩ := SlR.formV (hrp0_3.ext (Flat.mono _) hS.x)
      refine n_q H (q_lenV Tryd.underlying23 rfl hv33) rfl ?_; clear H a; intro a H
      replace hm := bindS hm; obtain ⟨r34, hr34, hm⟩ := hm
      refine n_call H rfl en117 (g_valid_within_w (A := A) hr34) rfl ?_
      clear H; intro x37 w35 hv; clear a; intro a H; obtain ⟨rfl, hE36⟩ := hv
      replace hS := hS.ext hE36
      refine n_q H (q_assign rfl) rfl ?_; clear H a; intro a H
      refine n_nil (then_normal (wp_ret (block_ret (then_ret ?_))))
      obtain rfl := Option.some.inj hm
      replace hS := hS.take 0; simp only [List.take_succ_cons, List.take_zero] at hS
      refine ret1 H (.inr rfl) rfl rfl ?_
      exact ⟨rfl, hS.x⟩
    · replace hm := condF hm hc32
      refine wp_seq (wp_region_lit (n_q H (q_eqlD rfl rfl) rfl (W_q (q_assign rfl) rfl ?_))); clear H a; intro a H
      refine n_nil (then_normal (c_cond H rfl (fun hc38 => ?_) (fun hc38 => ?_)))
      · replace hm := condT hm hc38
        refine wp_seq (wp_region_lit (n_q H (q_fieldAddr0 rfl fo80_5) rfl (W_q (q_load rfl ((hS.blk 0 rfl).ld (v := Value.int .i64 a1.Obj) ag3 (by simp))) rfl (W_q (q_fieldAddr0 rfl fo139_0) rfl (W_q (q_fieldAddr0 rfl fo68_4) rfl (W_q (q_load rfl ((hS.blk 1 rfl).ld ag66 rfl)) rfl ?_)))))); clear H a; intro a H
        obtain ⟨A39, c39, hv39, hl39, hm39⟩ := SlR.formV (hrp0_2.ext (Flat.mono _) hS.x)
        refine n_q H (q_lenV Tryd.underlying66 rfl hv39) rfl ?_; clear H a; intro a H
        replace hm := bindS hm; obtain ⟨r40, hr40, hm⟩ := hm
        refine n_call H rfl en117 (g_valid_within_w (A := A) hr40) rfl ?_
        clear H; intro x43 w41 hv; clear a; intro a H; obtain ⟨rfl, hE42⟩ := hv
        replace hS := hS.ext hE42
        refine n_q H (q_move rfl) rfl ?_; clear H a; intro a H
        rcases Bool.eq_false_or_eq_true r40 with hg44 | hg44
        · replace H := H.know 33 rfl hg44
          replace hm := condT hm hg44
          refine n_yes H rfl rfl (n_q H (q_fieldAddr0 rfl fo139_0) rfl (W_yes rfl rfl (W_q (q_fieldAddr0 rfl fo68_4) rfl (W_yes rfl rfl (W_q (q_load rfl ((hS.blk 1 rfl).ld ag66 rfl)) rfl (W_yes rfl rfl (W_q (q_fieldAddr0 rfl fo80_5) rfl (W_yes rfl rfl (W_q (q_load rfl ((hS.blk 0 rfl).ld (v := Value.int .i64 a1.Obj) ag3 (by simp))) rfl (W_yes rfl rfl ?_)))))))))); clear H a; intro a H
          replace hm := bindS hm; obtain ⟨x45, hx45, hm⟩ := hm
          obtain ⟨h0x45, h1x45, hxx45⟩ := rdI_some hx45
          obtain ⟨adx45, hAx45⟩ := SlR.adV (hrp0_2.ext (Flat.mono _) hS.x) hv39 hxx45
          refine n_q H (q_ixVI Tryd.underlying66 sz169 rfl hv39 hAx45 rfl h0x45 h1x45) rfl (W_yes rfl rfl (W_q (q_fieldAddr rfl fo169_0) rfl (W_yes rfl rfl (W_q (q_load rfl (SlR.ldCellV (j := 0) (hrp0_2.ext (Flat.mono _) hS.x) hv39 hAx45 ag3 hxx45 rfl)) rfl (W_yes rfl rfl (W_q (q_eqlD rfl rfl) rfl (W_yes rfl rfl (W_q (q_move rfl) rfl ?_)))))))); clear H a; intro a H
          rcases Bool.eq_false_or_eq_true (decide (x45.Kind = 3)) with hg46 | hg46
          · replace H := H.know 43 rfl hg46
            replace hm := condT hm hg46
            refine n_no H rfl rfl (by decide) rfl (W_no rfl rfl (by decide) rfl (W_no rfl rfl (by decide) rfl (W_no rfl rfl (by decide) rfl (W_no rfl rfl (by decide) rfl (W_no rfl rfl (by decide) rfl (W_no rfl rfl (by decide) rfl (W_no rfl rfl (by decide) rfl (W_no rfl rfl (by decide) rfl (W_yes rfl rfl (W_q (q_pickT rfl rfl) rfl (W_q (q_pickT rfl rfl) rfl ?_))))))))))); clear H a; intro a H
            refine n_q H (q_assign rfl) rfl ?_; clear H a; intro a H
            refine n_nil (then_normal (wp_ret (block_ret (then_ret ?_))))
            obtain rfl := Option.some.inj hm
            replace hS := hS.take 0; simp only [List.take_succ_cons, List.take_zero] at hS
            refine ret1 H (.inr rfl) rfl rfl ?_
            exact ⟨rfl, hS.x⟩
          · replace H := H.know 43 rfl hg46
            replace hm := condF hm hg46
            refine n_yes H rfl rfl (n_q H (q_fieldAddr0 rfl fo139_0) rfl (W_yes rfl rfl (W_q (q_fieldAddr0 rfl fo68_4) rfl (W_yes rfl rfl (W_q (q_load rfl ((hS.blk 1 rfl).ld ag66 rfl)) rfl (W_yes rfl rfl (W_q (q_fieldAddr0 rfl fo80_5) rfl (W_yes rfl rfl (W_q (q_load rfl ((hS.blk 0 rfl).ld (v := Value.int .i64 a1.Obj) ag3 (by simp))) rfl (W_yes rfl rfl ?_)))))))))); clear H a; intro a H
            replace hm := bindS hm; obtain ⟨x47, hx47, hm⟩ := hm
            obtain ⟨h0x47, h1x47, hxx47⟩ := rdI_some hx47
            obtain ⟨adx47, hAx47⟩ := SlR.adV (hrp0_2.ext (Flat.mono _) hS.x) hv39 hxx47
            refine n_q H (q_ixVI Tryd.underlying66 sz169 rfl hv39 hAx47 rfl h0x47 h1x47) rfl (W_yes rfl rfl (W_q (q_fieldAddr rfl fo169_0) rfl (W_yes rfl rfl (W_q (q_load rfl (SlR.ldCellV (j := 0) (hrp0_2.ext (Flat.mono _) hS.x) hv39 hAx47 ag3 hxx47 rfl)) rfl (W_yes rfl rfl (W_q (q_eqlD rfl rfl) rfl (W_yes rfl rfl (W_q (q_pickF rfl rfl) rfl (W_q (q_pickT rfl rfl) rfl (W_q (q_assign rfl) rfl ?_)))))))))); clear H a; intro a H
            refine n_nil (then_normal (wp_ret (block_ret (then_ret ?_))))
            obtain rfl := Option.some.inj hm
            replace hS := hS.take 0; simp only [List.take_succ_cons, List.take_zero] at hS
            refine ret1 H (.inr rfl) rfl rfl ?_
            exact ⟨rfl, hS.x⟩
        · replace H := H.know 33 rfl hg44
          replace hm := condF hm hg44
          refine n_no H rfl rfl (by decide) rfl (W_no rfl rfl (by decide) rfl (W_no rfl rfl (by decide) rfl (W_no rfl rfl (by decide) rfl (W_no rfl rfl (by decide) rfl (W_no rfl rfl (by decide) rfl (W_no rfl rfl (by decide) rfl (W_no rfl rfl (by decide) rfl (W_no rfl rfl (by decide) rfl (W_no rfl rfl (by decide) rfl (W_noU rfl rfl rfl (W_noU rfl rfl rfl ?_))))))))))); clear H a; intro a H
          refine n_noU H rfl rfl rfl (W_noU rfl rfl rfl (W_noU rfl rfl rfl (W_noU rfl rfl rfl (W_noU rfl rfl rfl (W_noU rfl rfl rfl (W_noU rfl rfl rfl (W_no rfl rfl (by decide) rfl (W_q (q_pickF rfl rfl) rfl (W_q (q_assign rfl) rfl ?_))))))))); clear H a; intro a H
          refine n_nil (then_normal (wp_ret (block_ret (then_ret ?_))))
          obtain rfl := Option.some.inj hm
          replace hS := hS.take 0; simp only [List.take_succ_cons, List.take_zero] at hS
          refine ret1 H (.inr rfl) rfl rfl ?_
          exact ⟨rfl, hS.x⟩
      · replace hm := condF hm hc38
        refine wp_skip (block_normal (then_normal (wp_seq (wp_region_lit (n_q H (q_fieldAddr0 rfl fo80_5) rfl (W_q (q_load rfl ((hS.blk 0 rfl).ld (v := Value.int .i64 a1.Obj) ag3 (by simp))) rfl (W_q (q_eqlD rfl rfl) rfl (W_q (q_assign rfl) rfl ?_)))))))); clear H a; intro a H
        refine n_nil (then_normal (wp_ret ?_))
        obtain rfl := Option.some.inj hm
        replace hS := hS.take 0; simp only [List.take_succ_cons, List.take_zero] at hS
        refine ret1 H (.inr rfl) rfl rfl ?_
        exact ⟨rfl, hS.x⟩
theorem g_valid_asked_queue_w {w : World} {A : Nat → Addr} {cs0 : List Value} {a0 : GValidAsked} (h0 : RGValidAsked w cs0 a0) {r : Bool} (hm : g_valid_asked_queue a0 = some r) :
    Calls Tryd.prog 105 [.agg cs0.toArray].toArray w (Ret fun u w' => u = .bool r ∧ Ext w w') := by
  obtain ⟨vp0_0, vp0_1, vp0_2, vp0_3, vp0_4, vp0_5, vp0_6, vp0_7, vp0_8, vp0_9, vp0_10, rfl, hrp0_0, hrp0_1, hrp0_2, hrp0_3, hrp0_4, hrp0_5, hrp0_6, hrp0_7, hrp0_8, hrp0_9, hrp0_10⟩ := h0
  have hS := St.begin NB w
  unfold g_valid_asked_queue at hm
  refine enter Tryd.func105 rfl rfl rfl ?_; intro a H; dsimp only [enumL, Nat.zero_add, Nat.reduceAdd] at H
  refine wp_seq (wp_region_lit (n_box H rfl (cs := [.int .i64 a0.p_.Id, .bool a0.p_.Mobile, vp0_0, vp0_1, vp0_2, .int .i64 a0.p_.Events, vp0_3, .int .i64 a0.s_.Id, .int .i64 a0.s_.Frame, .int .i64 a0.s_.Epoch, vp0_4, vp0_5, vp0_6, vp0_7, vp0_8, vp0_9, vp0_10]) rfl rfl ?_))
  clear H; intro b21 w22 hN hE23 hs; clear a; intro a H
  replace hS := hS.newBlk hN hE23 hs; clear hN hs
  refine n_q H (q_assign rfl) rfl ?_; clear H a; intro a H
  refine n_nil (then_normal (wp_seq (wp_region_lit (n_makeMap H rfl ?_)))); clear H; intro r24 w25 hN hE26 hs; clear a; intro a H; replace hS := hS.newMap hN hE26 hs; clear hN hs
  refine n_q H (q_assign rfl) rfl ?_; clear H a; intro a H
  refine n_nil (then_normal (wp_seq (wp_seq (wp_region_lit (n_q H (q_fieldAddr0 rfl fo139_1) rfl (W_q (q_fieldAddrO rfl fo74_4) rfl (W_q (q_load rfl ((hS.blk 1 rfl).ld ag23 rfl)) rfl ?_))))))); clear H a; intro a H
  obtain ⟨A28, c28, hv28, hl28, hm28⟩ := SlR.formV (hrp0_5.ext (Flat.mono _) hS.x)
  refine n_q H (q_lenV Tryd.underlying23 rfl hv28) rfl (W_q (q_move rfl) rfl ?_); clear H a; intro a H
  refine n_nil (then_normal (wp_block ?_))
  replace hm := bindS hm; obtain ⟨q29, hm, hm29⟩ := hm; replace hm := iter_some hm; obtain ⟨n29, hm⟩ := hm
  refine c_loop (σ := Nat × (List Int) × Nat) (fun (m, l30, i32) => [(1, .pointer (some ⟨b21, 0, none⟩)), (3, .map (some r24)), (11, vp0_5), (12, .int .i64 ((a0.s_.Ready.length : Nat) : Int)), (13, .int .i64 ((i32 : Nat) : Int))]) (fun (m, l30, i32) wl => iterN (g_valid_asked_queue_L20 a0) m (l30, i32) = some q29 ∧ St NB w wl [mapR r24 l30, blkR b21 [.int .i64 a0.p_.Id, .bool a0.p_.Mobile, vp0_0, vp0_1, vp0_2, .int .i64 a0.p_.Events, vp0_3, .int .i64 a0.s_.Id, .int .i64 a0.s_.Frame, .int .i64 a0.s_.Epoch, vp0_4, vp0_5, vp0_6, vp0_7, vp0_8, vp0_9, vp0_10] 139]) (fun (m, l30, i32) => m) (n29, ([] : List Int), 0) H ⟨rfl, rfl, rfl, rfl, rfl, trivial⟩ ⟨hm, hS⟩ ?_
  clear H hS hm a; intro xx a w33 H hR; obtain ⟨m, l30, i32⟩ := xx; simp only [ent, List.map_cons, List.map_nil] at H; (try dsimp only at hR); obtain ⟨hm, hS⟩ := hR
  replace hm := iterN_step hm; obtain ⟨m29, o29, rfl, hm, hn29⟩ := hm; try dsimp only [g_valid_asked_queue_L20] at hm
  refine wp_seq (wp_region_lit (n_q H (q_lssN (i := i32) (j := a0.s_.Ready.length) rfl rfl) rfl ?_)); clear H a; intro a H
  refine n_nil (then_normal (wp_seq (c_cond H rfl (fun hc34 => ?_) (fun hc34 => ?_))))
  · replace hm := condT hm hc34
    have hlt35 : i32 < a0.s_.Ready.length := of_decide_eq_true hc34
    refine wp_skip (then_normal (wp_seq (wp_block (wp_seq (wp_region_lit ?_)))))
    replace hm := bindS hm; obtain ⟨x36, hx36, hm⟩ := hm
    obtain ⟨adx36, hAx36⟩ := SlR.adV (hrp0_5.ext (Flat.mono _) hS.x) hv28 hx36
    refine n_q H (q_ixV (i := i32) Tryd.underlying23 sz3 rfl hv28 hAx36 rfl (natI hx36)) rfl (W_q (q_load rfl (SlR.ldOneV (hrp0_5.ext (Flat.mono _) hS.x) hv28 hAx36 ag3 hx36 rfl)) rfl (W_q (q_assign rfl) rfl ?_)); clear H a; intro a H
    refine n_nil (then_normal (wp_seq ?_))
    replace hm := bindS hm; obtain ⟨j37, hm, hm37⟩ := hm
    refine c_join (σ := Bool) H (fun q538 => [(1, .pointer (some ⟨b21, 0, none⟩)), (3, .map (some r24)), (5, .int .i64 x36), (11, vp0_5), (12, .int .i64 ((a0.s_.Ready.length : Nat) : Int)), (13, .int .i64 ((i32 : Nat) : Int)), (38, .bool q538)]) (fun q538 wl => (g_valid_asked_queue_J12 l30 i32 x36) q538 = some o29 ∧ St NB w wl [mapR r24 l30, blkR b21 [.int .i64 a0.p_.Id, .bool a0.p_.Mobile, vp0_0, vp0_1, vp0_2, .int .i64 a0.p_.Events, vp0_3, .int .i64 a0.s_.Id, .int .i64 a0.s_.Frame, .int .i64 a0.s_.Epoch, vp0_4, vp0_5, vp0_6, vp0_7, vp0_8, vp0_9, vp0_10] 139]) ?_ ?_
    · skip
      refine wp_region_lit (n_q H (q_move rfl) rfl (W_q (q_fieldAddr0 rfl fo139_1) rfl (W_q (q_fieldAddrO rfl fo74_3) rfl (W_q (q_load rfl ((hS.blk 1 rfl).ld ag69 rfl)) rfl ?_)))); clear H a; intro a H
      obtain ⟨A539, c539, hv539, hl539, hm539⟩ := SlR.formV (hrp0_4.ext (Flat.mono _) hS.x)
      refine n_q H (q_lenV Tryd.underlying69 rfl hv539) rfl ?_; clear H a; intro a H
      replace hm := bindS hm; obtain ⟨r540, hr540, hm⟩ := hm
      refine n_call H rfl en117 (g_valid_within_w (A := A) hr540) rfl ?_
      clear H; intro x543 w541 hv; clear a; intro a H; obtain ⟨rfl, hE542⟩ := hv
      replace hS := hS.ext hE542
      refine n_q H (q_not rfl) rfl (W_q (q_move rfl) rfl ?_); clear H a; intro a H
      rcases Bool.eq_false_or_eq_true (!r540) with hg544 | hg544
      · replace H := H.know 24 rfl hg544
        replace hm := condT hm hg544
        refine n_no H rfl rfl (by decide) rfl (W_no rfl rfl (by decide) rfl (W_no rfl rfl (by decide) rfl (W_q (q_pickT rfl rfl) rfl (W_q (q_move rfl) rfl (W_no rfl rfl (by decide) rfl (W_no rfl rfl (by decide) rfl (W_no rfl rfl (by decide) rfl (W_no rfl rfl (by decide) rfl (W_no rfl rfl (by decide) rfl (W_no rfl rfl (by decide) rfl (W_no rfl rfl (by decide) rfl ?_))))))))))); clear H a; intro a H
        refine n_no H rfl rfl (by decide) rfl (W_q (q_pickT rfl rfl) rfl ?_); clear H a; intro a H
        refine n_nil (then_normal ?_)
        obtain rfl := Option.some.inj hm; replace hm := hm37; try dsimp only at hm
        exact join true H ⟨rfl, rfl, rfl, rfl, rfl, rfl, rfl, trivial⟩ ⟨hm, hS⟩
      · replace H := H.know 24 rfl hg544
        replace hm := condF hm hg544
        refine n_yes H rfl rfl (n_q H (q_move rfl) rfl (W_yes rfl rfl (W_q (q_move rfl) rfl (W_yes rfl rfl (W_q (q_lookup Tryd.underlying252 Tryd.underlying3 (fun w => by kernel_rfl) (hS.map 0 rfl) rfl rfl) rfl (W_q (q_pickF rfl rfl) rfl (W_q (q_move rfl) rfl ?_))))))); clear H a; intro a H
        rcases Bool.eq_false_or_eq_true (decide (x36 ∈ l30)) with hg545 | hg545
        · replace H := H.know 29 rfl hg545
          replace hm := condT hm hg545
          refine n_no H rfl rfl (by decide) rfl (W_no rfl rfl (by decide) rfl (W_no rfl rfl (by decide) rfl (W_no rfl rfl (by decide) rfl (W_no rfl rfl (by decide) rfl (W_no rfl rfl (by decide) rfl (W_no rfl rfl (by decide) rfl (W_no rfl rfl (by decide) rfl (W_q (q_pickT rfl rfl) rfl ?_)))))))); clear H a; intro a H
          refine n_nil (then_normal ?_)
          obtain rfl := Option.some.inj hm; replace hm := hm37; try dsimp only at hm
          exact join true H ⟨rfl, rfl, rfl, rfl, rfl, rfl, rfl, trivial⟩ ⟨hm, hS⟩
        · replace H := H.know 29 rfl hg545
          replace hm := condF hm hg545
          refine n_yes H rfl rfl (n_q H (q_fieldAddr0 rfl fo139_1) rfl (W_yes rfl rfl (W_q (q_fieldAddrO rfl fo74_3) rfl (W_yes rfl rfl (W_q (q_load rfl ((hS.blk 1 rfl).ld ag69 rfl)) rfl (W_yes rfl rfl (W_q (q_move rfl) rfl (W_yes rfl rfl ?_)))))))); clear H a; intro a H
          replace hm := bindS hm; obtain ⟨x546, hx546, hm⟩ := hm
          obtain ⟨h0x546, h1x546, hxx546⟩ := rdI_some hx546
          obtain ⟨adx546, hAx546⟩ := SlR.adV (hrp0_4.ext (Flat.mono _) hS.x) hv539 hxx546
          refine n_q H (q_ixVI Tryd.underlying69 sz80 rfl hv539 hAx546 rfl h0x546 h1x546) rfl (W_yes rfl rfl (W_q (q_fieldAddr rfl fo80_2) rfl (W_yes rfl rfl (W_q (q_load rfl (SlR.ldCellV (j := 17) (u := Value.int .i64 x546.State) (hrp0_4.ext (Flat.mono _) hS.x) hv539 hAx546 ag3 hxx546 (by simp [eGProc]))) rfl (W_yes rfl rfl (W_q (q_neqD rfl rfl) rfl (W_q (q_pickF rfl rfl) rfl ?_))))))); clear H a; intro a H
          refine n_nil (then_normal ?_)
          obtain rfl := Option.some.inj hm; replace hm := hm37; try dsimp only at hm
          exact join (!decide (x546.State = 1)) H ⟨rfl, rfl, rfl, rfl, rfl, rfl, rfl, trivial⟩ ⟨hm, hS⟩
    · clear H hS hm a; intro q538 a w547 H hR
      simp only [ent, List.map_cons, List.map_nil] at H; (try dsimp only at hR); obtain ⟨hm, hS⟩ := hR; try dsimp only [g_valid_asked_queue_J12] at hm
      refine c_cond H rfl (fun hc548 => ?_) (fun hc548 => ?_)
      · replace hm := condT hm hc548
        refine wp_seq (wp_region_lit (n_q H (q_assign rfl) rfl ?_)); clear H a; intro a H
        refine n_nil (then_normal (wp_ret (then_ret (block_ret (then_ret (then_ret (block_ret (then_ret ?_))))))))
        obtain rfl := Option.some.inj hm; have hz : _ = q29 := hn29; subst hz; replace hm := hm29; try dsimp only at hm
        obtain rfl := Option.some.inj hm
        replace hS := hS.take 0; simp only [List.take_succ_cons, List.take_zero] at hS
        refine ret1 H (.inr rfl) rfl rfl ?_
        exact ⟨rfl, hS.x⟩
      · replace hm := condF hm hc548
        refine wp_skip (then_normal (wp_region_lit (n_q H (q_move rfl) rfl (W_q (q_move rfl) rfl ?_)))); clear H a; intro a H
        refine n_mapUpdate H Tryd.underlying252 Tryd.underlying3 (hS.map 0 rfl) rfl rfl ?_; clear H; intro w549 hN hC550; clear a; intro a H; replace hS := hS.setMap hN hC550; clear hN
        refine n_nil (block_normal (then_normal (wp_region_lit (n_q H (q_incr (i := i32) (j := 1) rfl rfl (by omega)) rfl (W_q (q_move rfl) rfl ?_))))); clear H a; intro a H
        refine n_nil (then_normal ?_)
        obtain rfl := Option.some.inj hm
        exact round (m29, (addK l30 x36), i32 + 1) H ⟨rfl, rfl, rfl, rfl, rfl, trivial⟩ ⟨hn29, hS⟩ (Nat.lt_succ_self _)
  · replace hm := condF hm hc34
    refine wp_exit (then_exit (then_exit (block_exit ?_)))
    obtain rfl := Option.some.inj hm; have hz : _ = q29 := hn29; subst hz; replace hm := hm29; try dsimp only at hm
    refine then_normal (wp_seq (wp_seq (wp_region_lit (n_q H (q_fieldAddr0 rfl fo139_1) rfl (W_q (q_fieldAddrO rfl fo74_3) rfl (W_q (q_load rfl ((hS.blk 1 rfl).ld ag69 rfl)) rfl ?_)))))); clear H a; intro a H
    obtain ⟨A551, c551, hv551, hl551, hm551⟩ := SlR.formV (hrp0_4.ext (Flat.mono _) hS.x)
    refine n_q H (q_lenV Tryd.underlying69 rfl hv551) rfl (W_q (q_move rfl) rfl ?_); clear H a; intro a H
    refine n_nil (then_normal (wp_block ?_))
    replace hS := hS.take 1; simp only [List.take_succ_cons, List.take_zero] at hS
    replace hm := bindS hm; obtain ⟨q552, hm, hm552⟩ := hm; replace hm := iter_some hm; obtain ⟨n552, hm⟩ := hm
    refine c_loop (σ := Nat × Nat) (fun (m, i553) => [(3, .map (some r24)), (44, vp0_4), (45, .int .i64 ((a0.s_.Procs.length : Nat) : Int)), (46, .int .i64 ((i553 : Nat) : Int))]) (fun (m, i553) wl => iterN (g_valid_asked_queue_L19 a0 l30) m i553 = some q552 ∧ St NB w wl [mapR r24 l30]) (fun (m, i553) => m) (n552, 0) H ⟨rfl, rfl, rfl, rfl, trivial⟩ ⟨hm, hS⟩ ?_
    clear H hS hm a; intro xx a w554 H hR; obtain ⟨m, i553⟩ := xx; simp only [ent, List.map_cons, List.map_nil] at H; (try dsimp only at hR); obtain ⟨hm, hS⟩ := hR
    replace hm := iterN_step hm; obtain ⟨m552, o552, rfl, hm, hn552⟩ := hm; try dsimp only [g_valid_asked_queue_L19] at hm
    refine wp_seq (wp_region_lit (n_q H (q_lssN (i := i553) (j := a0.s_.Procs.length) rfl rfl) rfl ?_)); clear H a; intro a H
    refine n_nil (then_normal (wp_seq (c_cond H rfl (fun hc555 => ?_) (fun hc555 => ?_))))
    · replace hm := condT hm hc555
      have hlt556 : i553 < a0.s_.Procs.length := of_decide_eq_true hc555
      refine wp_skip (then_normal (wp_seq (wp_block (wp_seq (wp_region_lit (n_q H (q_move rfl) rfl ?_)))))); clear H a; intro a H
      replace hm := bindS hm; obtain ⟨x557, hx557, hm⟩ := hm
      obtain ⟨adx557, hAx557⟩ := SlR.adV (hrp0_4.ext (Flat.mono _) hS.x) hv551 hx557
      refine n_q H (q_ixV (i := i553) Tryd.underlying69 sz80 rfl hv551 hAx557 rfl (natI hx557)) rfl (W_q (q_load rfl (SlR.ldAggV (hrp0_4.ext (Flat.mono _) hS.x) hv551 hAx557 ag80 sz80 hx557)) rfl ?_); clear H a; intro a H
      refine n_alloc H ze80 rfl ?_
      clear H; intro b558 w559 hN hE560 hs; clear a; intro a H
      replace hS := hS.newBlk hN hE560 hs; clear hN hs
      refine n_q H (q_assign rfl) rfl ?_; clear H a; intro a H
      refine n_storeAll H rfl rfl (vs := (x557.Regs.toList.map (Value.int .u32) ++ [.int .u32 x557.Pc, .int .i64 x557.State, .int .i64 x557.Prio, .int .i64 x557.Wait, .int .i64 x557.Obj])) rfl (sz80.trans (by simp)) (hS.blk 0 rfl) (by simp) (eGProc_one _) ?_
      clear H; intro w561 hN hC562 hz; clear a; intro a H; replace hS := hS.setBlk hN hC562; clear hN hz
      refine n_nil (then_normal ?_)
      replace hm := bindS hm; obtain ⟨j563, hm, hm563⟩ := hm
      refine c_join (σ := Bool) H (fun q1064 => [(3, .map (some r24)), (44, vp0_4), (45, .int .i64 ((a0.s_.Procs.length : Nat) : Int)), (46, .int .i64 ((i553 : Nat) : Int)), (59, .bool q1064)]) (fun q1064 wl => (g_valid_asked_queue_J18 i553) q1064 = some o552 ∧ St NB w wl [mapR r24 l30]) ?_ ?_
      · skip
        refine wp_region_lit (n_q H (q_fieldAddr0 rfl fo80_2) rfl (W_q (q_load rfl ((hS.blk 0 rfl).ld (v := Value.int .i64 x557.State) ag3 (by simp))) rfl (W_q (q_eqlD rfl rfl) rfl (W_q (q_move rfl) rfl ?_)))); clear H a; intro a H
        rcases Bool.eq_false_or_eq_true (decide (x557.State = 1)) with hg1065 | hg1065
        · replace H := H.know 54 rfl hg1065
          replace hm := condT hm hg1065
          refine n_yes H rfl rfl (n_q H (q_move rfl) rfl (W_yes rfl rfl (W_q (q_move rfl) rfl (W_yes rfl rfl (W_q (q_lookup Tryd.underlying252 Tryd.underlying3 (fun w => by kernel_rfl) (hS.map 1 rfl) rfl rfl) rfl (W_yes rfl rfl (W_q (q_not rfl) rfl (W_q (q_pickT rfl rfl) rfl ?_)))))))); clear H a; intro a H
          refine n_nil (then_normal ?_)
          obtain rfl := Option.some.inj hm; replace hm := hm563; try dsimp only at hm
          replace hS := hS.pick 1 rfl; dsimp only [List.eraseIdx] at hS
          replace hS := hS.take 1; simp only [List.take_succ_cons, List.take_zero] at hS
          exact join (!(decide (((i553 : Nat) : Int) ∈ l30))) H ⟨rfl, rfl, rfl, rfl, rfl, trivial⟩ ⟨hm, hS⟩
        · replace H := H.know 54 rfl hg1065
          replace hm := condF hm hg1065
          refine n_no H rfl rfl (by decide) rfl (W_no rfl rfl (by decide) rfl (W_no rfl rfl (by decide) rfl (W_no rfl rfl (by decide) rfl (W_q (q_pickF rfl rfl) rfl ?_)))); clear H a; intro a H
          refine n_nil (then_normal ?_)
          obtain rfl := Option.some.inj hm; replace hm := hm563; try dsimp only at hm
          replace hS := hS.pick 1 rfl; dsimp only [List.eraseIdx] at hS
          replace hS := hS.take 1; simp only [List.take_succ_cons, List.take_zero] at hS
          exact join false H ⟨rfl, rfl, rfl, rfl, rfl, trivial⟩ ⟨hm, hS⟩
      · clear H hS hm a; intro q1064 a w1066 H hR
        simp only [ent, List.map_cons, List.map_nil] at H; (try dsimp only at hR); obtain ⟨hm, hS⟩ := hR; try dsimp only [g_valid_asked_queue_J18] at hm
        refine c_cond H rfl (fun hc1067 => ?_) (fun hc1067 => ?_)
        · replace hm := condT hm hc1067
          refine wp_seq (wp_region_lit (n_q H (q_assign rfl) rfl ?_)); clear H a; intro a H
          refine n_nil (then_normal (wp_ret (block_ret (then_ret (then_ret (block_ret (then_ret ?_)))))))
          obtain rfl := Option.some.inj hm; have hz : _ = q552 := hn552; subst hz; replace hm := hm552; try dsimp only at hm
          obtain rfl := Option.some.inj hm
          replace hS := hS.take 0; simp only [List.take_succ_cons, List.take_zero] at hS
          refine ret1 H (.inr rfl) rfl rfl ?_
          exact ⟨rfl, hS.x⟩
        · replace hm := condF hm hc1067
          refine wp_skip (block_normal (then_normal (wp_region_lit (n_q H (q_incr (i := i553) (j := 1) rfl rfl (by omega)) rfl (W_q (q_move rfl) rfl ?_))))); clear H a; intro a H
          refine n_nil (then_normal ?_)
          obtain rfl := Option.some.inj hm
          exact round (m552, i553 + 1) H ⟨rfl, rfl, rfl, rfl, trivial⟩ ⟨hn552, hS⟩ (Nat.lt_succ_self _)
    · replace hm := condF hm hc555
      refine wp_exit (then_exit (then_exit (block_exit ?_)))
      obtain rfl := Option.some.inj hm; have hz : _ = q552 := hn552; subst hz; replace hm := hm552; try dsimp only at hm
      refine then_normal (wp_seq (wp_region_lit (n_q H (q_assign rfl) rfl ?_))); clear H a; intro a H
      refine n_nil (then_normal (wp_ret ?_))
      obtain rfl := Option.some.inj hm
      replace hS := hS.take 0; simp only [List.take_succ_cons, List.take_zero] at hS
      refine ret1 H (.inr rfl) rfl rfl ?_
      exact ⟨rfl, hS.x⟩
theorem g_valid_asked_rise_w {w : World} {A : Nat → Addr} {cs0 : List Value} {a0 : GValidAsked} (h0 : RGValidAsked w cs0 a0) {r : Bool} (hm : g_valid_asked_rise a0 = some r) :
    Calls Tryd.prog 106 [.agg cs0.toArray].toArray w (Ret fun u w' => u = .bool r ∧ Ext w w') := by
  obtain ⟨vp0_0, vp0_1, vp0_2, vp0_3, vp0_4, vp0_5, vp0_6, vp0_7, vp0_8, vp0_9, vp0_10, rfl, hrp0_0, hrp0_1, hrp0_2, hrp0_3, hrp0_4, hrp0_5, hrp0_6, hrp0_7, hrp0_8, hrp0_9, hrp0_10⟩ := h0
  have hS := St.begin NB w
  unfold g_valid_asked_rise at hm
  refine enter Tryd.func106 rfl rfl rfl ?_; intro a H; dsimp only [enumL, Nat.zero_add, Nat.reduceAdd] at H
  refine wp_seq (wp_region_lit (n_box H rfl (cs := [.int .i64 a0.p_.Id, .bool a0.p_.Mobile, vp0_0, vp0_1, vp0_2, .int .i64 a0.p_.Events, vp0_3, .int .i64 a0.s_.Id, .int .i64 a0.s_.Frame, .int .i64 a0.s_.Epoch, vp0_4, vp0_5, vp0_6, vp0_7, vp0_8, vp0_9, vp0_10]) rfl rfl ?_))
  clear H; intro b21 w22 hN hE23 hs; clear a; intro a H
  replace hS := hS.newBlk hN hE23 hs; clear hN hs
  refine n_q H (q_assign rfl) rfl ?_; clear H a; intro a H
  refine n_nil (then_normal (wp_seq (wp_region_lit (n_makeMap H rfl ?_)))); clear H; intro r24 w25 hN hE26 hs; clear a; intro a H; replace hS := hS.newMap hN hE26 hs; clear hN hs
  refine n_q H (q_assign rfl) rfl ?_; clear H a; intro a H
  refine n_nil (then_normal (wp_seq (wp_seq (wp_region_lit (n_q H (q_fieldAddr0 rfl fo139_1) rfl (W_q (q_fieldAddrO rfl fo74_5) rfl (W_q (q_load rfl ((hS.blk 1 rfl).ld ag70 rfl)) rfl ?_))))))); clear H a; intro a H
  obtain ⟨A28, c28, hv28, hl28, hm28⟩ := SlR.formV (hrp0_6.ext (Flat.mono _) hS.x)
  refine n_q H (q_lenV Tryd.underlying70 rfl hv28) rfl (W_q (q_move rfl) rfl ?_); clear H a; intro a H
  refine n_nil (then_normal (wp_block ?_))
  replace hm := bindS hm; obtain ⟨q29, hm, hm29⟩ := hm; replace hm := iter_some hm; obtain ⟨n29, hm⟩ := hm
  refine c_loop (σ := Nat × (List Int) × Nat) (fun (m, l30, i32) => [(1, .pointer (some ⟨b21, 0, none⟩)), (3, .map (some r24)), (10, vp0_6), (11, .int .i64 ((a0.s_.Timers.length : Nat) : Int)), (12, .int .i64 ((i32 : Nat) : Int))]) (fun (m, l30, i32) wl => iterN (g_valid_asked_rise_L19 a0) m (l30, i32) = some q29 ∧ St NB w wl [mapR r24 l30, blkR b21 [.int .i64 a0.p_.Id, .bool a0.p_.Mobile, vp0_0, vp0_1, vp0_2, .int .i64 a0.p_.Events, vp0_3, .int .i64 a0.s_.Id, .int .i64 a0.s_.Frame, .int .i64 a0.s_.Epoch, vp0_4, vp0_5, vp0_6, vp0_7, vp0_8, vp0_9, vp0_10] 139]) (fun (m, l30, i32) => m) (n29, ([] : List Int), 0) H ⟨rfl, rfl, rfl, rfl, rfl, trivial⟩ ⟨hm, hS⟩ ?_
  clear H hS hm a; intro xx a w33 H hR; obtain ⟨m, l30, i32⟩ := xx; simp only [ent, List.map_cons, List.map_nil] at H; (try dsimp only at hR); obtain ⟨hm, hS⟩ := hR
  replace hm := iterN_step hm; obtain ⟨m29, o29, rfl, hm, hn29⟩ := hm; try dsimp only [g_valid_asked_rise_L19] at hm
  refine wp_seq (wp_region_lit (n_q H (q_lssN (i := i32) (j := a0.s_.Timers.length) rfl rfl) rfl ?_)); clear H a; intro a H
  refine n_nil (then_normal (wp_seq (c_cond H rfl (fun hc34 => ?_) (fun hc34 => ?_))))
  · replace hm := condT hm hc34
    have hlt35 : i32 < a0.s_.Timers.length := of_decide_eq_true hc34
    refine wp_skip (then_normal ?_)
    replace hm := bindS hm; obtain ⟨j36, hm, hm36⟩ := hm
    refine c_join (σ := (List Int)) H (fun l537 => [(1, .pointer (some ⟨b21, 0, none⟩)), (3, .map (some r24)), (10, vp0_6), (11, .int .i64 ((a0.s_.Timers.length : Nat) : Int)), (12, .int .i64 ((i32 : Nat) : Int))]) (fun l537 wl => (g_valid_asked_rise_J18 i32) l537 = some o29 ∧ St NB w wl [mapR r24 l537, blkR b21 [.int .i64 a0.p_.Id, .bool a0.p_.Mobile, vp0_0, vp0_1, vp0_2, .int .i64 a0.p_.Events, vp0_3, .int .i64 a0.s_.Id, .int .i64 a0.s_.Frame, .int .i64 a0.s_.Epoch, vp0_4, vp0_5, vp0_6, vp0_7, vp0_8, vp0_9, vp0_10] 139]) ?_ ?_
    · skip
      refine wp_block (wp_seq (wp_region_lit (n_q H (q_move rfl) rfl ?_))); clear H a; intro a H
      replace hm := bindS hm; obtain ⟨x539, hx539, hm⟩ := hm
      obtain ⟨adx539, hAx539⟩ := SlR.adV (hrp0_6.ext (Flat.mono _) hS.x) hv28 hx539
      refine n_q H (q_ixV (i := i32) Tryd.underlying70 sz254 rfl hv28 hAx539 rfl (natI hx539)) rfl (W_q (q_load rfl (SlR.ldAggV (hrp0_6.ext (Flat.mono _) hS.x) hv28 hAx539 ag254 sz254 hx539)) rfl ?_); clear H a; intro a H
      refine n_alloc H ze254 rfl ?_
      clear H; intro b540 w541 hN hE542 hs; clear a; intro a H
      replace hS := hS.newBlk hN hE542 hs; clear hN hs
      refine n_q H (q_assign rfl) rfl ?_; clear H a; intro a H
      refine n_storeAll H rfl rfl (vs := [.int .i64 x539.Proc, .int .i64 x539.Due]) rfl sz254 (hS.blk 0 rfl) rfl (by simp) ?_
      clear H; intro w543 hN hC544 hz; clear a; intro a H; replace hS := hS.setBlk hN hC544; clear hN hz
      refine n_nil (then_normal (wp_seq ?_))
      replace hm := bindS hm; obtain ⟨j545, hm, hm545⟩ := hm
      refine c_join (σ := Bool) H (fun q1046 => [(1, .pointer (some ⟨b21, 0, none⟩)), (3, .map (some r24)), (4, .int .i64 ((i32 : Nat) : Int)), (5, .pointer (some ⟨b540, 0, none⟩)), (10, vp0_6), (11, .int .i64 ((a0.s_.Timers.length : Nat) : Int)), (12, .int .i64 ((i32 : Nat) : Int)), (36, .bool q1046)]) (fun q1046 wl => (g_valid_asked_rise_J17 a0 l30 i32 x539) q1046 = some j36 ∧ St NB w wl [mapR r24 l30, blkR b21 [.int .i64 a0.p_.Id, .bool a0.p_.Mobile, vp0_0, vp0_1, vp0_2, .int .i64 a0.p_.Events, vp0_3, .int .i64 a0.s_.Id, .int .i64 a0.s_.Frame, .int .i64 a0.s_.Epoch, vp0_4, vp0_5, vp0_6, vp0_7, vp0_8, vp0_9, vp0_10] 139, blkR b540 [.int .i64 x539.Proc, .int .i64 x539.Due] 254]) ?_ ?_
      · skip
        refine wp_region_lit (n_q H (q_fieldAddr0 rfl fo254_0) rfl (W_q (q_load rfl ((hS.blk 0 rfl).ld ag3 rfl)) rfl (W_q (q_fieldAddr0 rfl fo139_1) rfl (W_q (q_fieldAddrO rfl fo74_3) rfl (W_q (q_load rfl ((hS.blk 2 rfl).ld ag69 rfl)) rfl ?_))))); clear H a; intro a H
        obtain ⟨A1047, c1047, hv1047, hl1047, hm1047⟩ := SlR.formV (hrp0_4.ext (Flat.mono _) hS.x)
        refine n_q H (q_lenV Tryd.underlying69 rfl hv1047) rfl ?_; clear H a; intro a H
        replace hm := bindS hm; obtain ⟨r1048, hr1048, hm⟩ := hm
        refine n_call H rfl en117 (g_valid_within_w (A := A) hr1048) rfl ?_
        clear H; intro x1051 w1049 hv; clear a; intro a H; obtain ⟨rfl, hE1050⟩ := hv
        replace hS := hS.ext hE1050
        refine n_q H (q_not rfl) rfl (W_q (q_move rfl) rfl ?_); clear H a; intro a H
        rcases Bool.eq_false_or_eq_true (!r1048) with hg1052 | hg1052
        · replace H := H.know 25 rfl hg1052
          replace hm := condT hm hg1052
          refine n_no H rfl rfl (by decide) rfl (W_no rfl rfl (by decide) rfl (W_no rfl rfl (by decide) rfl (W_no rfl rfl (by decide) rfl (W_q (q_pickT rfl rfl) rfl (W_q (q_move rfl) rfl (W_no rfl rfl (by decide) rfl (W_no rfl rfl (by decide) rfl (W_no rfl rfl (by decide) rfl (W_no rfl rfl (by decide) rfl (W_q (q_pickT rfl rfl) rfl ?_)))))))))); clear H a; intro a H
          refine n_nil (then_normal ?_)
          obtain rfl := Option.some.inj hm; replace hm := hm545; try dsimp only at hm
          replace hS := hS.pick 2 rfl; dsimp only [List.eraseIdx] at hS
          replace hS := hS.pick 2 rfl; dsimp only [List.eraseIdx] at hS
          exact join true H ⟨rfl, rfl, rfl, rfl, rfl, rfl, rfl, rfl, trivial⟩ ⟨hm, hS⟩
        · replace H := H.know 25 rfl hg1052
          replace hm := condF hm hg1052
          refine n_yes H rfl rfl (n_q H (q_move rfl) rfl (W_yes rfl rfl (W_q (q_fieldAddr0 rfl fo254_0) rfl (W_yes rfl rfl (W_q (q_load rfl ((hS.blk 0 rfl).ld ag3 rfl)) rfl (W_yes rfl rfl (W_q (q_lookup Tryd.underlying252 Tryd.underlying3 (fun w => by kernel_rfl) (hS.map 1 rfl) rfl rfl) rfl (W_q (q_pickF rfl rfl) rfl (W_q (q_move rfl) rfl ?_))))))))); clear H a; intro a H
          rcases Bool.eq_false_or_eq_true (decide (x539.Proc ∈ l30)) with hg1053 | hg1053
          · replace H := H.know 31 rfl hg1053
            replace hm := condT hm hg1053
            refine n_no H rfl rfl (by decide) rfl (W_no rfl rfl (by decide) rfl (W_no rfl rfl (by decide) rfl (W_no rfl rfl (by decide) rfl (W_q (q_pickT rfl rfl) rfl ?_)))); clear H a; intro a H
            refine n_nil (then_normal ?_)
            obtain rfl := Option.some.inj hm; replace hm := hm545; try dsimp only at hm
            replace hS := hS.pick 2 rfl; dsimp only [List.eraseIdx] at hS
            replace hS := hS.pick 2 rfl; dsimp only [List.eraseIdx] at hS
            exact join true H ⟨rfl, rfl, rfl, rfl, rfl, rfl, rfl, rfl, trivial⟩ ⟨hm, hS⟩
          · replace H := H.know 31 rfl hg1053
            replace hm := condF hm hg1053
            refine n_yes H rfl rfl (n_q H (q_fieldAddr0 rfl fo254_1) rfl (W_yes rfl rfl (W_q (q_load rfl ((hS.blk 0 rfl).ld ag3 rfl)) rfl (W_yes rfl rfl ?_)))); clear H a; intro a H
            replace hm := bindS hm; obtain ⟨r1054, hr1054, hm⟩ := hm
            refine n_call H rfl en100 (g_valid_between_w (A := A) hr1054) rfl ?_
            clear H; intro x1057 w1055 hv; clear a; intro a H; obtain ⟨rfl, hE1056⟩ := hv
            replace hS := hS.ext hE1056
            refine n_yes H rfl rfl (n_q H (q_not rfl) rfl (W_q (q_pickF rfl rfl) rfl ?_)); clear H a; intro a H
            refine n_nil (then_normal ?_)
            obtain rfl := Option.some.inj hm; replace hm := hm545; try dsimp only at hm
            replace hS := hS.pick 2 rfl; dsimp only [List.eraseIdx] at hS
            replace hS := hS.pick 2 rfl; dsimp only [List.eraseIdx] at hS
            exact join (!r1054) H ⟨rfl, rfl, rfl, rfl, rfl, rfl, rfl, rfl, trivial⟩ ⟨hm, hS⟩
      · clear H hS hm a; intro q1046 a w1058 H hR
        simp only [ent, List.map_cons, List.map_nil] at H; (try dsimp only at hR); obtain ⟨hm, hS⟩ := hR; try dsimp only [g_valid_asked_rise_J17] at hm
        refine c_cond H rfl (fun hc1059 => ?_) (fun hc1059 => ?_)
        · replace hm := condT hm hc1059
          refine wp_seq (wp_region_lit (n_q H (q_assign rfl) rfl ?_)); clear H a; intro a H
          refine n_nil (then_normal (wp_ret (then_ret (block_ret (then_ret (then_ret (block_ret (then_ret ?_))))))))
          obtain rfl := Option.some.inj hm; replace hm := hm36; try dsimp only at hm
          obtain rfl := Option.some.inj hm; have hz : _ = q29 := hn29; subst hz; replace hm := hm29; try dsimp only at hm
          obtain rfl := Option.some.inj hm
          replace hS := hS.take 0; simp only [List.take_succ_cons, List.take_zero] at hS
          refine ret1 H (.inr rfl) rfl rfl ?_
          exact ⟨rfl, hS.x⟩
        · replace hm := condF hm hc1059
          refine wp_skip (then_normal (wp_seq (wp_region_lit (n_q H (q_move rfl) rfl (W_q (q_fieldAddr0 rfl fo254_0) rfl (W_q (q_load rfl ((hS.blk 2 rfl).ld ag3 rfl)) rfl ?_)))))); clear H a; intro a H
          refine n_mapUpdate H Tryd.underlying252 Tryd.underlying3 (hS.map 0 rfl) rfl rfl ?_; clear H; intro w1060 hN hC1061; clear a; intro a H; replace hS := hS.setMap hN hC1061; clear hN
          refine n_nil (then_normal (wp_seq (wp_region_lit (n_q H (q_move rfl) rfl (W_q (q_gtrN (i := i32) (j := 0) rfl rfl) rfl ?_))))); clear H a; intro a H
          refine n_nil (then_normal (c_cond H rfl (fun hc1062 => ?_) (fun hc1062 => ?_)))
          · replace hm := condT hm hc1062
            refine wp_seq (wp_region_lit (n_q H (q_fieldAddr0 rfl fo139_1) rfl (W_q (q_fieldAddrO rfl fo74_5) rfl (W_q (q_load rfl ((hS.blk 1 rfl).ld ag70 rfl)) rfl (W_q (q_move rfl) rfl (W_q (q_subW rfl rfl) rfl ?_)))))); clear H a; intro a H
            replace hm := bindS hm; obtain ⟨x1063, hx1063, hm⟩ := hm
            obtain ⟨h0x1063, h1x1063, hxx1063⟩ := rdI_some hx1063
            obtain ⟨adx1063, hAx1063⟩ := SlR.adV (hrp0_6.ext (Flat.mono _) hS.x) hv28 hxx1063
            refine n_q H (q_ixVI Tryd.underlying70 sz254 rfl hv28 hAx1063 rfl h0x1063 h1x1063) rfl (W_q (q_load rfl (SlR.ldAggV (hrp0_6.ext (Flat.mono _) hS.x) hv28 hAx1063 ag254 sz254 hxx1063)) rfl ?_); clear H a; intro a H
            refine n_alloc H ze254 rfl ?_
            clear H; intro b1064 w1065 hN hE1066 hs; clear a; intro a H
            replace hS := hS.newBlk hN hE1066 hs; clear hN hs
            refine n_storeAll H rfl rfl (vs := [.int .i64 x1063.Proc, .int .i64 x1063.Due]) rfl sz254 (hS.blk 0 rfl) rfl (by simp) ?_
            clear H; intro w1067 hN hC1068 hz; clear a; intro a H; replace hS := hS.setBlk hN hC1068; clear hN hz
            refine n_nil (then_normal (wp_seq (wp_region_lit (n_c H (fun HC => ?_))))); clear H
            refine nc_q HC (q_fieldAddr0 rfl fo254_1) rfl (by kernel_rfl) (V_q (q_load rfl ((hS.blk 0 rfl).ld ag3 rfl)) rfl (by kernel_rfl) (V_q (q_fieldAddr0 rfl fo254_1) rfl (by kernel_rfl) (V_q (q_load rfl ((hS.blk 3 rfl).ld ag3 rfl)) rfl (by kernel_rfl) (V_q (q_gtr rfl rfl) rfl (by kernel_rfl) (V_q (q_move rfl) rfl (by kernel_rfl) (V_g (q_fieldAddr0 rfl fo254_1) (by kernel_rfl) (by kernel_rfl) (by kernel_rfl) (V_g (q_load rfl ((hS.blk 0 rfl).ld ag3 rfl)) (by kernel_rfl) (by kernel_rfl) (by kernel_rfl) (V_g (q_fieldAddr0 rfl fo254_1) (by kernel_rfl) (by kernel_rfl) (by kernel_rfl) (V_g (q_load rfl ((hS.blk 3 rfl).ld ag3 rfl)) (by kernel_rfl) (by kernel_rfl) (by kernel_rfl) (V_g (q_eqlD rfl rfl) (by kernel_rfl) (by kernel_rfl) (by kernel_rfl) (V_g (q_move rfl) (by kernel_rfl) (by kernel_rfl) (by kernel_rfl) ?_))))))))))); clear HC a; intro a HC
            refine nc_g HC (q_fieldAddr0 rfl fo254_0) (by kernel_rfl) (by kernel_rfl) (by kernel_rfl) (V_g (q_load rfl ((hS.blk 0 rfl).ld ag3 rfl)) (by kernel_rfl) (by kernel_rfl) (by kernel_rfl) (V_g (q_fieldAddr0 rfl fo254_0) (by kernel_rfl) (by kernel_rfl) (by kernel_rfl) (V_g (q_load rfl ((hS.blk 3 rfl).ld ag3 rfl)) (by kernel_rfl) (by kernel_rfl) (by kernel_rfl) (V_g (q_geq rfl rfl) (by kernel_rfl) (by kernel_rfl) (by kernel_rfl) ?_)))); clear HC a; intro a HC
            refine nc_andg (j := 11) HC rfl rfl rfl (by kernel_rfl) (by kernel_rfl) (by kernel_rfl) ?_; clear HC a; intro a HC
            refine nc_or (j := 5) HC rfl rfl rfl (by kernel_rfl) (by kernel_rfl) ?_; clear HC a; intro a HC
            have H := HC.has; clear HC
            refine n_nil (then_normal (c_cond H rfl (fun hc1069 => ?_) (fun hc1069 => ?_)))
            · replace hm := condT hm hc1069
              refine wp_seq (wp_region_lit (n_q H (q_assign rfl) rfl ?_)); clear H a; intro a H
              refine n_nil (then_normal (wp_ret (block_ret (then_ret (then_ret (block_ret (then_ret ?_)))))))
              obtain rfl := Option.some.inj hm; replace hm := hm36; try dsimp only at hm
              obtain rfl := Option.some.inj hm; have hz : _ = q29 := hn29; subst hz; replace hm := hm29; try dsimp only at hm
              obtain rfl := Option.some.inj hm
              replace hS := hS.take 0; simp only [List.take_succ_cons, List.take_zero] at hS
              refine ret1 H (.inr rfl) rfl rfl ?_
              exact ⟨rfl, hS.x⟩
            · replace hm := condF hm hc1069
              refine wp_skip (block_normal (then_normal ?_))
              obtain rfl := Option.some.inj hm; replace hm := hm36; try dsimp only at hm
              replace hS := hS.pick 2 rfl; dsimp only [List.eraseIdx] at hS
              replace hS := hS.pick 2 rfl; dsimp only [List.eraseIdx] at hS
              replace hS := hS.take 2; simp only [List.take_succ_cons, List.take_zero] at hS
              exact join (addK l30 x539.Proc) H ⟨rfl, rfl, rfl, rfl, rfl, trivial⟩ ⟨hm, hS⟩
          · replace hm := condF hm hc1062
            refine wp_skip (block_normal (then_normal ?_))
            obtain rfl := Option.some.inj hm; replace hm := hm36; try dsimp only at hm
            replace hS := hS.take 2; simp only [List.take_succ_cons, List.take_zero] at hS
            exact join (addK l30 x539.Proc) H ⟨rfl, rfl, rfl, rfl, rfl, trivial⟩ ⟨hm, hS⟩
    · clear H hS hm a; intro l537 a w1070 H hR
      simp only [ent, List.map_cons, List.map_nil] at H; (try dsimp only at hR); obtain ⟨hm, hS⟩ := hR; try dsimp only [g_valid_asked_rise_J18] at hm
      refine wp_region_lit (n_q H (q_incr (i := i32) (j := 1) rfl rfl (by omega)) rfl (W_q (q_move rfl) rfl ?_)); clear H a; intro a H
      refine n_nil (then_normal ?_)
      obtain rfl := Option.some.inj hm
      exact round (m29, l537, i32 + 1) H ⟨rfl, rfl, rfl, rfl, rfl, trivial⟩ ⟨hn29, hS⟩ (Nat.lt_succ_self _)
  · replace hm := condF hm hc34
    refine wp_exit (then_exit (then_exit (block_exit ?_)))
    obtain rfl := Option.some.inj hm; have hz : _ = q29 := hn29; subst hz; replace hm := hm29; try dsimp only at hm
    refine then_normal (wp_seq (wp_region_lit (n_q H (q_assign rfl) rfl ?_))); clear H a; intro a H
    refine n_nil (then_normal (wp_ret ?_))
    obtain rfl := Option.some.inj hm
    replace hS := hS.take 0; simp only [List.take_succ_cons, List.take_zero] at hS
    refine ret1 H (.inr rfl) rfl rfl ?_
    exact ⟨rfl, hS.x⟩
theorem g_valid_asked_timed_w {w : World} {A : Nat → Addr} {cs0 : List Value} {a0 : GValidAsked} (h0 : RGValidAsked w cs0 a0) {r : Bool} (hm : g_valid_asked_timed a0 = some r) :
    Calls Tryd.prog 107 [.agg cs0.toArray].toArray w (Ret fun u w' => u = .bool r ∧ Ext w w') := by
  obtain ⟨vp0_0, vp0_1, vp0_2, vp0_3, vp0_4, vp0_5, vp0_6, vp0_7, vp0_8, vp0_9, vp0_10, rfl, hrp0_0, hrp0_1, hrp0_2, hrp0_3, hrp0_4, hrp0_5, hrp0_6, hrp0_7, hrp0_8, hrp0_9, hrp0_10⟩ := h0
  have hS := St.begin NB w
  unfold g_valid_asked_timed at hm
  refine enter Tryd.func107 rfl rfl rfl ?_; intro a H; dsimp only [enumL, Nat.zero_add, Nat.reduceAdd] at H
  refine wp_seq (wp_region_lit (n_box H rfl (cs := [.int .i64 a0.p_.Id, .bool a0.p_.Mobile, vp0_0, vp0_1, vp0_2, .int .i64 a0.p_.Events, vp0_3, .int .i64 a0.s_.Id, .int .i64 a0.s_.Frame, .int .i64 a0.s_.Epoch, vp0_4, vp0_5, vp0_6, vp0_7, vp0_8, vp0_9, vp0_10]) rfl rfl ?_))
  clear H; intro b21 w22 hN hE23 hs; clear a; intro a H
  replace hS := hS.newBlk hN hE23 hs; clear hN hs
  refine n_q H (q_assign rfl) rfl ?_; clear H a; intro a H
  refine n_nil (then_normal (wp_seq (wp_region_lit (n_makeMap H rfl ?_)))); clear H; intro r24 w25 hN hE26 hs; clear a; intro a H; replace hS := hS.newMap hN hE26 hs; clear hN hs
  refine n_q H (q_assign rfl) rfl ?_; clear H a; intro a H
  refine n_nil (then_normal (wp_seq (wp_seq (wp_region_lit (n_q H (q_fieldAddr0 rfl fo139_1) rfl (W_q (q_fieldAddrO rfl fo74_5) rfl (W_q (q_load rfl ((hS.blk 1 rfl).ld ag70 rfl)) rfl ?_))))))); clear H a; intro a H
  obtain ⟨A28, c28, hv28, hl28, hm28⟩ := SlR.formV (hrp0_6.ext (Flat.mono _) hS.x)
  refine n_q H (q_lenV Tryd.underlying70 rfl hv28) rfl (W_q (q_move rfl) rfl ?_); clear H a; intro a H
  refine n_nil (then_normal (wp_block ?_))
  replace hm := bindS hm; obtain ⟨q29, hm, hm29⟩ := hm; replace hm := iter_some hm; obtain ⟨n29, hm⟩ := hm
  refine c_loop (σ := Nat × (List Int) × Nat) (fun (m, l30, i32) => [(1, .pointer (some ⟨b21, 0, none⟩)), (3, .map (some r24)), (11, vp0_6), (12, .int .i64 ((a0.s_.Timers.length : Nat) : Int)), (13, .int .i64 ((i32 : Nat) : Int))]) (fun (m, l30, i32) wl => iterN (g_valid_asked_timed_L20 a0) m (l30, i32) = some q29 ∧ St NB w wl [mapR r24 l30, blkR b21 [.int .i64 a0.p_.Id, .bool a0.p_.Mobile, vp0_0, vp0_1, vp0_2, .int .i64 a0.p_.Events, vp0_3, .int .i64 a0.s_.Id, .int .i64 a0.s_.Frame, .int .i64 a0.s_.Epoch, vp0_4, vp0_5, vp0_6, vp0_7, vp0_8, vp0_9, vp0_10] 139]) (fun (m, l30, i32) => m) (n29, ([] : List Int), 0) H ⟨rfl, rfl, rfl, rfl, rfl, trivial⟩ ⟨hm, hS⟩ ?_
  clear H hS hm a; intro xx a w33 H hR; obtain ⟨m, l30, i32⟩ := xx; simp only [ent, List.map_cons, List.map_nil] at H; (try dsimp only at hR); obtain ⟨hm, hS⟩ := hR
  replace hm := iterN_step hm; obtain ⟨m29, o29, rfl, hm, hn29⟩ := hm; try dsimp only [g_valid_asked_timed_L20] at hm
  refine wp_seq (wp_region_lit (n_q H (q_lssN (i := i32) (j := a0.s_.Timers.length) rfl rfl) rfl ?_)); clear H a; intro a H
  refine n_nil (then_normal (wp_seq (c_cond H rfl (fun hc34 => ?_) (fun hc34 => ?_))))
  · replace hm := condT hm hc34
    have hlt35 : i32 < a0.s_.Timers.length := of_decide_eq_true hc34
    refine wp_skip (then_normal (wp_seq (wp_block (wp_seq (wp_region_lit ?_)))))
    replace hm := bindS hm; obtain ⟨x36, hx36, hm⟩ := hm
    obtain ⟨adx36, hAx36⟩ := SlR.adV (hrp0_6.ext (Flat.mono _) hS.x) hv28 hx36
    refine n_q H (q_ixV (i := i32) Tryd.underlying70 sz254 rfl hv28 hAx36 rfl (natI hx36)) rfl (W_q (q_load rfl (SlR.ldAggV (hrp0_6.ext (Flat.mono _) hS.x) hv28 hAx36 ag254 sz254 hx36)) rfl ?_); clear H a; intro a H
    refine n_alloc H ze254 rfl ?_
    clear H; intro b37 w38 hN hE39 hs; clear a; intro a H
    replace hS := hS.newBlk hN hE39 hs; clear hN hs
    refine n_storeAll H rfl rfl (vs := [.int .i64 x36.Proc, .int .i64 x36.Due]) rfl sz254 (hS.blk 0 rfl) rfl (by simp) ?_
    clear H; intro w40 hN hC41 hz; clear a; intro a H; replace hS := hS.setBlk hN hC41; clear hN hz
    refine n_nil (then_normal (wp_seq ?_))
    replace hm := bindS hm; obtain ⟨j42, hm, hm42⟩ := hm
    refine c_join (σ := Bool) H (fun q543 => [(1, .pointer (some ⟨b21, 0, none⟩)), (3, .map (some r24)), (5, .pointer (some ⟨b37, 0, none⟩)), (11, vp0_6), (12, .int .i64 ((a0.s_.Timers.length : Nat) : Int)), (13, .int .i64 ((i32 : Nat) : Int)), (34, .bool q543)]) (fun q543 wl => (g_valid_asked_timed_J12 l30 i32 x36) q543 = some o29 ∧ St NB w wl [mapR r24 l30, blkR b21 [.int .i64 a0.p_.Id, .bool a0.p_.Mobile, vp0_0, vp0_1, vp0_2, .int .i64 a0.p_.Events, vp0_3, .int .i64 a0.s_.Id, .int .i64 a0.s_.Frame, .int .i64 a0.s_.Epoch, vp0_4, vp0_5, vp0_6, vp0_7, vp0_8, vp0_9, vp0_10] 139, blkR b37 [.int .i64 x36.Proc, .int .i64 x36.Due] 254]) ?_ ?_
    · skip
      refine wp_region_lit (n_q H (q_fieldAddr0 rfl fo254_0) rfl (W_q (q_load rfl ((hS.blk 0 rfl).ld ag3 rfl)) rfl (W_q (q_fieldAddr0 rfl fo139_1) rfl (W_q (q_fieldAddrO rfl fo74_3) rfl (W_q (q_load rfl ((hS.blk 2 rfl).ld ag69 rfl)) rfl ?_))))); clear H a; intro a H
      obtain ⟨A544, c544, hv544, hl544, hm544⟩ := SlR.formV (hrp0_4.ext (Flat.mono _) hS.x)
      refine n_q H (q_lenV Tryd.underlying69 rfl hv544) rfl ?_; clear H a; intro a H
      replace hm := bindS hm; obtain ⟨r545, hr545, hm⟩ := hm
      refine n_call H rfl en117 (g_valid_within_w (A := A) hr545) rfl ?_
      clear H; intro x548 w546 hv; clear a; intro a H; obtain ⟨rfl, hE547⟩ := hv
      replace hS := hS.ext hE547
      refine n_q H (q_move rfl) rfl ?_; clear H a; intro a H
      rcases Bool.eq_false_or_eq_true r545 with hg549 | hg549
      · replace H := H.know 24 rfl hg549
        replace hm := condT hm hg549
        refine n_yes H rfl rfl (n_q H (q_fieldAddr0 rfl fo139_1) rfl (W_yes rfl rfl (W_q (q_fieldAddrO rfl fo74_3) rfl (W_yes rfl rfl (W_q (q_load rfl ((hS.blk 2 rfl).ld ag69 rfl)) rfl (W_yes rfl rfl (W_q (q_fieldAddr0 rfl fo254_0) rfl (W_yes rfl rfl (W_q (q_load rfl ((hS.blk 0 rfl).ld ag3 rfl)) rfl (W_yes rfl rfl ?_)))))))))); clear H a; intro a H
        replace hm := bindS hm; obtain ⟨x550, hx550, hm⟩ := hm
        obtain ⟨h0x550, h1x550, hxx550⟩ := rdI_some hx550
        obtain ⟨adx550, hAx550⟩ := SlR.adV (hrp0_4.ext (Flat.mono _) hS.x) hv544 hxx550
        refine n_q H (q_ixVI Tryd.underlying69 sz80 rfl hv544 hAx550 rfl h0x550 h1x550) rfl (W_yes rfl rfl (W_q (q_fieldAddr rfl fo80_2) rfl (W_yes rfl rfl (W_q (q_load rfl (SlR.ldCellV (j := 17) (u := Value.int .i64 x550.State) (hrp0_4.ext (Flat.mono _) hS.x) hv544 hAx550 ag3 hxx550 (by simp [eGProc]))) rfl (W_yes rfl rfl (W_q (q_neqD rfl rfl) rfl (W_q (q_pickT rfl rfl) rfl ?_))))))); clear H a; intro a H
        refine n_nil (then_normal ?_)
        obtain rfl := Option.some.inj hm; replace hm := hm42; try dsimp only at hm
        replace hS := hS.pick 2 rfl; dsimp only [List.eraseIdx] at hS
        replace hS := hS.pick 2 rfl; dsimp only [List.eraseIdx] at hS
        exact join (!decide (x550.State = 2)) H ⟨rfl, rfl, rfl, rfl, rfl, rfl, rfl, trivial⟩ ⟨hm, hS⟩
      · replace H := H.know 24 rfl hg549
        replace hm := condF hm hg549
        refine n_no H rfl rfl (by decide) rfl (W_no rfl rfl (by decide) rfl (W_no rfl rfl (by decide) rfl (W_no rfl rfl (by decide) rfl (W_no rfl rfl (by decide) rfl (W_no rfl rfl (by decide) rfl (W_no rfl rfl (by decide) rfl (W_no rfl rfl (by decide) rfl (W_no rfl rfl (by decide) rfl (W_q (q_pickF rfl rfl) rfl ?_))))))))); clear H a; intro a H
        refine n_nil (then_normal ?_)
        obtain rfl := Option.some.inj hm; replace hm := hm42; try dsimp only at hm
        replace hS := hS.pick 2 rfl; dsimp only [List.eraseIdx] at hS
        replace hS := hS.pick 2 rfl; dsimp only [List.eraseIdx] at hS
        exact join false H ⟨rfl, rfl, rfl, rfl, rfl, rfl, rfl, trivial⟩ ⟨hm, hS⟩
    · clear H hS hm a; intro q543 a w551 H hR
      simp only [ent, List.map_cons, List.map_nil] at H; (try dsimp only at hR); obtain ⟨hm, hS⟩ := hR; try dsimp only [g_valid_asked_timed_J12] at hm
      refine c_cond H rfl (fun hc552 => ?_) (fun hc552 => ?_)
      · replace hm := condT hm hc552
        refine wp_seq (wp_region_lit (n_q H (q_assign rfl) rfl ?_)); clear H a; intro a H
        refine n_nil (then_normal (wp_ret (then_ret (block_ret (then_ret (then_ret (block_ret (then_ret ?_))))))))
        obtain rfl := Option.some.inj hm; have hz : _ = q29 := hn29; subst hz; replace hm := hm29; try dsimp only at hm
        obtain rfl := Option.some.inj hm
        replace hS := hS.take 0; simp only [List.take_succ_cons, List.take_zero] at hS
        refine ret1 H (.inr rfl) rfl rfl ?_
        exact ⟨rfl, hS.x⟩
      · replace hm := condF hm hc552
        refine wp_skip (then_normal (wp_region_lit (n_q H (q_move rfl) rfl (W_q (q_fieldAddr0 rfl fo254_0) rfl (W_q (q_load rfl ((hS.blk 2 rfl).ld ag3 rfl)) rfl ?_))))); clear H a; intro a H
        refine n_mapUpdate H Tryd.underlying252 Tryd.underlying3 (hS.map 0 rfl) rfl rfl ?_; clear H; intro w553 hN hC554; clear a; intro a H; replace hS := hS.setMap hN hC554; clear hN
        refine n_nil (block_normal (then_normal (wp_region_lit (n_q H (q_incr (i := i32) (j := 1) rfl rfl (by omega)) rfl (W_q (q_move rfl) rfl ?_))))); clear H a; intro a H
        refine n_nil (then_normal ?_)
        obtain rfl := Option.some.inj hm
        replace hS := hS.take 2; simp only [List.take_succ_cons, List.take_zero] at hS
        exact round (m29, (addK l30 x36.Proc), i32 + 1) H ⟨rfl, rfl, rfl, rfl, rfl, trivial⟩ ⟨hn29, hS⟩ (Nat.lt_succ_self _)
  · replace hm := condF hm hc34
    refine wp_exit (then_exit (then_exit (block_exit ?_)))
    obtain rfl := Option.some.inj hm; have hz : _ = q29 := hn29; subst hz; replace hm := hm29; try dsimp only at hm
    refine then_normal (wp_seq (wp_seq (wp_region_lit (n_q H (q_fieldAddr0 rfl fo139_1) rfl (W_q (q_fieldAddrO rfl fo74_3) rfl (W_q (q_load rfl ((hS.blk 1 rfl).ld ag69 rfl)) rfl ?_)))))); clear H a; intro a H
    obtain ⟨A555, c555, hv555, hl555, hm555⟩ := SlR.formV (hrp0_4.ext (Flat.mono _) hS.x)
    refine n_q H (q_lenV Tryd.underlying69 rfl hv555) rfl (W_q (q_move rfl) rfl ?_); clear H a; intro a H
    refine n_nil (then_normal (wp_block ?_))
    replace hS := hS.take 1; simp only [List.take_succ_cons, List.take_zero] at hS
    replace hm := bindS hm; obtain ⟨q556, hm, hm556⟩ := hm; replace hm := iter_some hm; obtain ⟨n556, hm⟩ := hm
    refine c_loop (σ := Nat × Nat) (fun (m, i557) => [(3, .map (some r24)), (41, vp0_4), (42, .int .i64 ((a0.s_.Procs.length : Nat) : Int)), (43, .int .i64 ((i557 : Nat) : Int))]) (fun (m, i557) wl => iterN (g_valid_asked_timed_L19 a0 l30) m i557 = some q556 ∧ St NB w wl [mapR r24 l30]) (fun (m, i557) => m) (n556, 0) H ⟨rfl, rfl, rfl, rfl, trivial⟩ ⟨hm, hS⟩ ?_
    clear H hS hm a; intro xx a w558 H hR; obtain ⟨m, i557⟩ := xx; simp only [ent, List.map_cons, List.map_nil] at H; (try dsimp only at hR); obtain ⟨hm, hS⟩ := hR
    replace hm := iterN_step hm; obtain ⟨m556, o556, rfl, hm, hn556⟩ := hm; try dsimp only [g_valid_asked_timed_L19] at hm
    refine wp_seq (wp_region_lit (n_q H (q_lssN (i := i557) (j := a0.s_.Procs.length) rfl rfl) rfl ?_)); clear H a; intro a H
    refine n_nil (then_normal (wp_seq (c_cond H rfl (fun hc559 => ?_) (fun hc559 => ?_))))
    · replace hm := condT hm hc559
      have hlt560 : i557 < a0.s_.Procs.length := of_decide_eq_true hc559
      refine wp_skip (then_normal (wp_seq (wp_block (wp_seq (wp_region_lit (n_q H (q_move rfl) rfl ?_)))))); clear H a; intro a H
      replace hm := bindS hm; obtain ⟨x561, hx561, hm⟩ := hm
      obtain ⟨adx561, hAx561⟩ := SlR.adV (hrp0_4.ext (Flat.mono _) hS.x) hv555 hx561
      refine n_q H (q_ixV (i := i557) Tryd.underlying69 sz80 rfl hv555 hAx561 rfl (natI hx561)) rfl (W_q (q_load rfl (SlR.ldAggV (hrp0_4.ext (Flat.mono _) hS.x) hv555 hAx561 ag80 sz80 hx561)) rfl ?_); clear H a; intro a H
      refine n_alloc H ze80 rfl ?_
      clear H; intro b562 w563 hN hE564 hs; clear a; intro a H
      replace hS := hS.newBlk hN hE564 hs; clear hN hs
      refine n_q H (q_assign rfl) rfl ?_; clear H a; intro a H
      refine n_storeAll H rfl rfl (vs := (x561.Regs.toList.map (Value.int .u32) ++ [.int .u32 x561.Pc, .int .i64 x561.State, .int .i64 x561.Prio, .int .i64 x561.Wait, .int .i64 x561.Obj])) rfl (sz80.trans (by simp)) (hS.blk 0 rfl) (by simp) (eGProc_one _) ?_
      clear H; intro w565 hN hC566 hz; clear a; intro a H; replace hS := hS.setBlk hN hC566; clear hN hz
      refine n_nil (then_normal ?_)
      replace hm := bindS hm; obtain ⟨j567, hm, hm567⟩ := hm
      refine c_join (σ := Bool) H (fun q1068 => [(3, .map (some r24)), (41, vp0_4), (42, .int .i64 ((a0.s_.Procs.length : Nat) : Int)), (43, .int .i64 ((i557 : Nat) : Int)), (56, .bool q1068)]) (fun q1068 wl => (g_valid_asked_timed_J18 i557) q1068 = some o556 ∧ St NB w wl [mapR r24 l30]) ?_ ?_
      · skip
        refine wp_region_lit (n_q H (q_fieldAddr0 rfl fo80_4) rfl (W_q (q_load rfl ((hS.blk 0 rfl).ld (v := Value.int .i64 x561.Wait) ag3 (by simp))) rfl (W_q (q_eqlD rfl rfl) rfl (W_q (q_move rfl) rfl ?_)))); clear H a; intro a H
        rcases Bool.eq_false_or_eq_true (decide (x561.Wait = 1)) with hg1069 | hg1069
        · replace H := H.know 51 rfl hg1069
          replace hm := condT hm hg1069
          refine n_yes H rfl rfl (n_q H (q_move rfl) rfl (W_yes rfl rfl (W_q (q_move rfl) rfl (W_yes rfl rfl (W_q (q_lookup Tryd.underlying252 Tryd.underlying3 (fun w => by kernel_rfl) (hS.map 1 rfl) rfl rfl) rfl (W_yes rfl rfl (W_q (q_not rfl) rfl (W_q (q_pickT rfl rfl) rfl ?_)))))))); clear H a; intro a H
          refine n_nil (then_normal ?_)
          obtain rfl := Option.some.inj hm; replace hm := hm567; try dsimp only at hm
          replace hS := hS.pick 1 rfl; dsimp only [List.eraseIdx] at hS
          replace hS := hS.take 1; simp only [List.take_succ_cons, List.take_zero] at hS
          exact join (!(decide (((i557 : Nat) : Int) ∈ l30))) H ⟨rfl, rfl, rfl, rfl, rfl, trivial⟩ ⟨hm, hS⟩
        · replace H := H.know 51 rfl hg1069
          replace hm := condF hm hg1069
          refine n_no H rfl rfl (by decide) rfl (W_no rfl rfl (by decide) rfl (W_no rfl rfl (by decide) rfl (W_no rfl rfl (by decide) rfl (W_q (q_pickF rfl rfl) rfl ?_)))); clear H a; intro a H
          refine n_nil (then_normal ?_)
          obtain rfl := Option.some.inj hm; replace hm := hm567; try dsimp only at hm
          replace hS := hS.pick 1 rfl; dsimp only [List.eraseIdx] at hS
          replace hS := hS.take 1; simp only [List.take_succ_cons, List.take_zero] at hS
          exact join false H ⟨rfl, rfl, rfl, rfl, rfl, trivial⟩ ⟨hm, hS⟩
      · clear H hS hm a; intro q1068 a w1070 H hR
        simp only [ent, List.map_cons, List.map_nil] at H; (try dsimp only at hR); obtain ⟨hm, hS⟩ := hR; try dsimp only [g_valid_asked_timed_J18] at hm
        refine c_cond H rfl (fun hc1071 => ?_) (fun hc1071 => ?_)
        · replace hm := condT hm hc1071
          refine wp_seq (wp_region_lit (n_q H (q_assign rfl) rfl ?_)); clear H a; intro a H
          refine n_nil (then_normal (wp_ret (block_ret (then_ret (then_ret (block_ret (then_ret ?_)))))))
          obtain rfl := Option.some.inj hm; have hz : _ = q556 := hn556; subst hz; replace hm := hm556; try dsimp only at hm
          obtain rfl := Option.some.inj hm
          replace hS := hS.take 0; simp only [List.take_succ_cons, List.take_zero] at hS
          refine ret1 H (.inr rfl) rfl rfl ?_
          exact ⟨rfl, hS.x⟩
        · replace hm := condF hm hc1071
          refine wp_skip (block_normal (then_normal (wp_region_lit (n_q H (q_incr (i := i557) (j := 1) rfl rfl (by omega)) rfl (W_q (q_move rfl) rfl ?_))))); clear H a; intro a H
          refine n_nil (then_normal ?_)
          obtain rfl := Option.some.inj hm
          exact round (m556, i557 + 1) H ⟨rfl, rfl, rfl, rfl, trivial⟩ ⟨hn556, hS⟩ (Nat.lt_succ_self _)
    · replace hm := condF hm hc559
      refine wp_exit (then_exit (then_exit (block_exit ?_)))
      obtain rfl := Option.some.inj hm; have hz : _ = q556 := hn556; subst hz; replace hm := hm556; try dsimp only at hm
      refine then_normal (wp_seq (wp_region_lit (n_q H (q_assign rfl) rfl ?_))); clear H a; intro a H
      refine n_nil (then_normal (wp_ret ?_))
      obtain rfl := Option.some.inj hm
      replace hS := hS.take 0; simp only [List.take_succ_cons, List.take_zero] at hS
      refine ret1 H (.inr rfl) rfl rfl ?_
      exact ⟨rfl, hS.x⟩
theorem g_slices_IndexFunc_int_w {w : World} {A : Nat → Addr} {v0 : Value} {a0 : List Int} {g1 : Nat} {fs1 : List Value} {cp1 : List Value} {a1 : Int → Option Bool} (h0 : SlR w 1 (Flat eI) v0 a0) (he1 : entersB Tryd.prog g1 = true) (hf1 : ∀ w1, Ext w w1 → ∀ (x0 : Int) (r : Bool), a1 x0 = some r → Calls Tryd.prog g1 (fs1 ++ [Value.int .i64 x0] ++ cp1).toArray w1 (Ret fun u w' => u = .bool r ∧ Ext w1 w')) {r : Int} (hm : g_slices_IndexFunc_int a0 a1 = some r) :
    Calls Tryd.prog 161 [v0, .func (.func g1) fs1.toArray cp1.toArray].toArray w (Ret fun u w' => u = .int .i64 r ∧ Ext w w') := by
  have hS := St.begin NB w
  unfold g_slices_IndexFunc_int at hm
  refine enter Tryd.func161 rfl rfl rfl ?_; intro a H; dsimp only [enumL, Nat.zero_add, Nat.reduceAdd] at H
  refine wp_seq (wp_region_lit (n_q H (q_assign rfl) rfl ?_)); clear H a; intro a H
  refine n_nil (then_normal (wp_seq (wp_seq (wp_region_lit (n_q H (q_move rfl) rfl ?_))))); clear H a; intro a H
  obtain ⟨A21, c21, hv21, hl21, hm21⟩ := SlR.formV (h0.ext (Flat.mono _) hS.x)
  refine n_q H (q_lenV Tryd.underlying23 rfl hv21) rfl (W_q (q_move rfl) rfl ?_); clear H a; intro a H
  refine n_nil (then_normal (wp_block ?_))
  replace hm := bindS hm; obtain ⟨q22, hm, hm22⟩ := hm; replace hm := iter_some hm; obtain ⟨n22, hm⟩ := hm
  refine c_loop (σ := Nat × Nat) (fun (m, i23) => [(0, v0), (1, .func (.func g1) fs1.toArray cp1.toArray), (7, .int .i64 ((a0.length : Nat) : Int)), (8, .int .i64 ((i23 : Nat) : Int))]) (fun (m, i23) wl => iterN (g_slices_IndexFunc_int_L1 a0 a1) m i23 = some q22 ∧ St NB w wl []) (fun (m, i23) => m) (n22, 0) H ⟨rfl, rfl, rfl, rfl, trivial⟩ ⟨hm, hS⟩ ?_
  clear H hS hm a; intro xx a w24 H hR; obtain ⟨m, i23⟩ := xx; simp only [ent, List.map_cons, List.map_nil] at H; (try dsimp only at hR); obtain ⟨hm, hS⟩ := hR
  replace hm := iterN_step hm; obtain ⟨m22, o22, rfl, hm, hn22⟩ := hm; try dsimp only [g_slices_IndexFunc_int_L1] at hm
  refine wp_seq (wp_region_lit (n_q H (q_lssN (i := i23) (j := a0.length) rfl rfl) rfl ?_)); clear H a; intro a H
  refine n_nil (then_normal (wp_seq (c_cond H rfl (fun hc25 => ?_) (fun hc25 => ?_))))
  · replace hm := condT hm hc25
    have hlt26 : i23 < a0.length := of_decide_eq_true hc25
    refine wp_skip (then_normal (wp_seq (wp_block (wp_seq (wp_region_lit (n_q H (q_move rfl) rfl (W_q (q_assign rfl) rfl ?_))))))); clear H a; intro a H
    refine n_nil (then_normal (wp_seq (wp_region_lit (n_q H (q_move rfl) rfl (W_q (q_move rfl) rfl (W_q (q_move rfl) rfl ?_)))))); clear H a; intro a H
    replace hm := bindS hm; obtain ⟨x27, hx27, hm⟩ := hm
    obtain ⟨adx27, hAx27⟩ := SlR.adV (h0.ext (Flat.mono _) hS.x) hv21 hx27
    refine n_q H (q_ixV (i := i23) Tryd.underlying23 sz3 rfl hv21 hAx27 rfl (natI hx27)) rfl (W_q (q_load rfl (SlR.ldOneV (h0.ext (Flat.mono _) hS.x) hv21 hAx27 ag3 hx27 rfl)) rfl ?_); clear H a; intro a H
    replace hm := bindS hm; obtain ⟨r28, hr28, hm⟩ := hm
    refine n_callv H rfl rfl he1 (hf1 _ hS.x x27 _ hr28) rfl ?_
    clear H; intro x31 w29 hv; clear a; intro a H; obtain ⟨rfl, hE30⟩ := hv
    replace hS := hS.ext hE30
    refine n_nil (then_normal (c_cond H rfl (fun hc32 => ?_) (fun hc32 => ?_)))
    · replace hm := condT hm hc32
      refine wp_seq (wp_region_lit (n_q H (q_move rfl) rfl (W_q (q_assign rfl) rfl ?_))); clear H a; intro a H
      refine n_nil (then_normal (wp_ret (block_ret (then_ret (then_ret (block_ret (then_ret ?_)))))))
      obtain rfl := Option.some.inj hm; have hz : _ = q22 := hn22; subst hz; replace hm := hm22; try dsimp only at hm
      obtain rfl := Option.some.inj hm
      refine ret1 H (.inr rfl) rfl rfl ?_
      exact ⟨rfl, hS.x⟩
    · replace hm := condF hm hc32
      refine wp_skip (block_normal (then_normal (wp_region_lit (n_q H (q_incr (i := i23) (j := 1) rfl rfl (by omega)) rfl (W_q (q_move rfl) rfl ?_))))); clear H a; intro a H
      refine n_nil (then_normal ?_)
      obtain rfl := Option.some.inj hm
      exact round (m22, i23 + 1) H ⟨rfl, rfl, rfl, rfl, trivial⟩ ⟨hn22, hS⟩ (Nat.lt_succ_self _)
  · replace hm := condF hm hc25
    refine wp_exit (then_exit (then_exit (block_exit ?_)))
    obtain rfl := Option.some.inj hm; have hz : _ = q22 := hn22; subst hz; replace hm := hm22; try dsimp only at hm
    refine then_normal (wp_seq (wp_region_lit (n_q H (q_assign rfl) rfl ?_))); clear H a; intro a H
    refine n_nil (then_normal (wp_ret ?_))
    obtain rfl := Option.some.inj hm
    refine ret1 H (.inr rfl) rfl rfl ?_
    exact ⟨rfl, hS.x⟩
theorem g_slices_ContainsFunc_int_w {w : World} {A : Nat → Addr} {v0 : Value} {a0 : List Int} {g1 : Nat} {fs1 : List Value} {cp1 : List Value} {a1 : Int → Option Bool} (h0 : SlR w 1 (Flat eI) v0 a0) (he1 : entersB Tryd.prog g1 = true) (hf1 : ∀ w1, Ext w w1 → ∀ (x0 : Int) (r : Bool), a1 x0 = some r → Calls Tryd.prog g1 (fs1 ++ [Value.int .i64 x0] ++ cp1).toArray w1 (Ret fun u w' => u = .bool r ∧ Ext w1 w')) {r : Bool} (hm : g_slices_ContainsFunc_int a0 a1 = some r) :
    Calls Tryd.prog 108 [v0, .func (.func g1) fs1.toArray cp1.toArray].toArray w (Ret fun u w' => u = .bool r ∧ Ext w w') := by
  have hS := St.begin NB w
  unfold g_slices_ContainsFunc_int at hm
  refine enter Tryd.func108 rfl rfl rfl ?_; intro a H; dsimp only [enumL, Nat.zero_add, Nat.reduceAdd] at H
  refine wp_seq (wp_region_lit (n_q H (q_assign rfl) rfl ?_)); clear H a; intro a H
  refine n_nil (then_normal (wp_seq (wp_region_lit (n_q H (q_move rfl) rfl (W_q (q_move rfl) rfl ?_))))); clear H a; intro a H
  replace hm := bindS hm; obtain ⟨r21, hr21, hm⟩ := hm
  refine n_call H rfl en161 (g_slices_IndexFunc_int_w (A := A) (h0.ext (Flat.mono _) hS.x) (g1 := g1) (fs1 := fs1) (cp1 := cp1) (a1 := a1) he1 (fun w1 e1 => hf1 w1 (Ext.trans' hS.x e1)) hr21) rfl ?_
  clear H; intro x24 w22 hv; clear a; intro a H; obtain ⟨rfl, hE23⟩ := hv
  replace hS := hS.ext hE23
  refine n_q H (q_geq rfl rfl) rfl (W_q (q_assign rfl) rfl ?_); clear H a; intro a H
  refine n_nil (then_normal (wp_ret ?_))
  obtain rfl := Option.some.inj hm
  refine ret1 H (.inr rfl) rfl rfl ?_
  exact ⟨rfl, hS.x⟩
theorem g_valid_asked_rules_2_w {w : World} {A : Nat → Addr} {a0 : Int} {r : Bool} (hm : g_valid_asked_rules_2 a0 = some r) :
    Calls Tryd.prog 109 [.int .i64 a0].toArray w (Ret fun u w' => u = .bool r ∧ Ext w w') := by
  have hS := St.begin NB w
  unfold g_valid_asked_rules_2 at hm
  refine enter Tryd.func109 rfl rfl rfl ?_; intro a H; dsimp only [enumL, Nat.zero_add, Nat.reduceAdd] at H
  refine wp_seq (wp_region_lit (n_q H (q_assign rfl) rfl ?_)); clear H a; intro a H
  refine n_nil (then_normal (wp_seq (wp_region_lit (n_q H (q_move rfl) rfl ?_)))); clear H a; intro a H
  replace hm := bindS hm; obtain ⟨r21, hr21, hm⟩ := hm
  refine n_call H rfl en100 (g_valid_between_w (A := A) hr21) rfl ?_
  clear H; intro x24 w22 hv; clear a; intro a H; obtain ⟨rfl, hE23⟩ := hv
  replace hS := hS.ext hE23
  refine n_q H (q_not rfl) rfl (W_q (q_assign rfl) rfl ?_); clear H a; intro a H
  refine n_nil (then_normal (wp_ret ?_))
  obtain rfl := Option.some.inj hm
  refine ret1 H (.inr rfl) rfl rfl ?_
  exact ⟨rfl, hS.x⟩
theorem g_valid_asked_ports_w {w : World} {A : Nat → Addr} {cs0 : List Value} {a0 : GValidAsked} {g1 : Nat} {fs1 : List Value} {cp1 : List Value} {a1 : GPortPlan → GPort → Option Bool} (h0 : RGValidAsked w cs0 a0) (he1 : entersB Tryd.prog g1 = true) (hf1 : ∀ w1, Ext w w1 → ∀ (x0 : GPortPlan) (ds1 : List Value) (x1 : GPort) (r : Bool), RGPort w1 ds1 x1 → a1 x0 x1 = some r → Calls Tryd.prog g1 (fs1 ++ [Value.agg (eGPortPlan x0).toArray, Value.agg ds1.toArray] ++ cp1).toArray w1 (Ret fun u w' => u = .bool r ∧ Ext w1 w')) {r : Bool} (hm : g_valid_asked_ports a0 a1 = some r) :
    Calls Tryd.prog 110 [.agg cs0.toArray, .func (.func g1) fs1.toArray cp1.toArray].toArray w (Ret fun u w' => u = .bool r ∧ Ext w w') := by
  obtain ⟨vp0_0, vp0_1, vp0_2, vp0_3, vp0_4, vp0_5, vp0_6, vp0_7, vp0_8, vp0_9, vp0_10, rfl, hrp0_0, hrp0_1, hrp0_2, hrp0_3, hrp0_4, hrp0_5, hrp0_6, hrp0_7, hrp0_8, hrp0_9, hrp0_10⟩ := h0
  have hS := St.begin NB w
  unfold g_valid_asked_ports at hm
  refine enter Tryd.func110 rfl rfl rfl ?_; intro a H; dsimp only [enumL, Nat.zero_add, Nat.reduceAdd] at H
  refine wp_seq (wp_region_lit (n_box H rfl (cs := [.int .i64 a0.p_.Id, .bool a0.p_.Mobile, vp0_0, vp0_1, vp0_2, .int .i64 a0.p_.Events, vp0_3, .int .i64 a0.s_.Id, .int .i64 a0.s_.Frame, .int .i64 a0.s_.Epoch, vp0_4, vp0_5, vp0_6, vp0_7, vp0_8, vp0_9, vp0_10]) rfl rfl ?_))
  clear H; intro b21 w22 hN hE23 hs; clear a; intro a H
  replace hS := hS.newBlk hN hE23 hs; clear hN hs
  refine n_q H (q_assign rfl) rfl ?_; clear H a; intro a H
  refine n_nil (then_normal (wp_seq (wp_seq (wp_region_lit (n_q H (q_fieldAddr0 rfl fo139_0) rfl (W_q (q_fieldAddr0 rfl fo68_4) rfl (W_q (q_load rfl ((hS.blk 0 rfl).ld ag66 rfl)) rfl ?_))))))); clear H a; intro a H
  obtain ⟨A24, c24, hv24, hl24, hm24⟩ := SlR.formV (hrp0_2.ext (Flat.mono _) hS.x)
  refine n_q H (q_lenV Tryd.underlying66 rfl hv24) rfl (W_q (q_fieldAddr0 rfl fo139_1) rfl (W_q (q_fieldAddrO rfl fo74_8) rfl (W_q (q_load rfl ((hS.blk 0 rfl).ld ag71 rfl)) rfl ?_))); clear H a; intro a H
  obtain ⟨A25, c25, hv25, hl25, hm25⟩ := SlR.formV (hrp0_9.ext RGPort.mono hS.x)
  refine n_q H (q_lenV Tryd.underlying71 rfl hv25) rfl (W_q (q_min rfl rfl) rfl (W_q (q_move rfl) rfl ?_)); clear H a; intro a H
  refine n_nil (then_normal (wp_block ?_))
  replace hm := bindS hm; obtain ⟨q26, hm, hm26⟩ := hm; replace hm := iter_some hm; obtain ⟨n26, hm⟩ := hm
  refine c_loop (σ := Nat × Int) (fun (m, z28) => [(1, .func (.func g1) fs1.toArray cp1.toArray), (2, .pointer (some ⟨b21, 0, none⟩)), (14, .int .i64 (if ((a0.s_.Ports.length : Nat) : Int) < ((a0.p_.Ports.length : Nat) : Int) then ((a0.s_.Ports.length : Nat) : Int) else ((a0.p_.Ports.length : Nat) : Int))), (15, .int .i64 z28)]) (fun (m, z28) wl => iterN (g_valid_asked_ports_L1 a0 a1) m z28 = some q26 ∧ St NB w wl [blkR b21 [.int .i64 a0.p_.Id, .bool a0.p_.Mobile, vp0_0, vp0_1, vp0_2, .int .i64 a0.p_.Events, vp0_3, .int .i64 a0.s_.Id, .int .i64 a0.s_.Frame, .int .i64 a0.s_.Epoch, vp0_4, vp0_5, vp0_6, vp0_7, vp0_8, vp0_9, vp0_10] 139]) (fun (m, z28) => m) (n26, 0) H ⟨rfl, rfl, rfl, rfl, trivial⟩ ⟨hm, hS⟩ ?_
  clear H hS hm a; intro xx a w29 H hR; obtain ⟨m, z28⟩ := xx; simp only [ent, List.map_cons, List.map_nil] at H; (try dsimp only at hR); obtain ⟨hm, hS⟩ := hR
  replace hm := iterN_step hm; obtain ⟨m26, o26, rfl, hm, hn26⟩ := hm; try dsimp only [g_valid_asked_ports_L1] at hm
  refine wp_seq (wp_region_lit (n_q H (q_lss rfl rfl) rfl ?_)); clear H a; intro a H
  refine n_nil (then_normal (wp_seq (c_cond H rfl (fun hc30 => ?_) (fun hc30 => ?_))))
  · replace hm := condT hm hc30
    refine wp_skip (then_normal (wp_seq (wp_block (wp_seq (wp_region_lit (n_q H (q_move rfl) rfl (W_q (q_assign rfl) rfl ?_))))))); clear H a; intro a H
    refine n_nil (then_normal (wp_seq (c_ord [] 15 (by kernel_rfl) ?_)))
    obtain ⟨w31, hw31⟩ : ∃ x, x = w29.drew := ⟨_, rfl⟩; rw [← hw31]; have hE32 : Ext w29 w31 := by rw [hw31]; exact Ext.drew' _
    clear hw31
    replace hS := hS.ext hE32
    have hS33 := hS
    have hW := Nat.le_refl w31.heap.size
    refine k_takeT 0 H rfl (q_move rfl) rfl (by kernel_rfl) (by kernel_rfl) (by kernel_rfl) (by kernel_rfl) (fun _ _ _ h => h) ?_; clear H a; intro a H
    refine k_takeT 1 H rfl (q_fieldAddr0 rfl fo139_0) rfl (by kernel_rfl) (by kernel_rfl) (by kernel_rfl) (by kernel_rfl) (fun _ _ _ h => h) ?_; clear H a; intro a H
    refine k_takeT 2 H rfl (q_fieldAddr0 rfl fo68_4) rfl (by kernel_rfl) (by kernel_rfl) (by kernel_rfl) (by kernel_rfl) (fun _ _ _ h => h) ?_; clear H a; intro a H
    refine k_take 3 H rfl (q_load rfl (LdC.old ((hS33.blk 0 rfl).ld ag66 rfl) Ext.rfl' (Nat.le_refl _) (by simp))) rfl (by kernel_rfl) (by kernel_rfl) (by kernel_rfl) (by kernel_rfl) (fun _ _ _ h => h) ?_; clear H a; intro a H
    refine k_takeT 4 H rfl (q_move rfl) rfl (by kernel_rfl) (by kernel_rfl) (by kernel_rfl) (by kernel_rfl) (fun _ _ _ h => h) ?_; clear H a; intro a H
    replace hm := bindS hm; obtain ⟨x34, hx34, hm⟩ := hm
    obtain ⟨h0x34, h1x34, hxx34⟩ := rdI_some hx34
    obtain ⟨adx34, hAx34⟩ := SlR.adV (hrp0_2.ext (Flat.mono _) hS.x) hv24 hxx34
    refine k_takeT 5 H rfl (q_ixVI Tryd.underlying66 sz169 rfl hv24 hAx34 rfl h0x34 h1x34) rfl (by kernel_rfl) (by kernel_rfl) (by kernel_rfl) (by kernel_rfl) (fun _ _ _ h => h) ?_; clear H a; intro a H
    refine k_take 6 H rfl (q_load rfl (LdC.old (SlR.ldAggV (hrp0_2.ext (Flat.mono _) hS33.x) hv24 hAx34 ag169 sz169 hxx34) Ext.rfl' (Nat.le_refl _) (by simp))) rfl (by kernel_rfl) (by kernel_rfl) (by kernel_rfl) (by kernel_rfl) (fun _ _ _ h => h) ?_; clear H a; intro a H
    refine k_takeT 7 H rfl (q_fieldAddr0 rfl fo139_1) rfl (by kernel_rfl) (by kernel_rfl) (by kernel_rfl) (by kernel_rfl) (fun _ _ _ h => h) ?_; clear H a; intro a H
    refine k_takeT 8 H rfl (q_fieldAddrO rfl fo74_8) rfl (by kernel_rfl) (by kernel_rfl) (by kernel_rfl) (by kernel_rfl) (fun _ _ _ h => h) ?_; clear H a; intro a H
    refine k_take 9 H rfl (q_load rfl (LdC.old ((hS33.blk 0 rfl).ld ag71 rfl) Ext.rfl' (Nat.le_refl _) (by simp))) rfl (by kernel_rfl) (by kernel_rfl) (by kernel_rfl) (by kernel_rfl) (fun _ _ _ h => h) ?_; clear H a; intro a H
    refine k_takeT 10 H rfl (q_move rfl) rfl (by kernel_rfl) (by kernel_rfl) (by kernel_rfl) (by kernel_rfl) (fun _ _ _ h => h) ?_; clear H a; intro a H
    replace hm := bindS hm; obtain ⟨x35, hx35, hm⟩ := hm
    obtain ⟨h0x35, h1x35, hxx35⟩ := rdI_some hx35
    obtain ⟨adx35, hAx35⟩ := SlR.adV (hrp0_9.ext RGPort.mono hS.x) hv25 hxx35
    obtain ⟨csx35, hclx35, ⟨vx35_0, rfl, hrx35_0⟩, hcx35⟩ := SlR.elV hrp0_9 hv25 hAx35 hxx35
    refine k_takeT 11 H rfl (q_ixVI Tryd.underlying71 sz120 rfl hv25 hAx35 rfl h0x35 h1x35) rfl (by kernel_rfl) (by kernel_rfl) (by kernel_rfl) (by kernel_rfl) (fun _ _ _ h => h) ?_; clear H a; intro a H
    refine k_take 12 H rfl (q_load rfl (LdC.old (LdX.ext (ldEl ag120 sz120 rfl hcx35) hS33.x) Ext.rfl' (Nat.le_refl _) (by simp))) rfl (by kernel_rfl) (by kernel_rfl) (by kernel_rfl) (by kernel_rfl) (fun _ _ _ h => h) ?_; clear H a; intro a H
    replace hm := bindS hm; obtain ⟨r36, hr36, hm⟩ := hm
    refine k_of_kk 13 (by kernel_rfl) ?_
    refine kk_callv 13 H rfl rfl rfl he1 (hf1 _ hS.x x34 [vx35_0, .int .i64 x35.Age] x35 _ (⟨_, rfl, (hrx35_0.ext (Flat.mono _) hS.x)⟩ : RGPort _ [vx35_0, .int .i64 x35.Age] x35) hr36) rfl (fun v w hv => .inl (ChgF.of_ext (by obtain ⟨_, hE0⟩ := hv; exact hE0))) ?_
    clear H; intro x39 w37 hv; clear a; intro a H; obtain ⟨rfl, hE38⟩ := hv
    replace hS := hS.ext hE38
    replace hW := Nat.le_trans hW hE38.size
    refine k_takeT 14 H rfl (q_not rfl) rfl (by kernel_rfl) (by kernel_rfl) (by kernel_rfl) (by kernel_rfl) (fun _ _ _ h => h) ?_; clear H a; intro a H
    refine k_done (by kernel_rfl) ?_
    refine then_normal (c_cond H rfl (fun hc40 => ?_) (fun hc40 => ?_))
    · replace hm := condT hm hc40
      refine wp_seq (wp_region_lit (n_q H (q_assign rfl) rfl ?_)); clear H a; intro a H
      refine n_nil (then_normal (wp_ret (block_ret (then_ret (then_ret (block_ret (then_ret ?_)))))))
      obtain rfl := Option.some.inj hm; have hz : _ = q26 := hn26; subst hz; replace hm := hm26; try dsimp only at hm
      obtain rfl := Option.some.inj hm
      replace hS := hS.take 0; simp only [List.take_succ_cons, List.take_zero] at hS
      refine ret1 H (.inr rfl) rfl rfl ?_
      exact ⟨rfl, hS.x⟩
    · replace hm := condF hm hc40
      refine wp_skip (block_normal (then_normal (wp_region_lit (n_q H (q_addW rfl rfl) rfl (W_q (q_move rfl) rfl ?_))))); clear H a; intro a H
      refine n_nil (then_normal ?_)
      obtain rfl := Option.some.inj hm
      exact round (m26, (IntKind.i64.wrap (z28 + 1))) H ⟨rfl, rfl, rfl, rfl, trivial⟩ ⟨hn26, hS⟩ (Nat.lt_succ_self _)
  · replace hm := condF hm hc30
    refine wp_exit (then_exit (then_exit (block_exit ?_)))
    obtain rfl := Option.some.inj hm; have hz : _ = q26 := hn26; subst hz; replace hm := hm26; try dsimp only at hm
    refine then_normal (wp_seq (wp_region_lit (n_q H (q_assign rfl) rfl ?_))); clear H a; intro a H
    refine n_nil (then_normal (wp_ret ?_))
    obtain rfl := Option.some.inj hm
    replace hS := hS.take 0; simp only [List.take_succ_cons, List.take_zero] at hS
    refine ret1 H (.inr rfl) rfl rfl ?_
    exact ⟨rfl, hS.x⟩
theorem g_slices_IndexFunc_string_w {w : World} {A : Nat → Addr} {v0 : Value} {a0 : List ByteArray} {g1 : Nat} {fs1 : List Value} {cp1 : List Value} {a1 : ByteArray → Option Bool} (h0 : SlR w 1 (Flat eS) v0 a0) (he1 : entersB Tryd.prog g1 = true) (hf1 : ∀ w1, Ext w w1 → ∀ (x0 : ByteArray) (r : Bool), a1 x0 = some r → Calls Tryd.prog g1 (fs1 ++ [Value.string x0] ++ cp1).toArray w1 (Ret fun u w' => u = .bool r ∧ Ext w1 w')) {r : Int} (hm : g_slices_IndexFunc_string a0 a1 = some r) :
    Calls Tryd.prog 162 [v0, .func (.func g1) fs1.toArray cp1.toArray].toArray w (Ret fun u w' => u = .int .i64 r ∧ Ext w w') := by
  have hS := St.begin NB w
  unfold g_slices_IndexFunc_string at hm
  refine enter Tryd.func162 rfl rfl rfl ?_; intro a H; dsimp only [enumL, Nat.zero_add, Nat.reduceAdd] at H
  refine wp_seq (wp_region_lit (n_q H (q_assign rfl) rfl ?_)); clear H a; intro a H
  refine n_nil (then_normal (wp_seq (wp_seq (wp_region_lit (n_q H (q_move rfl) rfl ?_))))); clear H a; intro a H
  obtain ⟨A21, c21, hv21, hl21, hm21⟩ := SlR.formV (h0.ext (Flat.mono _) hS.x)
  refine n_q H (q_lenV Tryd.underlying118 rfl hv21) rfl (W_q (q_move rfl) rfl ?_); clear H a; intro a H
  refine n_nil (then_normal (wp_block ?_))
  replace hm := bindS hm; obtain ⟨q22, hm, hm22⟩ := hm; replace hm := iter_some hm; obtain ⟨n22, hm⟩ := hm
  refine c_loop (σ := Nat × Nat) (fun (m, i23) => [(0, v0), (1, .func (.func g1) fs1.toArray cp1.toArray), (7, .int .i64 ((a0.length : Nat) : Int)), (8, .int .i64 ((i23 : Nat) : Int))]) (fun (m, i23) wl => iterN (g_slices_IndexFunc_string_L1 a0 a1) m i23 = some q22 ∧ St NB w wl []) (fun (m, i23) => m) (n22, 0) H ⟨rfl, rfl, rfl, rfl, trivial⟩ ⟨hm, hS⟩ ?_
  clear H hS hm a; intro xx a w24 H hR; obtain ⟨m, i23⟩ := xx; simp only [ent, List.map_cons, List.map_nil] at H; (try dsimp only at hR); obtain ⟨hm, hS⟩ := hR
  replace hm := iterN_step hm; obtain ⟨m22, o22, rfl, hm, hn22⟩ := hm; try dsimp only [g_slices_IndexFunc_string_L1] at hm
  refine wp_seq (wp_region_lit (n_q H (q_lssN (i := i23) (j := a0.length) rfl rfl) rfl ?_)); clear H a; intro a H
  refine n_nil (then_normal (wp_seq (c_cond H rfl (fun hc25 => ?_) (fun hc25 => ?_))))
  · replace hm := condT hm hc25
    have hlt26 : i23 < a0.length := of_decide_eq_true hc25
    refine wp_skip (then_normal (wp_seq (wp_block (wp_seq (wp_region_lit (n_q H (q_move rfl) rfl (W_q (q_assign rfl) rfl ?_))))))); clear H a; intro a H
    refine n_nil (then_normal (wp_seq (wp_region_lit (n_q H (q_move rfl) rfl (W_q (q_move rfl) rfl (W_q (q_move rfl) rfl ?_)))))); clear H a; intro a H
    replace hm := bindS hm; obtain ⟨x27, hx27, hm⟩ := hm
    obtain ⟨adx27, hAx27⟩ := SlR.adV (h0.ext (Flat.mono _) hS.x) hv21 hx27
    refine n_q H (q_ixV (i := i23) Tryd.underlying118 sz9 rfl hv21 hAx27 rfl (natI hx27)) rfl (W_q (q_load rfl (SlR.ldOneV (h0.ext (Flat.mono _) hS.x) hv21 hAx27 ag9 hx27 rfl)) rfl ?_); clear H a; intro a H
    replace hm := bindS hm; obtain ⟨r28, hr28, hm⟩ := hm
    refine n_callv H rfl rfl he1 (hf1 _ hS.x x27 _ hr28) rfl ?_
    clear H; intro x31 w29 hv; clear a; intro a H; obtain ⟨rfl, hE30⟩ := hv
    replace hS := hS.ext hE30
    refine n_nil (then_normal (c_cond H rfl (fun hc32 => ?_) (fun hc32 => ?_)))
    · replace hm := condT hm hc32
      refine wp_seq (wp_region_lit (n_q H (q_move rfl) rfl (W_q (q_assign rfl) rfl ?_))); clear H a; intro a H
      refine n_nil (then_normal (wp_ret (block_ret (then_ret (then_ret (block_ret (then_ret ?_)))))))
      obtain rfl := Option.some.inj hm; have hz : _ = q22 := hn22; subst hz; replace hm := hm22; try dsimp only at hm
      obtain rfl := Option.some.inj hm
      refine ret1 H (.inr rfl) rfl rfl ?_
      exact ⟨rfl, hS.x⟩
    · replace hm := condF hm hc32
      refine wp_skip (block_normal (then_normal (wp_region_lit (n_q H (q_incr (i := i23) (j := 1) rfl rfl (by omega)) rfl (W_q (q_move rfl) rfl ?_))))); clear H a; intro a H
      refine n_nil (then_normal ?_)
      obtain rfl := Option.some.inj hm
      exact round (m22, i23 + 1) H ⟨rfl, rfl, rfl, rfl, trivial⟩ ⟨hn22, hS⟩ (Nat.lt_succ_self _)
  · replace hm := condF hm hc25
    refine wp_exit (then_exit (then_exit (block_exit ?_)))
    obtain rfl := Option.some.inj hm; have hz : _ = q22 := hn22; subst hz; replace hm := hm22; try dsimp only at hm
    refine then_normal (wp_seq (wp_region_lit (n_q H (q_assign rfl) rfl ?_))); clear H a; intro a H
    refine n_nil (then_normal (wp_ret ?_))
    obtain rfl := Option.some.inj hm
    refine ret1 H (.inr rfl) rfl rfl ?_
    exact ⟨rfl, hS.x⟩
theorem g_slices_ContainsFunc_string_w {w : World} {A : Nat → Addr} {v0 : Value} {a0 : List ByteArray} {g1 : Nat} {fs1 : List Value} {cp1 : List Value} {a1 : ByteArray → Option Bool} (h0 : SlR w 1 (Flat eS) v0 a0) (he1 : entersB Tryd.prog g1 = true) (hf1 : ∀ w1, Ext w w1 → ∀ (x0 : ByteArray) (r : Bool), a1 x0 = some r → Calls Tryd.prog g1 (fs1 ++ [Value.string x0] ++ cp1).toArray w1 (Ret fun u w' => u = .bool r ∧ Ext w1 w')) {r : Bool} (hm : g_slices_ContainsFunc_string a0 a1 = some r) :
    Calls Tryd.prog 112 [v0, .func (.func g1) fs1.toArray cp1.toArray].toArray w (Ret fun u w' => u = .bool r ∧ Ext w w') := by
  have hS := St.begin NB w
  unfold g_slices_ContainsFunc_string at hm
  refine enter Tryd.func112 rfl rfl rfl ?_; intro a H; dsimp only [enumL, Nat.zero_add, Nat.reduceAdd] at H
  refine wp_seq (wp_region_lit (n_q H (q_assign rfl) rfl ?_)); clear H a; intro a H
  refine n_nil (then_normal (wp_seq (wp_region_lit (n_q H (q_move rfl) rfl (W_q (q_move rfl) rfl ?_))))); clear H a; intro a H
  replace hm := bindS hm; obtain ⟨r21, hr21, hm⟩ := hm
  refine n_call H rfl en162 (g_slices_IndexFunc_string_w (A := A) (h0.ext (Flat.mono _) hS.x) (g1 := g1) (fs1 := fs1) (cp1 := cp1) (a1 := a1) he1 (fun w1 e1 => hf1 w1 (Ext.trans' hS.x e1)) hr21) rfl ?_
  clear H; intro x24 w22 hv; clear a; intro a H; obtain ⟨rfl, hE23⟩ := hv
  replace hS := hS.ext hE23
  refine n_q H (q_geq rfl rfl) rfl (W_q (q_assign rfl) rfl ?_); clear H a; intro a H
  refine n_nil (then_normal (wp_ret ?_))
  obtain rfl := Option.some.inj hm
  refine ret1 H (.inr rfl) rfl rfl ?_
  exact ⟨rfl, hS.x⟩
theorem g_valid_asked_rules_3_1_w {w : World} {A : Nat → Addr} {a0 : ByteArray} {b1 : Nat} {a1 : GPortPlan} (hb1 : Blk w b1 (eGPortPlan a1) 169) {r : Bool} (hm : g_valid_asked_rules_3_1 a0 a1 = some r) :
    Calls Tryd.prog 113 [.string a0, .pointer (some ⟨b1, 0, none⟩)].toArray w (Ret fun u w' => u = .bool r ∧ Ext w w') := by
  have hS := St.begin NB w
  unfold g_valid_asked_rules_3_1 at hm
  refine enter Tryd.func113 rfl rfl rfl ?_; intro a H; dsimp only [enumL, Nat.zero_add, Nat.reduceAdd] at H
  refine wp_seq (wp_region_lit (n_q H (q_assign rfl) rfl ?_)); clear H a; intro a H
  refine n_nil (then_normal (wp_seq (wp_region_lit (n_q H (q_move rfl) rfl (W_q (q_lenS Tryd.underlying9 rfl) rfl (W_q (q_fieldAddr0 rfl fo169_1) rfl (W_q (q_load rfl ((hb1.ext hS.x).ld ag3 rfl)) rfl (W_q (q_gtr rfl rfl) rfl (W_q (q_assign rfl) rfl ?_))))))))); clear H a; intro a H
  refine n_nil (then_normal (wp_ret ?_))
  obtain rfl := Option.some.inj hm
  refine ret1 H (.inr rfl) rfl rfl ?_
  exact ⟨rfl, hS.x⟩
theorem g_valid_asked_rules_3_w {w : World} {A : Nat → Addr} {a0 : GPortPlan} {cs1 : List Value} {a1 : GPort} (h1 : RGPort w cs1 a1) {r : Bool} (hm : g_valid_asked_rules_3 a0 a1 = some r) :
    Calls Tryd.prog 111 [.agg (eGPortPlan a0).toArray, .agg cs1.toArray].toArray w (Ret fun u w' => u = .bool r ∧ Ext w w') := by
  obtain ⟨vp1_0, rfl, hrp1_0⟩ := h1
  have hS := St.begin NB w
  unfold g_valid_asked_rules_3 at hm
  refine enter Tryd.func111 rfl rfl rfl ?_; intro a H; dsimp only [enumL, Nat.zero_add, Nat.reduceAdd] at H
  refine wp_seq (wp_region_lit (n_box H rfl (cs := [.int .i64 a0.Kind, .int .i64 a0.Size, .int .i64 a0.Depth, .int .i64 a0.Refresh]) rfl rfl ?_))
  clear H; intro b21 w22 hN hE23 hs; clear a; intro a H
  replace hS := hS.newBlk hN hE23 hs; clear hN hs
  refine n_box H rfl (cs := [vp1_0, .int .i64 a1.Age]) rfl rfl ?_
  clear H; intro b24 w25 hN hE26 hs; clear a; intro a H
  replace hS := hS.newBlk hN hE26 hs; clear hN hs
  refine n_q H (q_assign rfl) rfl ?_; clear H a; intro a H
  refine n_nil (then_normal (wp_seq (wp_region_lit (n_q H (q_fieldAddr0 rfl fo120_0) rfl (W_q (q_load rfl ((hS.blk 0 rfl).ld ag118 rfl)) rfl ?_))))); clear H a; intro a H
  obtain ⟨A27, c27, hv27, hl27, hm27⟩ := SlR.formV (hrp1_0.ext (Flat.mono _) hS.x)
  refine n_q H (q_lenV Tryd.underlying118 rfl hv27) rfl (W_q (q_fieldAddr0 rfl fo169_2) rfl (W_q (q_load rfl ((hS.blk 1 rfl).ld ag3 rfl)) rfl (W_q (q_leq rfl rfl) rfl (W_q (q_move rfl) rfl ?_)))); clear H a; intro a H
  rcases Bool.eq_false_or_eq_true (decide (((a1.Msgs.length : Nat) : Int) ≤ a0.Depth)) with hg28 | hg28
  · replace H := H.know 11 rfl hg28
    replace hm := condT hm hg28
    refine n_yes H rfl rfl (n_q H (q_fieldAddr0 rfl fo120_0) rfl (W_yes rfl rfl (W_q (q_load rfl ((hS.blk 0 rfl).ld ag118 rfl)) rfl (W_yes rfl rfl (W_q (q_makeFunc (f := []) (c := [.pointer (some ⟨b21, 0, none⟩)]) rfl rfl) rfl (W_yes rfl rfl ?_)))))); clear H a; intro a H
    replace hm := bindS hm; obtain ⟨r29, hr29, hm⟩ := hm
    refine n_call H rfl en112 (g_slices_ContainsFunc_string_w (A := A) (hrp1_0.ext (Flat.mono _) hS.x) (g1 := 113) (fs1 := []) (cp1 := [.pointer (some ⟨b21, 0, none⟩)]) (a1 := (fun x0 => g_valid_asked_rules_3_1 x0 a0)) en113 (fun w1 e1 x0 r hr => g_valid_asked_rules_3_1_w (A := A) ((hS.blk 1 rfl).ext e1) hr) hr29) rfl ?_
    clear H; intro x32 w30 hv; clear a; intro a H; obtain ⟨rfl, hE31⟩ := hv
    replace hS := hS.ext hE31
    refine n_yes H rfl rfl (n_q H (q_not rfl) rfl (W_q (q_pickT rfl rfl) rfl (W_q (q_assign rfl) rfl ?_))); clear H a; intro a H
    refine n_nil (then_normal (wp_ret ?_))
    obtain rfl := Option.some.inj hm
    replace hS := hS.take 0; simp only [List.take_succ_cons, List.take_zero] at hS
    refine ret1 H (.inr rfl) rfl rfl ?_
    exact ⟨rfl, hS.x⟩
  · replace H := H.know 11 rfl hg28
    replace hm := condF hm hg28
    refine n_no H rfl rfl (by decide) rfl (W_no rfl rfl (by decide) rfl (W_no rfl rfl (by decide) rfl (W_no rfl rfl (by decide) rfl (W_no rfl rfl (by decide) rfl (W_q (q_pickF rfl rfl) rfl (W_q (q_assign rfl) rfl ?_)))))); clear H a; intro a H
    refine n_nil (then_normal (wp_ret ?_))
    obtain rfl := Option.some.inj hm
    replace hS := hS.take 0; simp only [List.take_succ_cons, List.take_zero] at hS
    refine ret1 H (.inr rfl) rfl rfl ?_
    exact ⟨rfl, hS.x⟩
theorem g_valid_asked_rules_4_w {w : World} {A : Nat → Addr} {a0 : GPortPlan} {cs1 : List Value} {a1 : GPort} (h1 : RGPort w cs1 a1) {r : Bool} (hm : g_valid_asked_rules_4 a0 a1 = some r) :
    Calls Tryd.prog 114 [.agg (eGPortPlan a0).toArray, .agg cs1.toArray].toArray w (Ret fun u w' => u = .bool r ∧ Ext w w') := by
  obtain ⟨vp1_0, rfl, hrp1_0⟩ := h1
  have hS := St.begin NB w
  unfold g_valid_asked_rules_4 at hm
  refine enter Tryd.func114 rfl rfl rfl ?_; intro a H; dsimp only [enumL, Nat.zero_add, Nat.reduceAdd] at H
  refine wp_seq (wp_region_lit (n_box H rfl (cs := [.int .i64 a0.Kind, .int .i64 a0.Size, .int .i64 a0.Depth, .int .i64 a0.Refresh]) rfl rfl ?_))
  clear H; intro b21 w22 hN hE23 hs; clear a; intro a H
  replace hS := hS.newBlk hN hE23 hs; clear hN hs
  refine n_box H rfl (cs := [vp1_0, .int .i64 a1.Age]) rfl rfl ?_
  clear H; intro b24 w25 hN hE26 hs; clear a; intro a H
  replace hS := hS.newBlk hN hE26 hs; clear hN hs
  refine n_q H (q_assign rfl) rfl ?_; clear H a; intro a H
  refine n_nil (then_normal (wp_seq (wp_region_lit (n_q H (q_fieldAddr0 rfl fo120_1) rfl (W_q (q_load rfl ((hS.blk 0 rfl).ld ag3 rfl)) rfl ?_))))); clear H a; intro a H
  replace hm := bindS hm; obtain ⟨r27, hr27, hm⟩ := hm
  refine n_call H rfl en100 (g_valid_between_w (A := A) hr27) rfl ?_
  clear H; intro x30 w28 hv; clear a; intro a H; obtain ⟨rfl, hE29⟩ := hv
  replace hS := hS.ext hE29
  refine n_q H (q_move rfl) rfl ?_; clear H a; intro a H
  rcases Bool.eq_false_or_eq_true r27 with hg31 | hg31
  · replace H := H.know 8 rfl hg31
    replace hm := condT hm hg31
    refine n_yes H rfl rfl (n_q H (q_fieldAddr0 rfl fo120_1) rfl (W_yes rfl rfl (W_q (q_load rfl ((hS.blk 0 rfl).ld ag3 rfl)) rfl (W_yes rfl rfl (W_q (q_eqlD rfl rfl) rfl (W_yes rfl rfl (W_q (q_move rfl) rfl ?_))))))); clear H a; intro a H
    rcases Bool.eq_false_or_eq_true (decide (a1.Age = 0)) with hg32 | hg32
    · replace H := H.know 12 rfl hg32
      replace hm := condT hm hg32
      refine n_no H rfl rfl (by decide) rfl (W_no rfl rfl (by decide) rfl (W_no rfl rfl (by decide) rfl (W_no rfl rfl (by decide) rfl (W_noU rfl rfl rfl (W_noU rfl rfl rfl (W_noU rfl rfl rfl (W_noU rfl rfl rfl (W_no rfl rfl (by decide) rfl (W_yes rfl rfl (W_q (q_pickT rfl rfl) rfl (W_q (q_pickT rfl rfl) rfl ?_))))))))))); clear H a; intro a H
      refine n_q H (q_assign rfl) rfl ?_; clear H a; intro a H
      refine n_nil (then_normal (wp_ret ?_))
      obtain rfl := Option.some.inj hm
      replace hS := hS.take 0; simp only [List.take_succ_cons, List.take_zero] at hS
      refine ret1 H (.inr rfl) rfl rfl ?_
      exact ⟨rfl, hS.x⟩
    · replace H := H.know 12 rfl hg32
      replace hm := condF hm hg32
      refine n_yes H rfl rfl (n_q H (q_fieldAddr0 rfl fo169_0) rfl (W_yes rfl rfl (W_q (q_load rfl ((hS.blk 1 rfl).ld ag3 rfl)) rfl (W_yes rfl rfl (W_q (q_eqlD rfl rfl) rfl (W_yes rfl rfl (W_q (q_move rfl) rfl ?_))))))); clear H a; intro a H
      rcases Bool.eq_false_or_eq_true (decide (a0.Kind = 1)) with hg33 | hg33
      · replace H := H.know 16 rfl hg33
        replace hm := condT hm hg33
        refine n_yes H rfl rfl (n_q H (q_fieldAddr0 rfl fo120_0) rfl (W_yes rfl rfl (W_q (q_load rfl ((hS.blk 0 rfl).ld ag118 rfl)) rfl (W_yes rfl rfl ?_)))); clear H a; intro a H
        obtain ⟨A34, c34, hv34, hl34, hm34⟩ := SlR.formV (hrp1_0.ext (Flat.mono _) hS.x)
        refine n_q H (q_lenV Tryd.underlying118 rfl hv34) rfl (W_yes rfl rfl (W_q (q_gtrN (i := a1.Msgs.length) (j := 0) rfl rfl) rfl (W_yes rfl rfl (W_q (q_pickT rfl rfl) rfl (W_yes rfl rfl (W_q (q_pickF rfl rfl) rfl (W_q (q_pickT rfl rfl) rfl (W_q (q_assign rfl) rfl ?_)))))))); clear H a; intro a H
        refine n_nil (then_normal (wp_ret ?_))
        obtain rfl := Option.some.inj hm
        replace hS := hS.take 0; simp only [List.take_succ_cons, List.take_zero] at hS
        refine ret1 H (.inr rfl) rfl rfl ?_
        exact ⟨rfl, hS.x⟩
      · replace H := H.know 16 rfl hg33
        replace hm := condF hm hg33
        refine n_no H rfl rfl (by decide) rfl (W_no rfl rfl (by decide) rfl (W_no rfl rfl (by decide) rfl (W_no rfl rfl (by decide) rfl (W_yes rfl rfl (W_q (q_pickF rfl rfl) rfl (W_yes rfl rfl (W_q (q_pickF rfl rfl) rfl (W_q (q_pickT rfl rfl) rfl (W_q (q_assign rfl) rfl ?_))))))))); clear H a; intro a H
        refine n_nil (then_normal (wp_ret ?_))
        obtain rfl := Option.some.inj hm
        replace hS := hS.take 0; simp only [List.take_succ_cons, List.take_zero] at hS
        refine ret1 H (.inr rfl) rfl rfl ?_
        exact ⟨rfl, hS.x⟩
  · replace H := H.know 8 rfl hg31
    replace hm := condF hm hg31
    refine n_no H rfl rfl (by decide) rfl (W_no rfl rfl (by decide) rfl (W_no rfl rfl (by decide) rfl (W_no rfl rfl (by decide) rfl (W_noU rfl rfl rfl (W_noU rfl rfl rfl (W_noU rfl rfl rfl (W_noU rfl rfl rfl (W_noU rfl rfl rfl (W_noU rfl rfl rfl (W_noU rfl rfl rfl (W_noU rfl rfl rfl ?_))))))))))); clear H a; intro a H
    refine n_noU H rfl rfl rfl (W_no rfl rfl (by decide) rfl (W_q (q_pickF rfl rfl) rfl (W_q (q_assign rfl) rfl ?_))); clear H a; intro a H
    refine n_nil (then_normal (wp_ret ?_))
    obtain rfl := Option.some.inj hm
    replace hS := hS.take 0; simp only [List.take_succ_cons, List.take_zero] at hS
    refine ret1 H (.inr rfl) rfl rfl ?_
    exact ⟨rfl, hS.x⟩
end Go.Proofs.YtjoihegnjjjdaaaDoor
