/- Fy (written by wip/tools) -/
import Derived.Test.YtjoihegnjjjdaaaDoorFyD
set_option linter.unusedVariables false
set_option linter.unusedSimpArgs false
set_option maxRecDepth 10000
namespace Go.Proofs.YtjoihegnjjjdaaaDoor
open Go Go.RowKit
theorem ag105 : aggB Tryd.prog 105 = some true := by kernel_rfl
theorem ag136 : aggB Tryd.prog 136 = some false := by kernel_rfl
theorem ag167 : aggB Tryd.prog 167 = some true := by kernel_rfl
theorem ag169 : aggB Tryd.prog 169 = some true := by kernel_rfl
theorem ag22 : aggB Tryd.prog 22 = some false := by kernel_rfl
theorem ag23 : aggB Tryd.prog 23 = some false := by kernel_rfl
theorem ag24 : aggB Tryd.prog 24 = some false := by kernel_rfl
theorem ag25 : aggB Tryd.prog 25 = some false := by kernel_rfl
theorem ag27 : aggB Tryd.prog 27 = some true := by kernel_rfl
theorem ag4 : aggB Tryd.prog 4 = some false := by kernel_rfl
theorem ag43 : aggB Tryd.prog 43 = some false := by kernel_rfl
theorem ag47 : aggB Tryd.prog 47 = some true := by kernel_rfl
theorem ag50 : aggB Tryd.prog 50 = some true := by kernel_rfl
theorem ag64 : aggB Tryd.prog 64 = some false := by kernel_rfl
theorem ag65 : aggB Tryd.prog 65 = some false := by kernel_rfl
theorem ag66 : aggB Tryd.prog 66 = some false := by kernel_rfl
theorem ag68 : aggB Tryd.prog 68 = some true := by kernel_rfl
theorem ag87 : aggB Tryd.prog 87 = some true := by kernel_rfl
theorem ag98 : aggB Tryd.prog 98 = some false := by kernel_rfl
theorem bd146 : bdB Tryd.prog 146 = true := by kernel_rfl
theorem pl146 : placesB Tryd.prog 146 = some #[(0, 1), (1, 1)] := by kernel_rfl
theorem bd50 : bdB Tryd.prog 50 = true := by kernel_rfl
theorem pl50 : placesB Tryd.prog 50 = some #[(0, 1), (1, 1)] := by kernel_rfl
theorem el105 : ElemOk Tryd.prog 105 3 24 [.int .i64 0, .int .i64 0, .int .i64 0] := ⟨by kernel_rfl, by kernel_rfl, by kernel_rfl, rfl, by decide⟩
theorem el43 : ElemOk Tryd.prog 43 1 24 [.slice none 0 0] := ⟨by kernel_rfl, by kernel_rfl, by kernel_rfl, rfl, by decide⟩
theorem el50 : ElemOk Tryd.prog 50 2 24 [.int .i64 0, .string ⟨#[]⟩] := ⟨by kernel_rfl, by kernel_rfl, by kernel_rfl, rfl, by decide⟩
theorem en131 : entersB Tryd.prog 131 = true := by kernel_rfl
theorem en132 : entersB Tryd.prog 132 = true := by kernel_rfl
theorem en133 : entersB Tryd.prog 133 = true := by kernel_rfl
theorem en134 : entersB Tryd.prog 134 = true := by kernel_rfl
theorem en135 : entersB Tryd.prog 135 = true := by kernel_rfl
theorem en136 : entersB Tryd.prog 136 = true := by kernel_rfl
theorem en158 : entersB Tryd.prog 158 = true := by kernel_rfl
theorem en159 : entersB Tryd.prog 159 = true := by kernel_rfl
theorem en160 : entersB Tryd.prog 160 = true := by kernel_rfl
theorem en174 : entersB Tryd.prog 174 = true := by kernel_rfl
theorem en175 : entersB Tryd.prog 175 = true := by kernel_rfl
theorem en176 : entersB Tryd.prog 176 = true := by kernel_rfl
theorem en181 : entersB Tryd.prog 181 = true := by kernel_rfl
theorem en182 : entersB Tryd.prog 182 = true := by kernel_rfl
theorem en183 : entersB Tryd.prog 183 = true := by kernel_rfl
theorem en184 : entersB Tryd.prog 184 = true := by kernel_rfl
theorem en192 : entersB Tryd.prog 192 = true := by kernel_rfl
theorem en35 : entersB Tryd.prog 35 = true := by kernel_rfl
theorem en38 : entersB Tryd.prog 38 = true := by kernel_rfl
theorem en62 : entersB Tryd.prog 62 = true := by kernel_rfl
theorem en68 : entersB Tryd.prog 68 = true := by kernel_rfl
theorem en69 : entersB Tryd.prog 69 = true := by kernel_rfl
theorem en70 : entersB Tryd.prog 70 = true := by kernel_rfl
theorem en71 : entersB Tryd.prog 71 = true := by kernel_rfl
theorem en72 : entersB Tryd.prog 72 = true := by kernel_rfl
theorem en97 : entersB Tryd.prog 97 = true := by kernel_rfl
theorem en98 : entersB Tryd.prog 98 = true := by kernel_rfl
theorem en99 : entersB Tryd.prog 99 = true := by kernel_rfl
theorem fo105_0 : fOff Tryd.prog 105 0 = some 0 := by kernel_rfl
theorem fo105_1 : fOff Tryd.prog 105 1 = some 1 := by kernel_rfl
theorem fo105_2 : fOff Tryd.prog 105 2 = some 2 := by kernel_rfl
theorem fo167_0 : fOff Tryd.prog 167 0 = some 0 := by kernel_rfl
theorem fo167_1 : fOff Tryd.prog 167 1 = some 1 := by kernel_rfl
theorem fo169_0 : fOff Tryd.prog 169 0 = some 0 := by kernel_rfl
theorem fo169_1 : fOff Tryd.prog 169 1 = some 1 := by kernel_rfl
theorem fo169_2 : fOff Tryd.prog 169 2 = some 2 := by kernel_rfl
theorem fo169_3 : fOff Tryd.prog 169 3 = some 3 := by kernel_rfl
theorem fo27_0 : fOff Tryd.prog 27 0 = some 0 := by kernel_rfl
theorem fo27_1 : fOff Tryd.prog 27 1 = some 1 := by kernel_rfl
theorem fo27_2 : fOff Tryd.prog 27 2 = some 2 := by kernel_rfl
theorem fo27_3 : fOff Tryd.prog 27 3 = some 3 := by kernel_rfl
theorem fo27_4 : fOff Tryd.prog 27 4 = some 4 := by kernel_rfl
theorem fo27_5 : fOff Tryd.prog 27 5 = some 5 := by kernel_rfl
theorem fo47_0 : fOff Tryd.prog 47 0 = some 0 := by kernel_rfl
theorem fo47_1 : fOff Tryd.prog 47 1 = some 1 := by kernel_rfl
theorem fo47_2 : fOff Tryd.prog 47 2 = some 2 := by kernel_rfl
theorem fo47_3 : fOff Tryd.prog 47 3 = some 3 := by kernel_rfl
theorem fo50_0 : fOff Tryd.prog 50 0 = some 0 := by kernel_rfl
theorem fo50_1 : fOff Tryd.prog 50 1 = some 1 := by kernel_rfl
theorem fo68_0 : fOff Tryd.prog 68 0 = some 0 := by kernel_rfl
theorem fo68_1 : fOff Tryd.prog 68 1 = some 1 := by kernel_rfl
theorem fo68_2 : fOff Tryd.prog 68 2 = some 2 := by kernel_rfl
theorem fo68_3 : fOff Tryd.prog 68 3 = some 3 := by kernel_rfl
theorem fo68_4 : fOff Tryd.prog 68 4 = some 4 := by kernel_rfl
theorem fo68_5 : fOff Tryd.prog 68 5 = some 5 := by kernel_rfl
theorem fo68_6 : fOff Tryd.prog 68 6 = some 6 := by kernel_rfl
theorem fo87_0 : fOff Tryd.prog 87 0 = some 0 := by kernel_rfl
theorem fo87_1 : fOff Tryd.prog 87 1 = some 1 := by kernel_rfl
theorem sz105 : sizeB Tryd.prog 105 = some 3 := by kernel_rfl
theorem sz136 : sizeB Tryd.prog 136 = some 1 := by kernel_rfl
theorem sz167 : sizeB Tryd.prog 167 = some 3 := by kernel_rfl
theorem sz169 : sizeB Tryd.prog 169 = some 4 := by kernel_rfl
theorem sz27 : sizeB Tryd.prog 27 = some 6 := by kernel_rfl
theorem sz3 : sizeB Tryd.prog 3 = some 1 := by kernel_rfl
theorem sz4 : sizeB Tryd.prog 4 = some 1 := by kernel_rfl
theorem sz43 : sizeB Tryd.prog 43 = some 1 := by kernel_rfl
theorem sz47 : sizeB Tryd.prog 47 = some 4 := by kernel_rfl
theorem sz50 : sizeB Tryd.prog 50 = some 2 := by kernel_rfl
theorem sz68 : sizeB Tryd.prog 68 = some 7 := by kernel_rfl
theorem sz87 : sizeB Tryd.prog 87 = some 2 := by kernel_rfl
theorem sz98 : sizeB Tryd.prog 98 = some 1 := by kernel_rfl
theorem ze105 : zeroB Tryd.prog 105 = some [.int .i64 0, .int .i64 0, .int .i64 0] := by kernel_rfl
theorem ze136 : zeroB Tryd.prog 136 = some [.nilFunc] := by kernel_rfl
theorem ze146 : zeroB Tryd.prog 146 = some [.int .i64 0, .nilIface] := by kernel_rfl
theorem ze167 : zeroB Tryd.prog 167 = some [.int .i64 0, .int .i64 0, .bool false] := by kernel_rfl
theorem ze169 : zeroB Tryd.prog 169 = some [.int .i64 0, .int .i64 0, .int .i64 0, .int .i64 0] := by kernel_rfl
theorem ze47 : zeroB Tryd.prog 47 = some [.int .i64 0, .int .i64 0, .int .i64 0, .int .i64 0] := by kernel_rfl
theorem ze50 : zeroB Tryd.prog 50 = some [.int .i64 0, .string ⟨#[]⟩] := by kernel_rfl
theorem ze68 : zeroB Tryd.prog 68 = some [.int .i64 0, .bool false, .slice none 0 0, .slice none 0 0, .slice none 0 0, .int .i64 0, .slice none 0 0] := by kernel_rfl
theorem ze87 : zeroB Tryd.prog 87 = some [.int .i64 0, .string ⟨#[]⟩] := by kernel_rfl
theorem ze98 : zeroB Tryd.prog 98 = some [.nilFunc] := by kernel_rfl

theorem g_plan_at_w {w : World} {A : Nat → Addr} {a0 : Int} {v1 : Value} {a1 : ErrM} (h1 : IsE A w v1 a1) {r : ErrM} (hm : g_plan_at a0 a1 = some r) :
    Calls Tryd.prog 158 [.int .i64 a0, v1].toArray w (Ret fun u w' => ∃ h_0, u = h_0 ∧ St NB w w' [erQ A h_0 r]) := by
  have hS := St.begin NB w
  unfold g_plan_at at hm
  refine enter Tryd.func158 rfl rfl rfl ?_; intro a H; dsimp only [enumL, Nat.zero_add, Nat.reduceAdd] at H
  refine wp_seq (wp_region_lit (n_q H (q_assign rfl) rfl ?_)); clear H a; intro a H
  refine n_nil (then_normal (wp_seq (wp_region_lit (n_q H (q_move rfl) rfl (W_q (q_move rfl) rfl (W_q (q_build (cs := [.int .i64 a0, v1]) ze146 bd146 pl146 rfl ((fill1 rfl rfl (by simp)).trans ((fill1 (IsErr.ext h1 hS.x).one rfl (by simp)).trans rfl))) rfl ?_)))))); clear H a; intro a H
  refine n_box H rfl (cs := [.int .i64 a0, v1]) rfl rfl ?_
  clear H; intro b21 w22 hN hE23 hs; clear a; intro a H
  replace hS := hS.newBlk hN hE23 hs; clear hN hs
  replace hm := bindS hm; obtain ⟨r24, hr24, hm⟩ := hm
  have hIr24 := (IsErr.ext h1 hS.x)
  refine n_q H (q_makeInterface Tryd.underlying142 (by simp) rfl) rfl ?_; clear H a; intro a H
  replace hS := hS.dAtE hIr24 hr24
  refine n_q H (q_assign rfl) rfl ?_; clear H a; intro a H
  refine n_nil (then_normal (wp_ret ?_))
  obtain rfl := Option.some.inj hm
  refine ret1 H (.inr rfl) rfl rfl ?_
  exact ⟨_, rfl, hS⟩
theorem g_plan_checkPages_w {w : World} {A : Nat → Addr} {cs0 : List Value} {a0 : GPlan} (hG : EV A w) (h0 : RGPlan w cs0 a0) {r : ErrM} (hm : g_plan_checkPages a0 = some r) :
    Calls Tryd.prog 97 [.agg cs0.toArray].toArray w (Ret fun u w' => ∃ h_0, u = h_0 ∧ St NB w w' [erQ A h_0 r]) := by
  obtain ⟨vp0_0, vp0_1, vp0_2, vp0_3, rfl, hrp0_0, hrp0_1, hrp0_2, hrp0_3⟩ := h0
  have hS := St.begin NB w
  unfold g_plan_checkPages at hm
  refine enter Tryd.func97 rfl rfl rfl ?_; intro a H; dsimp only [enumL, Nat.zero_add, Nat.reduceAdd] at H
  refine wp_seq (wp_region_lit (n_box H rfl (cs := [.int .i64 a0.Id, .bool a0.Mobile, vp0_0, vp0_1, vp0_2, .int .i64 a0.Events, vp0_3]) rfl rfl ?_))
  clear H; intro b21 w22 hN hE23 hs; clear a; intro a H
  replace hS := hS.newBlk hN hE23 hs; clear hN hs
  refine n_q H (q_assign rfl) rfl ?_; clear H a; intro a H
  refine n_nil (then_normal (wp_seq (wp_seq (wp_region_lit (n_c H (fun HC => ?_)))))); clear H
  refine nc_q HC (q_fieldAddr0 rfl fo68_2) rfl (by kernel_rfl) (V_q (q_load rfl ((hS.blk 0 rfl).ld ag64 rfl)) rfl (by kernel_rfl) ?_); clear HC a; intro a HC
  obtain ⟨A24, c24, hv24, hl24, hm24⟩ := SlR.formV (hrp0_0.ext (Flat.mono _) hS.x)
  refine nc_q HC (q_lenV Tryd.underlying64 rfl hv24) rfl (by kernel_rfl) (V_q (q_lssN (i := a0.Pages.length) (j := 1) rfl rfl) rfl (by kernel_rfl) (V_q (q_move rfl) rfl (by kernel_rfl) (V_g (q_fieldAddr0 rfl fo68_2) (by kernel_rfl) (by kernel_rfl) (by kernel_rfl) (V_g (q_load rfl ((hS.blk 0 rfl).ld ag64 rfl)) (by kernel_rfl) (by kernel_rfl) (by kernel_rfl) (V_g (q_lenV Tryd.underlying64 rfl hv24) (by kernel_rfl) (by kernel_rfl) (by kernel_rfl) (V_g (q_gtrN (i := a0.Pages.length) (j := 32) rfl rfl) (by kernel_rfl) (by kernel_rfl) (by kernel_rfl) (V_or (j := 4) rfl rfl rfl (by kernel_rfl) (by kernel_rfl) ?_))))))); clear HC a; intro a HC
  have H := HC.has; clear HC
  refine n_nil (then_normal (c_cond H rfl (fun hc25 => ?_) (fun hc25 => ?_)))
  · replace hm := condT hm hc25
    refine wp_seq (wp_region_lit (n_q H (q_load rfl ((hG.ext hS.x).ld gSize (by decide) ag36)) rfl (W_q (q_assign rfl) rfl ?_))); clear H a; intro a H
    refine n_nil (then_normal (wp_ret (then_ret ?_)))
    obtain rfl := Option.some.inj hm
    replace hS := hS.dVar (A := A) (g := gSize) (by decide)
    replace hS := hS.take 1; simp only [List.take_succ_cons, List.take_zero] at hS
    refine ret1 H (.inr rfl) rfl rfl ?_
    exact ⟨_, rfl, hS⟩
  · replace hm := condF hm hc25
    refine wp_skip (then_normal (wp_seq (wp_seq (wp_region_lit (n_q H (q_fieldAddr0 rfl fo68_2) rfl (W_q (q_load rfl ((hS.blk 0 rfl).ld ag64 rfl)) rfl (W_q (q_lenV Tryd.underlying64 rfl hv24) rfl (W_q (q_move rfl) rfl ?_)))))))); clear H a; intro a H
    refine n_nil (then_normal (wp_block ?_))
    replace hS := hS.take 0; simp only [List.take_succ_cons, List.take_zero] at hS
    replace hm := bindS hm; obtain ⟨q27, hm, hm27⟩ := hm; replace hm := iter_some hm; obtain ⟨n27, hm⟩ := hm
    refine c_loop (σ := Nat × Nat) (fun (m, i28) => [(17, vp0_0), (18, .int .i64 ((a0.Pages.length : Nat) : Int)), (19, .int .i64 ((i28 : Nat) : Int))]) (fun (m, i28) wl => iterN (g_plan_checkPages_L1 a0) m i28 = some q27 ∧ St NB w wl []) (fun (m, i28) => m) (n27, 0) H ⟨rfl, rfl, rfl, trivial⟩ ⟨hm, hS⟩ ?_
    clear H hS hm a; intro xx a w29 H hR; obtain ⟨m, i28⟩ := xx; simp only [ent, List.map_cons, List.map_nil] at H; (try dsimp only at hR); obtain ⟨hm, hS⟩ := hR
    replace hm := iterN_step hm; obtain ⟨m27, o27, rfl, hm, hn27⟩ := hm; try dsimp only [g_plan_checkPages_L1] at hm
    refine wp_seq (wp_region_lit (n_q H (q_lssN (i := i28) (j := a0.Pages.length) rfl rfl) rfl ?_)); clear H a; intro a H
    refine n_nil (then_normal (wp_seq (c_cond H rfl (fun hc30 => ?_) (fun hc30 => ?_))))
    · replace hm := condT hm hc30
      have hlt31 : i28 < a0.Pages.length := of_decide_eq_true hc30
      refine wp_skip (then_normal (wp_seq (wp_block (wp_seq (wp_region_lit (n_q H (q_move rfl) rfl ?_)))))); clear H a; intro a H
      replace hm := bindS hm; obtain ⟨x32, hx32, hm⟩ := hm
      obtain ⟨adx32, hAx32⟩ := SlR.adV (hrp0_0.ext (Flat.mono _) hS.x) hv24 hx32
      refine n_q H (q_ixV (i := i28) Tryd.underlying64 sz87 rfl hv24 hAx32 rfl (natI hx32)) rfl (W_q (q_load rfl (SlR.ldAggV (hrp0_0.ext (Flat.mono _) hS.x) hv24 hAx32 ag87 sz87 hx32)) rfl ?_); clear H a; intro a H
      refine n_alloc H ze87 rfl ?_
      clear H; intro b33 w34 hN hE35 hs; clear a; intro a H
      replace hS := hS.newBlk hN hE35 hs; clear hN hs
      refine n_q H (q_assign rfl) rfl ?_; clear H a; intro a H
      refine n_storeAll H rfl rfl (vs := [.int .i64 x32.Rights, .string x32.Init]) rfl sz87 (hS.blk 0 rfl) rfl (by simp) ?_
      clear H; intro w36 hN hC37 hz; clear a; intro a H; replace hS := hS.setBlk hN hC37; clear hN hz
      refine n_nil (then_normal (wp_seq (wp_seq (wp_region_lit (n_c H (fun HC => ?_)))))); clear H
      refine nc_q HC (q_fieldAddr0 rfl fo87_0) rfl (by kernel_rfl) (V_q (q_load rfl ((hS.blk 0 rfl).ld ag3 rfl)) rfl (by kernel_rfl) (V_q (q_lss rfl rfl) rfl (by kernel_rfl) (V_q (q_move rfl) rfl (by kernel_rfl) (V_g (q_fieldAddr0 rfl fo87_0) (by kernel_rfl) (by kernel_rfl) (by kernel_rfl) (V_g (q_load rfl ((hS.blk 0 rfl).ld ag3 rfl)) (by kernel_rfl) (by kernel_rfl) (by kernel_rfl) (V_g (q_gtr rfl rfl) (by kernel_rfl) (by kernel_rfl) (by kernel_rfl) (V_or (j := 3) rfl rfl rfl (by kernel_rfl) (by kernel_rfl) ?_))))))); clear HC a; intro a HC
      have H := HC.has; clear HC
      refine n_nil (then_normal (c_cond H rfl (fun hc38 => ?_) (fun hc38 => ?_)))
      · replace hm := condT hm hc38
        refine wp_seq (wp_region_lit (n_q H (q_move rfl) rfl (W_q (q_load rfl ((hG.ext hS.x).ld gRange (by decide) ag36)) rfl ?_))); clear H a; intro a H
        replace hm := bindS hm; obtain ⟨r39, hr39, hm⟩ := hm
        refine n_call H rfl en158 (g_plan_at_w (A := A) (IsErr.var (by decide) : IsE A w36 _ (.v gRange)) hr39) rfl ?_
        clear H; intro u40 w42 hv; clear a; intro a H; obtain ⟨_, rfl, hE43⟩ := hv
        replace hS := hS.new hE43; simp only [List.cons_append, List.nil_append] at hS
        refine n_q H (q_assign rfl) rfl ?_; clear H a; intro a H
        refine n_nil (then_normal (wp_ret (then_ret (block_ret (then_ret (then_ret (block_ret (then_ret ?_))))))))
        obtain rfl := Option.some.inj hm; have hz : _ = q27 := hn27; subst hz; replace hm := hm27; try dsimp only at hm
        obtain rfl := Option.some.inj hm
        replace hS := hS.take 1; simp only [List.take_succ_cons, List.take_zero] at hS
        refine ret1 H (.inr rfl) rfl rfl ?_
        exact ⟨_, rfl, hS⟩
      · replace hm := condF hm hc38
        refine wp_skip (then_normal (wp_seq (wp_region_lit (n_q H (q_fieldAddr0 rfl fo87_1) rfl (W_q (q_load rfl ((hS.blk 0 rfl).ld ag9 rfl)) rfl (W_q (q_lenS Tryd.underlying9 rfl) rfl (W_q (q_gtrN (i := x32.Init.size) (j := 64) rfl rfl) rfl ?_))))))); clear H a; intro a H
        refine n_nil (then_normal (c_cond H rfl (fun hc45 => ?_) (fun hc45 => ?_)))
        · replace hm := condT hm hc45
          refine wp_seq (wp_region_lit (n_q H (q_move rfl) rfl (W_q (q_load rfl ((hG.ext hS.x).ld gLength (by decide) ag36)) rfl ?_))); clear H a; intro a H
          replace hm := bindS hm; obtain ⟨r46, hr46, hm⟩ := hm
          refine n_call H rfl en158 (g_plan_at_w (A := A) (IsErr.var (by decide) : IsE A w36 _ (.v gLength)) hr46) rfl ?_
          clear H; intro u47 w49 hv; clear a; intro a H; obtain ⟨_, rfl, hE50⟩ := hv
          replace hS := hS.new hE50; simp only [List.cons_append, List.nil_append] at hS
          refine n_q H (q_assign rfl) rfl ?_; clear H a; intro a H
          refine n_nil (then_normal (wp_ret (block_ret (then_ret (then_ret (block_ret (then_ret ?_)))))))
          obtain rfl := Option.some.inj hm; have hz : _ = q27 := hn27; subst hz; replace hm := hm27; try dsimp only at hm
          obtain rfl := Option.some.inj hm
          replace hS := hS.take 1; simp only [List.take_succ_cons, List.take_zero] at hS
          refine ret1 H (.inr rfl) rfl rfl ?_
          exact ⟨_, rfl, hS⟩
        · replace hm := condF hm hc45
          refine wp_skip (block_normal (then_normal (wp_region_lit (n_q H (q_incr (i := i28) (j := 1) rfl rfl (by omega)) rfl (W_q (q_move rfl) rfl ?_))))); clear H a; intro a H
          refine n_nil (then_normal ?_)
          obtain rfl := Option.some.inj hm
          replace hS := hS.take 0; simp only [List.take_succ_cons, List.take_zero] at hS
          exact round (m27, i28 + 1) H ⟨rfl, rfl, rfl, trivial⟩ ⟨hn27, hS⟩ (Nat.lt_succ_self _)
    · replace hm := condF hm hc30
      refine wp_exit (then_exit (then_exit (block_exit ?_)))
      obtain rfl := Option.some.inj hm; have hz : _ = q27 := hn27; subst hz; replace hm := hm27; try dsimp only at hm
      refine then_normal (wp_seq (wp_region_lit (n_q H (q_assign rfl) rfl ?_))); clear H a; intro a H
      refine n_nil (then_normal (wp_ret ?_))
      obtain rfl := Option.some.inj hm
      replace hS := hS.dNil (A := A)
      refine ret1 H (.inr rfl) rfl rfl ?_
      exact ⟨_, rfl, hS⟩
theorem g_plan_checkProcs_w {w : World} {A : Nat → Addr} {cs0 : List Value} {a0 : GPlan} (hG : EV A w) (h0 : RGPlan w cs0 a0) {r : ErrM} (hm : g_plan_checkProcs a0 = some r) :
    Calls Tryd.prog 98 [.agg cs0.toArray].toArray w (Ret fun u w' => ∃ h_0, u = h_0 ∧ St NB w w' [erQ A h_0 r]) := by
  obtain ⟨vp0_0, vp0_1, vp0_2, vp0_3, rfl, hrp0_0, hrp0_1, hrp0_2, hrp0_3⟩ := h0
  have hS := St.begin NB w
  unfold g_plan_checkProcs at hm
  refine enter Tryd.func98 rfl rfl rfl ?_; intro a H; dsimp only [enumL, Nat.zero_add, Nat.reduceAdd] at H
  refine wp_seq (wp_region_lit (n_box H rfl (cs := [.int .i64 a0.Id, .bool a0.Mobile, vp0_0, vp0_1, vp0_2, .int .i64 a0.Events, vp0_3]) rfl rfl ?_))
  clear H; intro b21 w22 hN hE23 hs; clear a; intro a H
  replace hS := hS.newBlk hN hE23 hs; clear hN hs
  refine n_q H (q_assign rfl) rfl ?_; clear H a; intro a H
  refine n_nil (then_normal (wp_seq (wp_seq (wp_region_lit (n_c H (fun HC => ?_)))))); clear H
  refine nc_q HC (q_fieldAddr0 rfl fo68_3) rfl (by kernel_rfl) (V_q (q_load rfl ((hS.blk 0 rfl).ld ag65 rfl)) rfl (by kernel_rfl) ?_); clear HC a; intro a HC
  obtain ⟨A24, c24, hv24, hl24, hm24⟩ := SlR.formV (hrp0_1.ext (Flat.mono _) hS.x)
  refine nc_q HC (q_lenV Tryd.underlying65 rfl hv24) rfl (by kernel_rfl) (V_q (q_lssN (i := a0.Procs.length) (j := 1) rfl rfl) rfl (by kernel_rfl) (V_q (q_move rfl) rfl (by kernel_rfl) (V_g (q_fieldAddr0 rfl fo68_3) (by kernel_rfl) (by kernel_rfl) (by kernel_rfl) (V_g (q_load rfl ((hS.blk 0 rfl).ld ag65 rfl)) (by kernel_rfl) (by kernel_rfl) (by kernel_rfl) (V_g (q_lenV Tryd.underlying65 rfl hv24) (by kernel_rfl) (by kernel_rfl) (by kernel_rfl) (V_g (q_gtrN (i := a0.Procs.length) (j := 8) rfl rfl) (by kernel_rfl) (by kernel_rfl) (by kernel_rfl) (V_or (j := 4) rfl rfl rfl (by kernel_rfl) (by kernel_rfl) ?_))))))); clear HC a; intro a HC
  have H := HC.has; clear HC
  refine n_nil (then_normal (c_cond H rfl (fun hc25 => ?_) (fun hc25 => ?_)))
  · replace hm := condT hm hc25
    refine wp_seq (wp_region_lit (n_q H (q_load rfl ((hG.ext hS.x).ld gSize (by decide) ag36)) rfl (W_q (q_assign rfl) rfl ?_))); clear H a; intro a H
    refine n_nil (then_normal (wp_ret (then_ret ?_)))
    obtain rfl := Option.some.inj hm
    replace hS := hS.dVar (A := A) (g := gSize) (by decide)
    replace hS := hS.take 1; simp only [List.take_succ_cons, List.take_zero] at hS
    refine ret1 H (.inr rfl) rfl rfl ?_
    exact ⟨_, rfl, hS⟩
  · replace hm := condF hm hc25
    refine wp_skip (then_normal (wp_seq (wp_seq (wp_region_lit (n_q H (q_fieldAddr0 rfl fo68_3) rfl (W_q (q_load rfl ((hS.blk 0 rfl).ld ag65 rfl)) rfl (W_q (q_lenV Tryd.underlying65 rfl hv24) rfl (W_q (q_move rfl) rfl ?_)))))))); clear H a; intro a H
    refine n_nil (then_normal (wp_block ?_))
    replace hm := bindS hm; obtain ⟨q27, hm, hm27⟩ := hm; replace hm := iter_some hm; obtain ⟨n27, hm⟩ := hm
    refine c_loop (σ := Nat × Nat) (fun (m, i28) => [(1, .pointer (some ⟨b21, 0, none⟩)), (17, vp0_1), (18, .int .i64 ((a0.Procs.length : Nat) : Int)), (19, .int .i64 ((i28 : Nat) : Int))]) (fun (m, i28) wl => iterN (g_plan_checkProcs_L7 a0) m i28 = some q27 ∧ St NB w wl [blkR b21 [.int .i64 a0.Id, .bool a0.Mobile, vp0_0, vp0_1, vp0_2, .int .i64 a0.Events, vp0_3] 68]) (fun (m, i28) => m) (n27, 0) H ⟨rfl, rfl, rfl, rfl, trivial⟩ ⟨hm, hS⟩ ?_
    clear H hS hm a; intro xx a w29 H hR; obtain ⟨m, i28⟩ := xx; simp only [ent, List.map_cons, List.map_nil] at H; (try dsimp only at hR); obtain ⟨hm, hS⟩ := hR
    replace hm := iterN_step hm; obtain ⟨m27, o27, rfl, hm, hn27⟩ := hm; try dsimp only [g_plan_checkProcs_L7] at hm
    refine wp_seq (wp_region_lit (n_q H (q_lssN (i := i28) (j := a0.Procs.length) rfl rfl) rfl ?_)); clear H a; intro a H
    refine n_nil (then_normal (wp_seq (c_cond H rfl (fun hc30 => ?_) (fun hc30 => ?_))))
    · replace hm := condT hm hc30
      have hlt31 : i28 < a0.Procs.length := of_decide_eq_true hc30
      refine wp_skip (then_normal (wp_seq (wp_block (wp_seq (wp_region_lit (n_q H (q_move rfl) rfl ?_)))))); clear H a; intro a H
      replace hm := bindS hm; obtain ⟨x32, hx32, hm⟩ := hm
      obtain ⟨adx32, hAx32⟩ := SlR.adV (hrp0_1.ext (Flat.mono _) hS.x) hv24 hx32
      refine n_q H (q_ixV (i := i28) Tryd.underlying65 sz167 rfl hv24 hAx32 rfl (natI hx32)) rfl (W_q (q_load rfl (SlR.ldAggV (hrp0_1.ext (Flat.mono _) hS.x) hv24 hAx32 ag167 sz167 hx32)) rfl ?_); clear H a; intro a H
      refine n_alloc H ze167 rfl ?_
      clear H; intro b33 w34 hN hE35 hs; clear a; intro a H
      replace hS := hS.newBlk hN hE35 hs; clear hN hs
      refine n_q H (q_assign rfl) rfl ?_; clear H a; intro a H
      refine n_storeAll H rfl rfl (vs := [.int .i64 x32.Entry, .int .i64 x32.Prio, .bool x32.Auto]) rfl sz167 (hS.blk 0 rfl) rfl (by simp) ?_
      clear H; intro w36 hN hC37 hz; clear a; intro a H; replace hS := hS.setBlk hN hC37; clear hN hz
      refine n_nil (then_normal ?_)
      replace hm := bindS hm; obtain ⟨j38, hm, hm38⟩ := hm
      refine c_join (σ := Bool) H (fun q539 => [(1, .pointer (some ⟨b21, 0, none⟩)), (3, .int .i64 ((i28 : Nat) : Int)), (17, vp0_1), (18, .int .i64 ((a0.Procs.length : Nat) : Int)), (19, .int .i64 ((i28 : Nat) : Int)), (51, .bool q539)]) (fun q539 wl => (g_plan_checkProcs_J6 i28) q539 = some o27 ∧ St NB w wl [blkR b21 [.int .i64 a0.Id, .bool a0.Mobile, vp0_0, vp0_1, vp0_2, .int .i64 a0.Events, vp0_3] 68]) ?_ ?_
      · skip
        refine wp_region_lit (n_q H (q_fieldAddr0 rfl fo167_0) rfl (W_q (q_load rfl ((hS.blk 0 rfl).ld ag3 rfl)) rfl (W_q (q_lss rfl rfl) rfl (W_q (q_move rfl) rfl ?_)))); clear H a; intro a H
        rcases Bool.eq_false_or_eq_true (decide (x32.Entry < 0)) with hg540 | hg540
        · replace H := H.know 27 rfl hg540
          replace hm := condT hm hg540
          refine n_no H rfl rfl (by decide) rfl (W_no rfl rfl (by decide) rfl (W_no rfl rfl (by decide) rfl (W_no rfl rfl (by decide) rfl (W_no rfl rfl (by decide) rfl (W_no rfl rfl (by decide) rfl (W_no rfl rfl (by decide) rfl (W_q (q_pickT rfl rfl) rfl (W_q (q_move rfl) rfl (W_no rfl rfl (by decide) rfl (W_no rfl rfl (by decide) rfl (W_no rfl rfl (by decide) rfl ?_))))))))))); clear H a; intro a H
          refine n_no H rfl rfl (by decide) rfl (W_q (q_pickT rfl rfl) rfl (W_q (q_move rfl) rfl (W_no rfl rfl (by decide) rfl (W_no rfl rfl (by decide) rfl (W_no rfl rfl (by decide) rfl (W_q (q_pickT rfl rfl) rfl (W_q (q_move rfl) rfl (W_no rfl rfl (by decide) rfl (W_no rfl rfl (by decide) rfl (W_no rfl rfl (by decide) rfl (W_q (q_pickT rfl rfl) rfl ?_))))))))))); clear H a; intro a H
          refine n_nil (then_normal ?_)
          obtain rfl := Option.some.inj hm; replace hm := hm38; try dsimp only at hm
          replace hS := hS.pick 1 rfl; dsimp only [List.eraseIdx] at hS
          replace hS := hS.take 1; simp only [List.take_succ_cons, List.take_zero] at hS
          exact join true H ⟨rfl, rfl, rfl, rfl, rfl, rfl, trivial⟩ ⟨hm, hS⟩
        · replace H := H.know 27 rfl hg540
          replace hm := condF hm hg540
          refine n_yes H rfl rfl (n_q H (q_fieldAddr0 rfl fo167_0) rfl (W_yes rfl rfl (W_q (q_load rfl ((hS.blk 0 rfl).ld ag3 rfl)) rfl (W_yes rfl rfl (W_q (q_fieldAddr0 rfl fo68_2) rfl (W_yes rfl rfl (W_q (q_load rfl ((hS.blk 1 rfl).ld ag64 rfl)) rfl (W_yes rfl rfl ?_)))))))); clear H a; intro a H
          obtain ⟨A541, c541, hv541, hl541, hm541⟩ := SlR.formV (hrp0_0.ext (Flat.mono _) hS.x)
          refine n_q H (q_lenV Tryd.underlying64 rfl hv541) rfl (W_yes rfl rfl (W_q (q_mulW rfl rfl) rfl (W_yes rfl rfl (W_q (q_geq rfl rfl) rfl (W_q (q_pickF rfl rfl) rfl (W_q (q_move rfl) rfl ?_)))))); clear H a; intro a H
          rcases Bool.eq_false_or_eq_true (decide ((IntKind.i64.wrap (64 * ((a0.Pages.length : Nat) : Int))) ≤ x32.Entry)) with hg542 | hg542
          · replace H := H.know 36 rfl hg542
            replace hm := condT hm hg542
            refine n_no H rfl rfl (by decide) rfl (W_no rfl rfl (by decide) rfl (W_no rfl rfl (by decide) rfl (W_no rfl rfl (by decide) rfl (W_q (q_pickT rfl rfl) rfl (W_q (q_move rfl) rfl (W_no rfl rfl (by decide) rfl (W_no rfl rfl (by decide) rfl (W_no rfl rfl (by decide) rfl (W_q (q_pickT rfl rfl) rfl (W_q (q_move rfl) rfl (W_no rfl rfl (by decide) rfl ?_))))))))))); clear H a; intro a H
            refine n_no H rfl rfl (by decide) rfl (W_no rfl rfl (by decide) rfl (W_q (q_pickT rfl rfl) rfl ?_)); clear H a; intro a H
            refine n_nil (then_normal ?_)
            obtain rfl := Option.some.inj hm; replace hm := hm38; try dsimp only at hm
            replace hS := hS.pick 1 rfl; dsimp only [List.eraseIdx] at hS
            replace hS := hS.take 1; simp only [List.take_succ_cons, List.take_zero] at hS
            exact join true H ⟨rfl, rfl, rfl, rfl, rfl, rfl, trivial⟩ ⟨hm, hS⟩
          · replace H := H.know 36 rfl hg542
            replace hm := condF hm hg542
            refine n_yes H rfl rfl (n_q H (q_fieldAddr0 rfl fo167_0) rfl (W_yes rfl rfl (W_q (q_load rfl ((hS.blk 0 rfl).ld ag3 rfl)) rfl (W_yes rfl rfl (W_q (q_remW rfl rfl (by decide)) rfl (W_yes rfl rfl (W_q (q_neqD rfl rfl) rfl (W_q (q_pickF rfl rfl) rfl (W_q (q_move rfl) rfl ?_))))))))); clear H a; intro a H
            rcases Bool.eq_false_or_eq_true (!decide ((Int.tmod x32.Entry 4) = 0)) with hg543 | hg543
            · replace H := H.know 42 rfl hg543
              replace hm := condT hm hg543
              refine n_no H rfl rfl (by decide) rfl (W_no rfl rfl (by decide) rfl (W_no rfl rfl (by decide) rfl (W_q (q_pickT rfl rfl) rfl (W_q (q_move rfl) rfl (W_no rfl rfl (by decide) rfl (W_no rfl rfl (by decide) rfl (W_no rfl rfl (by decide) rfl (W_q (q_pickT rfl rfl) rfl ?_)))))))); clear H a; intro a H
              refine n_nil (then_normal ?_)
              obtain rfl := Option.some.inj hm; replace hm := hm38; try dsimp only at hm
              replace hS := hS.pick 1 rfl; dsimp only [List.eraseIdx] at hS
              replace hS := hS.take 1; simp only [List.take_succ_cons, List.take_zero] at hS
              exact join true H ⟨rfl, rfl, rfl, rfl, rfl, rfl, trivial⟩ ⟨hm, hS⟩
            · replace H := H.know 42 rfl hg543
              replace hm := condF hm hg543
              refine n_yes H rfl rfl (n_q H (q_fieldAddr0 rfl fo167_1) rfl (W_yes rfl rfl (W_q (q_load rfl ((hS.blk 0 rfl).ld ag3 rfl)) rfl (W_yes rfl rfl (W_q (q_lss rfl rfl) rfl (W_q (q_pickF rfl rfl) rfl (W_q (q_move rfl) rfl ?_))))))); clear H a; intro a H
              rcases Bool.eq_false_or_eq_true (decide (x32.Prio < 0)) with hg544 | hg544
              · replace H := H.know 47 rfl hg544
                replace hm := condT hm hg544
                refine n_no H rfl rfl (by decide) rfl (W_no rfl rfl (by decide) rfl (W_no rfl rfl (by decide) rfl (W_q (q_pickT rfl rfl) rfl ?_))); clear H a; intro a H
                refine n_nil (then_normal ?_)
                obtain rfl := Option.some.inj hm; replace hm := hm38; try dsimp only at hm
                replace hS := hS.pick 1 rfl; dsimp only [List.eraseIdx] at hS
                replace hS := hS.take 1; simp only [List.take_succ_cons, List.take_zero] at hS
                exact join true H ⟨rfl, rfl, rfl, rfl, rfl, rfl, trivial⟩ ⟨hm, hS⟩
              · replace H := H.know 47 rfl hg544
                replace hm := condF hm hg544
                refine n_yes H rfl rfl (n_q H (q_fieldAddr0 rfl fo167_1) rfl (W_yes rfl rfl (W_q (q_load rfl ((hS.blk 0 rfl).ld ag3 rfl)) rfl (W_yes rfl rfl (W_q (q_gtr rfl rfl) rfl (W_q (q_pickF rfl rfl) rfl ?_)))))); clear H a; intro a H
                refine n_nil (then_normal ?_)
                obtain rfl := Option.some.inj hm; replace hm := hm38; try dsimp only at hm
                replace hS := hS.pick 1 rfl; dsimp only [List.eraseIdx] at hS
                replace hS := hS.take 1; simp only [List.take_succ_cons, List.take_zero] at hS
                exact join (decide (255 < x32.Prio)) H ⟨rfl, rfl, rfl, rfl, rfl, rfl, trivial⟩ ⟨hm, hS⟩
      · clear H hS hm a; intro q539 a w545 H hR
        simp only [ent, List.map_cons, List.map_nil] at H; (try dsimp only at hR); obtain ⟨hm, hS⟩ := hR; try dsimp only [g_plan_checkProcs_J6] at hm
        refine c_cond H rfl (fun hc546 => ?_) (fun hc546 => ?_)
        · replace hm := condT hm hc546
          refine wp_seq (wp_region_lit (n_q H (q_move rfl) rfl (W_q (q_load rfl ((hG.ext hS.x).ld gRange (by decide) ag36)) rfl ?_))); clear H a; intro a H
          replace hm := bindS hm; obtain ⟨r547, hr547, hm⟩ := hm
          refine n_call H rfl en158 (g_plan_at_w (A := A) (IsErr.var (by decide) : IsE A w545 _ (.v gRange)) hr547) rfl ?_
          clear H; intro u548 w550 hv; clear a; intro a H; obtain ⟨_, rfl, hE551⟩ := hv
          replace hS := hS.new hE551; simp only [List.cons_append, List.nil_append] at hS
          refine n_q H (q_assign rfl) rfl ?_; clear H a; intro a H
          refine n_nil (then_normal (wp_ret (block_ret (then_ret (then_ret (block_ret (then_ret ?_)))))))
          obtain rfl := Option.some.inj hm; have hz : _ = q27 := hn27; subst hz; replace hm := hm27; try dsimp only at hm
          obtain rfl := Option.some.inj hm
          replace hS := hS.take 1; simp only [List.take_succ_cons, List.take_zero] at hS
          refine ret1 H (.inr rfl) rfl rfl ?_
          exact ⟨_, rfl, hS⟩
        · replace hm := condF hm hc546
          refine wp_skip (block_normal (then_normal (wp_region_lit (n_q H (q_incr (i := i28) (j := 1) rfl rfl (by omega)) rfl (W_q (q_move rfl) rfl ?_))))); clear H a; intro a H
          refine n_nil (then_normal ?_)
          obtain rfl := Option.some.inj hm
          exact round (m27, i28 + 1) H ⟨rfl, rfl, rfl, rfl, trivial⟩ ⟨hn27, hS⟩ (Nat.lt_succ_self _)
    · replace hm := condF hm hc30
      refine wp_exit (then_exit (then_exit (block_exit ?_)))
      obtain rfl := Option.some.inj hm; have hz : _ = q27 := hn27; subst hz; replace hm := hm27; try dsimp only at hm
      refine then_normal (wp_seq (wp_region_lit (n_q H (q_assign rfl) rfl ?_))); clear H a; intro a H
      refine n_nil (then_normal (wp_ret ?_))
      obtain rfl := Option.some.inj hm
      replace hS := hS.dNil (A := A)
      replace hS := hS.take 1; simp only [List.take_succ_cons, List.take_zero] at hS
      refine ret1 H (.inr rfl) rfl rfl ?_
      exact ⟨_, rfl, hS⟩
theorem g_port_isQueue_w {w : World} {A : Nat → Addr} {a0 : GPortPlan} {r : Bool} (hm : g_port_isQueue a0 = some r) :
    Calls Tryd.prog 181 [.agg (eGPortPlan a0).toArray].toArray w (Ret fun u w' => u = .bool r ∧ Ext w w') := by
  have hS := St.begin NB w
  unfold g_port_isQueue at hm
  refine enter Tryd.func181 rfl rfl rfl ?_; intro a H; dsimp only [enumL, Nat.zero_add, Nat.reduceAdd] at H
  refine wp_seq (wp_region_lit (n_box H rfl (cs := [.int .i64 a0.Kind, .int .i64 a0.Size, .int .i64 a0.Depth, .int .i64 a0.Refresh]) rfl rfl ?_))
  clear H; intro b21 w22 hN hE23 hs; clear a; intro a H
  replace hS := hS.newBlk hN hE23 hs; clear hN hs
  refine n_q H (q_assign rfl) rfl ?_; clear H a; intro a H
  refine n_nil (then_normal (wp_seq (wp_region_lit (n_c H (fun HC => ?_))))); clear H
  refine nc_q HC (q_fieldAddr0 rfl fo169_0) rfl (by kernel_rfl) (V_q (q_load rfl ((hS.blk 0 rfl).ld ag3 rfl)) rfl (by kernel_rfl) (V_q (q_eqlD rfl rfl) rfl (by kernel_rfl) (V_q (q_move rfl) rfl (by kernel_rfl) (V_g (q_fieldAddr0 rfl fo169_0) (by kernel_rfl) (by kernel_rfl) (by kernel_rfl) (V_g (q_load rfl ((hS.blk 0 rfl).ld ag3 rfl)) (by kernel_rfl) (by kernel_rfl) (by kernel_rfl) (V_g (q_eqlD rfl rfl) (by kernel_rfl) (by kernel_rfl) (by kernel_rfl) (V_or (j := 3) rfl rfl rfl (by kernel_rfl) (by kernel_rfl) (V_q (q_assign rfl) rfl (by kernel_rfl) ?_)))))))); clear HC a; intro a HC
  have H := HC.has; clear HC
  refine n_nil (then_normal (wp_ret ?_))
  obtain rfl := Option.some.inj hm
  replace hS := hS.take 0; simp only [List.take_succ_cons, List.take_zero] at hS
  refine ret1 H (.inr rfl) rfl rfl ?_
  exact ⟨rfl, hS.x⟩
theorem g_port_isIn_w {w : World} {A : Nat → Addr} {a0 : GPortPlan} {r : Bool} (hm : g_port_isIn a0 = some r) :
    Calls Tryd.prog 182 [.agg (eGPortPlan a0).toArray].toArray w (Ret fun u w' => u = .bool r ∧ Ext w w') := by
  have hS := St.begin NB w
  unfold g_port_isIn at hm
  refine enter Tryd.func182 rfl rfl rfl ?_; intro a H; dsimp only [enumL, Nat.zero_add, Nat.reduceAdd] at H
  refine wp_seq (wp_region_lit (n_box H rfl (cs := [.int .i64 a0.Kind, .int .i64 a0.Size, .int .i64 a0.Depth, .int .i64 a0.Refresh]) rfl rfl ?_))
  clear H; intro b21 w22 hN hE23 hs; clear a; intro a H
  replace hS := hS.newBlk hN hE23 hs; clear hN hs
  refine n_q H (q_assign rfl) rfl ?_; clear H a; intro a H
  refine n_nil (then_normal (wp_seq (wp_region_lit (n_c H (fun HC => ?_))))); clear H
  refine nc_q HC (q_fieldAddr0 rfl fo169_0) rfl (by kernel_rfl) (V_q (q_load rfl ((hS.blk 0 rfl).ld ag3 rfl)) rfl (by kernel_rfl) (V_q (q_eqlD rfl rfl) rfl (by kernel_rfl) (V_q (q_move rfl) rfl (by kernel_rfl) (V_g (q_fieldAddr0 rfl fo169_0) (by kernel_rfl) (by kernel_rfl) (by kernel_rfl) (V_g (q_load rfl ((hS.blk 0 rfl).ld ag3 rfl)) (by kernel_rfl) (by kernel_rfl) (by kernel_rfl) (V_g (q_eqlD rfl rfl) (by kernel_rfl) (by kernel_rfl) (by kernel_rfl) (V_or (j := 3) rfl rfl rfl (by kernel_rfl) (by kernel_rfl) (V_q (q_assign rfl) rfl (by kernel_rfl) ?_)))))))); clear HC a; intro a HC
  have H := HC.has; clear HC
  refine n_nil (then_normal (wp_ret ?_))
  obtain rfl := Option.some.inj hm
  replace hS := hS.take 0; simp only [List.take_succ_cons, List.take_zero] at hS
  refine ret1 H (.inr rfl) rfl rfl ?_
  exact ⟨rfl, hS.x⟩
theorem g_port_isOut_w {w : World} {A : Nat → Addr} {a0 : GPortPlan} {r : Bool} (hm : g_port_isOut a0 = some r) :
    Calls Tryd.prog 183 [.agg (eGPortPlan a0).toArray].toArray w (Ret fun u w' => u = .bool r ∧ Ext w w') := by
  have hS := St.begin NB w
  unfold g_port_isOut at hm
  refine enter Tryd.func183 rfl rfl rfl ?_; intro a H; dsimp only [enumL, Nat.zero_add, Nat.reduceAdd] at H
  refine wp_seq (wp_region_lit (n_box H rfl (cs := [.int .i64 a0.Kind, .int .i64 a0.Size, .int .i64 a0.Depth, .int .i64 a0.Refresh]) rfl rfl ?_))
  clear H; intro b21 w22 hN hE23 hs; clear a; intro a H
  replace hS := hS.newBlk hN hE23 hs; clear hN hs
  refine n_q H (q_assign rfl) rfl ?_; clear H a; intro a H
  refine n_nil (then_normal (wp_seq (wp_region_lit (n_c H (fun HC => ?_))))); clear H
  refine nc_q HC (q_fieldAddr0 rfl fo169_0) rfl (by kernel_rfl) (V_q (q_load rfl ((hS.blk 0 rfl).ld ag3 rfl)) rfl (by kernel_rfl) (V_q (q_eqlD rfl rfl) rfl (by kernel_rfl) (V_q (q_move rfl) rfl (by kernel_rfl) (V_g (q_fieldAddr0 rfl fo169_0) (by kernel_rfl) (by kernel_rfl) (by kernel_rfl) (V_g (q_load rfl ((hS.blk 0 rfl).ld ag3 rfl)) (by kernel_rfl) (by kernel_rfl) (by kernel_rfl) (V_g (q_eqlD rfl rfl) (by kernel_rfl) (by kernel_rfl) (by kernel_rfl) (V_or (j := 3) rfl rfl rfl (by kernel_rfl) (by kernel_rfl) (V_q (q_assign rfl) rfl (by kernel_rfl) ?_)))))))); clear HC a; intro a HC
  have H := HC.has; clear HC
  refine n_nil (then_normal (wp_ret ?_))
  obtain rfl := Option.some.inj hm
  replace hS := hS.take 0; simp only [List.take_succ_cons, List.take_zero] at hS
  refine ret1 H (.inr rfl) rfl rfl ?_
  exact ⟨rfl, hS.x⟩
theorem g_port_CheckPlan_w {w : World} {A : Nat → Addr} {a0 : GPortPlan} (hG : EV A w) {r : ErrM} (hm : g_port_CheckPlan a0 = some r) :
    Calls Tryd.prog 159 [.agg (eGPortPlan a0).toArray].toArray w (Ret fun u w' => ∃ h_0, u = h_0 ∧ St NB w w' [erQ A h_0 r]) := by
  have hS := St.begin NB w
  unfold g_port_CheckPlan at hm
  refine enter Tryd.func159 rfl rfl rfl ?_; intro a H; dsimp only [enumL, Nat.zero_add, Nat.reduceAdd] at H
  refine wp_seq (wp_region_lit (n_box H rfl (cs := [.int .i64 a0.Kind, .int .i64 a0.Size, .int .i64 a0.Depth, .int .i64 a0.Refresh]) rfl rfl ?_))
  clear H; intro b21 w22 hN hE23 hs; clear a; intro a H
  replace hS := hS.newBlk hN hE23 hs; clear hN hs
  refine n_q H (q_assign rfl) rfl ?_; clear H a; intro a H
  refine n_nil (then_normal (wp_seq (wp_region_lit (n_q H (q_assign rfl) rfl (W_q (q_assign rfl) rfl ?_))))); clear H a; intro a H
  refine n_nil (then_normal ?_)
  replace hm := bindS hm; obtain ⟨j24, hm, hm24⟩ := hm
  refine c_join (σ := Nat) H (fun i525 => [(1, .pointer (some ⟨b21, 0, none⟩)), (3, .int .i64 ((i525 : Nat) : Int)), (4, .int .i64 0)]) (fun i525 wl => (g_port_CheckPlan_J3 a0) i525 = some r ∧ St NB w wl [blkR b21 [.int .i64 a0.Kind, .int .i64 a0.Size, .int .i64 a0.Depth, .int .i64 a0.Refresh] 169]) ?_ ?_
  · skip
    refine wp_seq (wp_region_lit (n_q H (q_load rfl ((hS.blk 0 rfl).ldAll ag169 sz169)) rfl ?_)); clear H a; intro a H
    replace hm := bindS hm; obtain ⟨r526, hr526, hm⟩ := hm
    refine n_call H rfl en181 (g_port_isQueue_w (A := A) hr526) rfl ?_
    clear H; intro x529 w527 hv; clear a; intro a H; obtain ⟨rfl, hE528⟩ := hv
    replace hS := hS.ext hE528
    refine n_nil (then_normal (c_cond H rfl (fun hc530 => ?_) (fun hc530 => ?_)))
    · replace hm := condT hm hc530
      refine wp_region_lit (n_q H (q_assign rfl) rfl ?_); clear H a; intro a H
      refine n_nil (then_normal ?_)
      obtain rfl := Option.some.inj hm; replace hm := hm24; try dsimp only at hm
      exact join 8 H ⟨rfl, rfl, rfl, trivial⟩ ⟨hm, hS⟩
    · replace hm := condF hm hc530
      refine wp_skip (then_normal ?_)
      obtain rfl := Option.some.inj hm; replace hm := hm24; try dsimp only at hm
      exact join 1 H ⟨rfl, rfl, rfl, trivial⟩ ⟨hm, hS⟩
  · clear H hS hm a; intro i525 a w531 H hR
    simp only [ent, List.map_cons, List.map_nil] at H; (try dsimp only at hR); obtain ⟨hm, hS⟩ := hR; try dsimp only [g_port_CheckPlan_J3] at hm
    replace hm := bindS hm; obtain ⟨j532, hm, hm532⟩ := hm
    refine c_join (σ := Nat) H (fun i1033 => [(1, .pointer (some ⟨b21, 0, none⟩)), (3, .int .i64 ((i525 : Nat) : Int)), (4, .int .i64 ((i1033 : Nat) : Int))]) (fun i1033 wl => (g_port_CheckPlan_J2 a0 i525) i1033 = some r ∧ St NB w wl [blkR b21 [.int .i64 a0.Kind, .int .i64 a0.Size, .int .i64 a0.Depth, .int .i64 a0.Refresh] 169]) ?_ ?_
    · skip
      refine wp_seq (wp_region_lit (n_q H (q_fieldAddr0 rfl fo169_0) rfl (W_q (q_load rfl ((hS.blk 0 rfl).ld ag3 rfl)) rfl (W_q (q_eqlD rfl rfl) rfl ?_)))); clear H a; intro a H
      refine n_nil (then_normal (c_cond H rfl (fun hc1034 => ?_) (fun hc1034 => ?_)))
      · replace hm := condT hm hc1034
        refine wp_region_lit (n_q H (q_assign rfl) rfl ?_); clear H a; intro a H
        refine n_nil (then_normal ?_)
        obtain rfl := Option.some.inj hm; replace hm := hm532; try dsimp only at hm
        exact join 255 H ⟨rfl, rfl, rfl, trivial⟩ ⟨hm, hS⟩
      · replace hm := condF hm hc1034
        refine wp_skip (then_normal ?_)
        obtain rfl := Option.some.inj hm; replace hm := hm532; try dsimp only at hm
        exact join 0 H ⟨rfl, rfl, rfl, trivial⟩ ⟨hm, hS⟩
    · clear H hS hm a; intro i1033 a w1035 H hR
      simp only [ent, List.map_cons, List.map_nil] at H; (try dsimp only at hR); obtain ⟨hm, hS⟩ := hR; try dsimp only [g_port_CheckPlan_J2] at hm
      refine wp_seq (wp_block ?_)
      replace hm := bindS hm; obtain ⟨j1036, hm, hm1036⟩ := hm
      refine c_join (σ := Bool) H (fun q1537 => [(1, .pointer (some ⟨b21, 0, none⟩)), (3, .int .i64 ((i525 : Nat) : Int)), (4, .int .i64 ((i1033 : Nat) : Int)), (10, .bool q1537)]) (fun q1537 wl => (g_port_CheckPlan_J1 a0 i525 i1033) q1537 = some r ∧ St NB w wl [blkR b21 [.int .i64 a0.Kind, .int .i64 a0.Size, .int .i64 a0.Depth, .int .i64 a0.Refresh] 169]) ?_ ?_
      · skip
        refine wp_region_lit (n_q H (q_load rfl ((hS.blk 0 rfl).ldAll ag169 sz169)) rfl ?_); clear H a; intro a H
        replace hm := bindS hm; obtain ⟨r1538, hr1538, hm⟩ := hm
        refine n_call H rfl en182 (g_port_isIn_w (A := A) hr1538) rfl ?_
        clear H; intro x1541 w1539 hv; clear a; intro a H; obtain ⟨rfl, hE1540⟩ := hv
        replace hS := hS.ext hE1540
        refine n_q H (q_not rfl) rfl (W_q (q_move rfl) rfl ?_); clear H a; intro a H
        rcases Bool.eq_false_or_eq_true (!r1538) with hg1542 | hg1542
        · replace H := H.know 14 rfl hg1542
          replace hm := condT hm hg1542
          refine n_yes H rfl rfl (n_q H (q_load rfl ((hS.blk 0 rfl).ldAll ag169 sz169)) rfl (W_yes rfl rfl ?_)); clear H a; intro a H
          replace hm := bindS hm; obtain ⟨r1543, hr1543, hm⟩ := hm
          refine n_call H rfl en183 (g_port_isOut_w (A := A) hr1543) rfl ?_
          clear H; intro x1546 w1544 hv; clear a; intro a H; obtain ⟨rfl, hE1545⟩ := hv
          replace hS := hS.ext hE1545
          refine n_yes H rfl rfl (n_q H (q_not rfl) rfl (W_q (q_pickT rfl rfl) rfl (W_q (q_assign rfl) rfl ?_))); clear H a; intro a H
          refine n_nil (then_normal ?_)
          obtain rfl := Option.some.inj hm; replace hm := hm1036; try dsimp only at hm
          exact join (!r1543) H ⟨rfl, rfl, rfl, rfl, trivial⟩ ⟨hm, hS⟩
        · replace H := H.know 14 rfl hg1542
          replace hm := condF hm hg1542
          refine n_no H rfl rfl (by decide) rfl (W_no rfl rfl (by decide) rfl (W_no rfl rfl (by decide) rfl (W_q (q_pickF rfl rfl) rfl (W_q (q_assign rfl) rfl ?_)))); clear H a; intro a H
          refine n_nil (then_normal ?_)
          obtain rfl := Option.some.inj hm; replace hm := hm1036; try dsimp only at hm
          exact join false H ⟨rfl, rfl, rfl, rfl, trivial⟩ ⟨hm, hS⟩
      · clear H hS hm a; intro q1537 a w1547 H hR
        simp only [ent, List.map_cons, List.map_nil] at H; (try dsimp only at hR); obtain ⟨hm, hS⟩ := hR; try dsimp only [g_port_CheckPlan_J1] at hm
        refine c_cond H rfl (fun hc1548 => ?_) (fun hc1548 => ?_)
        · replace hm := condT hm hc1548
          refine wp_seq (wp_region_lit (n_q H (q_load rfl ((hG.ext hS.x).ld gKind (by decide) ag36)) rfl (W_q (q_assign rfl) rfl ?_))); clear H a; intro a H
          refine n_nil (then_normal (wp_ret (block_ret (then_ret ?_))))
          obtain rfl := Option.some.inj hm
          replace hS := hS.dVar (A := A) (g := gKind) (by decide)
          replace hS := hS.take 1; simp only [List.take_succ_cons, List.take_zero] at hS
          refine ret1 H (.inr rfl) rfl rfl ?_
          exact ⟨_, rfl, hS⟩
        · replace hm := condF hm hc1548
          refine wp_seq (wp_region_lit (n_c H (fun HC => ?_))); clear H
          refine nc_q HC (q_fieldAddr0 rfl fo169_1) rfl (by kernel_rfl) (V_q (q_load rfl ((hS.blk 0 rfl).ld ag3 rfl)) rfl (by kernel_rfl) (V_q (q_lss rfl rfl) rfl (by kernel_rfl) (V_q (q_move rfl) rfl (by kernel_rfl) (V_g (q_fieldAddr0 rfl fo169_1) (by kernel_rfl) (by kernel_rfl) (by kernel_rfl) (V_g (q_load rfl ((hS.blk 0 rfl).ld ag3 rfl)) (by kernel_rfl) (by kernel_rfl) (by kernel_rfl) (V_g (q_gtr rfl rfl) (by kernel_rfl) (by kernel_rfl) (by kernel_rfl) (V_or (j := 3) rfl rfl rfl (by kernel_rfl) (by kernel_rfl) (V_q (q_assign rfl) rfl (by kernel_rfl) ?_)))))))); clear HC a; intro a HC
          have H := HC.has; clear HC
          refine n_nil (then_normal (c_cond H rfl (fun hc1550 => ?_) (fun hc1550 => ?_)))
          · replace hm := condT hm hc1550
            refine wp_seq (wp_region_lit (n_q H (q_load rfl ((hG.ext hS.x).ld gSize (by decide) ag36)) rfl (W_q (q_assign rfl) rfl ?_))); clear H a; intro a H
            refine n_nil (then_normal (wp_ret (block_ret (then_ret ?_))))
            obtain rfl := Option.some.inj hm
            replace hS := hS.dVar (A := A) (g := gSize) (by decide)
            replace hS := hS.take 1; simp only [List.take_succ_cons, List.take_zero] at hS
            refine ret1 H (.inr rfl) rfl rfl ?_
            exact ⟨_, rfl, hS⟩
          · replace hm := condF hm hc1550
            refine wp_seq (wp_region_lit (n_c H (fun HC => ?_))); clear H
            refine nc_q HC (q_fieldAddr0 rfl fo169_2) rfl (by kernel_rfl) (V_q (q_load rfl ((hS.blk 0 rfl).ld ag3 rfl)) rfl (by kernel_rfl) (V_q (q_lss rfl rfl) rfl (by kernel_rfl) (V_q (q_move rfl) rfl (by kernel_rfl) (V_g (q_fieldAddr0 rfl fo169_2) (by kernel_rfl) (by kernel_rfl) (by kernel_rfl) (V_g (q_load rfl ((hS.blk 0 rfl).ld ag3 rfl)) (by kernel_rfl) (by kernel_rfl) (by kernel_rfl) (V_g (q_move rfl) (by kernel_rfl) (by kernel_rfl) (by kernel_rfl) (V_g (q_gtr rfl rfl) (by kernel_rfl) (by kernel_rfl) (by kernel_rfl) (V_or (j := 3) rfl rfl rfl (by kernel_rfl) (by kernel_rfl) (V_q (q_move rfl) rfl (by kernel_rfl) (V_g (q_fieldAddr0 rfl fo169_3) (by kernel_rfl) (by kernel_rfl) (by kernel_rfl) (V_g (q_load rfl ((hS.blk 0 rfl).ld ag3 rfl)) (by kernel_rfl) (by kernel_rfl) (by kernel_rfl) ?_))))))))))); clear HC a; intro a HC
            refine nc_g HC (q_lss rfl rfl) (by kernel_rfl) (by kernel_rfl) (by kernel_rfl) (V_or (j := 9) rfl rfl rfl (by kernel_rfl) (by kernel_rfl) (V_q (q_move rfl) rfl (by kernel_rfl) (V_g (q_fieldAddr0 rfl fo169_3) (by kernel_rfl) (by kernel_rfl) (by kernel_rfl) (V_g (q_load rfl ((hS.blk 0 rfl).ld ag3 rfl)) (by kernel_rfl) (by kernel_rfl) (by kernel_rfl) (V_g (q_move rfl) (by kernel_rfl) (by kernel_rfl) (by kernel_rfl) (V_g (q_gtr rfl rfl) (by kernel_rfl) (by kernel_rfl) (by kernel_rfl) (V_or (j := 14) rfl rfl rfl (by kernel_rfl) (by kernel_rfl) (V_q (q_assign rfl) rfl (by kernel_rfl) ?_)))))))); clear HC a; intro a HC
            have H := HC.has; clear HC
            refine n_nil (then_normal (c_cond H rfl (fun hc1552 => ?_) (fun hc1552 => ?_)))
            · replace hm := condT hm hc1552
              refine wp_seq (wp_region_lit (n_q H (q_load rfl ((hG.ext hS.x).ld gRange (by decide) ag36)) rfl (W_q (q_assign rfl) rfl ?_))); clear H a; intro a H
              refine n_nil (then_normal (wp_ret (block_ret (then_ret ?_))))
              obtain rfl := Option.some.inj hm
              replace hS := hS.dVar (A := A) (g := gRange) (by decide)
              replace hS := hS.take 1; simp only [List.take_succ_cons, List.take_zero] at hS
              refine ret1 H (.inr rfl) rfl rfl ?_
              exact ⟨_, rfl, hS⟩
            · replace hm := condF hm hc1552
              refine wp_skip (block_normal (then_normal (wp_seq (wp_region_lit (n_q H (q_assign rfl) rfl ?_))))); clear H a; intro a H
              refine n_nil (then_normal (wp_ret ?_))
              obtain rfl := Option.some.inj hm
              replace hS := hS.dNil (A := A)
              replace hS := hS.take 1; simp only [List.take_succ_cons, List.take_zero] at hS
              refine ret1 H (.inr rfl) rfl rfl ?_
              exact ⟨_, rfl, hS⟩
theorem g_port_Most_w {w : World} {A : Nat → Addr} {a0 : GPortPlan} (hG : EV A w) {r : Int × ErrM} (hm : g_port_Most a0 = some r) :
    Calls Tryd.prog 184 [.agg (eGPortPlan a0).toArray].toArray w (Ret fun u w' => ∃ h_0, u = .tuple #[.int .i64 r.1, h_0] ∧ St NB w w' [erQ A h_0 r.2]) := by
  have hS := St.begin NB w
  unfold g_port_Most at hm
  refine enter Tryd.func184 rfl rfl rfl ?_; intro a H; dsimp only [enumL, Nat.zero_add, Nat.reduceAdd] at H
  refine wp_seq (wp_region_lit (n_box H rfl (cs := [.int .i64 a0.Kind, .int .i64 a0.Size, .int .i64 a0.Depth, .int .i64 a0.Refresh]) rfl rfl ?_))
  clear H; intro b21 w22 hN hE23 hs; clear a; intro a H
  replace hS := hS.newBlk hN hE23 hs; clear hN hs
  refine n_q H (q_assign rfl) rfl (W_q (q_assign rfl) rfl ?_); clear H a; intro a H
  refine n_nil (then_normal (wp_seq (wp_seq (wp_region_lit (n_q H (q_load rfl ((hS.blk 0 rfl).ldAll ag169 sz169)) rfl ?_))))); clear H a; intro a H
  replace hm := bindS hm; obtain ⟨r24, hr24, hm⟩ := hm
  refine n_call H rfl en159 (g_port_CheckPlan_w (A := A) (hG.ext hS.x) hr24) rfl ?_
  clear H; intro u25 w27 hv; clear a; intro a H; obtain ⟨_, rfl, hE28⟩ := hv
  replace hS := hS.new hE28; simp only [List.cons_append, List.nil_append] at hS
  refine n_q H (q_cast (q_nnilI Tryd.underlying36 rfl rfl (hS.any 0 rfl : IsE A w27 u25 r24).form) (show _ = Value.bool (!decide (r24 = .nil)) by rw [IsErr.isNil (hS.any 0 rfl : IsE A w27 u25 r24)])) rfl ?_; clear H a; intro a H
  refine n_nil (then_normal (c_cond H rfl (fun hc30 => ?_) (fun hc30 => ?_)))
  · replace hm := condT hm hc30
    refine wp_seq (c_quiet (by kernel_rfl) (by kernel_rfl) ?_)
    refine qq_q H (q_load rfl ((hG.ext hS.x).ld gPlan (by decide) ag36)) rfl ?_; clear H a; intro a H
    refine qq_q H (q_assign rfl) rfl ?_; clear H a; intro a H
    refine qq_q H (q_assign rfl) rfl ?_; clear H a; intro a H
    refine qq_nil ?_; intro w31 hE32
    replace hS := hS.ext hE32
    refine then_normal (wp_ret (then_ret ?_))
    obtain rfl := Option.some.inj hm
    replace hS := hS.dVar (A := A) (g := gPlan) (by decide)
    replace hS := hS.take 1; simp only [List.take_succ_cons, List.take_zero] at hS
    refine ret2 H (.inr rfl) rfl rfl rfl ?_
    exact ⟨_, rfl, hS⟩
  · replace hm := condF hm hc30
    refine wp_skip (then_normal (wp_seq (wp_seq (wp_region_lit (n_q H (q_load rfl ((hS.blk 1 rfl).ldAll ag169 sz169)) rfl ?_))))); clear H a; intro a H
    replace hm := bindS hm; obtain ⟨r34, hr34, hm⟩ := hm
    refine n_call H rfl en183 (g_port_isOut_w (A := A) hr34) rfl ?_
    clear H; intro x37 w35 hv; clear a; intro a H; obtain ⟨rfl, hE36⟩ := hv
    replace hS := hS.ext hE36
    refine n_nil (then_normal (c_cond H rfl (fun hc38 => ?_) (fun hc38 => ?_)))
    · replace hm := condT hm hc38
      refine wp_seq (wp_region_lit (n_q H (q_assign rfl) rfl (W_q (q_assign rfl) rfl ?_))); clear H a; intro a H
      refine n_nil (then_normal (wp_ret (then_ret ?_)))
      obtain rfl := Option.some.inj hm
      replace hS := hS.dNil (A := A)
      replace hS := hS.take 1; simp only [List.take_succ_cons, List.take_zero] at hS
      refine ret2 H (.inr rfl) rfl rfl rfl ?_
      exact ⟨_, rfl, hS⟩
    · replace hm := condF hm hc38
      refine wp_skip (then_normal (wp_seq (wp_region_lit (n_q H (q_fieldAddr0 rfl fo169_2) rfl (W_q (q_load rfl ((hS.blk 1 rfl).ld ag3 rfl)) rfl (W_q (q_fieldAddr0 rfl fo169_1) rfl (W_q (q_load rfl ((hS.blk 1 rfl).ld ag3 rfl)) rfl (W_q (q_addW rfl rfl) rfl (W_q (q_mulW rfl rfl) rfl (W_q (q_addW rfl rfl) rfl (W_q (q_assign rfl) rfl (W_q (q_assign rfl) rfl ?_)))))))))))); clear H a; intro a H
      refine n_nil (then_normal (wp_ret ?_))
      obtain rfl := Option.some.inj hm
      replace hS := hS.dNil (A := A)
      replace hS := hS.take 1; simp only [List.take_succ_cons, List.take_zero] at hS
      refine ret2 H (.inr rfl) rfl rfl rfl ?_
      exact ⟨_, rfl, hS⟩
theorem g_plan_bound_w {w : World} {A : Nat → Addr} {cs0 : List Value} {a0 : GPlan} (hG : EV A w) (h0 : RGPlan w cs0 a0) {r : Int} (hm : g_plan_bound a0 = some r) :
    Calls Tryd.prog 160 [.agg cs0.toArray].toArray w (Ret fun u w' => u = .int .i64 r ∧ Ext w w') := by
  obtain ⟨vp0_0, vp0_1, vp0_2, vp0_3, rfl, hrp0_0, hrp0_1, hrp0_2, hrp0_3⟩ := h0
  have hS := St.begin NB w
  unfold g_plan_bound at hm
  refine enter Tryd.func160 rfl rfl rfl ?_; intro a H; dsimp only [enumL, Nat.zero_add, Nat.reduceAdd] at H
  refine wp_seq (wp_region_lit (n_box H rfl (cs := [.int .i64 a0.Id, .bool a0.Mobile, vp0_0, vp0_1, vp0_2, .int .i64 a0.Events, vp0_3]) rfl rfl ?_))
  clear H; intro b21 w22 hN hE23 hs; clear a; intro a H
  replace hS := hS.newBlk hN hE23 hs; clear hN hs
  refine n_q H (q_assign rfl) rfl ?_; clear H a; intro a H
  refine n_nil (then_normal (wp_seq (wp_region_lit (n_q H (q_fieldAddr0 rfl fo68_3) rfl (W_q (q_load rfl ((hS.blk 0 rfl).ld ag65 rfl)) rfl ?_))))); clear H a; intro a H
  obtain ⟨A24, c24, hv24, hl24, hm24⟩ := SlR.formV (hrp0_1.ext (Flat.mono _) hS.x)
  refine n_q H (q_lenV Tryd.underlying65 rfl hv24) rfl (W_q (q_mulW rfl rfl) rfl (W_q (q_addW rfl rfl) rfl (W_q (q_fieldAddr0 rfl fo68_2) rfl (W_q (q_load rfl ((hS.blk 0 rfl).ld ag64 rfl)) rfl ?_)))); clear H a; intro a H
  obtain ⟨A25, c25, hv25, hl25, hm25⟩ := SlR.formV (hrp0_0.ext (Flat.mono _) hS.x)
  refine n_q H (q_lenV Tryd.underlying64 rfl hv25) rfl (W_q (q_mulW rfl rfl) rfl (W_q (q_addW rfl rfl) rfl (W_q (q_fieldAddr0 rfl fo68_5) rfl (W_q (q_load rfl ((hS.blk 0 rfl).ld ag3 rfl)) rfl (W_q (q_addW rfl rfl) rfl (W_q (q_fieldAddr0 rfl fo68_6) rfl (W_q (q_load rfl ((hS.blk 0 rfl).ld ag23 rfl)) rfl ?_))))))); clear H a; intro a H
  obtain ⟨A26, c26, hv26, hl26, hm26⟩ := SlR.formV (hrp0_3.ext (Flat.mono _) hS.x)
  refine n_q H (q_lenV Tryd.underlying23 rfl hv26) rfl (W_q (q_addW rfl rfl) rfl (W_q (q_assign rfl) rfl ?_)); clear H a; intro a H
  refine n_nil (then_normal (wp_seq (wp_seq (wp_region_lit (n_q H (q_fieldAddr0 rfl fo68_4) rfl (W_q (q_load rfl ((hS.blk 0 rfl).ld ag66 rfl)) rfl ?_)))))); clear H a; intro a H
  obtain ⟨A27, c27, hv27, hl27, hm27⟩ := SlR.formV (hrp0_2.ext (Flat.mono _) hS.x)
  refine n_q H (q_lenV Tryd.underlying66 rfl hv27) rfl (W_q (q_move rfl) rfl ?_); clear H a; intro a H
  refine n_nil (then_normal (wp_block ?_))
  replace hS := hS.take 0; simp only [List.take_succ_cons, List.take_zero] at hS
  replace hm := bindS hm; obtain ⟨q28, hm, hm28⟩ := hm; replace hm := iter_some hm; obtain ⟨n28, hm⟩ := hm
  refine c_loop (σ := Nat × Int × Nat) (fun (m, z29, i30) => [(3, .int .i64 z29), (26, vp0_2), (27, .int .i64 ((a0.Ports.length : Nat) : Int)), (28, .int .i64 ((i30 : Nat) : Int))]) (fun (m, z29, i30) wl => iterN (g_plan_bound_L1 a0) m (z29, i30) = some q28 ∧ St NB w wl []) (fun (m, z29, i30) => m) (n28, (IntKind.i64.wrap ((IntKind.i64.wrap ((IntKind.i64.wrap ((IntKind.i64.wrap (58 + (IntKind.i64.wrap (76 * ((a0.Procs.length : Nat) : Int))))) + (IntKind.i64.wrap (68 * ((a0.Pages.length : Nat) : Int))))) + a0.Events)) + ((a0.Sems.length : Nat) : Int))), 0) H ⟨rfl, rfl, rfl, rfl, trivial⟩ ⟨hm, hS⟩ ?_
  clear H hS hm a; intro xx a w31 H hR; obtain ⟨m, z29, i30⟩ := xx; simp only [ent, List.map_cons, List.map_nil] at H; (try dsimp only at hR); obtain ⟨hm, hS⟩ := hR
  replace hm := iterN_step hm; obtain ⟨m28, o28, rfl, hm, hn28⟩ := hm; try dsimp only [g_plan_bound_L1] at hm
  refine wp_seq (wp_region_lit (n_q H (q_lssN (i := i30) (j := a0.Ports.length) rfl rfl) rfl ?_)); clear H a; intro a H
  refine n_nil (then_normal (wp_seq (c_cond H rfl (fun hc32 => ?_) (fun hc32 => ?_))))
  · replace hm := condT hm hc32
    have hlt33 : i30 < a0.Ports.length := of_decide_eq_true hc32
    refine wp_skip (then_normal (wp_seq (wp_block (wp_seq (wp_region_lit ?_)))))
    replace hm := bindS hm; obtain ⟨x34, hx34, hm⟩ := hm
    obtain ⟨adx34, hAx34⟩ := SlR.adV (hrp0_2.ext (Flat.mono _) hS.x) hv27 hx34
    refine n_q H (q_ixV (i := i30) Tryd.underlying66 sz169 rfl hv27 hAx34 rfl (natI hx34)) rfl (W_q (q_load rfl (SlR.ldAggV (hrp0_2.ext (Flat.mono _) hS.x) hv27 hAx34 ag169 sz169 hx34)) rfl ?_); clear H a; intro a H
    refine n_alloc H ze169 rfl ?_
    clear H; intro b35 w36 hN hE37 hs; clear a; intro a H
    replace hS := hS.newBlk hN hE37 hs; clear hN hs
    refine n_storeAll H rfl rfl (vs := [.int .i64 x34.Kind, .int .i64 x34.Size, .int .i64 x34.Depth, .int .i64 x34.Refresh]) rfl sz169 (hS.blk 0 rfl) rfl (by simp) ?_
    clear H; intro w38 hN hC39 hz; clear a; intro a H; replace hS := hS.setBlk hN hC39; clear hN hz
    refine n_nil (then_normal (wp_seq (wp_region_lit (n_q H (q_load rfl ((hS.blk 0 rfl).ldAll ag169 sz169)) rfl ?_)))); clear H a; intro a H
    replace hm := bindS hm; obtain ⟨r40, hr40, hm⟩ := hm
    refine n_call H rfl en184 (g_port_Most_w (A := A) (hG.ext hS.x) hr40) rfl ?_
    clear H; intro x45 w43 hv; clear a; intro a H; obtain ⟨u41, rfl, hE44⟩ := hv
    replace hS := hS.new hE44; simp only [List.cons_append, List.nil_append] at hS
    refine n_q H (q_move rfl) rfl (W_q (q_extract rfl rfl) rfl (W_q (q_extract rfl rfl) rfl (W_q (q_assign rfl) rfl (W_q (q_assign rfl) rfl ?_)))); clear H a; intro a H
    refine n_nil (then_normal (wp_region_lit (n_q H (q_move rfl) rfl (W_q (q_move rfl) rfl (W_q (q_addW rfl rfl) rfl (W_q (q_addW rfl rfl) rfl (W_q (q_assign rfl) rfl ?_))))))); clear H a; intro a H
    refine n_nil (block_normal (then_normal (wp_region_lit (n_q H (q_incr (i := i30) (j := 1) rfl rfl (by omega)) rfl (W_q (q_move rfl) rfl ?_))))); clear H a; intro a H
    refine n_nil (then_normal ?_)
    obtain rfl := Option.some.inj hm
    replace hS := hS.take 0; simp only [List.take_succ_cons, List.take_zero] at hS
    exact round (m28, (IntKind.i64.wrap (z29 + (IntKind.i64.wrap (3 + r40.1)))), i30 + 1) H ⟨rfl, rfl, rfl, rfl, trivial⟩ ⟨hn28, hS⟩ (Nat.lt_succ_self _)
  · replace hm := condF hm hc32
    refine wp_exit (then_exit (then_exit (block_exit ?_)))
    obtain rfl := Option.some.inj hm; have hz : _ = q28 := hn28; subst hz; replace hm := hm28; try dsimp only at hm
    refine then_normal (wp_seq (wp_region_lit (n_q H (q_move rfl) rfl (W_q (q_assign rfl) rfl ?_)))); clear H a; intro a H
    refine n_nil (then_normal (wp_ret ?_))
    obtain rfl := Option.some.inj hm
    refine ret1 H (.inr rfl) rfl rfl ?_
    exact ⟨rfl, hS.x⟩
theorem g_plan_checkRest_w {w : World} {A : Nat → Addr} {cs0 : List Value} {a0 : GPlan} (hG : EV A w) (h0 : RGPlan w cs0 a0) {r : ErrM} (hm : g_plan_checkRest a0 = some r) :
    Calls Tryd.prog 99 [.agg cs0.toArray].toArray w (Ret fun u w' => ∃ h_0, u = h_0 ∧ St NB w w' [erQ A h_0 r]) := by
  obtain ⟨vp0_0, vp0_1, vp0_2, vp0_3, rfl, hrp0_0, hrp0_1, hrp0_2, hrp0_3⟩ := h0
  have hS := St.begin NB w
  unfold g_plan_checkRest at hm
  refine enter Tryd.func99 rfl rfl rfl ?_; intro a H; dsimp only [enumL, Nat.zero_add, Nat.reduceAdd] at H
  refine wp_seq (wp_region_lit (n_box H rfl (cs := [.int .i64 a0.Id, .bool a0.Mobile, vp0_0, vp0_1, vp0_2, .int .i64 a0.Events, vp0_3]) rfl rfl ?_))
  clear H; intro b21 w22 hN hE23 hs; clear a; intro a H
  replace hS := hS.newBlk hN hE23 hs; clear hN hs
  refine n_q H (q_assign rfl) rfl ?_; clear H a; intro a H
  refine n_nil (then_normal (wp_seq (wp_seq (wp_region_lit (n_q H (q_fieldAddr0 rfl fo68_4) rfl (W_q (q_load rfl ((hS.blk 0 rfl).ld ag66 rfl)) rfl ?_)))))); clear H a; intro a H
  obtain ⟨A24, c24, hv24, hl24, hm24⟩ := SlR.formV (hrp0_2.ext (Flat.mono _) hS.x)
  refine n_q H (q_lenV Tryd.underlying66 rfl hv24) rfl (W_q (q_gtrN (i := a0.Ports.length) (j := 8) rfl rfl) rfl ?_); clear H a; intro a H
  refine n_nil (then_normal (c_cond H rfl (fun hc25 => ?_) (fun hc25 => ?_)))
  · replace hm := condT hm hc25
    refine wp_seq (wp_region_lit (n_q H (q_load rfl ((hG.ext hS.x).ld gSize (by decide) ag36)) rfl (W_q (q_assign rfl) rfl ?_))); clear H a; intro a H
    refine n_nil (then_normal (wp_ret (then_ret ?_)))
    obtain rfl := Option.some.inj hm
    replace hS := hS.dVar (A := A) (g := gSize) (by decide)
    replace hS := hS.take 1; simp only [List.take_succ_cons, List.take_zero] at hS
    refine ret1 H (.inr rfl) rfl rfl ?_
    exact ⟨_, rfl, hS⟩
  · replace hm := condF hm hc25
    refine wp_skip (then_normal (wp_seq (wp_seq (wp_region_lit (n_q H (q_fieldAddr0 rfl fo68_4) rfl (W_q (q_load rfl ((hS.blk 0 rfl).ld ag66 rfl)) rfl (W_q (q_lenV Tryd.underlying66 rfl hv24) rfl (W_q (q_move rfl) rfl ?_)))))))); clear H a; intro a H
    refine n_nil (then_normal (wp_block ?_))
    replace hm := bindS hm; obtain ⟨q27, hm, hm27⟩ := hm; replace hm := iter_some hm; obtain ⟨n27, hm⟩ := hm
    refine c_loop (σ := Nat × Nat) (fun (m, i28) => [(1, .pointer (some ⟨b21, 0, none⟩)), (14, vp0_2), (15, .int .i64 ((a0.Ports.length : Nat) : Int)), (16, .int .i64 ((i28 : Nat) : Int))]) (fun (m, i28) wl => iterN (g_plan_checkRest_L2 a0) m i28 = some q27 ∧ St NB w wl [blkR b21 [.int .i64 a0.Id, .bool a0.Mobile, vp0_0, vp0_1, vp0_2, .int .i64 a0.Events, vp0_3] 68]) (fun (m, i28) => m) (n27, 0) H ⟨rfl, rfl, rfl, rfl, trivial⟩ ⟨hm, hS⟩ ?_
    clear H hS hm a; intro xx a w29 H hR; obtain ⟨m, i28⟩ := xx; simp only [ent, List.map_cons, List.map_nil] at H; (try dsimp only at hR); obtain ⟨hm, hS⟩ := hR
    replace hm := iterN_step hm; obtain ⟨m27, o27, rfl, hm, hn27⟩ := hm; try dsimp only [g_plan_checkRest_L2] at hm
    refine wp_seq (wp_region_lit (n_q H (q_lssN (i := i28) (j := a0.Ports.length) rfl rfl) rfl ?_)); clear H a; intro a H
    refine n_nil (then_normal (wp_seq (c_cond H rfl (fun hc30 => ?_) (fun hc30 => ?_))))
    · replace hm := condT hm hc30
      have hlt31 : i28 < a0.Ports.length := of_decide_eq_true hc30
      refine wp_skip (then_normal (wp_seq (wp_block (wp_seq (wp_region_lit (n_q H (q_move rfl) rfl ?_)))))); clear H a; intro a H
      replace hm := bindS hm; obtain ⟨x32, hx32, hm⟩ := hm
      obtain ⟨adx32, hAx32⟩ := SlR.adV (hrp0_2.ext (Flat.mono _) hS.x) hv24 hx32
      refine n_q H (q_ixV (i := i28) Tryd.underlying66 sz169 rfl hv24 hAx32 rfl (natI hx32)) rfl (W_q (q_load rfl (SlR.ldAggV (hrp0_2.ext (Flat.mono _) hS.x) hv24 hAx32 ag169 sz169 hx32)) rfl ?_); clear H a; intro a H
      refine n_alloc H ze169 rfl ?_
      clear H; intro b33 w34 hN hE35 hs; clear a; intro a H
      replace hS := hS.newBlk hN hE35 hs; clear hN hs
      refine n_q H (q_assign rfl) rfl ?_; clear H a; intro a H
      refine n_storeAll H rfl rfl (vs := [.int .i64 x32.Kind, .int .i64 x32.Size, .int .i64 x32.Depth, .int .i64 x32.Refresh]) rfl sz169 (hS.blk 0 rfl) rfl (by simp) ?_
      clear H; intro w36 hN hC37 hz; clear a; intro a H; replace hS := hS.setBlk hN hC37; clear hN hz
      refine n_nil (then_normal (wp_seq (wp_region_lit (n_q H (q_load rfl ((hS.blk 0 rfl).ldAll ag169 sz169)) rfl ?_)))); clear H a; intro a H
      replace hm := bindS hm; obtain ⟨r38, hr38, hm⟩ := hm
      refine n_call H rfl en159 (g_port_CheckPlan_w (A := A) (hG.ext hS.x) hr38) rfl ?_
      clear H; intro u39 w41 hv; clear a; intro a H; obtain ⟨_, rfl, hE42⟩ := hv
      replace hS := hS.new hE42; simp only [List.cons_append, List.nil_append] at hS
      refine n_q H (q_assign rfl) rfl ?_; clear H a; intro a H
      refine n_nil (then_normal (wp_seq (wp_region_lit (n_q H (q_move rfl) rfl (W_q (q_cast (q_nnilI Tryd.underlying36 rfl rfl (hS.any 0 rfl : IsE A w41 u39 r38).form) (show _ = Value.bool (!decide (r38 = .nil)) by rw [IsErr.isNil (hS.any 0 rfl : IsE A w41 u39 r38)])) rfl ?_))))); clear H a; intro a H
      refine n_nil (then_normal (c_cond H rfl (fun hc44 => ?_) (fun hc44 => ?_)))
      · replace hm := condT hm hc44
        refine wp_seq (wp_region_lit (n_q H (q_move rfl) rfl (W_q (q_move rfl) rfl ?_))); clear H a; intro a H
        replace hm := bindS hm; obtain ⟨r45, hr45, hm⟩ := hm
        refine n_call H rfl en158 (g_plan_at_w (A := A) (hS.any 0 rfl : IsE A w41 u39 r38) hr45) rfl ?_
        clear H; intro u46 w48 hv; clear a; intro a H; obtain ⟨_, rfl, hE49⟩ := hv
        replace hS := hS.new hE49; simp only [List.cons_append, List.nil_append] at hS
        refine n_q H (q_assign rfl) rfl ?_; clear H a; intro a H
        refine n_nil (then_normal (wp_ret (block_ret (then_ret (then_ret (block_ret (then_ret ?_)))))))
        obtain rfl := Option.some.inj hm; have hz : _ = q27 := hn27; subst hz; replace hm := hm27; try dsimp only at hm
        obtain rfl := Option.some.inj hm
        replace hS := hS.take 1; simp only [List.take_succ_cons, List.take_zero] at hS
        refine ret1 H (.inr rfl) rfl rfl ?_
        exact ⟨_, rfl, hS⟩
      · replace hm := condF hm hc44
        refine wp_skip (block_normal (then_normal (wp_region_lit (n_q H (q_incr (i := i28) (j := 1) rfl rfl (by omega)) rfl (W_q (q_move rfl) rfl ?_))))); clear H a; intro a H
        refine n_nil (then_normal ?_)
        obtain rfl := Option.some.inj hm
        replace hS := hS.pick 2 rfl; dsimp only [List.eraseIdx] at hS
        replace hS := hS.take 1; simp only [List.take_succ_cons, List.take_zero] at hS
        exact round (m27, i28 + 1) H ⟨rfl, rfl, rfl, rfl, trivial⟩ ⟨hn27, hS⟩ (Nat.lt_succ_self _)
    · replace hm := condF hm hc30
      refine wp_exit (then_exit (then_exit (block_exit ?_)))
      obtain rfl := Option.some.inj hm; have hz : _ = q27 := hn27; subst hz; replace hm := hm27; try dsimp only at hm
      refine then_normal (wp_seq (wp_seq (wp_region_lit (n_c H (fun HC => ?_))))); clear H
      refine nc_q HC (q_fieldAddr0 rfl fo68_5) rfl (by kernel_rfl) (V_q (q_load rfl ((hS.blk 0 rfl).ld ag3 rfl)) rfl (by kernel_rfl) (V_q (q_lss rfl rfl) rfl (by kernel_rfl) (V_q (q_move rfl) rfl (by kernel_rfl) (V_g (q_fieldAddr0 rfl fo68_5) (by kernel_rfl) (by kernel_rfl) (by kernel_rfl) (V_g (q_load rfl ((hS.blk 0 rfl).ld ag3 rfl)) (by kernel_rfl) (by kernel_rfl) (by kernel_rfl) (V_g (q_gtr rfl rfl) (by kernel_rfl) (by kernel_rfl) (by kernel_rfl) (V_or (j := 3) rfl rfl rfl (by kernel_rfl) (by kernel_rfl) ?_))))))); clear HC a; intro a HC
      have H := HC.has; clear HC
      refine n_nil (then_normal (c_cond H rfl (fun hc51 => ?_) (fun hc51 => ?_)))
      · replace hm := condT hm hc51
        refine wp_seq (wp_region_lit (n_q H (q_load rfl ((hG.ext hS.x).ld gRange (by decide) ag36)) rfl (W_q (q_assign rfl) rfl ?_))); clear H a; intro a H
        refine n_nil (then_normal (wp_ret (then_ret ?_)))
        obtain rfl := Option.some.inj hm
        replace hS := hS.dVar (A := A) (g := gRange) (by decide)
        replace hS := hS.take 1; simp only [List.take_succ_cons, List.take_zero] at hS
        refine ret1 H (.inr rfl) rfl rfl ?_
        exact ⟨_, rfl, hS⟩
      · replace hm := condF hm hc51
        refine wp_skip (then_normal (wp_seq (wp_seq (wp_region_lit (n_q H (q_fieldAddr0 rfl fo68_6) rfl (W_q (q_load rfl ((hS.blk 0 rfl).ld ag23 rfl)) rfl ?_)))))); clear H a; intro a H
        obtain ⟨A53, c53, hv53, hl53, hm53⟩ := SlR.formV (hrp0_3.ext (Flat.mono _) hS.x)
        refine n_q H (q_lenV Tryd.underlying23 rfl hv53) rfl (W_q (q_gtrN (i := a0.Sems.length) (j := 8) rfl rfl) rfl ?_); clear H a; intro a H
        refine n_nil (then_normal (c_cond H rfl (fun hc54 => ?_) (fun hc54 => ?_)))
        · replace hm := condT hm hc54
          refine wp_seq (wp_region_lit (n_q H (q_load rfl ((hG.ext hS.x).ld gSize (by decide) ag36)) rfl (W_q (q_assign rfl) rfl ?_))); clear H a; intro a H
          refine n_nil (then_normal (wp_ret (then_ret ?_)))
          obtain rfl := Option.some.inj hm
          replace hS := hS.dVar (A := A) (g := gSize) (by decide)
          replace hS := hS.take 1; simp only [List.take_succ_cons, List.take_zero] at hS
          refine ret1 H (.inr rfl) rfl rfl ?_
          exact ⟨_, rfl, hS⟩
        · replace hm := condF hm hc54
          refine wp_skip (then_normal (wp_seq (wp_seq (wp_region_lit (n_q H (q_fieldAddr0 rfl fo68_6) rfl (W_q (q_load rfl ((hS.blk 0 rfl).ld ag23 rfl)) rfl (W_q (q_lenV Tryd.underlying23 rfl hv53) rfl (W_q (q_move rfl) rfl ?_)))))))); clear H a; intro a H
          refine n_nil (then_normal (wp_block ?_))
          replace hm := bindS hm; obtain ⟨q56, hm, hm56⟩ := hm; replace hm := iter_some hm; obtain ⟨n56, hm⟩ := hm
          refine c_loop (σ := Nat × Nat) (fun (m, i57) => [(1, .pointer (some ⟨b21, 0, none⟩)), (44, vp0_3), (45, .int .i64 ((a0.Sems.length : Nat) : Int)), (46, .int .i64 ((i57 : Nat) : Int))]) (fun (m, i57) wl => iterN (g_plan_checkRest_L1 a0) m i57 = some q56 ∧ St NB w wl [blkR b21 [.int .i64 a0.Id, .bool a0.Mobile, vp0_0, vp0_1, vp0_2, .int .i64 a0.Events, vp0_3] 68]) (fun (m, i57) => m) (n56, 0) H ⟨rfl, rfl, rfl, rfl, trivial⟩ ⟨hm, hS⟩ ?_
          clear H hS hm a; intro xx a w58 H hR; obtain ⟨m, i57⟩ := xx; simp only [ent, List.map_cons, List.map_nil] at H; (try dsimp only at hR); obtain ⟨hm, hS⟩ := hR
          replace hm := iterN_step hm; obtain ⟨m56, o56, rfl, hm, hn56⟩ := hm; try dsimp only [g_plan_checkRest_L1] at hm
          refine wp_seq (wp_region_lit (n_q H (q_lssN (i := i57) (j := a0.Sems.length) rfl rfl) rfl ?_)); clear H a; intro a H
          refine n_nil (then_normal (wp_seq (c_cond H rfl (fun hc59 => ?_) (fun hc59 => ?_))))
          · replace hm := condT hm hc59
            have hlt60 : i57 < a0.Sems.length := of_decide_eq_true hc59
            refine wp_skip (then_normal (wp_seq (wp_block (wp_seq (wp_region_lit (n_q H (q_move rfl) rfl ?_)))))); clear H a; intro a H
            replace hm := bindS hm; obtain ⟨x61, hx61, hm⟩ := hm
            obtain ⟨adx61, hAx61⟩ := SlR.adV (hrp0_3.ext (Flat.mono _) hS.x) hv53 hx61
            refine n_q H (q_ixV (i := i57) Tryd.underlying23 sz3 rfl hv53 hAx61 rfl (natI hx61)) rfl (W_q (q_load rfl (SlR.ldOneV (hrp0_3.ext (Flat.mono _) hS.x) hv53 hAx61 ag3 hx61 rfl)) rfl (W_q (q_assign rfl) rfl (W_q (q_assign rfl) rfl ?_))); clear H a; intro a H
            refine n_nil (then_normal (wp_seq (wp_region_lit (n_c H (fun HC => ?_))))); clear H
            refine nc_q HC (q_move rfl) rfl (by kernel_rfl) (V_q (q_lss rfl rfl) rfl (by kernel_rfl) (V_q (q_move rfl) rfl (by kernel_rfl) (V_g (q_move rfl) (by kernel_rfl) (by kernel_rfl) (by kernel_rfl) (V_g (q_gtr rfl rfl) (by kernel_rfl) (by kernel_rfl) (by kernel_rfl) (V_or (j := 2) rfl rfl rfl (by kernel_rfl) (by kernel_rfl) ?_))))); clear HC a; intro a HC
            have H := HC.has; clear HC
            refine n_nil (then_normal (c_cond H rfl (fun hc62 => ?_) (fun hc62 => ?_)))
            · replace hm := condT hm hc62
              refine wp_seq (wp_region_lit (n_q H (q_move rfl) rfl (W_q (q_load rfl ((hG.ext hS.x).ld gRange (by decide) ag36)) rfl ?_))); clear H a; intro a H
              replace hm := bindS hm; obtain ⟨r63, hr63, hm⟩ := hm
              refine n_call H rfl en158 (g_plan_at_w (A := A) (IsErr.var (by decide) : IsE A w58 _ (.v gRange)) hr63) rfl ?_
              clear H; intro u64 w66 hv; clear a; intro a H; obtain ⟨_, rfl, hE67⟩ := hv
              replace hS := hS.new hE67; simp only [List.cons_append, List.nil_append] at hS
              refine n_q H (q_assign rfl) rfl ?_; clear H a; intro a H
              refine n_nil (then_normal (wp_ret (block_ret (then_ret (then_ret (block_ret (then_ret ?_)))))))
              obtain rfl := Option.some.inj hm; have hz : _ = q56 := hn56; subst hz; replace hm := hm56; try dsimp only at hm
              obtain rfl := Option.some.inj hm
              replace hS := hS.take 1; simp only [List.take_succ_cons, List.take_zero] at hS
              refine ret1 H (.inr rfl) rfl rfl ?_
              exact ⟨_, rfl, hS⟩
            · replace hm := condF hm hc62
              refine wp_skip (block_normal (then_normal (wp_region_lit (n_q H (q_incr (i := i57) (j := 1) rfl rfl (by omega)) rfl (W_q (q_move rfl) rfl ?_))))); clear H a; intro a H
              refine n_nil (then_normal ?_)
              obtain rfl := Option.some.inj hm
              exact round (m56, i57 + 1) H ⟨rfl, rfl, rfl, rfl, trivial⟩ ⟨hn56, hS⟩ (Nat.lt_succ_self _)
          · replace hm := condF hm hc59
            refine wp_exit (then_exit (then_exit (block_exit ?_)))
            obtain rfl := Option.some.inj hm; have hz : _ = q56 := hn56; subst hz; replace hm := hm56; try dsimp only at hm
            refine then_normal (wp_seq (wp_seq (wp_region_lit (n_q H (q_load rfl ((hS.blk 0 rfl).ldAll ag68 sz68)) rfl ?_)))); clear H a; intro a H
            replace hm := bindS hm; obtain ⟨r69, hr69, hm⟩ := hm
            refine n_call H rfl en160 (g_plan_bound_w (A := A) (hG.ext hS.x) (⟨_, _, _, _, rfl, (hrp0_0.ext (Flat.mono _) hS.x), (hrp0_1.ext (Flat.mono _) hS.x), (hrp0_2.ext (Flat.mono _) hS.x), (hrp0_3.ext (Flat.mono _) hS.x)⟩ : RGPlan _ [.int .i64 a0.Id, .bool a0.Mobile, vp0_0, vp0_1, vp0_2, .int .i64 a0.Events, vp0_3] a0) hr69) rfl ?_
            clear H; intro x72 w70 hv; clear a; intro a H; obtain ⟨rfl, hE71⟩ := hv
            replace hS := hS.ext hE71
            refine n_q H (q_gtr rfl rfl) rfl ?_; clear H a; intro a H
            refine n_nil (then_normal (c_cond H rfl (fun hc73 => ?_) (fun hc73 => ?_)))
            · replace hm := condT hm hc73
              refine wp_seq (wp_region_lit (n_q H (q_load rfl ((hG.ext hS.x).ld gSize (by decide) ag36)) rfl (W_q (q_assign rfl) rfl ?_))); clear H a; intro a H
              refine n_nil (then_normal (wp_ret (then_ret ?_)))
              obtain rfl := Option.some.inj hm
              replace hS := hS.dVar (A := A) (g := gSize) (by decide)
              replace hS := hS.take 1; simp only [List.take_succ_cons, List.take_zero] at hS
              refine ret1 H (.inr rfl) rfl rfl ?_
              exact ⟨_, rfl, hS⟩
            · replace hm := condF hm hc73
              refine wp_skip (then_normal (wp_seq (wp_region_lit (n_q H (q_assign rfl) rfl ?_)))); clear H a; intro a H
              refine n_nil (then_normal (wp_ret ?_))
              obtain rfl := Option.some.inj hm
              replace hS := hS.dNil (A := A)
              replace hS := hS.take 1; simp only [List.take_succ_cons, List.take_zero] at hS
              refine ret1 H (.inr rfl) rfl rfl ?_
              exact ⟨_, rfl, hS⟩
theorem g_plan_Check_w {w : World} {A : Nat → Addr} {cs0 : List Value} {a0 : GPlan} (hG : EV A w) (h0 : RGPlan w cs0 a0) {r : ErrM} (hm : g_plan_Check a0 = some r) :
    Calls Tryd.prog 62 [.agg cs0.toArray].toArray w (Ret fun u w' => ∃ h_0, u = h_0 ∧ St NB w w' [erQ A h_0 r]) := by
  obtain ⟨vp0_0, vp0_1, vp0_2, vp0_3, rfl, hrp0_0, hrp0_1, hrp0_2, hrp0_3⟩ := h0
  have hS := St.begin NB w
  unfold g_plan_Check at hm
  refine enter Tryd.func62 rfl rfl rfl ?_; intro a H; dsimp only [enumL, Nat.zero_add, Nat.reduceAdd] at H
  refine wp_seq (wp_region_lit (n_box H rfl (cs := [.int .i64 a0.Id, .bool a0.Mobile, vp0_0, vp0_1, vp0_2, .int .i64 a0.Events, vp0_3]) rfl rfl ?_))
  clear H; intro b21 w22 hN hE23 hs; clear a; intro a H
  replace hS := hS.newBlk hN hE23 hs; clear hN hs
  refine n_q H (q_assign rfl) rfl ?_; clear H a; intro a H
  refine n_nil (then_normal (wp_seq (wp_seq (wp_region_lit (n_c H (fun HC => ?_)))))); clear H
  refine nc_q HC (q_fieldAddr0 rfl fo68_0) rfl (by kernel_rfl) (V_q (q_load rfl ((hS.blk 0 rfl).ld ag3 rfl)) rfl (by kernel_rfl) (V_q (q_lss rfl rfl) rfl (by kernel_rfl) (V_q (q_move rfl) rfl (by kernel_rfl) (V_g (q_fieldAddr0 rfl fo68_0) (by kernel_rfl) (by kernel_rfl) (by kernel_rfl) (V_g (q_load rfl ((hS.blk 0 rfl).ld ag3 rfl)) (by kernel_rfl) (by kernel_rfl) (by kernel_rfl) (V_g (q_gtr rfl rfl) (by kernel_rfl) (by kernel_rfl) (by kernel_rfl) (V_or (j := 3) rfl rfl rfl (by kernel_rfl) (by kernel_rfl) ?_))))))); clear HC a; intro a HC
  have H := HC.has; clear HC
  refine n_nil (then_normal (c_cond H rfl (fun hc24 => ?_) (fun hc24 => ?_)))
  · replace hm := condT hm hc24
    refine wp_seq (wp_region_lit (n_q H (q_load rfl ((hG.ext hS.x).ld gRange (by decide) ag36)) rfl (W_q (q_assign rfl) rfl ?_))); clear H a; intro a H
    refine n_nil (then_normal (wp_ret (then_ret ?_)))
    obtain rfl := Option.some.inj hm
    replace hS := hS.dVar (A := A) (g := gRange) (by decide)
    replace hS := hS.take 1; simp only [List.take_succ_cons, List.take_zero] at hS
    refine ret1 H (.inr rfl) rfl rfl ?_
    exact ⟨_, rfl, hS⟩
  · replace hm := condF hm hc24
    refine wp_skip (then_normal (wp_seq (wp_seq (wp_region_lit (n_buildSlice H Tryd.underlying186 sz136 ze136 rfl rfl rfl (cs := [.func (.func 97) [].toArray [].toArray, .func (.func 98) [].toArray [].toArray, .func (.func 99) [].toArray [].toArray]) (by kernel_rfl) rfl ?_)))))
    clear H; intro b28 w26 hN hE27 hs; clear a; intro a H
    replace hS := hS.newBlk hN hE27 hs; clear hN hs
    refine n_q H (q_lenSl Tryd.underlying186 rfl) rfl (W_q (q_move rfl) rfl ?_); clear H a; intro a H
    refine n_nil (then_normal (wp_block (wp_loop_rounds 4 ?_)))
    refine Eq.mpr (rounds_succ (n := 3)) ?_
    refine wp_seq (wp_region_lit (n_q H (q_cast (q_lss rfl rfl) (show _ = Value.bool true from rfl)) rfl ?_)); clear H a; intro a H
    refine n_nil (then_normal (wp_seq (c_condKT H rfl ?_)))
    refine wp_skip (then_normal (wp_seq (wp_block (wp_seq (wp_region_lit (n_q H (q_cast (q_indexAddr Tryd.underlying186 sz136 rfl rfl (by decide) (by decide)) (show _ = Value.pointer (some ⟨b28, 0, none⟩) by simp [plain_add])) rfl (W_q (q_load rfl ((hS.blk 0 rfl).ld ag136 rfl)) rfl (W_q (q_assign rfl) rfl ?_)))))))); clear H a; intro a H
    refine n_nil (then_normal (wp_seq (wp_region_lit (n_q H (q_move rfl) rfl (W_q (q_load rfl ((hS.blk 1 rfl).ldAll ag68 sz68)) rfl ?_))))); clear H a; intro a H
    replace hm := bindS hm; obtain ⟨r30, hr30, hm⟩ := hm
    refine n_callv H rfl rfl en97 (g_plan_checkPages_w (A := A) (hG.ext hS.x) (⟨_, _, _, _, rfl, (hrp0_0.ext (Flat.mono _) hS.x), (hrp0_1.ext (Flat.mono _) hS.x), (hrp0_2.ext (Flat.mono _) hS.x), (hrp0_3.ext (Flat.mono _) hS.x)⟩ : RGPlan _ [.int .i64 a0.Id, .bool a0.Mobile, vp0_0, vp0_1, vp0_2, .int .i64 a0.Events, vp0_3] a0) hr30) rfl ?_
    clear H; intro u31 w33 hv; clear a; intro a H; obtain ⟨_, rfl, hE34⟩ := hv
    replace hS := hS.new hE34; simp only [List.cons_append, List.nil_append] at hS
    refine n_q H (q_assign rfl) rfl ?_; clear H a; intro a H
    refine n_nil (then_normal (wp_seq (wp_region_lit (n_q H (q_move rfl) rfl (W_q (q_cast (q_nnilI Tryd.underlying36 rfl rfl (hS.any 0 rfl : IsE A w33 u31 r30).form) (show _ = Value.bool (!decide (r30 = .nil)) by rw [IsErr.isNil (hS.any 0 rfl : IsE A w33 u31 r30)])) rfl ?_))))); clear H a; intro a H
    refine n_nil (then_normal (c_cond H rfl (fun hc36 => ?_) (fun hc36 => ?_)))
    · replace hm := condT hm hc36
      refine wp_seq (wp_region_lit (n_q H (q_move rfl) rfl (W_q (q_assign rfl) rfl ?_))); clear H a; intro a H
      refine n_nil (then_normal (wp_ret (block_ret (then_ret (then_ret (block_ret (then_ret ?_)))))))
      obtain rfl := Option.some.inj hm
      replace hS := hS.take 1; simp only [List.take_succ_cons, List.take_zero] at hS
      refine ret1 H (.inr rfl) rfl rfl ?_
      exact ⟨_, rfl, hS⟩
    · replace hm := condF hm hc36
      refine wp_skip (block_normal (then_normal (wp_region_lit (n_q H (q_cast (q_addW rfl rfl) (show _ = Value.int .i64 1 from rfl)) rfl (W_q (q_move rfl) rfl ?_))))); clear H a; intro a H
      refine n_nil (then_normal (Eq.mpr (rounds_succ (n := 2)) ?_))
      refine wp_seq (wp_region_lit (n_q H (q_cast (q_lss rfl rfl) (show _ = Value.bool true from rfl)) rfl ?_)); clear H a; intro a H
      refine n_nil (then_normal (wp_seq (c_condKT H rfl ?_)))
      refine wp_skip (then_normal (wp_seq (wp_block (wp_seq (wp_region_lit (n_q H (q_cast (q_indexAddr Tryd.underlying186 sz136 rfl rfl (by decide) (by decide)) (show _ = Value.pointer (some ⟨b28, 1, none⟩) by simp [plain_add])) rfl (W_q (q_load rfl ((hS.blk 1 rfl).ld ag136 rfl)) rfl (W_q (q_assign rfl) rfl ?_)))))))); clear H a; intro a H
      refine n_nil (then_normal (wp_seq (wp_region_lit (n_q H (q_move rfl) rfl (W_q (q_load rfl ((hS.blk 2 rfl).ldAll ag68 sz68)) rfl ?_))))); clear H a; intro a H
      replace hm := bindS hm; obtain ⟨r38, hr38, hm⟩ := hm
      refine n_callv H rfl rfl en98 (g_plan_checkProcs_w (A := A) (hG.ext hS.x) (⟨_, _, _, _, rfl, (hrp0_0.ext (Flat.mono _) hS.x), (hrp0_1.ext (Flat.mono _) hS.x), (hrp0_2.ext (Flat.mono _) hS.x), (hrp0_3.ext (Flat.mono _) hS.x)⟩ : RGPlan _ [.int .i64 a0.Id, .bool a0.Mobile, vp0_0, vp0_1, vp0_2, .int .i64 a0.Events, vp0_3] a0) hr38) rfl ?_
      clear H; intro u39 w41 hv; clear a; intro a H; obtain ⟨_, rfl, hE42⟩ := hv
      replace hS := hS.new hE42; simp only [List.cons_append, List.nil_append] at hS
      refine n_q H (q_assign rfl) rfl ?_; clear H a; intro a H
      refine n_nil (then_normal (wp_seq (wp_region_lit (n_q H (q_move rfl) rfl (W_q (q_cast (q_nnilI Tryd.underlying36 rfl rfl (hS.any 0 rfl : IsE A w41 u39 r38).form) (show _ = Value.bool (!decide (r38 = .nil)) by rw [IsErr.isNil (hS.any 0 rfl : IsE A w41 u39 r38)])) rfl ?_))))); clear H a; intro a H
      refine n_nil (then_normal (c_cond H rfl (fun hc44 => ?_) (fun hc44 => ?_)))
      · replace hm := condT hm hc44
        refine wp_seq (wp_region_lit (n_q H (q_move rfl) rfl (W_q (q_assign rfl) rfl ?_))); clear H a; intro a H
        refine n_nil (then_normal (wp_ret (block_ret (then_ret (then_ret (block_ret (then_ret ?_)))))))
        obtain rfl := Option.some.inj hm
        replace hS := hS.take 1; simp only [List.take_succ_cons, List.take_zero] at hS
        refine ret1 H (.inr rfl) rfl rfl ?_
        exact ⟨_, rfl, hS⟩
      · replace hm := condF hm hc44
        refine wp_skip (block_normal (then_normal (wp_region_lit (n_q H (q_cast (q_addW rfl rfl) (show _ = Value.int .i64 2 from rfl)) rfl (W_q (q_move rfl) rfl ?_))))); clear H a; intro a H
        refine n_nil (then_normal (Eq.mpr (rounds_succ (n := 1)) ?_))
        refine wp_seq (wp_region_lit (n_q H (q_cast (q_lss rfl rfl) (show _ = Value.bool true from rfl)) rfl ?_)); clear H a; intro a H
        refine n_nil (then_normal (wp_seq (c_condKT H rfl ?_)))
        refine wp_skip (then_normal (wp_seq (wp_block (wp_seq (wp_region_lit (n_q H (q_cast (q_indexAddr Tryd.underlying186 sz136 rfl rfl (by decide) (by decide)) (show _ = Value.pointer (some ⟨b28, 2, none⟩) by simp [plain_add])) rfl (W_q (q_load rfl ((hS.blk 2 rfl).ld ag136 rfl)) rfl (W_q (q_assign rfl) rfl ?_)))))))); clear H a; intro a H
        refine n_nil (then_normal (wp_seq (wp_region_lit (n_q H (q_move rfl) rfl (W_q (q_load rfl ((hS.blk 3 rfl).ldAll ag68 sz68)) rfl ?_))))); clear H a; intro a H
        replace hm := bindS hm; obtain ⟨r46, hr46, hm⟩ := hm
        refine n_callv H rfl rfl en99 (g_plan_checkRest_w (A := A) (hG.ext hS.x) (⟨_, _, _, _, rfl, (hrp0_0.ext (Flat.mono _) hS.x), (hrp0_1.ext (Flat.mono _) hS.x), (hrp0_2.ext (Flat.mono _) hS.x), (hrp0_3.ext (Flat.mono _) hS.x)⟩ : RGPlan _ [.int .i64 a0.Id, .bool a0.Mobile, vp0_0, vp0_1, vp0_2, .int .i64 a0.Events, vp0_3] a0) hr46) rfl ?_
        clear H; intro u47 w49 hv; clear a; intro a H; obtain ⟨_, rfl, hE50⟩ := hv
        replace hS := hS.new hE50; simp only [List.cons_append, List.nil_append] at hS
        refine n_q H (q_assign rfl) rfl ?_; clear H a; intro a H
        refine n_nil (then_normal (wp_seq (wp_region_lit (n_q H (q_move rfl) rfl (W_q (q_cast (q_nnilI Tryd.underlying36 rfl rfl (hS.any 0 rfl : IsE A w49 u47 r46).form) (show _ = Value.bool (!decide (r46 = .nil)) by rw [IsErr.isNil (hS.any 0 rfl : IsE A w49 u47 r46)])) rfl ?_))))); clear H a; intro a H
        refine n_nil (then_normal (c_cond H rfl (fun hc52 => ?_) (fun hc52 => ?_)))
        · replace hm := condT hm hc52
          refine wp_seq (wp_region_lit (n_q H (q_move rfl) rfl (W_q (q_assign rfl) rfl ?_))); clear H a; intro a H
          refine n_nil (then_normal (wp_ret (block_ret (then_ret (then_ret (block_ret (then_ret ?_)))))))
          obtain rfl := Option.some.inj hm
          replace hS := hS.take 1; simp only [List.take_succ_cons, List.take_zero] at hS
          refine ret1 H (.inr rfl) rfl rfl ?_
          exact ⟨_, rfl, hS⟩
        · replace hm := condF hm hc52
          refine wp_skip (block_normal (then_normal (wp_region_lit (n_q H (q_cast (q_addW rfl rfl) (show _ = Value.int .i64 3 from rfl)) rfl (W_q (q_move rfl) rfl ?_))))); clear H a; intro a H
          refine n_nil (then_normal (Eq.mpr (rounds_succ (n := 0)) ?_))
          refine wp_seq (wp_region_lit (n_q H (q_cast (q_lss rfl rfl) (show _ = Value.bool false from rfl)) rfl ?_)); clear H a; intro a H
          refine n_nil (then_normal (wp_seq (c_condKF H rfl ?_)))
          refine wp_exit (then_exit (then_exit (block_exit (then_normal (wp_seq (wp_region_lit (n_q H (q_assign rfl) rfl ?_))))))); clear H a; intro a H
          refine n_nil (then_normal (wp_ret ?_))
          obtain rfl := Option.some.inj hm
          replace hS := hS.dNil (A := A)
          replace hS := hS.take 1; simp only [List.take_succ_cons, List.take_zero] at hS
          refine ret1 H (.inr rfl) rfl rfl ?_
          exact ⟨_, rfl, hS⟩
theorem g_frame_at_w {w : World} {A : Nat → Addr} {a0 : Int} {v1 : Value} {a1 : ErrM} (h1 : IsE A w v1 a1) {r : ErrM} (hm : g_frame_at a0 a1 = some r) :
    Calls Tryd.prog 131 [.int .i64 a0, v1].toArray w (Ret fun u w' => ∃ h_0, u = h_0 ∧ St NB w w' [erQ A h_0 r]) := by
  have hS := St.begin NB w
  unfold g_frame_at at hm
  refine enter Tryd.func131 rfl rfl rfl ?_; intro a H; dsimp only [enumL, Nat.zero_add, Nat.reduceAdd] at H
  refine wp_seq (wp_region_lit (n_q H (q_assign rfl) rfl ?_)); clear H a; intro a H
  refine n_nil (then_normal (wp_seq (wp_region_lit (n_q H (q_move rfl) rfl (W_q (q_move rfl) rfl (W_q (q_build (cs := [.int .i64 a0, v1]) ze146 bd146 pl146 rfl ((fill1 rfl rfl (by simp)).trans ((fill1 (IsErr.ext h1 hS.x).one rfl (by simp)).trans rfl))) rfl ?_)))))); clear H a; intro a H
  refine n_box H rfl (cs := [.int .i64 a0, v1]) rfl rfl ?_
  clear H; intro b21 w22 hN hE23 hs; clear a; intro a H
  replace hS := hS.newBlk hN hE23 hs; clear hN hs
  replace hm := bindS hm; obtain ⟨r24, hr24, hm⟩ := hm
  have hIr24 := (IsErr.ext h1 hS.x)
  refine n_q H (q_makeInterface Tryd.underlying142 (by simp) rfl) rfl ?_; clear H a; intro a H
  replace hS := hS.dAtE hIr24 hr24
  refine n_q H (q_assign rfl) rfl ?_; clear H a; intro a H
  refine n_nil (then_normal (wp_ret ?_))
  obtain rfl := Option.some.inj hm
  refine ret1 H (.inr rfl) rfl rfl ?_
  exact ⟨_, rfl, hS⟩
theorem g_frame_checkParts_w {w : World} {A : Nat → Addr} {cs0 : List Value} {a0 : GConfig} (hG : EV A w) (h0 : RGConfig w cs0 a0) {r : ErrM} (hm : g_frame_checkParts a0 = some r) :
    Calls Tryd.prog 68 [.agg cs0.toArray].toArray w (Ret fun u w' => ∃ h_0, u = h_0 ∧ St NB w w' [erQ A h_0 r]) := by
  obtain ⟨vp0_0, vp0_1, vp0_2, vp0_3, rfl, hrp0_0, hrp0_1, hrp0_2, hrp0_3⟩ := h0
  have hS := St.begin NB w
  unfold g_frame_checkParts at hm
  refine enter Tryd.func68 rfl rfl rfl ?_; intro a H; dsimp only [enumL, Nat.zero_add, Nat.reduceAdd] at H
  refine wp_seq (wp_region_lit (n_box H rfl (cs := [.int .i64 a0.Ticks, vp0_0, vp0_1, vp0_2, vp0_3, .int .i64 a0.Tries]) rfl rfl ?_))
  clear H; intro b21 w22 hN hE23 hs; clear a; intro a H
  replace hS := hS.newBlk hN hE23 hs; clear hN hs
  refine n_q H (q_assign rfl) rfl ?_; clear H a; intro a H
  refine n_nil (then_normal (wp_seq (wp_seq (wp_region_lit (n_c H (fun HC => ?_)))))); clear H
  refine nc_q HC (q_fieldAddr0 rfl fo27_0) rfl (by kernel_rfl) (V_q (q_load rfl ((hS.blk 0 rfl).ld ag3 rfl)) rfl (by kernel_rfl) (V_q (q_lss rfl rfl) rfl (by kernel_rfl) (V_q (q_move rfl) rfl (by kernel_rfl) (V_g (q_fieldAddr0 rfl fo27_0) (by kernel_rfl) (by kernel_rfl) (by kernel_rfl) (V_g (q_load rfl ((hS.blk 0 rfl).ld ag3 rfl)) (by kernel_rfl) (by kernel_rfl) (by kernel_rfl) (V_g (q_gtr rfl rfl) (by kernel_rfl) (by kernel_rfl) (by kernel_rfl) (V_or (j := 3) rfl rfl rfl (by kernel_rfl) (by kernel_rfl) (V_q (q_move rfl) rfl (by kernel_rfl) (V_g (q_fieldAddr0 rfl fo27_5) (by kernel_rfl) (by kernel_rfl) (by kernel_rfl) (V_g (q_load rfl ((hS.blk 0 rfl).ld ag3 rfl)) (by kernel_rfl) (by kernel_rfl) (by kernel_rfl) (V_g (q_lss rfl rfl) (by kernel_rfl) (by kernel_rfl) (by kernel_rfl) ?_))))))))))); clear HC a; intro a HC
  refine nc_or (j := 8) HC rfl rfl rfl (by kernel_rfl) (by kernel_rfl) (V_q (q_move rfl) rfl (by kernel_rfl) (V_g (q_fieldAddr0 rfl fo27_5) (by kernel_rfl) (by kernel_rfl) (by kernel_rfl) (V_g (q_load rfl ((hS.blk 0 rfl).ld ag3 rfl)) (by kernel_rfl) (by kernel_rfl) (by kernel_rfl) (V_g (q_gtr rfl rfl) (by kernel_rfl) (by kernel_rfl) (by kernel_rfl) (V_or (j := 13) rfl rfl rfl (by kernel_rfl) (by kernel_rfl) ?_))))); clear HC a; intro a HC
  have H := HC.has; clear HC
  refine n_nil (then_normal (c_cond H rfl (fun hc24 => ?_) (fun hc24 => ?_)))
  · replace hm := condT hm hc24
    refine wp_seq (wp_region_lit (n_q H (q_load rfl ((hG.ext hS.x).ld gRange (by decide) ag36)) rfl (W_q (q_assign rfl) rfl ?_))); clear H a; intro a H
    refine n_nil (then_normal (wp_ret (then_ret ?_)))
    obtain rfl := Option.some.inj hm
    replace hS := hS.dVar (A := A) (g := gRange) (by decide)
    replace hS := hS.take 1; simp only [List.take_succ_cons, List.take_zero] at hS
    refine ret1 H (.inr rfl) rfl rfl ?_
    exact ⟨_, rfl, hS⟩
  · replace hm := condF hm hc24
    refine wp_skip (then_normal (wp_seq (wp_seq (wp_region_lit (n_c H (fun HC => ?_)))))); clear H
    refine nc_q HC (q_fieldAddr0 rfl fo27_1) rfl (by kernel_rfl) (V_q (q_load rfl ((hS.blk 0 rfl).ld ag22 rfl)) rfl (by kernel_rfl) ?_); clear HC a; intro a HC
    obtain ⟨A26, c26, hv26, hl26, hm26⟩ := SlR.formV (hrp0_0.ext RGPlan.mono hS.x)
    refine nc_q HC (q_lenV Tryd.underlying22 rfl hv26) rfl (by kernel_rfl) (V_q (q_lssN (i := a0.Parts.length) (j := 1) rfl rfl) rfl (by kernel_rfl) (V_q (q_move rfl) rfl (by kernel_rfl) (V_g (q_fieldAddr0 rfl fo27_1) (by kernel_rfl) (by kernel_rfl) (by kernel_rfl) (V_g (q_load rfl ((hS.blk 0 rfl).ld ag22 rfl)) (by kernel_rfl) (by kernel_rfl) (by kernel_rfl) (V_g (q_lenV Tryd.underlying22 rfl hv26) (by kernel_rfl) (by kernel_rfl) (by kernel_rfl) (V_g (q_gtrN (i := a0.Parts.length) (j := 8) rfl rfl) (by kernel_rfl) (by kernel_rfl) (by kernel_rfl) (V_or (j := 4) rfl rfl rfl (by kernel_rfl) (by kernel_rfl) ?_))))))); clear HC a; intro a HC
    have H := HC.has; clear HC
    refine n_nil (then_normal (c_cond H rfl (fun hc27 => ?_) (fun hc27 => ?_)))
    · replace hm := condT hm hc27
      refine wp_seq (wp_region_lit (n_q H (q_load rfl ((hG.ext hS.x).ld gSize (by decide) ag36)) rfl (W_q (q_assign rfl) rfl ?_))); clear H a; intro a H
      refine n_nil (then_normal (wp_ret (then_ret ?_)))
      obtain rfl := Option.some.inj hm
      replace hS := hS.dVar (A := A) (g := gSize) (by decide)
      replace hS := hS.take 1; simp only [List.take_succ_cons, List.take_zero] at hS
      refine ret1 H (.inr rfl) rfl rfl ?_
      exact ⟨_, rfl, hS⟩
    · replace hm := condF hm hc27
      refine wp_skip (then_normal (wp_seq (wp_seq (wp_region_lit (n_q H (q_fieldAddr0 rfl fo27_1) rfl (W_q (q_load rfl ((hS.blk 0 rfl).ld ag22 rfl)) rfl (W_q (q_lenV Tryd.underlying22 rfl hv26) rfl (W_q (q_move rfl) rfl ?_)))))))); clear H a; intro a H
      refine n_nil (then_normal (wp_block ?_))
      replace hm := bindS hm; obtain ⟨q29, hm, hm29⟩ := hm; replace hm := iter_some hm; obtain ⟨n29, hm⟩ := hm
      refine c_loop (σ := Nat × Nat) (fun (m, i30) => [(1, .pointer (some ⟨b21, 0, none⟩)), (38, vp0_0), (39, .int .i64 ((a0.Parts.length : Nat) : Int)), (40, .int .i64 ((i30 : Nat) : Int))]) (fun (m, i30) wl => iterN (g_frame_checkParts_L2 a0) m i30 = some q29 ∧ St NB w wl [blkR b21 [.int .i64 a0.Ticks, vp0_0, vp0_1, vp0_2, vp0_3, .int .i64 a0.Tries] 27]) (fun (m, i30) => m) (n29, 0) H ⟨rfl, rfl, rfl, rfl, trivial⟩ ⟨hm, hS⟩ ?_
      clear H hS hm a; intro xx a w31 H hR; obtain ⟨m, i30⟩ := xx; simp only [ent, List.map_cons, List.map_nil] at H; (try dsimp only at hR); obtain ⟨hm, hS⟩ := hR
      replace hm := iterN_step hm; obtain ⟨m29, o29, rfl, hm, hn29⟩ := hm; try dsimp only [g_frame_checkParts_L2] at hm
      refine wp_seq (wp_region_lit (n_q H (q_lssN (i := i30) (j := a0.Parts.length) rfl rfl) rfl ?_)); clear H a; intro a H
      refine n_nil (then_normal (wp_seq (c_cond H rfl (fun hc32 => ?_) (fun hc32 => ?_))))
      · replace hm := condT hm hc32
        have hlt33 : i30 < a0.Parts.length := of_decide_eq_true hc32
        refine wp_skip (then_normal (wp_seq (wp_block (wp_seq (wp_region_lit (n_q H (q_move rfl) rfl ?_)))))); clear H a; intro a H
        replace hm := bindS hm; obtain ⟨x34, hx34, hm⟩ := hm
        obtain ⟨adx34, hAx34⟩ := SlR.adV (hrp0_0.ext RGPlan.mono hS.x) hv26 hx34
        obtain ⟨csx34, hclx34, ⟨vx34_0, vx34_1, vx34_2, vx34_3, rfl, hrx34_0, hrx34_1, hrx34_2, hrx34_3⟩, hcx34⟩ := SlR.elV hrp0_0 hv26 hAx34 hx34
        refine n_q H (q_ixV (i := i30) Tryd.underlying22 sz68 rfl hv26 hAx34 rfl (natI hx34)) rfl (W_q (q_load rfl (LdX.ext (ldEl ag68 sz68 rfl hcx34) hS.x)) rfl ?_); clear H a; intro a H
        refine n_alloc H ze68 rfl ?_
        clear H; intro b35 w36 hN hE37 hs; clear a; intro a H
        replace hS := hS.newBlk hN hE37 hs; clear hN hs
        refine n_q H (q_assign rfl) rfl ?_; clear H a; intro a H
        refine n_storeAll H rfl rfl (vs := [.int .i64 x34.Id, .bool x34.Mobile, vx34_0, vx34_1, vx34_2, .int .i64 x34.Events, vx34_3]) rfl sz68 (hS.blk 0 rfl) rfl (by simp [((hrx34_0.ext (Flat.mono _) hS.x)).one, ((hrx34_1.ext (Flat.mono _) hS.x)).one, ((hrx34_2.ext (Flat.mono _) hS.x)).one, ((hrx34_3.ext (Flat.mono _) hS.x)).one]) ?_
        clear H; intro w38 hN hC39 hz; clear a; intro a H; replace hS := hS.setBlk hN hC39; clear hN hz
        refine n_nil (then_normal (wp_seq (wp_seq (wp_region_lit (n_q H (q_load rfl ((hS.blk 0 rfl).ldAll ag68 sz68)) rfl ?_))))); clear H a; intro a H
        replace hm := bindS hm; obtain ⟨r40, hr40, hm⟩ := hm
        refine n_call H rfl en62 (g_plan_Check_w (A := A) (hG.ext hS.x) (⟨_, _, _, _, rfl, (hrx34_0.ext (Flat.mono _) hS.x), (hrx34_1.ext (Flat.mono _) hS.x), (hrx34_2.ext (Flat.mono _) hS.x), (hrx34_3.ext (Flat.mono _) hS.x)⟩ : RGPlan _ [.int .i64 x34.Id, .bool x34.Mobile, vx34_0, vx34_1, vx34_2, .int .i64 x34.Events, vx34_3] x34) hr40) rfl ?_
        clear H; intro u41 w43 hv; clear a; intro a H; obtain ⟨_, rfl, hE44⟩ := hv
        replace hS := hS.new hE44; simp only [List.cons_append, List.nil_append] at hS
        refine n_q H (q_cast (q_nnilI Tryd.underlying36 rfl rfl (hS.any 0 rfl : IsE A w43 u41 r40).form) (show _ = Value.bool (!decide (r40 = .nil)) by rw [IsErr.isNil (hS.any 0 rfl : IsE A w43 u41 r40)])) rfl ?_; clear H a; intro a H
        refine n_nil (then_normal (c_cond H rfl (fun hc46 => ?_) (fun hc46 => ?_)))
        · replace hm := condT hm hc46
          refine wp_seq (wp_region_lit (n_q H (q_move rfl) rfl (W_q (q_load rfl ((hG.ext hS.x).ld gPlan (by decide) ag36)) rfl ?_))); clear H a; intro a H
          replace hm := bindS hm; obtain ⟨r47, hr47, hm⟩ := hm
          refine n_call H rfl en131 (g_frame_at_w (A := A) (IsErr.var (by decide) : IsE A w43 _ (.v gPlan)) hr47) rfl ?_
          clear H; intro u48 w50 hv; clear a; intro a H; obtain ⟨_, rfl, hE51⟩ := hv
          replace hS := hS.new hE51; simp only [List.cons_append, List.nil_append] at hS
          refine n_q H (q_assign rfl) rfl ?_; clear H a; intro a H
          refine n_nil (then_normal (wp_ret (then_ret (block_ret (then_ret (then_ret (block_ret (then_ret ?_))))))))
          obtain rfl := Option.some.inj hm; have hz : _ = q29 := hn29; subst hz; replace hm := hm29; try dsimp only at hm
          obtain rfl := Option.some.inj hm
          replace hS := hS.take 1; simp only [List.take_succ_cons, List.take_zero] at hS
          refine ret1 H (.inr rfl) rfl rfl ?_
          exact ⟨_, rfl, hS⟩
        · replace hm := condF hm hc46
          refine wp_skip (then_normal (wp_seq (wp_region_lit (n_q H (q_fieldAddr0 rfl fo68_0) rfl (W_q (q_load rfl ((hS.blk 1 rfl).ld ag3 rfl)) rfl (W_q (q_move rfl) rfl (W_q (q_neqD rfl rfl) rfl ?_))))))); clear H a; intro a H
          refine n_nil (then_normal (c_cond H rfl (fun hc53 => ?_) (fun hc53 => ?_)))
          · replace hm := condT hm hc53
            refine wp_seq (wp_region_lit (n_q H (q_move rfl) rfl (W_q (q_load rfl ((hG.ext hS.x).ld gArg (by decide) ag36)) rfl ?_))); clear H a; intro a H
            replace hm := bindS hm; obtain ⟨r54, hr54, hm⟩ := hm
            refine n_call H rfl en131 (g_frame_at_w (A := A) (IsErr.var (by decide) : IsE A w43 _ (.v gArg)) hr54) rfl ?_
            clear H; intro u55 w57 hv; clear a; intro a H; obtain ⟨_, rfl, hE58⟩ := hv
            replace hS := hS.new hE58; simp only [List.cons_append, List.nil_append] at hS
            refine n_q H (q_assign rfl) rfl ?_; clear H a; intro a H
            refine n_nil (then_normal (wp_ret (block_ret (then_ret (then_ret (block_ret (then_ret ?_)))))))
            obtain rfl := Option.some.inj hm; have hz : _ = q29 := hn29; subst hz; replace hm := hm29; try dsimp only at hm
            obtain rfl := Option.some.inj hm
            replace hS := hS.take 1; simp only [List.take_succ_cons, List.take_zero] at hS
            refine ret1 H (.inr rfl) rfl rfl ?_
            exact ⟨_, rfl, hS⟩
          · replace hm := condF hm hc53
            refine wp_skip (block_normal (then_normal (wp_region_lit (n_q H (q_incr (i := i30) (j := 1) rfl rfl (by omega)) rfl (W_q (q_move rfl) rfl ?_))))); clear H a; intro a H
            refine n_nil (then_normal ?_)
            obtain rfl := Option.some.inj hm
            replace hS := hS.pick 2 rfl; dsimp only [List.eraseIdx] at hS
            replace hS := hS.take 1; simp only [List.take_succ_cons, List.take_zero] at hS
            exact round (m29, i30 + 1) H ⟨rfl, rfl, rfl, rfl, trivial⟩ ⟨hn29, hS⟩ (Nat.lt_succ_self _)
      · replace hm := condF hm hc32
        refine wp_exit (then_exit (then_exit (block_exit ?_)))
        obtain rfl := Option.some.inj hm; have hz : _ = q29 := hn29; subst hz; replace hm := hm29; try dsimp only at hm
        refine then_normal (wp_seq (wp_seq (wp_region_lit (n_q H (q_fieldAddr0 rfl fo27_2) rfl (W_q (q_load rfl ((hS.blk 0 rfl).ld ag23 rfl)) rfl ?_))))); clear H a; intro a H
        obtain ⟨A60, c60, hv60, hl60, hm60⟩ := SlR.formV (hrp0_1.ext (Flat.mono _) hS.x)
        refine n_q H (q_lenV Tryd.underlying23 rfl hv60) rfl (W_q (q_fieldAddr0 rfl fo27_1) rfl (W_q (q_load rfl ((hS.blk 0 rfl).ld ag22 rfl)) rfl (W_q (q_lenV Tryd.underlying22 rfl hv26) rfl (W_q (q_neqN (i := a0.Homes.length) (j := a0.Parts.length) rfl rfl) rfl ?_)))); clear H a; intro a H
        refine n_nil (then_normal (c_cond H rfl (fun hc61 => ?_) (fun hc61 => ?_)))
        · replace hm := condT hm hc61
          refine wp_seq (wp_region_lit (n_q H (q_load rfl ((hG.ext hS.x).ld gSize (by decide) ag36)) rfl (W_q (q_assign rfl) rfl ?_))); clear H a; intro a H
          refine n_nil (then_normal (wp_ret (then_ret ?_)))
          obtain rfl := Option.some.inj hm
          replace hS := hS.dVar (A := A) (g := gSize) (by decide)
          replace hS := hS.take 1; simp only [List.take_succ_cons, List.take_zero] at hS
          refine ret1 H (.inr rfl) rfl rfl ?_
          exact ⟨_, rfl, hS⟩
        · replace hm := condF hm hc61
          refine wp_skip (then_normal (wp_seq (wp_seq (wp_region_lit (n_q H (q_fieldAddr0 rfl fo27_2) rfl (W_q (q_load rfl ((hS.blk 0 rfl).ld ag23 rfl)) rfl (W_q (q_lenV Tryd.underlying23 rfl hv60) rfl (W_q (q_move rfl) rfl ?_)))))))); clear H a; intro a H
          refine n_nil (then_normal (wp_block ?_))
          replace hS := hS.take 0; simp only [List.take_succ_cons, List.take_zero] at hS
          replace hm := bindS hm; obtain ⟨q63, hm, hm63⟩ := hm; replace hm := iter_some hm; obtain ⟨n63, hm⟩ := hm
          refine c_loop (σ := Nat × Nat) (fun (m, i64) => [(68, vp0_1), (69, .int .i64 ((a0.Homes.length : Nat) : Int)), (70, .int .i64 ((i64 : Nat) : Int))]) (fun (m, i64) wl => iterN (g_frame_checkParts_L1 a0) m i64 = some q63 ∧ St NB w wl []) (fun (m, i64) => m) (n63, 0) H ⟨rfl, rfl, rfl, trivial⟩ ⟨hm, hS⟩ ?_
          clear H hS hm a; intro xx a w65 H hR; obtain ⟨m, i64⟩ := xx; simp only [ent, List.map_cons, List.map_nil] at H; (try dsimp only at hR); obtain ⟨hm, hS⟩ := hR
          replace hm := iterN_step hm; obtain ⟨m63, o63, rfl, hm, hn63⟩ := hm; try dsimp only [g_frame_checkParts_L1] at hm
          refine wp_seq (wp_region_lit (n_q H (q_lssN (i := i64) (j := a0.Homes.length) rfl rfl) rfl ?_)); clear H a; intro a H
          refine n_nil (then_normal (wp_seq (c_cond H rfl (fun hc66 => ?_) (fun hc66 => ?_))))
          · replace hm := condT hm hc66
            have hlt67 : i64 < a0.Homes.length := of_decide_eq_true hc66
            refine wp_skip (then_normal (wp_seq (wp_block (wp_seq (wp_region_lit (n_q H (q_move rfl) rfl ?_)))))); clear H a; intro a H
            replace hm := bindS hm; obtain ⟨x68, hx68, hm⟩ := hm
            obtain ⟨adx68, hAx68⟩ := SlR.adV (hrp0_1.ext (Flat.mono _) hS.x) hv60 hx68
            refine n_q H (q_ixV (i := i64) Tryd.underlying23 sz3 rfl hv60 hAx68 rfl (natI hx68)) rfl (W_q (q_load rfl (SlR.ldOneV (hrp0_1.ext (Flat.mono _) hS.x) hv60 hAx68 ag3 hx68 rfl)) rfl (W_q (q_assign rfl) rfl (W_q (q_assign rfl) rfl ?_))); clear H a; intro a H
            refine n_nil (then_normal (wp_seq (wp_region_lit (n_c H (fun HC => ?_))))); clear H
            refine nc_q HC (q_move rfl) rfl (by kernel_rfl) (V_q (q_neqD rfl rfl) rfl (by kernel_rfl) (V_q (q_move rfl) rfl (by kernel_rfl) (V_g (q_move rfl) (by kernel_rfl) (by kernel_rfl) (by kernel_rfl) (V_g (q_neqD rfl rfl) (by kernel_rfl) (by kernel_rfl) (by kernel_rfl) (V_and (j := 2) rfl rfl rfl (by kernel_rfl) (by kernel_rfl) ?_))))); clear HC a; intro a HC
            have H := HC.has; clear HC
            refine n_nil (then_normal (c_cond H rfl (fun hc69 => ?_) (fun hc69 => ?_)))
            · replace hm := condT hm hc69
              refine wp_seq (wp_region_lit (n_q H (q_move rfl) rfl (W_q (q_load rfl ((hG.ext hS.x).ld gRange (by decide) ag36)) rfl ?_))); clear H a; intro a H
              replace hm := bindS hm; obtain ⟨r70, hr70, hm⟩ := hm
              refine n_call H rfl en131 (g_frame_at_w (A := A) (IsErr.var (by decide) : IsE A w65 _ (.v gRange)) hr70) rfl ?_
              clear H; intro u71 w73 hv; clear a; intro a H; obtain ⟨_, rfl, hE74⟩ := hv
              replace hS := hS.new hE74; simp only [List.cons_append, List.nil_append] at hS
              refine n_q H (q_assign rfl) rfl ?_; clear H a; intro a H
              refine n_nil (then_normal (wp_ret (block_ret (then_ret (then_ret (block_ret (then_ret ?_)))))))
              obtain rfl := Option.some.inj hm; have hz : _ = q63 := hn63; subst hz; replace hm := hm63; try dsimp only at hm
              obtain rfl := Option.some.inj hm
              refine ret1 H (.inr rfl) rfl rfl ?_
              exact ⟨_, rfl, hS⟩
            · replace hm := condF hm hc69
              refine wp_skip (block_normal (then_normal (wp_region_lit (n_q H (q_incr (i := i64) (j := 1) rfl rfl (by omega)) rfl (W_q (q_move rfl) rfl ?_))))); clear H a; intro a H
              refine n_nil (then_normal ?_)
              obtain rfl := Option.some.inj hm
              exact round (m63, i64 + 1) H ⟨rfl, rfl, rfl, trivial⟩ ⟨hn63, hS⟩ (Nat.lt_succ_self _)
          · replace hm := condF hm hc66
            refine wp_exit (then_exit (then_exit (block_exit ?_)))
            obtain rfl := Option.some.inj hm; have hz : _ = q63 := hn63; subst hz; replace hm := hm63; try dsimp only at hm
            refine then_normal (wp_seq (wp_region_lit (n_q H (q_assign rfl) rfl ?_))); clear H a; intro a H
            refine n_nil (then_normal (wp_ret ?_))
            obtain rfl := Option.some.inj hm
            replace hS := hS.dNil (A := A)
            refine ret1 H (.inr rfl) rfl rfl ?_
            exact ⟨_, rfl, hS⟩
theorem g_frame_there_w {w : World} {A : Nat → Addr} {cs0 : List Value} {a0 : GConfig} {a1 : Int} (h0 : RGConfig w cs0 a0) {r : Bool} (hm : g_frame_there a0 a1 = some r) :
    Calls Tryd.prog 133 [.agg cs0.toArray, .int .i64 a1].toArray w (Ret fun u w' => u = .bool r ∧ Ext w w') := by
  obtain ⟨vp0_0, vp0_1, vp0_2, vp0_3, rfl, hrp0_0, hrp0_1, hrp0_2, hrp0_3⟩ := h0
  have hS := St.begin NB w
  unfold g_frame_there at hm
  refine enter Tryd.func133 rfl rfl rfl ?_; intro a H; dsimp only [enumL, Nat.zero_add, Nat.reduceAdd] at H
  refine wp_seq (wp_region_lit (n_box H rfl (cs := [.int .i64 a0.Ticks, vp0_0, vp0_1, vp0_2, vp0_3, .int .i64 a0.Tries]) rfl rfl ?_))
  clear H; intro b21 w22 hN hE23 hs; clear a; intro a H
  replace hS := hS.newBlk hN hE23 hs; clear hN hs
  refine n_q H (q_assign rfl) rfl ?_; clear H a; intro a H
  refine n_nil (then_normal (wp_seq (wp_region_lit (n_c H (fun HC => ?_))))); clear H
  refine nc_q HC (q_move rfl) rfl (by kernel_rfl) (V_q (q_geq rfl rfl) rfl (by kernel_rfl) (V_q (q_move rfl) rfl (by kernel_rfl) (V_g (q_move rfl) (by kernel_rfl) (by kernel_rfl) (by kernel_rfl) (V_g (q_fieldAddr0 rfl fo27_1) (by kernel_rfl) (by kernel_rfl) (by kernel_rfl) (V_g (q_load rfl ((hS.blk 0 rfl).ld ag22 rfl)) (by kernel_rfl) (by kernel_rfl) (by kernel_rfl) ?_))))); clear HC a; intro a HC
  obtain ⟨A24, c24, hv24, hl24, hm24⟩ := SlR.formV (hrp0_0.ext RGPlan.mono hS.x)
  refine nc_g HC (q_lenV Tryd.underlying22 rfl hv24) (by kernel_rfl) (by kernel_rfl) (by kernel_rfl) (V_g (q_lss rfl rfl) (by kernel_rfl) (by kernel_rfl) (by kernel_rfl) (V_and (j := 2) rfl rfl rfl (by kernel_rfl) (by kernel_rfl) (V_q (q_assign rfl) rfl (by kernel_rfl) ?_))); clear HC a; intro a HC
  have H := HC.has; clear HC
  refine n_nil (then_normal (wp_ret ?_))
  obtain rfl := Option.some.inj hm
  replace hS := hS.take 0; simp only [List.take_succ_cons, List.take_zero] at hS
  refine ret1 H (.inr rfl) rfl rfl ?_
  exact ⟨rfl, hS.x⟩
theorem g_frame_owner_w {w : World} {A : Nat → Addr} {cs0 : List Value} {a0 : GConfig} {a1 : Int} (h0 : RGConfig w cs0 a0) {r : Bool} (hm : g_frame_owner a0 a1 = some r) :
    Calls Tryd.prog 72 [.agg cs0.toArray, .int .i64 a1].toArray w (Ret fun u w' => u = .bool r ∧ Ext w w') := by
  obtain ⟨vp0_0, vp0_1, vp0_2, vp0_3, rfl, hrp0_0, hrp0_1, hrp0_2, hrp0_3⟩ := h0
  have hS := St.begin NB w
  unfold g_frame_owner at hm
  refine enter Tryd.func72 rfl rfl rfl ?_; intro a H; dsimp only [enumL, Nat.zero_add, Nat.reduceAdd] at H
  refine wp_seq (wp_region_lit (n_box H rfl (cs := [.int .i64 a0.Ticks, vp0_0, vp0_1, vp0_2, vp0_3, .int .i64 a0.Tries]) rfl rfl ?_))
  clear H; intro b21 w22 hN hE23 hs; clear a; intro a H
  replace hS := hS.newBlk hN hE23 hs; clear hN hs
  refine n_q H (q_assign rfl) rfl ?_; clear H a; intro a H
  refine n_nil (then_normal (wp_seq (wp_region_lit (n_q H (q_move rfl) rfl (W_q (q_eqlD rfl rfl) rfl (W_q (q_move rfl) rfl ?_)))))); clear H a; intro a H
  rcases Bool.eq_false_or_eq_true (decide (a1 = (-1))) with hg24 | hg24
  · replace H := H.know 7 rfl hg24
    replace hm := condT hm hg24
    refine n_no H rfl rfl (by decide) rfl (W_no rfl rfl (by decide) rfl (W_no rfl rfl (by decide) rfl (W_q (q_pickT rfl rfl) rfl (W_q (q_assign rfl) rfl ?_)))); clear H a; intro a H
    refine n_nil (then_normal (wp_ret ?_))
    obtain rfl := Option.some.inj hm
    replace hS := hS.take 0; simp only [List.take_succ_cons, List.take_zero] at hS
    refine ret1 H (.inr rfl) rfl rfl ?_
    exact ⟨rfl, hS.x⟩
  · replace H := H.know 7 rfl hg24
    replace hm := condF hm hg24
    refine n_yes H rfl rfl (n_q H (q_load rfl ((hS.blk 0 rfl).ldAll ag27 sz27)) rfl (W_yes rfl rfl (W_q (q_move rfl) rfl (W_yes rfl rfl ?_)))); clear H a; intro a H
    replace hm := bindS hm; obtain ⟨r25, hr25, hm⟩ := hm
    refine n_call H rfl en133 (g_frame_there_w (A := A) (⟨_, _, _, _, rfl, (hrp0_0.ext RGPlan.mono hS.x), (hrp0_1.ext (Flat.mono _) hS.x), (hrp0_2.ext (Flat.mono _) hS.x), (hrp0_3.ext (Flat.mono _) hS.x)⟩ : RGConfig _ [.int .i64 a0.Ticks, vp0_0, vp0_1, vp0_2, vp0_3, .int .i64 a0.Tries] a0) hr25) rfl ?_
    clear H; intro x28 w26 hv; clear a; intro a H; obtain ⟨rfl, hE27⟩ := hv
    replace hS := hS.ext hE27
    refine n_q H (q_pickF rfl rfl) rfl (W_q (q_assign rfl) rfl ?_); clear H a; intro a H
    refine n_nil (then_normal (wp_ret ?_))
    obtain rfl := Option.some.inj hm
    replace hS := hS.take 0; simp only [List.take_succ_cons, List.take_zero] at hS
    refine ret1 H (.inr rfl) rfl rfl ?_
    exact ⟨rfl, hS.x⟩
theorem g_slices_IndexFunc_Window_w {w : World} {A : Nat → Addr} {v0 : Value} {a0 : List GWindow} {g1 : Nat} {fs1 : List Value} {cp1 : List Value} {a1 : GWindow → Option Bool} (h0 : SlR w 3 (Flat eGWindow) v0 a0) (he1 : entersB Tryd.prog g1 = true) (hf1 : ∀ w1, Ext w w1 → ∀ (x0 : GWindow) (r : Bool), a1 x0 = some r → Calls Tryd.prog g1 (fs1 ++ [Value.agg (eGWindow x0).toArray] ++ cp1).toArray w1 (Ret fun u w' => u = .bool r ∧ Ext w1 w')) {r : Int} (hm : g_slices_IndexFunc_Window a0 a1 = some r) :
    Calls Tryd.prog 192 [v0, .func (.func g1) fs1.toArray cp1.toArray].toArray w (Ret fun u w' => u = .int .i64 r ∧ Ext w w') := by
  have hS := St.begin NB w
  unfold g_slices_IndexFunc_Window at hm
  refine enter Tryd.func192 rfl rfl rfl ?_; intro a H; dsimp only [enumL, Nat.zero_add, Nat.reduceAdd] at H
  refine wp_seq (wp_region_lit (n_q H (q_assign rfl) rfl ?_)); clear H a; intro a H
  refine n_nil (then_normal (wp_seq (wp_seq (wp_region_lit (n_q H (q_move rfl) rfl ?_))))); clear H a; intro a H
  obtain ⟨A21, c21, hv21, hl21, hm21⟩ := SlR.formV (h0.ext (Flat.mono _) hS.x)
  refine n_q H (q_lenV Tryd.underlying24 rfl hv21) rfl (W_q (q_move rfl) rfl ?_); clear H a; intro a H
  refine n_nil (then_normal (wp_block ?_))
  replace hm := bindS hm; obtain ⟨q22, hm, hm22⟩ := hm; replace hm := iter_some hm; obtain ⟨n22, hm⟩ := hm
  refine c_loop (σ := Nat × Nat) (fun (m, i23) => [(0, v0), (1, .func (.func g1) fs1.toArray cp1.toArray), (7, .int .i64 ((a0.length : Nat) : Int)), (8, .int .i64 ((i23 : Nat) : Int))]) (fun (m, i23) wl => iterN (g_slices_IndexFunc_Window_L1 a0 a1) m i23 = some q22 ∧ St NB w wl []) (fun (m, i23) => m) (n22, 0) H ⟨rfl, rfl, rfl, rfl, trivial⟩ ⟨hm, hS⟩ ?_
  clear H hS hm a; intro xx a w24 H hR; obtain ⟨m, i23⟩ := xx; simp only [ent, List.map_cons, List.map_nil] at H; (try dsimp only at hR); obtain ⟨hm, hS⟩ := hR
  replace hm := iterN_step hm; obtain ⟨m22, o22, rfl, hm, hn22⟩ := hm; try dsimp only [g_slices_IndexFunc_Window_L1] at hm
  refine wp_seq (wp_region_lit (n_q H (q_lssN (i := i23) (j := a0.length) rfl rfl) rfl ?_)); clear H a; intro a H
  refine n_nil (then_normal (wp_seq (c_cond H rfl (fun hc25 => ?_) (fun hc25 => ?_))))
  · replace hm := condT hm hc25
    have hlt26 : i23 < a0.length := of_decide_eq_true hc25
    refine wp_skip (then_normal (wp_seq (wp_block (wp_seq (wp_region_lit (n_q H (q_move rfl) rfl (W_q (q_assign rfl) rfl ?_))))))); clear H a; intro a H
    refine n_nil (then_normal (wp_seq (wp_region_lit (n_q H (q_move rfl) rfl (W_q (q_move rfl) rfl (W_q (q_move rfl) rfl ?_)))))); clear H a; intro a H
    replace hm := bindS hm; obtain ⟨x27, hx27, hm⟩ := hm
    obtain ⟨adx27, hAx27⟩ := SlR.adV (h0.ext (Flat.mono _) hS.x) hv21 hx27
    refine n_q H (q_ixV (i := i23) Tryd.underlying24 sz105 rfl hv21 hAx27 rfl (natI hx27)) rfl (W_q (q_load rfl (SlR.ldAggV (h0.ext (Flat.mono _) hS.x) hv21 hAx27 ag105 sz105 hx27)) rfl ?_); clear H a; intro a H
    replace hm := bindS hm; obtain ⟨r28, hr28, hm⟩ := hm
    refine n_callv H rfl rfl he1 (hf1 _ hS.x x27 _ hr28) rfl ?_
    clear H; intro x31 w29 hv; clear a; intro a H; obtain ⟨rfl, hE30⟩ := hv
    replace hS := hS.ext hE30
    refine n_nil (then_normal (c_cond H rfl (fun hc32 => ?_) (fun hc32 => ?_)))
    · replace hm := condT hm hc32
      refine wp_seq (wp_region_lit (n_q H (q_move rfl) rfl (W_q (q_assign rfl) rfl ?_))); clear H a; intro a H
      refine n_nil (then_normal (wp_ret (block_ret (then_ret (then_ret (block_ret (then_ret ?_)))))))
      obtain rfl := Option.some.inj hm; have hz : _ = q22 := hn22; subst hz; replace hm := hm22; try dsimp only at hm
      obtain rfl := Option.some.inj hm
      refine ret1 H (.inr rfl) rfl rfl ?_
      exact ⟨rfl, hS.x⟩
    · replace hm := condF hm hc32
      refine wp_skip (block_normal (then_normal (wp_region_lit (n_q H (q_incr (i := i23) (j := 1) rfl rfl (by omega)) rfl (W_q (q_move rfl) rfl ?_))))); clear H a; intro a H
      refine n_nil (then_normal ?_)
      obtain rfl := Option.some.inj hm
      exact round (m22, i23 + 1) H ⟨rfl, rfl, rfl, rfl, trivial⟩ ⟨hn22, hS⟩ (Nat.lt_succ_self _)
  · replace hm := condF hm hc25
    refine wp_exit (then_exit (then_exit (block_exit ?_)))
    obtain rfl := Option.some.inj hm; have hz : _ = q22 := hn22; subst hz; replace hm := hm22; try dsimp only at hm
    refine then_normal (wp_seq (wp_region_lit (n_q H (q_assign rfl) rfl ?_))); clear H a; intro a H
    refine n_nil (then_normal (wp_ret ?_))
    obtain rfl := Option.some.inj hm
    refine ret1 H (.inr rfl) rfl rfl ?_
    exact ⟨rfl, hS.x⟩
theorem g_slices_ContainsFunc_Window_w {w : World} {A : Nat → Addr} {v0 : Value} {a0 : List GWindow} {g1 : Nat} {fs1 : List Value} {cp1 : List Value} {a1 : GWindow → Option Bool} (h0 : SlR w 3 (Flat eGWindow) v0 a0) (he1 : entersB Tryd.prog g1 = true) (hf1 : ∀ w1, Ext w w1 → ∀ (x0 : GWindow) (r : Bool), a1 x0 = some r → Calls Tryd.prog g1 (fs1 ++ [Value.agg (eGWindow x0).toArray] ++ cp1).toArray w1 (Ret fun u w' => u = .bool r ∧ Ext w1 w')) {r : Bool} (hm : g_slices_ContainsFunc_Window a0 a1 = some r) :
    Calls Tryd.prog 174 [v0, .func (.func g1) fs1.toArray cp1.toArray].toArray w (Ret fun u w' => u = .bool r ∧ Ext w w') := by
  have hS := St.begin NB w
  unfold g_slices_ContainsFunc_Window at hm
  refine enter Tryd.func174 rfl rfl rfl ?_; intro a H; dsimp only [enumL, Nat.zero_add, Nat.reduceAdd] at H
  refine wp_seq (wp_region_lit (n_q H (q_assign rfl) rfl ?_)); clear H a; intro a H
  refine n_nil (then_normal (wp_seq (wp_region_lit (n_q H (q_move rfl) rfl (W_q (q_move rfl) rfl ?_))))); clear H a; intro a H
  replace hm := bindS hm; obtain ⟨r21, hr21, hm⟩ := hm
  refine n_call H rfl en192 (g_slices_IndexFunc_Window_w (A := A) (h0.ext (Flat.mono _) hS.x) (g1 := g1) (fs1 := fs1) (cp1 := cp1) (a1 := a1) he1 (fun w1 e1 => hf1 w1 (Ext.trans' hS.x e1)) hr21) rfl ?_
  clear H; intro x24 w22 hv; clear a; intro a H; obtain ⟨rfl, hE23⟩ := hv
  replace hS := hS.ext hE23
  refine n_q H (q_geq rfl rfl) rfl (W_q (q_assign rfl) rfl ?_); clear H a; intro a H
  refine n_nil (then_normal (wp_ret ?_))
  obtain rfl := Option.some.inj hm
  refine ret1 H (.inr rfl) rfl rfl ?_
  exact ⟨rfl, hS.x⟩
theorem g_frame_has_1_w {w : World} {A : Nat → Addr} {a0 : GWindow} {b1 : Nat} {a1 : Int} (hb1 : Blk w b1 [.int .i64 a1] 3) {r : Bool} (hm : g_frame_has_1 a0 a1 = some r) :
    Calls Tryd.prog 175 [.agg (eGWindow a0).toArray, .pointer (some ⟨b1, 0, none⟩)].toArray w (Ret fun u w' => u = .bool r ∧ Ext w w') := by
  have hS := St.begin NB w
  unfold g_frame_has_1 at hm
  refine enter Tryd.func175 rfl rfl rfl ?_; intro a H; dsimp only [enumL, Nat.zero_add, Nat.reduceAdd] at H
  refine wp_seq (wp_region_lit (n_box H rfl (cs := [.int .i64 a0.Part, .int .i64 a0.Start, .int .i64 a0.Len]) rfl rfl ?_))
  clear H; intro b21 w22 hN hE23 hs; clear a; intro a H
  replace hS := hS.newBlk hN hE23 hs; clear hN hs
  refine n_q H (q_assign rfl) rfl ?_; clear H a; intro a H
  refine n_nil (then_normal (wp_seq (wp_region_lit (n_q H (q_fieldAddr0 rfl fo105_0) rfl (W_q (q_load rfl ((hS.blk 0 rfl).ld ag3 rfl)) rfl (W_q (q_load rfl ((hb1.ext hS.x).ld ag3 rfl)) rfl (W_q (q_eqlD rfl rfl) rfl (W_q (q_assign rfl) rfl ?_)))))))); clear H a; intro a H
  refine n_nil (then_normal (wp_ret ?_))
  obtain rfl := Option.some.inj hm
  replace hS := hS.take 0; simp only [List.take_succ_cons, List.take_zero] at hS
  refine ret1 H (.inr rfl) rfl rfl ?_
  exact ⟨rfl, hS.x⟩
theorem g_frame_has_w {w : World} {A : Nat → Addr} {cs0 : List Value} {a0 : GConfig} {a1 : Int} (h0 : RGConfig w cs0 a0) {r : Bool} (hm : g_frame_has a0 a1 = some r) :
    Calls Tryd.prog 132 [.agg cs0.toArray, .int .i64 a1].toArray w (Ret fun u w' => u = .bool r ∧ Ext w w') := by
  obtain ⟨vp0_0, vp0_1, vp0_2, vp0_3, rfl, hrp0_0, hrp0_1, hrp0_2, hrp0_3⟩ := h0
  have hS := St.begin NB w
  unfold g_frame_has at hm
  refine enter Tryd.func132 rfl rfl rfl ?_; intro a H; dsimp only [enumL, Nat.zero_add, Nat.reduceAdd] at H
  refine wp_seq (wp_region_lit (n_box H rfl (cs := [.int .i64 a0.Ticks, vp0_0, vp0_1, vp0_2, vp0_3, .int .i64 a0.Tries]) rfl rfl ?_))
  clear H; intro b21 w22 hN hE23 hs; clear a; intro a H
  replace hS := hS.newBlk hN hE23 hs; clear hN hs
  refine n_box H rfl (cs := [.int .i64 a1]) rfl rfl ?_
  clear H; intro b24 w25 hN hE26 hs; clear a; intro a H
  replace hS := hS.newBlk hN hE26 hs; clear hN hs
  refine n_q H (q_assign rfl) rfl ?_; clear H a; intro a H
  refine n_nil (then_normal (wp_seq (wp_region_lit (n_q H (q_fieldAddr0 rfl fo27_3) rfl (W_q (q_load rfl ((hS.blk 1 rfl).ld ag24 rfl)) rfl (W_q (q_makeFunc (f := []) (c := [.pointer (some ⟨b24, 0, none⟩)]) rfl rfl) rfl ?_)))))); clear H a; intro a H
  replace hm := bindS hm; obtain ⟨r27, hr27, hm⟩ := hm
  refine n_call H rfl en174 (g_slices_ContainsFunc_Window_w (A := A) (hrp0_2.ext (Flat.mono _) hS.x) (g1 := 175) (fs1 := []) (cp1 := [.pointer (some ⟨b24, 0, none⟩)]) (a1 := (fun x0 => g_frame_has_1 x0 a1)) en175 (fun w1 e1 x0 r hr => g_frame_has_1_w (A := A) ((hS.blk 0 rfl).ext e1) hr) hr27) rfl ?_
  clear H; intro x30 w28 hv; clear a; intro a H; obtain ⟨rfl, hE29⟩ := hv
  replace hS := hS.ext hE29
  refine n_q H (q_assign rfl) rfl ?_; clear H a; intro a H
  refine n_nil (then_normal (wp_ret ?_))
  obtain rfl := Option.some.inj hm
  replace hS := hS.take 0; simp only [List.take_succ_cons, List.take_zero] at hS
  refine ret1 H (.inr rfl) rfl rfl ?_
  exact ⟨rfl, hS.x⟩
theorem g_frame_checkWindows_w {w : World} {A : Nat → Addr} {cs0 : List Value} {a0 : GConfig} (hG : EV A w) (h0 : RGConfig w cs0 a0) {r : ErrM} (hm : g_frame_checkWindows a0 = some r) :
    Calls Tryd.prog 69 [.agg cs0.toArray].toArray w (Ret fun u w' => ∃ h_0, u = h_0 ∧ St NB w w' [erQ A h_0 r]) := by
  obtain ⟨vp0_0, vp0_1, vp0_2, vp0_3, rfl, hrp0_0, hrp0_1, hrp0_2, hrp0_3⟩ := h0
  have hS := St.begin NB w
  unfold g_frame_checkWindows at hm
  refine enter Tryd.func69 rfl rfl rfl ?_; intro a H; dsimp only [enumL, Nat.zero_add, Nat.reduceAdd] at H
  refine wp_seq (wp_region_lit (n_box H rfl (cs := [.int .i64 a0.Ticks, vp0_0, vp0_1, vp0_2, vp0_3, .int .i64 a0.Tries]) rfl rfl ?_))
  clear H; intro b21 w22 hN hE23 hs; clear a; intro a H
  replace hS := hS.newBlk hN hE23 hs; clear hN hs
  refine n_q H (q_assign rfl) rfl ?_; clear H a; intro a H
  refine n_nil (then_normal (wp_seq (wp_seq (wp_region_lit (n_q H (q_fieldAddr0 rfl fo27_3) rfl (W_q (q_load rfl ((hS.blk 0 rfl).ld ag24 rfl)) rfl ?_)))))); clear H a; intro a H
  obtain ⟨A24, c24, hv24, hl24, hm24⟩ := SlR.formV (hrp0_2.ext (Flat.mono _) hS.x)
  refine n_q H (q_lenV Tryd.underlying24 rfl hv24) rfl (W_q (q_gtrN (i := a0.Windows.length) (j := 32) rfl rfl) rfl ?_); clear H a; intro a H
  refine n_nil (then_normal (c_cond H rfl (fun hc25 => ?_) (fun hc25 => ?_)))
  · replace hm := condT hm hc25
    refine wp_seq (wp_region_lit (n_q H (q_load rfl ((hG.ext hS.x).ld gSize (by decide) ag36)) rfl (W_q (q_assign rfl) rfl ?_))); clear H a; intro a H
    refine n_nil (then_normal (wp_ret (then_ret ?_)))
    obtain rfl := Option.some.inj hm
    replace hS := hS.dVar (A := A) (g := gSize) (by decide)
    replace hS := hS.take 1; simp only [List.take_succ_cons, List.take_zero] at hS
    refine ret1 H (.inr rfl) rfl rfl ?_
    exact ⟨_, rfl, hS⟩
  · replace hm := condF hm hc25
    refine wp_skip (then_normal (wp_seq (wp_region_lit (n_q H (q_assign rfl) rfl ?_)))); clear H a; intro a H
    refine n_nil (then_normal (wp_seq (wp_seq (wp_region_lit (n_q H (q_fieldAddr0 rfl fo27_3) rfl (W_q (q_load rfl ((hS.blk 0 rfl).ld ag24 rfl)) rfl (W_q (q_lenV Tryd.underlying24 rfl hv24) rfl (W_q (q_move rfl) rfl ?_)))))))); clear H a; intro a H
    refine n_nil (then_normal (wp_block ?_))
    replace hm := bindS hm; obtain ⟨q27, hm, hm27⟩ := hm; replace hm := iter_some hm; obtain ⟨n27, hm⟩ := hm
    refine c_loop (σ := Nat × Int × Nat) (fun (m, z30, i29) => [(1, .pointer (some ⟨b21, 0, none⟩)), (3, .int .i64 z30), (13, vp0_2), (14, .int .i64 ((a0.Windows.length : Nat) : Int)), (15, .int .i64 ((i29 : Nat) : Int))]) (fun (m, z30, i29) wl => iterN (g_frame_checkWindows_L2 a0) m (z30, i29) = some q27 ∧ St NB w wl [blkR b21 [.int .i64 a0.Ticks, vp0_0, vp0_1, vp0_2, vp0_3, .int .i64 a0.Tries] 27]) (fun (m, z30, i29) => m) (n27, 0, 0) H ⟨rfl, rfl, rfl, rfl, rfl, trivial⟩ ⟨hm, hS⟩ ?_
    clear H hS hm a; intro xx a w31 H hR; obtain ⟨m, z30, i29⟩ := xx; simp only [ent, List.map_cons, List.map_nil] at H; (try dsimp only at hR); obtain ⟨hm, hS⟩ := hR
    replace hm := iterN_step hm; obtain ⟨m27, o27, rfl, hm, hn27⟩ := hm; try dsimp only [g_frame_checkWindows_L2] at hm
    refine wp_seq (wp_region_lit (n_q H (q_lssN (i := i29) (j := a0.Windows.length) rfl rfl) rfl ?_)); clear H a; intro a H
    refine n_nil (then_normal (wp_seq (c_cond H rfl (fun hc32 => ?_) (fun hc32 => ?_))))
    · replace hm := condT hm hc32
      have hlt33 : i29 < a0.Windows.length := of_decide_eq_true hc32
      refine wp_skip (then_normal (wp_seq (wp_block (wp_seq (wp_region_lit (n_q H (q_move rfl) rfl ?_)))))); clear H a; intro a H
      replace hm := bindS hm; obtain ⟨x34, hx34, hm⟩ := hm
      obtain ⟨adx34, hAx34⟩ := SlR.adV (hrp0_2.ext (Flat.mono _) hS.x) hv24 hx34
      refine n_q H (q_ixV (i := i29) Tryd.underlying24 sz105 rfl hv24 hAx34 rfl (natI hx34)) rfl (W_q (q_load rfl (SlR.ldAggV (hrp0_2.ext (Flat.mono _) hS.x) hv24 hAx34 ag105 sz105 hx34)) rfl ?_); clear H a; intro a H
      refine n_alloc H ze105 rfl ?_
      clear H; intro b35 w36 hN hE37 hs; clear a; intro a H
      replace hS := hS.newBlk hN hE37 hs; clear hN hs
      refine n_q H (q_assign rfl) rfl ?_; clear H a; intro a H
      refine n_storeAll H rfl rfl (vs := [.int .i64 x34.Part, .int .i64 x34.Start, .int .i64 x34.Len]) rfl sz105 (hS.blk 0 rfl) rfl (by simp) ?_
      clear H; intro w38 hN hC39 hz; clear a; intro a H; replace hS := hS.setBlk hN hC39; clear hN hz
      refine n_nil (then_normal (wp_seq (wp_block (wp_seq (wp_region_lit (n_q H (q_load rfl ((hS.blk 1 rfl).ldAll ag27 sz27)) rfl (W_q (q_fieldAddr0 rfl fo105_0) rfl (W_q (q_load rfl ((hS.blk 0 rfl).ld ag3 rfl)) rfl ?_)))))))); clear H a; intro a H
      replace hm := bindS hm; obtain ⟨r40, hr40, hm⟩ := hm
      refine n_call H rfl en72 (g_frame_owner_w (A := A) (⟨_, _, _, _, rfl, (hrp0_0.ext RGPlan.mono hS.x), (hrp0_1.ext (Flat.mono _) hS.x), (hrp0_2.ext (Flat.mono _) hS.x), (hrp0_3.ext (Flat.mono _) hS.x)⟩ : RGConfig _ [.int .i64 a0.Ticks, vp0_0, vp0_1, vp0_2, vp0_3, .int .i64 a0.Tries] a0) hr40) rfl ?_
      clear H; intro x43 w41 hv; clear a; intro a H; obtain ⟨rfl, hE42⟩ := hv
      replace hS := hS.ext hE42
      refine n_q H (q_not rfl) rfl (W_q (q_assign rfl) rfl ?_); clear H a; intro a H
      refine n_nil (then_normal (c_cond H rfl (fun hc44 => ?_) (fun hc44 => ?_)))
      · replace hm := condT hm hc44
        refine wp_seq (wp_region_lit (n_q H (q_move rfl) rfl (W_q (q_load rfl ((hG.ext hS.x).ld gArg (by decide) ag36)) rfl ?_))); clear H a; intro a H
        replace hm := bindS hm; obtain ⟨r45, hr45, hm⟩ := hm
        refine n_call H rfl en131 (g_frame_at_w (A := A) (IsErr.var (by decide) : IsE A w41 _ (.v gArg)) hr45) rfl ?_
        clear H; intro u46 w48 hv; clear a; intro a H; obtain ⟨_, rfl, hE49⟩ := hv
        replace hS := hS.new hE49; simp only [List.cons_append, List.nil_append] at hS
        refine n_q H (q_assign rfl) rfl ?_; clear H a; intro a H
        refine n_nil (then_normal (wp_ret (block_ret (then_ret (block_ret (then_ret (then_ret (block_ret (then_ret ?_)))))))))
        obtain rfl := Option.some.inj hm; have hz : _ = q27 := hn27; subst hz; replace hm := hm27; try dsimp only at hm
        obtain rfl := Option.some.inj hm
        replace hS := hS.take 1; simp only [List.take_succ_cons, List.take_zero] at hS
        refine ret1 H (.inr rfl) rfl rfl ?_
        exact ⟨_, rfl, hS⟩
      · replace hm := condF hm hc44
        refine wp_seq (wp_region_lit (n_c H (fun HC => ?_))); clear H
        refine nc_q HC (q_fieldAddr0 rfl fo105_1) rfl (by kernel_rfl) (V_q (q_load rfl ((hS.blk 0 rfl).ld ag3 rfl)) rfl (by kernel_rfl) (V_q (q_lss rfl rfl) rfl (by kernel_rfl) (V_q (q_move rfl) rfl (by kernel_rfl) (V_g (q_fieldAddr0 rfl fo105_2) (by kernel_rfl) (by kernel_rfl) (by kernel_rfl) (V_g (q_load rfl ((hS.blk 0 rfl).ld ag3 rfl)) (by kernel_rfl) (by kernel_rfl) (by kernel_rfl) (V_g (q_lss rfl rfl) (by kernel_rfl) (by kernel_rfl) (by kernel_rfl) (V_or (j := 3) rfl rfl rfl (by kernel_rfl) (by kernel_rfl) (V_q (q_move rfl) rfl (by kernel_rfl) (V_g (q_fieldAddr0 rfl fo105_1) (by kernel_rfl) (by kernel_rfl) (by kernel_rfl) (V_g (q_load rfl ((hS.blk 0 rfl).ld ag3 rfl)) (by kernel_rfl) (by kernel_rfl) (by kernel_rfl) (V_g (q_fieldAddr0 rfl fo27_0) (by kernel_rfl) (by kernel_rfl) (by kernel_rfl) ?_))))))))))); clear HC a; intro a HC
        refine nc_g HC (q_load rfl ((hS.blk 1 rfl).ld ag3 rfl)) (by kernel_rfl) (by kernel_rfl) (by kernel_rfl) (V_g (q_geq rfl rfl) (by kernel_rfl) (by kernel_rfl) (by kernel_rfl) (V_or (j := 8) rfl rfl rfl (by kernel_rfl) (by kernel_rfl) (V_q (q_move rfl) rfl (by kernel_rfl) (V_g (q_fieldAddr0 rfl fo105_2) (by kernel_rfl) (by kernel_rfl) (by kernel_rfl) (V_g (q_load rfl ((hS.blk 0 rfl).ld ag3 rfl)) (by kernel_rfl) (by kernel_rfl) (by kernel_rfl) (V_g (q_fieldAddr0 rfl fo27_0) (by kernel_rfl) (by kernel_rfl) (by kernel_rfl) (V_g (q_load rfl ((hS.blk 1 rfl).ld ag3 rfl)) (by kernel_rfl) (by kernel_rfl) (by kernel_rfl) (V_g (q_fieldAddr0 rfl fo105_1) (by kernel_rfl) (by kernel_rfl) (by kernel_rfl) (V_g (q_load rfl ((hS.blk 0 rfl).ld ag3 rfl)) (by kernel_rfl) (by kernel_rfl) (by kernel_rfl) (V_g (q_subW rfl rfl) (by kernel_rfl) (by kernel_rfl) (by kernel_rfl) (V_g (q_gtr rfl rfl) (by kernel_rfl) (by kernel_rfl) (by kernel_rfl) ?_))))))))))); clear HC a; intro a HC
        refine nc_or (j := 15) HC rfl rfl rfl (by kernel_rfl) (by kernel_rfl) (V_q (q_assign rfl) rfl (by kernel_rfl) ?_); clear HC a; intro a HC
        have H := HC.has; clear HC
        refine n_nil (then_normal (c_cond H rfl (fun hc51 => ?_) (fun hc51 => ?_)))
        · replace hm := condT hm hc51
          refine wp_seq (wp_region_lit (n_q H (q_move rfl) rfl (W_q (q_load rfl ((hG.ext hS.x).ld gRange (by decide) ag36)) rfl ?_))); clear H a; intro a H
          replace hm := bindS hm; obtain ⟨r52, hr52, hm⟩ := hm
          refine n_call H rfl en131 (g_frame_at_w (A := A) (IsErr.var (by decide) : IsE A w41 _ (.v gRange)) hr52) rfl ?_
          clear H; intro u53 w55 hv; clear a; intro a H; obtain ⟨_, rfl, hE56⟩ := hv
          replace hS := hS.new hE56; simp only [List.cons_append, List.nil_append] at hS
          refine n_q H (q_assign rfl) rfl ?_; clear H a; intro a H
          refine n_nil (then_normal (wp_ret (block_ret (then_ret (block_ret (then_ret (then_ret (block_ret (then_ret ?_)))))))))
          obtain rfl := Option.some.inj hm; have hz : _ = q27 := hn27; subst hz; replace hm := hm27; try dsimp only at hm
          obtain rfl := Option.some.inj hm
          replace hS := hS.take 1; simp only [List.take_succ_cons, List.take_zero] at hS
          refine ret1 H (.inr rfl) rfl rfl ?_
          exact ⟨_, rfl, hS⟩
        · replace hm := condF hm hc51
          refine wp_seq (wp_region_lit (n_q H (q_fieldAddr0 rfl fo105_1) rfl (W_q (q_load rfl ((hS.blk 0 rfl).ld ag3 rfl)) rfl (W_q (q_move rfl) rfl (W_q (q_lss rfl rfl) rfl (W_q (q_assign rfl) rfl ?_)))))); clear H a; intro a H
          refine n_nil (then_normal (c_cond H rfl (fun hc58 => ?_) (fun hc58 => ?_)))
          · replace hm := condT hm hc58
            refine wp_seq (wp_region_lit (n_q H (q_move rfl) rfl (W_q (q_load rfl ((hG.ext hS.x).ld gBusy (by decide) ag36)) rfl ?_))); clear H a; intro a H
            replace hm := bindS hm; obtain ⟨r59, hr59, hm⟩ := hm
            refine n_call H rfl en131 (g_frame_at_w (A := A) (IsErr.var (by decide) : IsE A w41 _ (.v gBusy)) hr59) rfl ?_
            clear H; intro u60 w62 hv; clear a; intro a H; obtain ⟨_, rfl, hE63⟩ := hv
            replace hS := hS.new hE63; simp only [List.cons_append, List.nil_append] at hS
            refine n_q H (q_assign rfl) rfl ?_; clear H a; intro a H
            refine n_nil (then_normal (wp_ret (block_ret (then_ret (block_ret (then_ret (then_ret (block_ret (then_ret ?_)))))))))
            obtain rfl := Option.some.inj hm; have hz : _ = q27 := hn27; subst hz; replace hm := hm27; try dsimp only at hm
            obtain rfl := Option.some.inj hm
            replace hS := hS.take 1; simp only [List.take_succ_cons, List.take_zero] at hS
            refine ret1 H (.inr rfl) rfl rfl ?_
            exact ⟨_, rfl, hS⟩
          · replace hm := condF hm hc58
            refine wp_skip (block_normal (then_normal (wp_region_lit (n_q H (q_fieldAddr0 rfl fo105_1) rfl (W_q (q_load rfl ((hS.blk 0 rfl).ld ag3 rfl)) rfl (W_q (q_fieldAddr0 rfl fo105_2) rfl (W_q (q_load rfl ((hS.blk 0 rfl).ld ag3 rfl)) rfl (W_q (q_addW rfl rfl) rfl (W_q (q_assign rfl) rfl ?_))))))))); clear H a; intro a H
            refine n_nil (block_normal (then_normal (wp_region_lit (n_q H (q_incr (i := i29) (j := 1) rfl rfl (by omega)) rfl (W_q (q_move rfl) rfl ?_))))); clear H a; intro a H
            refine n_nil (then_normal ?_)
            obtain rfl := Option.some.inj hm
            replace hS := hS.pick 1 rfl; dsimp only [List.eraseIdx] at hS
            replace hS := hS.take 1; simp only [List.take_succ_cons, List.take_zero] at hS
            exact round (m27, (IntKind.i64.wrap (x34.Start + x34.Len)), i29 + 1) H ⟨rfl, rfl, rfl, rfl, rfl, trivial⟩ ⟨hn27, hS⟩ (Nat.lt_succ_self _)
    · replace hm := condF hm hc32
      refine wp_exit (then_exit (then_exit (block_exit ?_)))
      obtain rfl := Option.some.inj hm; have hz : _ = q27 := hn27; subst hz; replace hm := hm27; try dsimp only at hm
      refine then_normal (wp_seq (wp_seq (wp_region_lit (n_q H (q_fieldAddr0 rfl fo27_1) rfl (W_q (q_load rfl ((hS.blk 0 rfl).ld ag22 rfl)) rfl ?_))))); clear H a; intro a H
      obtain ⟨A65, c65, hv65, hl65, hm65⟩ := SlR.formV (hrp0_0.ext RGPlan.mono hS.x)
      refine n_q H (q_lenV Tryd.underlying22 rfl hv65) rfl (W_q (q_move rfl) rfl ?_); clear H a; intro a H
      refine n_nil (then_normal (wp_block ?_))
      replace hm := bindS hm; obtain ⟨q66, hm, hm66⟩ := hm; replace hm := iter_some hm; obtain ⟨n66, hm⟩ := hm
      refine c_loop (σ := Nat × Nat) (fun (m, i67) => [(1, .pointer (some ⟨b21, 0, none⟩)), (74, .int .i64 ((a0.Parts.length : Nat) : Int)), (75, .int .i64 ((i67 : Nat) : Int))]) (fun (m, i67) wl => iterN (g_frame_checkWindows_L1 a0) m i67 = some q66 ∧ St NB w wl [blkR b21 [.int .i64 a0.Ticks, vp0_0, vp0_1, vp0_2, vp0_3, .int .i64 a0.Tries] 27]) (fun (m, i67) => m) (n66, 0) H ⟨rfl, rfl, rfl, trivial⟩ ⟨hm, hS⟩ ?_
      clear H hS hm a; intro xx a w68 H hR; obtain ⟨m, i67⟩ := xx; simp only [ent, List.map_cons, List.map_nil] at H; (try dsimp only at hR); obtain ⟨hm, hS⟩ := hR
      replace hm := iterN_step hm; obtain ⟨m66, o66, rfl, hm, hn66⟩ := hm; try dsimp only [g_frame_checkWindows_L1] at hm
      refine wp_seq (wp_region_lit (n_q H (q_lssN (i := i67) (j := a0.Parts.length) rfl rfl) rfl ?_)); clear H a; intro a H
      refine n_nil (then_normal (wp_seq (c_cond H rfl (fun hc69 => ?_) (fun hc69 => ?_))))
      · replace hm := condT hm hc69
        have hlt70 : i67 < a0.Parts.length := of_decide_eq_true hc69
        refine wp_skip (then_normal (wp_seq (wp_block (wp_seq (wp_region_lit (n_q H (q_move rfl) rfl (W_q (q_assign rfl) rfl ?_))))))); clear H a; intro a H
        refine n_nil (then_normal (wp_seq (wp_region_lit (n_q H (q_load rfl ((hS.blk 0 rfl).ldAll ag27 sz27)) rfl (W_q (q_move rfl) rfl ?_))))); clear H a; intro a H
        replace hm := bindS hm; obtain ⟨r71, hr71, hm⟩ := hm
        refine n_call H rfl en132 (g_frame_has_w (A := A) (⟨_, _, _, _, rfl, (hrp0_0.ext RGPlan.mono hS.x), (hrp0_1.ext (Flat.mono _) hS.x), (hrp0_2.ext (Flat.mono _) hS.x), (hrp0_3.ext (Flat.mono _) hS.x)⟩ : RGConfig _ [.int .i64 a0.Ticks, vp0_0, vp0_1, vp0_2, vp0_3, .int .i64 a0.Tries] a0) hr71) rfl ?_
        clear H; intro x74 w72 hv; clear a; intro a H; obtain ⟨rfl, hE73⟩ := hv
        replace hS := hS.ext hE73
        refine n_q H (q_not rfl) rfl ?_; clear H a; intro a H
        refine n_nil (then_normal (c_cond H rfl (fun hc75 => ?_) (fun hc75 => ?_)))
        · replace hm := condT hm hc75
          refine wp_seq (wp_region_lit (n_q H (q_move rfl) rfl (W_q (q_load rfl ((hG.ext hS.x).ld gNone (by decide) ag36)) rfl ?_))); clear H a; intro a H
          replace hm := bindS hm; obtain ⟨r76, hr76, hm⟩ := hm
          refine n_call H rfl en131 (g_frame_at_w (A := A) (IsErr.var (by decide) : IsE A w72 _ (.v gNone)) hr76) rfl ?_
          clear H; intro u77 w79 hv; clear a; intro a H; obtain ⟨_, rfl, hE80⟩ := hv
          replace hS := hS.new hE80; simp only [List.cons_append, List.nil_append] at hS
          refine n_q H (q_assign rfl) rfl ?_; clear H a; intro a H
          refine n_nil (then_normal (wp_ret (block_ret (then_ret (then_ret (block_ret (then_ret ?_)))))))
          obtain rfl := Option.some.inj hm; have hz : _ = q66 := hn66; subst hz; replace hm := hm66; try dsimp only at hm
          obtain rfl := Option.some.inj hm
          replace hS := hS.take 1; simp only [List.take_succ_cons, List.take_zero] at hS
          refine ret1 H (.inr rfl) rfl rfl ?_
          exact ⟨_, rfl, hS⟩
        · replace hm := condF hm hc75
          refine wp_skip (block_normal (then_normal (wp_region_lit (n_q H (q_incr (i := i67) (j := 1) rfl rfl (by omega)) rfl (W_q (q_move rfl) rfl ?_))))); clear H a; intro a H
          refine n_nil (then_normal ?_)
          obtain rfl := Option.some.inj hm
          exact round (m66, i67 + 1) H ⟨rfl, rfl, rfl, trivial⟩ ⟨hn66, hS⟩ (Nat.lt_succ_self _)
      · replace hm := condF hm hc69
        refine wp_exit (then_exit (then_exit (block_exit ?_)))
        obtain rfl := Option.some.inj hm; have hz : _ = q66 := hn66; subst hz; replace hm := hm66; try dsimp only at hm
        refine then_normal (wp_seq (wp_region_lit (n_q H (q_assign rfl) rfl ?_))); clear H a; intro a H
        refine n_nil (then_normal (wp_ret ?_))
        obtain rfl := Option.some.inj hm
        replace hS := hS.dNil (A := A)
        replace hS := hS.take 1; simp only [List.take_succ_cons, List.take_zero] at hS
        refine ret1 H (.inr rfl) rfl rfl ?_
        exact ⟨_, rfl, hS⟩
theorem g_frame_isPort_w {w : World} {A : Nat → Addr} {cs0 : List Value} {a0 : GPlan} {a1 : Int} {a2 : Int} {a3 : Int} (h0 : RGPlan w cs0 a0) {r : Bool} (hm : g_frame_isPort a0 a1 a2 a3 = some r) :
    Calls Tryd.prog 134 [.agg cs0.toArray, .int .i64 a1, .int .i64 a2, .int .i64 a3].toArray w (Ret fun u w' => u = .bool r ∧ Ext w w') := by
  obtain ⟨vp0_0, vp0_1, vp0_2, vp0_3, rfl, hrp0_0, hrp0_1, hrp0_2, hrp0_3⟩ := h0
  have hS := St.begin NB w
  unfold g_frame_isPort at hm
  refine enter Tryd.func134 rfl rfl rfl ?_; intro a H; dsimp only [enumL, Nat.zero_add, Nat.reduceAdd] at H
  refine wp_seq (wp_region_lit (n_box H rfl (cs := [.int .i64 a0.Id, .bool a0.Mobile, vp0_0, vp0_1, vp0_2, .int .i64 a0.Events, vp0_3]) rfl rfl ?_))
  clear H; intro b21 w22 hN hE23 hs; clear a; intro a H
  replace hS := hS.newBlk hN hE23 hs; clear hN hs
  refine n_q H (q_assign rfl) rfl ?_; clear H a; intro a H
  refine n_nil (then_normal (wp_seq (wp_region_lit (n_q H (q_move rfl) rfl (W_q (q_geq rfl rfl) rfl (W_q (q_move rfl) rfl ?_)))))); clear H a; intro a H
  rcases Bool.eq_false_or_eq_true (decide (0 ≤ a1)) with hg24 | hg24
  · replace H := H.know 11 rfl hg24
    replace hm := condT hm hg24
    refine n_yes H rfl rfl (n_q H (q_move rfl) rfl (W_yes rfl rfl (W_q (q_fieldAddr0 rfl fo68_4) rfl (W_yes rfl rfl (W_q (q_load rfl ((hS.blk 0 rfl).ld ag66 rfl)) rfl (W_yes rfl rfl ?_)))))); clear H a; intro a H
    obtain ⟨A25, c25, hv25, hl25, hm25⟩ := SlR.formV (hrp0_2.ext (Flat.mono _) hS.x)
    refine n_q H (q_lenV Tryd.underlying66 rfl hv25) rfl (W_yes rfl rfl (W_q (q_lss rfl rfl) rfl (W_q (q_pickT rfl rfl) rfl (W_q (q_move rfl) rfl ?_)))); clear H a; intro a H
    rcases Bool.eq_false_or_eq_true (decide (a1 < ((a0.Ports.length : Nat) : Int))) with hg26 | hg26
    · replace H := H.know 18 rfl hg26
      replace hm := condT hm hg26
      refine n_yes H rfl rfl (n_q H (q_fieldAddr0 rfl fo68_4) rfl (W_yes rfl rfl (W_q (q_load rfl ((hS.blk 0 rfl).ld ag66 rfl)) rfl (W_yes rfl rfl (W_q (q_move rfl) rfl (W_yes rfl rfl ?_)))))); clear H a; intro a H
      replace hm := bindS hm; obtain ⟨x27, hx27, hm⟩ := hm
      obtain ⟨h0x27, h1x27, hxx27⟩ := rdI_some hx27
      obtain ⟨adx27, hAx27⟩ := SlR.adV (hrp0_2.ext (Flat.mono _) hS.x) hv25 hxx27
      refine n_q H (q_ixVI Tryd.underlying66 sz169 rfl hv25 hAx27 rfl h0x27 h1x27) rfl (W_yes rfl rfl (W_q (q_fieldAddr rfl fo169_0) rfl (W_yes rfl rfl (W_q (q_load rfl (SlR.ldCellV (j := 0) (hrp0_2.ext (Flat.mono _) hS.x) hv25 hAx27 ag3 hxx27 rfl)) rfl (W_yes rfl rfl (W_q (q_move rfl) rfl (W_yes rfl rfl (W_q (q_eqlD rfl rfl) rfl (W_yes rfl rfl (W_q (q_move rfl) rfl ?_)))))))))); clear H a; intro a H
      rcases Bool.eq_false_or_eq_true (decide (x27.Kind = a2)) with hg28 | hg28
      · replace H := H.know 27 rfl hg28
        replace hm := condT hm hg28
        refine n_no H rfl rfl (by decide) rfl (W_no rfl rfl (by decide) rfl (W_no rfl rfl (by decide) rfl (W_no rfl rfl (by decide) rfl (W_no rfl rfl (by decide) rfl (W_no rfl rfl (by decide) rfl (W_no rfl rfl (by decide) rfl (W_no rfl rfl (by decide) rfl (W_yes rfl rfl (W_q (q_pickT rfl rfl) rfl (W_q (q_pickT rfl rfl) rfl (W_q (q_assign rfl) rfl ?_))))))))))); clear H a; intro a H
        refine n_nil (then_normal (wp_ret ?_))
        obtain rfl := Option.some.inj hm
        replace hS := hS.take 0; simp only [List.take_succ_cons, List.take_zero] at hS
        refine ret1 H (.inr rfl) rfl rfl ?_
        exact ⟨rfl, hS.x⟩
      · replace H := H.know 27 rfl hg28
        replace hm := condF hm hg28
        refine n_yes H rfl rfl (n_q H (q_fieldAddr0 rfl fo68_4) rfl (W_yes rfl rfl (W_q (q_load rfl ((hS.blk 0 rfl).ld ag66 rfl)) rfl (W_yes rfl rfl (W_q (q_move rfl) rfl (W_yes rfl rfl ?_)))))); clear H a; intro a H
        replace hm := bindS hm; obtain ⟨x29, hx29, hm⟩ := hm
        obtain ⟨h0x29, h1x29, hxx29⟩ := rdI_some hx29
        obtain ⟨adx29, hAx29⟩ := SlR.adV (hrp0_2.ext (Flat.mono _) hS.x) hv25 hxx29
        refine n_q H (q_ixVI Tryd.underlying66 sz169 rfl hv25 hAx29 rfl h0x29 h1x29) rfl (W_yes rfl rfl (W_q (q_fieldAddr rfl fo169_0) rfl (W_yes rfl rfl (W_q (q_load rfl (SlR.ldCellV (j := 0) (hrp0_2.ext (Flat.mono _) hS.x) hv25 hAx29 ag3 hxx29 rfl)) rfl (W_yes rfl rfl (W_q (q_move rfl) rfl (W_yes rfl rfl (W_q (q_eqlD rfl rfl) rfl (W_yes rfl rfl (W_q (q_pickF rfl rfl) rfl (W_q (q_pickT rfl rfl) rfl ?_))))))))))); clear H a; intro a H
        refine n_q H (q_assign rfl) rfl ?_; clear H a; intro a H
        refine n_nil (then_normal (wp_ret ?_))
        obtain rfl := Option.some.inj hm
        replace hS := hS.take 0; simp only [List.take_succ_cons, List.take_zero] at hS
        refine ret1 H (.inr rfl) rfl rfl ?_
        exact ⟨rfl, hS.x⟩
    · replace H := H.know 18 rfl hg26
      replace hm := condF hm hg26
      refine n_no H rfl rfl (by decide) rfl (W_no rfl rfl (by decide) rfl (W_no rfl rfl (by decide) rfl (W_no rfl rfl (by decide) rfl (W_no rfl rfl (by decide) rfl (W_no rfl rfl (by decide) rfl (W_no rfl rfl (by decide) rfl (W_no rfl rfl (by decide) rfl (W_no rfl rfl (by decide) rfl (W_noU rfl rfl rfl (W_noU rfl rfl rfl (W_noU rfl rfl rfl ?_))))))))))); clear H a; intro a H
      refine n_noU H rfl rfl rfl (W_noU rfl rfl rfl (W_noU rfl rfl rfl (W_noU rfl rfl rfl (W_noU rfl rfl rfl (W_no rfl rfl (by decide) rfl (W_q (q_pickF rfl rfl) rfl (W_q (q_assign rfl) rfl ?_))))))); clear H a; intro a H
      refine n_nil (then_normal (wp_ret ?_))
      obtain rfl := Option.some.inj hm
      replace hS := hS.take 0; simp only [List.take_succ_cons, List.take_zero] at hS
      refine ret1 H (.inr rfl) rfl rfl ?_
      exact ⟨rfl, hS.x⟩
  · replace H := H.know 11 rfl hg24
    replace hm := condF hm hg24
    refine n_no H rfl rfl (by decide) rfl (W_no rfl rfl (by decide) rfl (W_no rfl rfl (by decide) rfl (W_no rfl rfl (by decide) rfl (W_no rfl rfl (by decide) rfl (W_q (q_pickF rfl rfl) rfl (W_q (q_move rfl) rfl (W_no rfl rfl (by decide) rfl (W_no rfl rfl (by decide) rfl (W_no rfl rfl (by decide) rfl (W_no rfl rfl (by decide) rfl (W_no rfl rfl (by decide) rfl ?_))))))))))); clear H a; intro a H
    refine n_no H rfl rfl (by decide) rfl (W_no rfl rfl (by decide) rfl (W_no rfl rfl (by decide) rfl (W_no rfl rfl (by decide) rfl (W_noU rfl rfl rfl (W_noU rfl rfl rfl (W_noU rfl rfl rfl (W_noU rfl rfl rfl (W_noU rfl rfl rfl (W_noU rfl rfl rfl (W_noU rfl rfl rfl (W_noU rfl rfl rfl ?_))))))))))); clear H a; intro a H
    refine n_no H rfl rfl (by decide) rfl (W_q (q_pickF rfl rfl) rfl (W_q (q_assign rfl) rfl ?_)); clear H a; intro a H
    refine n_nil (then_normal (wp_ret ?_))
    obtain rfl := Option.some.inj hm
    replace hS := hS.take 0; simp only [List.take_succ_cons, List.take_zero] at hS
    refine ret1 H (.inr rfl) rfl rfl ?_
    exact ⟨rfl, hS.x⟩
theorem g_slices_IndexFunc_Plan_w {w : World} {A : Nat → Addr} {v0 : Value} {a0 : List GPlan} {g1 : Nat} {fs1 : List Value} {cp1 : List Value} {a1 : GPlan → Option Bool} (h0 : SlR w 7 RGPlan v0 a0) (he1 : entersB Tryd.prog g1 = true) (hf1 : ∀ w1, Ext w w1 → ∀ (ds0 : List Value) (x0 : GPlan) (r : Bool), RGPlan w1 ds0 x0 → a1 x0 = some r → Calls Tryd.prog g1 (fs1 ++ [Value.agg ds0.toArray] ++ cp1).toArray w1 (Ret fun u w' => u = .bool r ∧ Ext w1 w')) {r : Int} (hm : g_slices_IndexFunc_Plan a0 a1 = some r) :
    Calls Tryd.prog 176 [v0, .func (.func g1) fs1.toArray cp1.toArray].toArray w (Ret fun u w' => u = .int .i64 r ∧ Ext w w') := by
  have hS := St.begin NB w
  unfold g_slices_IndexFunc_Plan at hm
  refine enter Tryd.func176 rfl rfl rfl ?_; intro a H; dsimp only [enumL, Nat.zero_add, Nat.reduceAdd] at H
  refine wp_seq (wp_region_lit (n_q H (q_assign rfl) rfl ?_)); clear H a; intro a H
  refine n_nil (then_normal (wp_seq (wp_seq (wp_region_lit (n_q H (q_move rfl) rfl ?_))))); clear H a; intro a H
  obtain ⟨A21, c21, hv21, hl21, hm21⟩ := SlR.formV (h0.ext RGPlan.mono hS.x)
  refine n_q H (q_lenV Tryd.underlying22 rfl hv21) rfl (W_q (q_move rfl) rfl ?_); clear H a; intro a H
  refine n_nil (then_normal (wp_block ?_))
  replace hm := bindS hm; obtain ⟨q22, hm, hm22⟩ := hm; replace hm := iter_some hm; obtain ⟨n22, hm⟩ := hm
  refine c_loop (σ := Nat × Nat) (fun (m, i23) => [(0, v0), (1, .func (.func g1) fs1.toArray cp1.toArray), (7, .int .i64 ((a0.length : Nat) : Int)), (8, .int .i64 ((i23 : Nat) : Int))]) (fun (m, i23) wl => iterN (g_slices_IndexFunc_Plan_L1 a0 a1) m i23 = some q22 ∧ St NB w wl []) (fun (m, i23) => m) (n22, 0) H ⟨rfl, rfl, rfl, rfl, trivial⟩ ⟨hm, hS⟩ ?_
  clear H hS hm a; intro xx a w24 H hR; obtain ⟨m, i23⟩ := xx; simp only [ent, List.map_cons, List.map_nil] at H; (try dsimp only at hR); obtain ⟨hm, hS⟩ := hR
  replace hm := iterN_step hm; obtain ⟨m22, o22, rfl, hm, hn22⟩ := hm; try dsimp only [g_slices_IndexFunc_Plan_L1] at hm
  refine wp_seq (wp_region_lit (n_q H (q_lssN (i := i23) (j := a0.length) rfl rfl) rfl ?_)); clear H a; intro a H
  refine n_nil (then_normal (wp_seq (c_cond H rfl (fun hc25 => ?_) (fun hc25 => ?_))))
  · replace hm := condT hm hc25
    have hlt26 : i23 < a0.length := of_decide_eq_true hc25
    refine wp_skip (then_normal (wp_seq (wp_block (wp_seq (wp_region_lit (n_q H (q_move rfl) rfl (W_q (q_assign rfl) rfl ?_))))))); clear H a; intro a H
    refine n_nil (then_normal (wp_seq (wp_region_lit (n_q H (q_move rfl) rfl (W_q (q_move rfl) rfl (W_q (q_move rfl) rfl ?_)))))); clear H a; intro a H
    replace hm := bindS hm; obtain ⟨x27, hx27, hm⟩ := hm
    obtain ⟨adx27, hAx27⟩ := SlR.adV (h0.ext RGPlan.mono hS.x) hv21 hx27
    obtain ⟨csx27, hclx27, ⟨vx27_0, vx27_1, vx27_2, vx27_3, rfl, hrx27_0, hrx27_1, hrx27_2, hrx27_3⟩, hcx27⟩ := SlR.elV h0 hv21 hAx27 hx27
    refine n_q H (q_ixV (i := i23) Tryd.underlying22 sz68 rfl hv21 hAx27 rfl (natI hx27)) rfl (W_q (q_load rfl (LdX.ext (ldEl ag68 sz68 rfl hcx27) hS.x)) rfl ?_); clear H a; intro a H
    replace hm := bindS hm; obtain ⟨r28, hr28, hm⟩ := hm
    refine n_callv H rfl rfl he1 (hf1 _ hS.x [.int .i64 x27.Id, .bool x27.Mobile, vx27_0, vx27_1, vx27_2, .int .i64 x27.Events, vx27_3] x27 _ (⟨_, _, _, _, rfl, (hrx27_0.ext (Flat.mono _) hS.x), (hrx27_1.ext (Flat.mono _) hS.x), (hrx27_2.ext (Flat.mono _) hS.x), (hrx27_3.ext (Flat.mono _) hS.x)⟩ : RGPlan _ [.int .i64 x27.Id, .bool x27.Mobile, vx27_0, vx27_1, vx27_2, .int .i64 x27.Events, vx27_3] x27) hr28) rfl ?_
    clear H; intro x31 w29 hv; clear a; intro a H; obtain ⟨rfl, hE30⟩ := hv
    replace hS := hS.ext hE30
    refine n_nil (then_normal (c_cond H rfl (fun hc32 => ?_) (fun hc32 => ?_)))
    · replace hm := condT hm hc32
      refine wp_seq (wp_region_lit (n_q H (q_move rfl) rfl (W_q (q_assign rfl) rfl ?_))); clear H a; intro a H
      refine n_nil (then_normal (wp_ret (block_ret (then_ret (then_ret (block_ret (then_ret ?_)))))))
      obtain rfl := Option.some.inj hm; have hz : _ = q22 := hn22; subst hz; replace hm := hm22; try dsimp only at hm
      obtain rfl := Option.some.inj hm
      refine ret1 H (.inr rfl) rfl rfl ?_
      exact ⟨rfl, hS.x⟩
    · replace hm := condF hm hc32
      refine wp_skip (block_normal (then_normal (wp_region_lit (n_q H (q_incr (i := i23) (j := 1) rfl rfl (by omega)) rfl (W_q (q_move rfl) rfl ?_))))); clear H a; intro a H
      refine n_nil (then_normal ?_)
      obtain rfl := Option.some.inj hm
      exact round (m22, i23 + 1) H ⟨rfl, rfl, rfl, rfl, trivial⟩ ⟨hn22, hS⟩ (Nat.lt_succ_self _)
  · replace hm := condF hm hc25
    refine wp_exit (then_exit (then_exit (block_exit ?_)))
    obtain rfl := Option.some.inj hm; have hz : _ = q22 := hn22; subst hz; replace hm := hm22; try dsimp only at hm
    refine then_normal (wp_seq (wp_region_lit (n_q H (q_assign rfl) rfl ?_))); clear H a; intro a H
    refine n_nil (then_normal (wp_ret ?_))
    obtain rfl := Option.some.inj hm
    refine ret1 H (.inr rfl) rfl rfl ?_
    exact ⟨rfl, hS.x⟩
theorem g_slices_ContainsFunc_Plan_w {w : World} {A : Nat → Addr} {v0 : Value} {a0 : List GPlan} {g1 : Nat} {fs1 : List Value} {cp1 : List Value} {a1 : GPlan → Option Bool} (h0 : SlR w 7 RGPlan v0 a0) (he1 : entersB Tryd.prog g1 = true) (hf1 : ∀ w1, Ext w w1 → ∀ (ds0 : List Value) (x0 : GPlan) (r : Bool), RGPlan w1 ds0 x0 → a1 x0 = some r → Calls Tryd.prog g1 (fs1 ++ [Value.agg ds0.toArray] ++ cp1).toArray w1 (Ret fun u w' => u = .bool r ∧ Ext w1 w')) {r : Bool} (hm : g_slices_ContainsFunc_Plan a0 a1 = some r) :
    Calls Tryd.prog 135 [v0, .func (.func g1) fs1.toArray cp1.toArray].toArray w (Ret fun u w' => u = .bool r ∧ Ext w w') := by
  have hS := St.begin NB w
  unfold g_slices_ContainsFunc_Plan at hm
  refine enter Tryd.func135 rfl rfl rfl ?_; intro a H; dsimp only [enumL, Nat.zero_add, Nat.reduceAdd] at H
  refine wp_seq (wp_region_lit (n_q H (q_assign rfl) rfl ?_)); clear H a; intro a H
  refine n_nil (then_normal (wp_seq (wp_region_lit (n_q H (q_move rfl) rfl (W_q (q_move rfl) rfl ?_))))); clear H a; intro a H
  replace hm := bindS hm; obtain ⟨r21, hr21, hm⟩ := hm
  refine n_call H rfl en176 (g_slices_IndexFunc_Plan_w (A := A) (h0.ext RGPlan.mono hS.x) (g1 := g1) (fs1 := fs1) (cp1 := cp1) (a1 := a1) he1 (fun w1 e1 => hf1 w1 (Ext.trans' hS.x e1)) hr21) rfl ?_
  clear H; intro x24 w22 hv; clear a; intro a H; obtain ⟨rfl, hE23⟩ := hv
  replace hS := hS.ext hE23
  refine n_q H (q_geq rfl rfl) rfl (W_q (q_assign rfl) rfl ?_); clear H a; intro a H
  refine n_nil (then_normal (wp_ret ?_))
  obtain rfl := Option.some.inj hm
  refine ret1 H (.inr rfl) rfl rfl ?_
  exact ⟨rfl, hS.x⟩
theorem g_frame_checkLinks_1_w {w : World} {A : Nat → Addr} {cs0 : List Value} {a0 : GPlan} (h0 : RGPlan w cs0 a0) {r : Bool} (hm : g_frame_checkLinks_1 a0 = some r) :
    Calls Tryd.prog 136 [.agg cs0.toArray].toArray w (Ret fun u w' => u = .bool r ∧ Ext w w') := by
  obtain ⟨vp0_0, vp0_1, vp0_2, vp0_3, rfl, hrp0_0, hrp0_1, hrp0_2, hrp0_3⟩ := h0
  have hS := St.begin NB w
  unfold g_frame_checkLinks_1 at hm
  refine enter Tryd.func136 rfl rfl rfl ?_; intro a H; dsimp only [enumL, Nat.zero_add, Nat.reduceAdd] at H
  refine wp_seq (wp_region_lit (n_box H rfl (cs := [.int .i64 a0.Id, .bool a0.Mobile, vp0_0, vp0_1, vp0_2, .int .i64 a0.Events, vp0_3]) rfl rfl ?_))
  clear H; intro b21 w22 hN hE23 hs; clear a; intro a H
  replace hS := hS.newBlk hN hE23 hs; clear hN hs
  refine n_q H (q_assign rfl) rfl ?_; clear H a; intro a H
  refine n_nil (then_normal (wp_seq (wp_region_lit (n_q H (q_fieldAddr0 rfl fo68_1) rfl (W_q (q_load rfl ((hS.blk 0 rfl).ld ag4 rfl)) rfl (W_q (q_assign rfl) rfl ?_)))))); clear H a; intro a H
  refine n_nil (then_normal (wp_ret ?_))
  obtain rfl := Option.some.inj hm
  replace hS := hS.take 0; simp only [List.take_succ_cons, List.take_zero] at hS
  refine ret1 H (.inr rfl) rfl rfl ?_
  exact ⟨rfl, hS.x⟩
theorem g_frame_checkLinks_w {w : World} {A : Nat → Addr} {cs0 : List Value} {a0 : GConfig} (hG : EV A w) (h0 : RGConfig w cs0 a0) {r : ErrM} (hm : g_frame_checkLinks a0 = some r) :
    Calls Tryd.prog 70 [.agg cs0.toArray].toArray w (Ret fun u w' => ∃ h_0, u = h_0 ∧ St NB w w' [erQ A h_0 r]) := by
  obtain ⟨vp0_0, vp0_1, vp0_2, vp0_3, rfl, hrp0_0, hrp0_1, hrp0_2, hrp0_3⟩ := h0
  have hS := St.begin NB w
  unfold g_frame_checkLinks at hm
  refine enter Tryd.func70 rfl rfl rfl ?_; intro a H; dsimp only [enumL, Nat.zero_add, Nat.reduceAdd] at H
  refine wp_seq (wp_region_lit (n_box H rfl (cs := [.int .i64 a0.Ticks, vp0_0, vp0_1, vp0_2, vp0_3, .int .i64 a0.Tries]) rfl rfl ?_))
  clear H; intro b21 w22 hN hE23 hs; clear a; intro a H
  replace hS := hS.newBlk hN hE23 hs; clear hN hs
  refine n_q H (q_assign rfl) rfl ?_; clear H a; intro a H
  refine n_nil (then_normal (wp_seq (wp_seq (wp_region_lit (n_q H (q_fieldAddr0 rfl fo27_4) rfl (W_q (q_load rfl ((hS.blk 0 rfl).ld ag25 rfl)) rfl ?_)))))); clear H a; intro a H
  obtain ⟨A24, c24, hv24, hl24, hm24⟩ := SlR.formV (hrp0_3.ext (Flat.mono _) hS.x)
  refine n_q H (q_lenV Tryd.underlying25 rfl hv24) rfl (W_q (q_gtrN (i := a0.Links.length) (j := 16) rfl rfl) rfl ?_); clear H a; intro a H
  refine n_nil (then_normal (c_cond H rfl (fun hc25 => ?_) (fun hc25 => ?_)))
  · replace hm := condT hm hc25
    refine wp_seq (wp_region_lit (n_q H (q_load rfl ((hG.ext hS.x).ld gSize (by decide) ag36)) rfl (W_q (q_assign rfl) rfl ?_))); clear H a; intro a H
    refine n_nil (then_normal (wp_ret (then_ret ?_)))
    obtain rfl := Option.some.inj hm
    replace hS := hS.dVar (A := A) (g := gSize) (by decide)
    replace hS := hS.take 1; simp only [List.take_succ_cons, List.take_zero] at hS
    refine ret1 H (.inr rfl) rfl rfl ?_
    exact ⟨_, rfl, hS⟩
  · replace hm := condF hm hc25
    refine wp_skip (then_normal (wp_seq (wp_seq (wp_region_lit (n_q H (q_fieldAddr0 rfl fo27_4) rfl (W_q (q_load rfl ((hS.blk 0 rfl).ld ag25 rfl)) rfl (W_q (q_lenV Tryd.underlying25 rfl hv24) rfl (W_q (q_move rfl) rfl ?_)))))))); clear H a; intro a H
    refine n_nil (then_normal (wp_block ?_))
    replace hm := bindS hm; obtain ⟨q27, hm, hm27⟩ := hm; replace hm := iter_some hm; obtain ⟨n27, hm⟩ := hm
    refine c_loop (σ := Nat × Nat) (fun (m, i28) => [(1, .pointer (some ⟨b21, 0, none⟩)), (12, vp0_3), (13, .int .i64 ((a0.Links.length : Nat) : Int)), (14, .int .i64 ((i28 : Nat) : Int))]) (fun (m, i28) wl => iterN (g_frame_checkLinks_L20 a0) m i28 = some q27 ∧ St NB w wl [blkR b21 [.int .i64 a0.Ticks, vp0_0, vp0_1, vp0_2, vp0_3, .int .i64 a0.Tries] 27]) (fun (m, i28) => m) (n27, 0) H ⟨rfl, rfl, rfl, rfl, trivial⟩ ⟨hm, hS⟩ ?_
    clear H hS hm a; intro xx a w29 H hR; obtain ⟨m, i28⟩ := xx; simp only [ent, List.map_cons, List.map_nil] at H; (try dsimp only at hR); obtain ⟨hm, hS⟩ := hR
    replace hm := iterN_step hm; obtain ⟨m27, o27, rfl, hm, hn27⟩ := hm; try dsimp only [g_frame_checkLinks_L20] at hm
    refine wp_seq (wp_region_lit (n_q H (q_lssN (i := i28) (j := a0.Links.length) rfl rfl) rfl ?_)); clear H a; intro a H
    refine n_nil (then_normal (wp_seq (c_cond H rfl (fun hc30 => ?_) (fun hc30 => ?_))))
    · replace hm := condT hm hc30
      have hlt31 : i28 < a0.Links.length := of_decide_eq_true hc30
      refine wp_skip (then_normal (wp_seq (wp_block (wp_seq (wp_region_lit (n_q H (q_move rfl) rfl ?_)))))); clear H a; intro a H
      replace hm := bindS hm; obtain ⟨x32, hx32, hm⟩ := hm
      obtain ⟨adx32, hAx32⟩ := SlR.adV (hrp0_3.ext (Flat.mono _) hS.x) hv24 hx32
      refine n_q H (q_ixV (i := i28) Tryd.underlying25 sz47 rfl hv24 hAx32 rfl (natI hx32)) rfl (W_q (q_load rfl (SlR.ldAggV (hrp0_3.ext (Flat.mono _) hS.x) hv24 hAx32 ag47 sz47 hx32)) rfl ?_); clear H a; intro a H
      refine n_alloc H ze47 rfl ?_
      clear H; intro b33 w34 hN hE35 hs; clear a; intro a H
      replace hS := hS.newBlk hN hE35 hs; clear hN hs
      refine n_q H (q_assign rfl) rfl ?_; clear H a; intro a H
      refine n_storeAll H rfl rfl (vs := [.int .i64 x32.From, .int .i64 x32.Out, .int .i64 x32.To, .int .i64 x32.In]) rfl sz47 (hS.blk 0 rfl) rfl (by simp) ?_
      clear H; intro w36 hN hC37 hz; clear a; intro a H; replace hS := hS.setBlk hN hC37; clear hN hz
      refine n_nil (then_normal (wp_block ?_))
      replace hm := bindS hm; obtain ⟨j38, hm, hm38⟩ := hm
      refine c_join (σ := Bool) H (fun q539 => [(1, .pointer (some ⟨b21, 0, none⟩)), (3, .int .i64 ((i28 : Nat) : Int)), (4, .pointer (some ⟨b33, 0, none⟩)), (12, vp0_3), (13, .int .i64 ((a0.Links.length : Nat) : Int)), (14, .int .i64 ((i28 : Nat) : Int)), (19, .bool q539)]) (fun q539 wl => (g_frame_checkLinks_J18 a0 i28 x32) q539 = some o27 ∧ St NB w wl [blkR b21 [.int .i64 a0.Ticks, vp0_0, vp0_1, vp0_2, vp0_3, .int .i64 a0.Tries] 27, blkR b33 [.int .i64 x32.From, .int .i64 x32.Out, .int .i64 x32.To, .int .i64 x32.In] 47]) ?_ ?_
      · skip
        refine wp_region_lit (n_q H (q_load rfl ((hS.blk 1 rfl).ldAll ag27 sz27)) rfl (W_q (q_fieldAddr0 rfl fo47_0) rfl (W_q (q_load rfl ((hS.blk 0 rfl).ld ag3 rfl)) rfl ?_))); clear H a; intro a H
        replace hm := bindS hm; obtain ⟨r540, hr540, hm⟩ := hm
        refine n_call H rfl en133 (g_frame_there_w (A := A) (⟨_, _, _, _, rfl, (hrp0_0.ext RGPlan.mono hS.x), (hrp0_1.ext (Flat.mono _) hS.x), (hrp0_2.ext (Flat.mono _) hS.x), (hrp0_3.ext (Flat.mono _) hS.x)⟩ : RGConfig _ [.int .i64 a0.Ticks, vp0_0, vp0_1, vp0_2, vp0_3, .int .i64 a0.Tries] a0) hr540) rfl ?_
        clear H; intro x543 w541 hv; clear a; intro a H; obtain ⟨rfl, hE542⟩ := hv
        replace hS := hS.ext hE542
        refine n_q H (q_not rfl) rfl (W_q (q_move rfl) rfl ?_); clear H a; intro a H
        rcases Bool.eq_false_or_eq_true (!r540) with hg544 | hg544
        · replace H := H.know 25 rfl hg544
          replace hm := condT hm hg544
          refine n_no H rfl rfl (by decide) rfl (W_no rfl rfl (by decide) rfl (W_no rfl rfl (by decide) rfl (W_no rfl rfl (by decide) rfl (W_no rfl rfl (by decide) rfl (W_q (q_pickT rfl rfl) rfl (W_q (q_move rfl) rfl (W_no rfl rfl (by decide) rfl (W_no rfl rfl (by decide) rfl (W_no rfl rfl (by decide) rfl (W_no rfl rfl (by decide) rfl (W_no rfl rfl (by decide) rfl ?_))))))))))); clear H a; intro a H
          refine n_q H (q_pickT rfl rfl) rfl (W_q (q_assign rfl) rfl ?_); clear H a; intro a H
          refine n_nil (then_normal ?_)
          obtain rfl := Option.some.inj hm; replace hm := hm38; try dsimp only at hm
          replace hS := hS.pick 1 rfl; dsimp only [List.eraseIdx] at hS
          exact join true H ⟨rfl, rfl, rfl, rfl, rfl, rfl, rfl, trivial⟩ ⟨hm, hS⟩
        · replace H := H.know 25 rfl hg544
          replace hm := condF hm hg544
          refine n_yes H rfl rfl (n_q H (q_load rfl ((hS.blk 1 rfl).ldAll ag27 sz27)) rfl (W_yes rfl rfl (W_q (q_fieldAddr0 rfl fo47_2) rfl (W_yes rfl rfl (W_q (q_load rfl ((hS.blk 0 rfl).ld ag3 rfl)) rfl (W_yes rfl rfl ?_)))))); clear H a; intro a H
          replace hm := bindS hm; obtain ⟨r545, hr545, hm⟩ := hm
          refine n_call H rfl en133 (g_frame_there_w (A := A) (⟨_, _, _, _, rfl, (hrp0_0.ext RGPlan.mono hS.x), (hrp0_1.ext (Flat.mono _) hS.x), (hrp0_2.ext (Flat.mono _) hS.x), (hrp0_3.ext (Flat.mono _) hS.x)⟩ : RGConfig _ [.int .i64 a0.Ticks, vp0_0, vp0_1, vp0_2, vp0_3, .int .i64 a0.Tries] a0) hr545) rfl ?_
          clear H; intro x548 w546 hv; clear a; intro a H; obtain ⟨rfl, hE547⟩ := hv
          replace hS := hS.ext hE547
          refine n_yes H rfl rfl (n_q H (q_not rfl) rfl (W_q (q_pickF rfl rfl) rfl (W_q (q_move rfl) rfl ?_))); clear H a; intro a H
          rcases Bool.eq_false_or_eq_true (!r545) with hg549 | hg549
          · replace H := H.know 32 rfl hg549
            replace hm := condT hm hg549
            refine n_no H rfl rfl (by decide) rfl (W_no rfl rfl (by decide) rfl (W_no rfl rfl (by decide) rfl (W_no rfl rfl (by decide) rfl (W_no rfl rfl (by decide) rfl (W_q (q_pickT rfl rfl) rfl (W_q (q_assign rfl) rfl ?_)))))); clear H a; intro a H
            refine n_nil (then_normal ?_)
            obtain rfl := Option.some.inj hm; replace hm := hm38; try dsimp only at hm
            replace hS := hS.pick 1 rfl; dsimp only [List.eraseIdx] at hS
            exact join true H ⟨rfl, rfl, rfl, rfl, rfl, rfl, rfl, trivial⟩ ⟨hm, hS⟩
          · replace H := H.know 32 rfl hg549
            replace hm := condF hm hg549
            refine n_yes H rfl rfl (n_q H (q_fieldAddr0 rfl fo47_0) rfl (W_yes rfl rfl (W_q (q_load rfl ((hS.blk 0 rfl).ld ag3 rfl)) rfl (W_yes rfl rfl (W_q (q_fieldAddr0 rfl fo47_2) rfl (W_yes rfl rfl (W_q (q_load rfl ((hS.blk 0 rfl).ld ag3 rfl)) rfl (W_yes rfl rfl (W_q (q_eqlD rfl rfl) rfl (W_q (q_pickF rfl rfl) rfl (W_q (q_assign rfl) rfl ?_))))))))))); clear H a; intro a H
            refine n_nil (then_normal ?_)
            obtain rfl := Option.some.inj hm; replace hm := hm38; try dsimp only at hm
            replace hS := hS.pick 1 rfl; dsimp only [List.eraseIdx] at hS
            exact join (decide (x32.From = x32.To)) H ⟨rfl, rfl, rfl, rfl, rfl, rfl, rfl, trivial⟩ ⟨hm, hS⟩
      · clear H hS hm a; intro q539 a w550 H hR
        simp only [ent, List.map_cons, List.map_nil] at H; (try dsimp only at hR); obtain ⟨hm, hS⟩ := hR; try dsimp only [g_frame_checkLinks_J18] at hm
        refine c_cond H rfl (fun hc551 => ?_) (fun hc551 => ?_)
        · replace hm := condT hm hc551
          refine wp_seq (wp_region_lit (n_q H (q_move rfl) rfl (W_q (q_load rfl ((hG.ext hS.x).ld gArg (by decide) ag36)) rfl ?_))); clear H a; intro a H
          replace hm := bindS hm; obtain ⟨r552, hr552, hm⟩ := hm
          refine n_call H rfl en131 (g_frame_at_w (A := A) (IsErr.var (by decide) : IsE A w550 _ (.v gArg)) hr552) rfl ?_
          clear H; intro u553 w555 hv; clear a; intro a H; obtain ⟨_, rfl, hE556⟩ := hv
          replace hS := hS.new hE556; simp only [List.cons_append, List.nil_append] at hS
          refine n_q H (q_assign rfl) rfl ?_; clear H a; intro a H
          refine n_nil (then_normal (wp_ret (block_ret (block_ret (then_ret (then_ret (block_ret (then_ret ?_))))))))
          obtain rfl := Option.some.inj hm; have hz : _ = q27 := hn27; subst hz; replace hm := hm27; try dsimp only at hm
          obtain rfl := Option.some.inj hm
          replace hS := hS.take 1; simp only [List.take_succ_cons, List.take_zero] at hS
          refine ret1 H (.inr rfl) rfl rfl ?_
          exact ⟨_, rfl, hS⟩
        · replace hm := condF hm hc551
          replace hm := bindS hm; obtain ⟨j558, hm, hm558⟩ := hm
          refine c_join (σ := Bool) H (fun q1059 => [(1, .pointer (some ⟨b21, 0, none⟩)), (3, .int .i64 ((i28 : Nat) : Int)), (4, .pointer (some ⟨b33, 0, none⟩)), (12, vp0_3), (13, .int .i64 ((a0.Links.length : Nat) : Int)), (14, .int .i64 ((i28 : Nat) : Int)), (42, .bool q1059)]) (fun q1059 wl => (g_frame_checkLinks_J17 a0 i28 x32) q1059 = some o27 ∧ St NB w wl [blkR b21 [.int .i64 a0.Ticks, vp0_0, vp0_1, vp0_2, vp0_3, .int .i64 a0.Tries] 27, blkR b33 [.int .i64 x32.From, .int .i64 x32.Out, .int .i64 x32.To, .int .i64 x32.In] 47]) ?_ ?_
          · skip
            refine wp_region_lit (n_q H (q_fieldAddr0 rfl fo27_1) rfl (W_q (q_load rfl ((hS.blk 0 rfl).ld ag22 rfl)) rfl (W_q (q_fieldAddr0 rfl fo47_0) rfl (W_q (q_load rfl ((hS.blk 1 rfl).ld ag3 rfl)) rfl ?_)))); clear H a; intro a H
            obtain ⟨A1060, c1060, hv1060, hl1060, hm1060⟩ := SlR.formV (hrp0_0.ext RGPlan.mono hS.x)
            replace hm := bindS hm; obtain ⟨x1061, hx1061, hm⟩ := hm
            obtain ⟨h0x1061, h1x1061, hxx1061⟩ := rdI_some hx1061
            obtain ⟨adx1061, hAx1061⟩ := SlR.adV (hrp0_0.ext RGPlan.mono hS.x) hv1060 hxx1061
            obtain ⟨csx1061, hclx1061, ⟨vx1061_0, vx1061_1, vx1061_2, vx1061_3, rfl, hrx1061_0, hrx1061_1, hrx1061_2, hrx1061_3⟩, hcx1061⟩ := SlR.elV hrp0_0 hv1060 hAx1061 hxx1061
            refine n_q H (q_ixVI Tryd.underlying22 sz68 rfl hv1060 hAx1061 rfl h0x1061 h1x1061) rfl (W_q (q_fieldAddr rfl fo68_1) rfl (W_q (q_load rfl (LdX.ext (ldElC (j := 1) ag4 hcx1061 rfl) hS.x)) rfl (W_q (q_move rfl) rfl ?_))); clear H a; intro a H
            rcases Bool.eq_false_or_eq_true x1061.Mobile with hg1062 | hg1062
            · replace H := H.know 50 rfl hg1062
              replace hm := condT hm hg1062
              refine n_no H rfl rfl (by decide) rfl (W_no rfl rfl (by decide) rfl (W_no rfl rfl (by decide) rfl (W_no rfl rfl (by decide) rfl (W_no rfl rfl (by decide) rfl (W_no rfl rfl (by decide) rfl (W_no rfl rfl (by decide) rfl (W_q (q_pickT rfl rfl) rfl (W_q (q_assign rfl) rfl ?_)))))))); clear H a; intro a H
              refine n_nil (then_normal ?_)
              obtain rfl := Option.some.inj hm; replace hm := hm558; try dsimp only at hm
              exact join true H ⟨rfl, rfl, rfl, rfl, rfl, rfl, rfl, trivial⟩ ⟨hm, hS⟩
            · replace H := H.know 50 rfl hg1062
              replace hm := condF hm hg1062
              refine n_yes H rfl rfl (n_q H (q_fieldAddr0 rfl fo27_1) rfl (W_yes rfl rfl (W_q (q_load rfl ((hS.blk 0 rfl).ld ag22 rfl)) rfl (W_yes rfl rfl (W_q (q_fieldAddr0 rfl fo47_2) rfl (W_yes rfl rfl (W_q (q_load rfl ((hS.blk 1 rfl).ld ag3 rfl)) rfl (W_yes rfl rfl ?_)))))))); clear H a; intro a H
              replace hm := bindS hm; obtain ⟨x1063, hx1063, hm⟩ := hm
              obtain ⟨h0x1063, h1x1063, hxx1063⟩ := rdI_some hx1063
              obtain ⟨adx1063, hAx1063⟩ := SlR.adV (hrp0_0.ext RGPlan.mono hS.x) hv1060 hxx1063
              obtain ⟨csx1063, hclx1063, ⟨vx1063_0, vx1063_1, vx1063_2, vx1063_3, rfl, hrx1063_0, hrx1063_1, hrx1063_2, hrx1063_3⟩, hcx1063⟩ := SlR.elV hrp0_0 hv1060 hAx1063 hxx1063
              refine n_q H (q_ixVI Tryd.underlying22 sz68 rfl hv1060 hAx1063 rfl h0x1063 h1x1063) rfl (W_yes rfl rfl (W_q (q_fieldAddr rfl fo68_1) rfl (W_yes rfl rfl (W_q (q_load rfl (LdX.ext (ldElC (j := 1) ag4 hcx1063 rfl) hS.x)) rfl (W_q (q_pickF rfl rfl) rfl (W_q (q_assign rfl) rfl ?_)))))); clear H a; intro a H
              refine n_nil (then_normal ?_)
              obtain rfl := Option.some.inj hm; replace hm := hm558; try dsimp only at hm
              exact join x1063.Mobile H ⟨rfl, rfl, rfl, rfl, rfl, rfl, rfl, trivial⟩ ⟨hm, hS⟩
          · clear H hS hm a; intro q1059 a w1064 H hR
            simp only [ent, List.map_cons, List.map_nil] at H; (try dsimp only at hR); obtain ⟨hm, hS⟩ := hR; try dsimp only [g_frame_checkLinks_J17] at hm
            refine c_cond H rfl (fun hc1065 => ?_) (fun hc1065 => ?_)
            · replace hm := condT hm hc1065
              refine wp_seq (wp_region_lit (n_q H (q_move rfl) rfl (W_q (q_load rfl ((hG.ext hS.x).ld gPlan (by decide) ag36)) rfl ?_))); clear H a; intro a H
              replace hm := bindS hm; obtain ⟨r1066, hr1066, hm⟩ := hm
              refine n_call H rfl en131 (g_frame_at_w (A := A) (IsErr.var (by decide) : IsE A w1064 _ (.v gPlan)) hr1066) rfl ?_
              clear H; intro u1067 w1069 hv; clear a; intro a H; obtain ⟨_, rfl, hE1070⟩ := hv
              replace hS := hS.new hE1070; simp only [List.cons_append, List.nil_append] at hS
              refine n_q H (q_assign rfl) rfl ?_; clear H a; intro a H
              refine n_nil (then_normal (wp_ret (block_ret (block_ret (then_ret (then_ret (block_ret (then_ret ?_))))))))
              obtain rfl := Option.some.inj hm; have hz : _ = q27 := hn27; subst hz; replace hm := hm27; try dsimp only at hm
              obtain rfl := Option.some.inj hm
              replace hS := hS.take 1; simp only [List.take_succ_cons, List.take_zero] at hS
              refine ret1 H (.inr rfl) rfl rfl ?_
              exact ⟨_, rfl, hS⟩
            · replace hm := condF hm hc1065
              replace hm := bindS hm; obtain ⟨j1072, hm, hm1072⟩ := hm
              refine c_join (σ := Bool) H (fun q1573 => [(1, .pointer (some ⟨b21, 0, none⟩)), (3, .int .i64 ((i28 : Nat) : Int)), (12, vp0_3), (13, .int .i64 ((a0.Links.length : Nat) : Int)), (14, .int .i64 ((i28 : Nat) : Int)), (62, .bool q1573)]) (fun q1573 wl => (g_frame_checkLinks_J16 i28) q1573 = some o27 ∧ St NB w wl [blkR b21 [.int .i64 a0.Ticks, vp0_0, vp0_1, vp0_2, vp0_3, .int .i64 a0.Tries] 27]) ?_ ?_
              · skip
                refine c_quiet (by kernel_rfl) (by kernel_rfl) ?_
                refine qq_q H (q_fieldAddr0 rfl fo27_1) rfl ?_; clear H a; intro a H
                refine qq_q H (q_load rfl ((hS.blk 0 rfl).ld ag22 rfl)) rfl ?_; clear H a; intro a H
                refine qq_q H (q_fieldAddr0 rfl fo47_0) rfl ?_; clear H a; intro a H
                refine qq_q H (q_load rfl ((hS.blk 1 rfl).ld ag3 rfl)) rfl ?_; clear H a; intro a H
                obtain ⟨A1574, c1574, hv1574, hl1574, hm1574⟩ := SlR.formV (hrp0_0.ext RGPlan.mono hS.x)
                replace hm := bindS hm; obtain ⟨x1575, hx1575, hm⟩ := hm
                obtain ⟨h0x1575, h1x1575, hxx1575⟩ := rdI_some hx1575
                obtain ⟨adx1575, hAx1575⟩ := SlR.adV (hrp0_0.ext RGPlan.mono hS.x) hv1574 hxx1575
                obtain ⟨csx1575, hclx1575, ⟨vx1575_0, vx1575_1, vx1575_2, vx1575_3, rfl, hrx1575_0, hrx1575_1, hrx1575_2, hrx1575_3⟩, hcx1575⟩ := SlR.elV hrp0_0 hv1574 hAx1575 hxx1575
                refine qq_q H (q_ixVI Tryd.underlying22 sz68 rfl hv1574 hAx1575 rfl h0x1575 h1x1575) rfl ?_; clear H a; intro a H
                refine qq_q H (q_load rfl (LdX.ext (ldEl ag68 sz68 rfl hcx1575) hS.x)) rfl ?_; clear H a; intro a H
                refine qq_q H (q_fieldAddr0 rfl fo47_1) rfl ?_; clear H a; intro a H
                refine qq_q H (q_load rfl ((hS.blk 1 rfl).ld ag3 rfl)) rfl ?_; clear H a; intro a H
                replace hm := bindS hm; obtain ⟨r1576, hr1576, hm⟩ := hm
                refine qq_call H rfl en134 (fun w' hw => g_frame_isPort_w (A := A) (⟨_, _, _, _, rfl, ((hrx1575_0.ext (Flat.mono _) hS.x).ext (Flat.mono _) hw), ((hrx1575_1.ext (Flat.mono _) hS.x).ext (Flat.mono _) hw), ((hrx1575_2.ext (Flat.mono _) hS.x).ext (Flat.mono _) hw), ((hrx1575_3.ext (Flat.mono _) hS.x).ext (Flat.mono _) hw)⟩ : RGPlan _ [.int .i64 x1575.Id, .bool x1575.Mobile, vx1575_0, vx1575_1, vx1575_2, .int .i64 x1575.Events, vx1575_3] x1575) hr1576) rfl ?_; clear H a; intro a H
                refine qq_q H (q_not rfl) rfl ?_; clear H a; intro a H
                refine qq_q H (q_move rfl) rfl ?_; clear H a; intro a H
                rcases Bool.eq_false_or_eq_true (!r1576) with hg1577 | hg1577
                · replace H := H.know 73 rfl hg1577
                  replace hm := condT hm hg1577
                  refine qq_no H rfl rfl (by decide) rfl ?_; clear H a; intro a H
                  refine qq_no H rfl rfl (by decide) rfl ?_; clear H a; intro a H
                  refine qq_no H rfl rfl (by decide) rfl ?_; clear H a; intro a H
                  refine qq_no H rfl rfl (by decide) rfl ?_; clear H a; intro a H
                  refine qq_no H rfl rfl (by decide) rfl ?_; clear H a; intro a H
                  refine qq_no H rfl rfl (by decide) rfl ?_; clear H a; intro a H
                  refine qq_no H rfl rfl (by decide) rfl ?_; clear H a; intro a H
                  refine qq_no H rfl rfl (by decide) rfl ?_; clear H a; intro a H
                  refine qq_no H rfl rfl (by decide) rfl ?_; clear H a; intro a H
                  refine qq_no H rfl rfl (by decide) rfl ?_; clear H a; intro a H
                  refine qq_q H (q_pickT rfl rfl) rfl ?_; clear H a; intro a H
                  refine qq_q H (q_assign rfl) rfl ?_; clear H a; intro a H
                  refine qq_nil ?_; intro w1578 hE1579
                  replace hS := hS.ext hE1579
                  refine then_normal ?_
                  obtain rfl := Option.some.inj hm; replace hm := hm1072; try dsimp only at hm
                  replace hS := hS.take 1; simp only [List.take_succ_cons, List.take_zero] at hS
                  exact join true H ⟨rfl, rfl, rfl, rfl, rfl, rfl, trivial⟩ ⟨hm, hS⟩
                · replace H := H.know 73 rfl hg1577
                  replace hm := condF hm hg1577
                  refine qq_yes H rfl rfl ?_
                  refine qq_q H (q_fieldAddr0 rfl fo27_1) rfl ?_; clear H a; intro a H
                  refine qq_yes H rfl rfl ?_
                  refine qq_q H (q_load rfl ((hS.blk 0 rfl).ld ag22 rfl)) rfl ?_; clear H a; intro a H
                  refine qq_yes H rfl rfl ?_
                  refine qq_q H (q_fieldAddr0 rfl fo47_2) rfl ?_; clear H a; intro a H
                  refine qq_yes H rfl rfl ?_
                  refine qq_q H (q_load rfl ((hS.blk 1 rfl).ld ag3 rfl)) rfl ?_; clear H a; intro a H
                  refine qq_yes H rfl rfl ?_
                  replace hm := bindS hm; obtain ⟨x1580, hx1580, hm⟩ := hm
                  obtain ⟨h0x1580, h1x1580, hxx1580⟩ := rdI_some hx1580
                  obtain ⟨adx1580, hAx1580⟩ := SlR.adV (hrp0_0.ext RGPlan.mono hS.x) hv1574 hxx1580
                  obtain ⟨csx1580, hclx1580, ⟨vx1580_0, vx1580_1, vx1580_2, vx1580_3, rfl, hrx1580_0, hrx1580_1, hrx1580_2, hrx1580_3⟩, hcx1580⟩ := SlR.elV hrp0_0 hv1574 hAx1580 hxx1580
                  refine qq_q H (q_ixVI Tryd.underlying22 sz68 rfl hv1574 hAx1580 rfl h0x1580 h1x1580) rfl ?_; clear H a; intro a H
                  refine qq_yes H rfl rfl ?_
                  refine qq_q H (q_load rfl (LdX.ext (ldEl ag68 sz68 rfl hcx1580) hS.x)) rfl ?_; clear H a; intro a H
                  refine qq_yes H rfl rfl ?_
                  refine qq_q H (q_fieldAddr0 rfl fo47_3) rfl ?_; clear H a; intro a H
                  refine qq_yes H rfl rfl ?_
                  refine qq_q H (q_load rfl ((hS.blk 1 rfl).ld ag3 rfl)) rfl ?_; clear H a; intro a H
                  refine qq_yes H rfl rfl ?_
                  replace hm := bindS hm; obtain ⟨r1581, hr1581, hm⟩ := hm
                  refine qq_call H rfl en134 (fun w' hw => g_frame_isPort_w (A := A) (⟨_, _, _, _, rfl, ((hrx1580_0.ext (Flat.mono _) hS.x).ext (Flat.mono _) hw), ((hrx1580_1.ext (Flat.mono _) hS.x).ext (Flat.mono _) hw), ((hrx1580_2.ext (Flat.mono _) hS.x).ext (Flat.mono _) hw), ((hrx1580_3.ext (Flat.mono _) hS.x).ext (Flat.mono _) hw)⟩ : RGPlan _ [.int .i64 x1580.Id, .bool x1580.Mobile, vx1580_0, vx1580_1, vx1580_2, .int .i64 x1580.Events, vx1580_3] x1580) hr1581) rfl ?_; clear H a; intro a H
                  refine qq_yes H rfl rfl ?_
                  refine qq_q H (q_not rfl) rfl ?_; clear H a; intro a H
                  refine qq_q H (q_pickF rfl rfl) rfl ?_; clear H a; intro a H
                  refine qq_q H (q_assign rfl) rfl ?_; clear H a; intro a H
                  refine qq_nil ?_; intro w1582 hE1583
                  replace hS := hS.ext hE1583
                  refine then_normal ?_
                  obtain rfl := Option.some.inj hm; replace hm := hm1072; try dsimp only at hm
                  replace hS := hS.take 1; simp only [List.take_succ_cons, List.take_zero] at hS
                  exact join (!r1581) H ⟨rfl, rfl, rfl, rfl, rfl, rfl, trivial⟩ ⟨hm, hS⟩
              · clear H hS hm a; intro q1573 a w1584 H hR
                simp only [ent, List.map_cons, List.map_nil] at H; (try dsimp only at hR); obtain ⟨hm, hS⟩ := hR; try dsimp only [g_frame_checkLinks_J16] at hm
                refine c_cond H rfl (fun hc1585 => ?_) (fun hc1585 => ?_)
                · replace hm := condT hm hc1585
                  refine wp_seq (wp_region_lit (n_q H (q_move rfl) rfl (W_q (q_load rfl ((hG.ext hS.x).ld gKind (by decide) ag36)) rfl ?_))); clear H a; intro a H
                  replace hm := bindS hm; obtain ⟨r1586, hr1586, hm⟩ := hm
                  refine n_call H rfl en131 (g_frame_at_w (A := A) (IsErr.var (by decide) : IsE A w1584 _ (.v gKind)) hr1586) rfl ?_
                  clear H; intro u1587 w1589 hv; clear a; intro a H; obtain ⟨_, rfl, hE1590⟩ := hv
                  replace hS := hS.new hE1590; simp only [List.cons_append, List.nil_append] at hS
                  refine n_q H (q_assign rfl) rfl ?_; clear H a; intro a H
                  refine n_nil (then_normal (wp_ret (block_ret (block_ret (then_ret (then_ret (block_ret (then_ret ?_))))))))
                  obtain rfl := Option.some.inj hm; have hz : _ = q27 := hn27; subst hz; replace hm := hm27; try dsimp only at hm
                  obtain rfl := Option.some.inj hm
                  replace hS := hS.take 1; simp only [List.take_succ_cons, List.take_zero] at hS
                  refine ret1 H (.inr rfl) rfl rfl ?_
                  exact ⟨_, rfl, hS⟩
                · replace hm := condF hm hc1585
                  refine wp_skip (block_normal (block_normal (then_normal (wp_region_lit (n_q H (q_incr (i := i28) (j := 1) rfl rfl (by omega)) rfl (W_q (q_move rfl) rfl ?_)))))); clear H a; intro a H
                  refine n_nil (then_normal ?_)
                  obtain rfl := Option.some.inj hm
                  exact round (m27, i28 + 1) H ⟨rfl, rfl, rfl, rfl, trivial⟩ ⟨hn27, hS⟩ (Nat.lt_succ_self _)
    · replace hm := condF hm hc30
      refine wp_exit (then_exit (then_exit (block_exit ?_)))
      obtain rfl := Option.some.inj hm; have hz : _ = q27 := hn27; subst hz; replace hm := hm27; try dsimp only at hm
      refine then_normal (wp_seq (wp_region_lit (n_q H (q_fieldAddr0 rfl fo27_1) rfl (W_q (q_load rfl ((hS.blk 0 rfl).ld ag22 rfl)) rfl ?_)))); clear H a; intro a H
      replace hm := bindS hm; obtain ⟨r1592, hr1592, hm⟩ := hm
      refine n_call H rfl en135 (g_slices_ContainsFunc_Plan_w (A := A) (hrp0_0.ext RGPlan.mono hS.x) (g1 := 136) (fs1 := []) (cp1 := []) (a1 := (fun x0 => g_frame_checkLinks_1 x0)) en136 (fun w1 e1 ds0 x0 r hd0 hr => g_frame_checkLinks_1_w (A := A) hd0 hr) hr1592) rfl ?_
      clear H; intro x1595 w1593 hv; clear a; intro a H; obtain ⟨rfl, hE1594⟩ := hv
      replace hS := hS.ext hE1594
      refine n_q H (q_assign rfl) rfl ?_; clear H a; intro a H
      refine n_nil (then_normal (wp_seq ?_))
      replace hm := bindS hm; obtain ⟨j1596, hm, hm1596⟩ := hm
      refine c_join (σ := Bool) H (fun q2097 => [(97, .bool q2097)]) (fun q2097 wl => g_frame_checkLinks_J19 q2097 = some r ∧ St NB w wl []) ?_ ?_
      · skip
        refine wp_region_lit (n_q H (q_move rfl) rfl (W_q (q_move rfl) rfl ?_)); clear H a; intro a H
        rcases Bool.eq_false_or_eq_true r1592 with hg2098 | hg2098
        · replace H := H.know 93 rfl hg2098
          replace hm := condT hm hg2098
          refine n_yes H rfl rfl (n_q H (q_load rfl ((hS.blk 0 rfl).ldAll ag27 sz27)) rfl (W_yes rfl rfl ?_)); clear H a; intro a H
          replace hm := bindS hm; obtain ⟨r2099, hr2099, hm⟩ := hm
          refine n_call H rfl en132 (g_frame_has_w (A := A) (⟨_, _, _, _, rfl, (hrp0_0.ext RGPlan.mono hS.x), (hrp0_1.ext (Flat.mono _) hS.x), (hrp0_2.ext (Flat.mono _) hS.x), (hrp0_3.ext (Flat.mono _) hS.x)⟩ : RGConfig _ [.int .i64 a0.Ticks, vp0_0, vp0_1, vp0_2, vp0_3, .int .i64 a0.Tries] a0) hr2099) rfl ?_
          clear H; intro x2102 w2100 hv; clear a; intro a H; obtain ⟨rfl, hE2101⟩ := hv
          replace hS := hS.ext hE2101
          refine n_yes H rfl rfl (n_q H (q_not rfl) rfl (W_q (q_pickT rfl rfl) rfl ?_)); clear H a; intro a H
          refine n_nil (then_normal ?_)
          obtain rfl := Option.some.inj hm; replace hm := hm1596; try dsimp only at hm
          replace hS := hS.take 0; simp only [List.take_succ_cons, List.take_zero] at hS
          exact join (!r2099) H ⟨rfl, trivial⟩ ⟨hm, hS⟩
        · replace H := H.know 93 rfl hg2098
          replace hm := condF hm hg2098
          refine n_no H rfl rfl (by decide) rfl (W_no rfl rfl (by decide) rfl (W_no rfl rfl (by decide) rfl (W_q (q_pickF rfl rfl) rfl ?_))); clear H a; intro a H
          refine n_nil (then_normal ?_)
          obtain rfl := Option.some.inj hm; replace hm := hm1596; try dsimp only at hm
          replace hS := hS.take 0; simp only [List.take_succ_cons, List.take_zero] at hS
          exact join false H ⟨rfl, trivial⟩ ⟨hm, hS⟩
      · clear H hS hm a; intro q2097 a w2103 H hR
        simp only [ent, List.map_cons, List.map_nil] at H; (try dsimp only at hR); obtain ⟨hm, hS⟩ := hR; try dsimp only [g_frame_checkLinks_J19] at hm
        refine c_cond H rfl (fun hc2104 => ?_) (fun hc2104 => ?_)
        · replace hm := condT hm hc2104
          refine wp_seq (wp_region_lit (n_q H (q_load rfl ((hG.ext hS.x).ld gNone (by decide) ag36)) rfl (W_q (q_assign rfl) rfl ?_))); clear H a; intro a H
          refine n_nil (then_normal (wp_ret (then_ret ?_)))
          obtain rfl := Option.some.inj hm
          replace hS := hS.dVar (A := A) (g := gNone) (by decide)
          refine ret1 H (.inr rfl) rfl rfl ?_
          exact ⟨_, rfl, hS⟩
        · replace hm := condF hm hc2104
          refine wp_skip (then_normal (wp_seq (wp_region_lit (n_q H (q_assign rfl) rfl ?_)))); clear H a; intro a H
          refine n_nil (then_normal (wp_ret ?_))
          obtain rfl := Option.some.inj hm
          replace hS := hS.dNil (A := A)
          refine ret1 H (.inr rfl) rfl rfl ?_
          exact ⟨_, rfl, hS⟩
theorem g_frame_Check_w {w : World} {A : Nat → Addr} {cs0 : List Value} {a0 : GConfig} (hG : EV A w) (h0 : RGConfig w cs0 a0) {r : ErrM} (hm : g_frame_Check a0 = some r) :
    Calls Tryd.prog 35 [.agg cs0.toArray].toArray w (Ret fun u w' => ∃ h_0, u = h_0 ∧ St NB w w' [erQ A h_0 r]) := by
  obtain ⟨vp0_0, vp0_1, vp0_2, vp0_3, rfl, hrp0_0, hrp0_1, hrp0_2, hrp0_3⟩ := h0
  have hS := St.begin NB w
  unfold g_frame_Check at hm
  refine enter Tryd.func35 rfl rfl rfl ?_; intro a H; dsimp only [enumL, Nat.zero_add, Nat.reduceAdd] at H
  refine wp_seq (wp_region_lit (n_box H rfl (cs := [.int .i64 a0.Ticks, vp0_0, vp0_1, vp0_2, vp0_3, .int .i64 a0.Tries]) rfl rfl ?_))
  clear H; intro b21 w22 hN hE23 hs; clear a; intro a H
  replace hS := hS.newBlk hN hE23 hs; clear hN hs
  refine n_q H (q_assign rfl) rfl ?_; clear H a; intro a H
  refine n_nil (then_normal (wp_seq (wp_seq (wp_region_lit (n_buildSlice H Tryd.underlying153 sz98 ze98 rfl rfl rfl (cs := [.func (.func 68) [].toArray [].toArray, .func (.func 69) [].toArray [].toArray, .func (.func 70) [].toArray [].toArray]) (by kernel_rfl) rfl ?_)))))
  clear H; intro b26 w24 hN hE25 hs; clear a; intro a H
  replace hS := hS.newBlk hN hE25 hs; clear hN hs
  refine n_q H (q_lenSl Tryd.underlying153 rfl) rfl (W_q (q_move rfl) rfl ?_); clear H a; intro a H
  refine n_nil (then_normal (wp_block (wp_loop_rounds 4 ?_)))
  refine Eq.mpr (rounds_succ (n := 3)) ?_
  refine wp_seq (wp_region_lit (n_q H (q_cast (q_lss rfl rfl) (show _ = Value.bool true from rfl)) rfl ?_)); clear H a; intro a H
  refine n_nil (then_normal (wp_seq (c_condKT H rfl ?_)))
  refine wp_skip (then_normal (wp_seq (wp_block (wp_seq (wp_region_lit (n_q H (q_cast (q_indexAddr Tryd.underlying153 sz98 rfl rfl (by decide) (by decide)) (show _ = Value.pointer (some ⟨b26, 0, none⟩) by simp [plain_add])) rfl (W_q (q_load rfl ((hS.blk 0 rfl).ld ag98 rfl)) rfl (W_q (q_assign rfl) rfl ?_)))))))); clear H a; intro a H
  refine n_nil (then_normal (wp_seq (wp_region_lit (n_q H (q_move rfl) rfl (W_q (q_load rfl ((hS.blk 1 rfl).ldAll ag27 sz27)) rfl ?_))))); clear H a; intro a H
  replace hm := bindS hm; obtain ⟨r28, hr28, hm⟩ := hm
  refine n_callv H rfl rfl en68 (g_frame_checkParts_w (A := A) (hG.ext hS.x) (⟨_, _, _, _, rfl, (hrp0_0.ext RGPlan.mono hS.x), (hrp0_1.ext (Flat.mono _) hS.x), (hrp0_2.ext (Flat.mono _) hS.x), (hrp0_3.ext (Flat.mono _) hS.x)⟩ : RGConfig _ [.int .i64 a0.Ticks, vp0_0, vp0_1, vp0_2, vp0_3, .int .i64 a0.Tries] a0) hr28) rfl ?_
  clear H; intro u29 w31 hv; clear a; intro a H; obtain ⟨_, rfl, hE32⟩ := hv
  replace hS := hS.new hE32; simp only [List.cons_append, List.nil_append] at hS
  refine n_q H (q_assign rfl) rfl ?_; clear H a; intro a H
  refine n_nil (then_normal (wp_seq (wp_region_lit (n_q H (q_move rfl) rfl (W_q (q_cast (q_nnilI Tryd.underlying36 rfl rfl (hS.any 0 rfl : IsE A w31 u29 r28).form) (show _ = Value.bool (!decide (r28 = .nil)) by rw [IsErr.isNil (hS.any 0 rfl : IsE A w31 u29 r28)])) rfl ?_))))); clear H a; intro a H
  refine n_nil (then_normal (c_cond H rfl (fun hc34 => ?_) (fun hc34 => ?_)))
  · replace hm := condT hm hc34
    refine wp_seq (wp_region_lit (n_q H (q_move rfl) rfl (W_q (q_assign rfl) rfl ?_))); clear H a; intro a H
    refine n_nil (then_normal (wp_ret (block_ret (then_ret (then_ret (block_ret (then_ret ?_)))))))
    obtain rfl := Option.some.inj hm
    replace hS := hS.take 1; simp only [List.take_succ_cons, List.take_zero] at hS
    refine ret1 H (.inr rfl) rfl rfl ?_
    exact ⟨_, rfl, hS⟩
  · replace hm := condF hm hc34
    refine wp_skip (block_normal (then_normal (wp_region_lit (n_q H (q_cast (q_addW rfl rfl) (show _ = Value.int .i64 1 from rfl)) rfl (W_q (q_move rfl) rfl ?_))))); clear H a; intro a H
    refine n_nil (then_normal (Eq.mpr (rounds_succ (n := 2)) ?_))
    refine wp_seq (wp_region_lit (n_q H (q_cast (q_lss rfl rfl) (show _ = Value.bool true from rfl)) rfl ?_)); clear H a; intro a H
    refine n_nil (then_normal (wp_seq (c_condKT H rfl ?_)))
    refine wp_skip (then_normal (wp_seq (wp_block (wp_seq (wp_region_lit (n_q H (q_cast (q_indexAddr Tryd.underlying153 sz98 rfl rfl (by decide) (by decide)) (show _ = Value.pointer (some ⟨b26, 1, none⟩) by simp [plain_add])) rfl (W_q (q_load rfl ((hS.blk 1 rfl).ld ag98 rfl)) rfl (W_q (q_assign rfl) rfl ?_)))))))); clear H a; intro a H
    refine n_nil (then_normal (wp_seq (wp_region_lit (n_q H (q_move rfl) rfl (W_q (q_load rfl ((hS.blk 2 rfl).ldAll ag27 sz27)) rfl ?_))))); clear H a; intro a H
    replace hm := bindS hm; obtain ⟨r36, hr36, hm⟩ := hm
    refine n_callv H rfl rfl en69 (g_frame_checkWindows_w (A := A) (hG.ext hS.x) (⟨_, _, _, _, rfl, (hrp0_0.ext RGPlan.mono hS.x), (hrp0_1.ext (Flat.mono _) hS.x), (hrp0_2.ext (Flat.mono _) hS.x), (hrp0_3.ext (Flat.mono _) hS.x)⟩ : RGConfig _ [.int .i64 a0.Ticks, vp0_0, vp0_1, vp0_2, vp0_3, .int .i64 a0.Tries] a0) hr36) rfl ?_
    clear H; intro u37 w39 hv; clear a; intro a H; obtain ⟨_, rfl, hE40⟩ := hv
    replace hS := hS.new hE40; simp only [List.cons_append, List.nil_append] at hS
    refine n_q H (q_assign rfl) rfl ?_; clear H a; intro a H
    refine n_nil (then_normal (wp_seq (wp_region_lit (n_q H (q_move rfl) rfl (W_q (q_cast (q_nnilI Tryd.underlying36 rfl rfl (hS.any 0 rfl : IsE A w39 u37 r36).form) (show _ = Value.bool (!decide (r36 = .nil)) by rw [IsErr.isNil (hS.any 0 rfl : IsE A w39 u37 r36)])) rfl ?_))))); clear H a; intro a H
    refine n_nil (then_normal (c_cond H rfl (fun hc42 => ?_) (fun hc42 => ?_)))
    · replace hm := condT hm hc42
      refine wp_seq (wp_region_lit (n_q H (q_move rfl) rfl (W_q (q_assign rfl) rfl ?_))); clear H a; intro a H
      refine n_nil (then_normal (wp_ret (block_ret (then_ret (then_ret (block_ret (then_ret ?_)))))))
      obtain rfl := Option.some.inj hm
      replace hS := hS.take 1; simp only [List.take_succ_cons, List.take_zero] at hS
      refine ret1 H (.inr rfl) rfl rfl ?_
      exact ⟨_, rfl, hS⟩
    · replace hm := condF hm hc42
      refine wp_skip (block_normal (then_normal (wp_region_lit (n_q H (q_cast (q_addW rfl rfl) (show _ = Value.int .i64 2 from rfl)) rfl (W_q (q_move rfl) rfl ?_))))); clear H a; intro a H
      refine n_nil (then_normal (Eq.mpr (rounds_succ (n := 1)) ?_))
      refine wp_seq (wp_region_lit (n_q H (q_cast (q_lss rfl rfl) (show _ = Value.bool true from rfl)) rfl ?_)); clear H a; intro a H
      refine n_nil (then_normal (wp_seq (c_condKT H rfl ?_)))
      refine wp_skip (then_normal (wp_seq (wp_block (wp_seq (wp_region_lit (n_q H (q_cast (q_indexAddr Tryd.underlying153 sz98 rfl rfl (by decide) (by decide)) (show _ = Value.pointer (some ⟨b26, 2, none⟩) by simp [plain_add])) rfl (W_q (q_load rfl ((hS.blk 2 rfl).ld ag98 rfl)) rfl (W_q (q_assign rfl) rfl ?_)))))))); clear H a; intro a H
      refine n_nil (then_normal (wp_seq (wp_region_lit (n_q H (q_move rfl) rfl (W_q (q_load rfl ((hS.blk 3 rfl).ldAll ag27 sz27)) rfl ?_))))); clear H a; intro a H
      replace hm := bindS hm; obtain ⟨r44, hr44, hm⟩ := hm
      refine n_callv H rfl rfl en70 (g_frame_checkLinks_w (A := A) (hG.ext hS.x) (⟨_, _, _, _, rfl, (hrp0_0.ext RGPlan.mono hS.x), (hrp0_1.ext (Flat.mono _) hS.x), (hrp0_2.ext (Flat.mono _) hS.x), (hrp0_3.ext (Flat.mono _) hS.x)⟩ : RGConfig _ [.int .i64 a0.Ticks, vp0_0, vp0_1, vp0_2, vp0_3, .int .i64 a0.Tries] a0) hr44) rfl ?_
      clear H; intro u45 w47 hv; clear a; intro a H; obtain ⟨_, rfl, hE48⟩ := hv
      replace hS := hS.new hE48; simp only [List.cons_append, List.nil_append] at hS
      refine n_q H (q_assign rfl) rfl ?_; clear H a; intro a H
      refine n_nil (then_normal (wp_seq (wp_region_lit (n_q H (q_move rfl) rfl (W_q (q_cast (q_nnilI Tryd.underlying36 rfl rfl (hS.any 0 rfl : IsE A w47 u45 r44).form) (show _ = Value.bool (!decide (r44 = .nil)) by rw [IsErr.isNil (hS.any 0 rfl : IsE A w47 u45 r44)])) rfl ?_))))); clear H a; intro a H
      refine n_nil (then_normal (c_cond H rfl (fun hc50 => ?_) (fun hc50 => ?_)))
      · replace hm := condT hm hc50
        refine wp_seq (wp_region_lit (n_q H (q_move rfl) rfl (W_q (q_assign rfl) rfl ?_))); clear H a; intro a H
        refine n_nil (then_normal (wp_ret (block_ret (then_ret (then_ret (block_ret (then_ret ?_)))))))
        obtain rfl := Option.some.inj hm
        replace hS := hS.take 1; simp only [List.take_succ_cons, List.take_zero] at hS
        refine ret1 H (.inr rfl) rfl rfl ?_
        exact ⟨_, rfl, hS⟩
      · replace hm := condF hm hc50
        refine wp_skip (block_normal (then_normal (wp_region_lit (n_q H (q_cast (q_addW rfl rfl) (show _ = Value.int .i64 3 from rfl)) rfl (W_q (q_move rfl) rfl ?_))))); clear H a; intro a H
        refine n_nil (then_normal (Eq.mpr (rounds_succ (n := 0)) ?_))
        refine wp_seq (wp_region_lit (n_q H (q_cast (q_lss rfl rfl) (show _ = Value.bool false from rfl)) rfl ?_)); clear H a; intro a H
        refine n_nil (then_normal (wp_seq (c_condKF H rfl ?_)))
        refine wp_exit (then_exit (then_exit (block_exit (then_normal (wp_seq (wp_region_lit (n_q H (q_assign rfl) rfl ?_))))))); clear H a; intro a H
        refine n_nil (then_normal (wp_ret ?_))
        obtain rfl := Option.some.inj hm
        replace hS := hS.dNil (A := A)
        replace hS := hS.take 1; simp only [List.take_succ_cons, List.take_zero] at hS
        refine ret1 H (.inr rfl) rfl rfl ?_
        exact ⟨_, rfl, hS⟩
theorem g_frame_Carry_w {w : World} {A : Nat → Addr} {cs0 : List Value} {a0 : GConfig} {v1 : Value} {a1 : List Bool} {v2 : Value} {a2 : List (List GMsg)} (hG : EV A w) (h0 : RGConfig w cs0 a0) (h1 : SlR w 1 (Flat eF) v1 a1) (h2 : SlR w 1 (RSl 2 eGMsg) v2 a2) {r : List (List GMsg) × ErrM} (hm : g_frame_Carry a0 a1 a2 = some r) :
    Calls Tryd.prog 13 [.agg cs0.toArray, v1, v2].toArray w (Ret fun u w' => ∃ h_0 h_1, u = .tuple #[h_0, h_1] ∧ St NB w w' [nestR 43 1 (rowR 50 2 eGMsg) h_0 r.1, erQ A h_1 r.2]) := by
  obtain ⟨vp0_0, vp0_1, vp0_2, vp0_3, rfl, hrp0_0, hrp0_1, hrp0_2, hrp0_3⟩ := h0
  have hS := St.begin NB w
  unfold g_frame_Carry at hm
  refine enter Tryd.func13 rfl rfl rfl ?_; intro a H; dsimp only [enumL, Nat.zero_add, Nat.reduceAdd] at H
  refine wp_seq (wp_region_lit (n_box H rfl (cs := [.int .i64 a0.Ticks, vp0_0, vp0_1, vp0_2, vp0_3, .int .i64 a0.Tries]) rfl rfl ?_))
  clear H; intro b21 w22 hN hE23 hs; clear a; intro a H
  replace hS := hS.newBlk hN hE23 hs; clear hN hs
  refine n_q H (q_assign rfl) rfl (W_q (q_assign rfl) rfl ?_); clear H a; intro a H
  refine n_nil (then_normal (wp_seq (wp_seq (wp_region_lit (n_q H (q_load rfl ((hS.blk 0 rfl).ldAll ag27 sz27)) rfl ?_))))); clear H a; intro a H
  replace hm := bindS hm; obtain ⟨r24, hr24, hm⟩ := hm
  refine n_call H rfl en35 (g_frame_Check_w (A := A) (hG.ext hS.x) (⟨_, _, _, _, rfl, (hrp0_0.ext RGPlan.mono hS.x), (hrp0_1.ext (Flat.mono _) hS.x), (hrp0_2.ext (Flat.mono _) hS.x), (hrp0_3.ext (Flat.mono _) hS.x)⟩ : RGConfig _ [.int .i64 a0.Ticks, vp0_0, vp0_1, vp0_2, vp0_3, .int .i64 a0.Tries] a0) hr24) rfl ?_
  clear H; intro u25 w27 hv; clear a; intro a H; obtain ⟨_, rfl, hE28⟩ := hv
  replace hS := hS.new hE28; simp only [List.cons_append, List.nil_append] at hS
  refine n_q H (q_cast (q_nnilI Tryd.underlying36 rfl rfl (hS.any 0 rfl : IsE A w27 u25 r24).form) (show _ = Value.bool (!decide (r24 = .nil)) by rw [IsErr.isNil (hS.any 0 rfl : IsE A w27 u25 r24)])) rfl ?_; clear H a; intro a H
  refine n_nil (then_normal (c_cond H rfl (fun hc30 => ?_) (fun hc30 => ?_)))
  · replace hm := condT hm hc30
    refine wp_seq (c_quiet (by kernel_rfl) (by kernel_rfl) ?_)
    refine qq_q H (q_load rfl ((hG.ext hS.x).ld gPlan (by decide) ag36)) rfl ?_; clear H a; intro a H
    refine qq_q H (q_assign rfl) rfl ?_; clear H a; intro a H
    refine qq_q H (q_assign rfl) rfl ?_; clear H a; intro a H
    refine qq_nil ?_; intro w31 hE32
    replace hS := hS.ext hE32
    refine then_normal (wp_ret (then_ret ?_))
    obtain rfl := Option.some.inj hm
    replace hS := hS.nestNil 43 1 (rowR 50 2 eGMsg)
    replace hS := hS.dVar (A := A) (g := gPlan) (by decide)
    replace hS := hS.pick 1 rfl; dsimp only [List.eraseIdx] at hS
    replace hS := hS.take 2; simp only [List.take_succ_cons, List.take_zero] at hS
    refine ret2 H (.inr rfl) rfl rfl rfl ?_
    exact ⟨_, _, rfl, hS⟩
  · replace hm := condF hm hc30
    refine wp_skip (then_normal (wp_seq (wp_seq (wp_region_lit (n_c H (fun HC => ?_)))))); clear H
    refine nc_q HC (q_move rfl) rfl (by kernel_rfl) ?_; clear HC a; intro a HC
    obtain ⟨A35, c35, hv35, hl35, hm35⟩ := SlR.formV (h1.ext (Flat.mono _) hS.x)
    refine nc_q HC (q_lenV Tryd.underlying28 rfl hv35) rfl (by kernel_rfl) (V_q (q_fieldAddr0 rfl fo27_1) rfl (by kernel_rfl) (V_q (q_load rfl ((hS.blk 1 rfl).ld ag22 rfl)) rfl (by kernel_rfl) ?_)); clear HC a; intro a HC
    obtain ⟨A36, c36, hv36, hl36, hm36⟩ := SlR.formV (hrp0_0.ext RGPlan.mono hS.x)
    refine nc_q HC (q_lenV Tryd.underlying22 rfl hv36) rfl (by kernel_rfl) (V_q (q_neqN (i := a1.length) (j := a0.Parts.length) rfl rfl) rfl (by kernel_rfl) (V_q (q_move rfl) rfl (by kernel_rfl) (V_g (q_move rfl) (by kernel_rfl) (by kernel_rfl) (by kernel_rfl) ?_))); clear HC a; intro a HC
    obtain ⟨A37, c37, hv37, hl37, hm37⟩ := SlR.formV (h2.ext (RSl.mono _ _) hS.x)
    refine nc_g HC (q_lenV Tryd.underlying29 rfl hv37) (by kernel_rfl) (by kernel_rfl) (by kernel_rfl) (V_g (q_fieldAddr0 rfl fo27_1) (by kernel_rfl) (by kernel_rfl) (by kernel_rfl) (V_g (q_load rfl ((hS.blk 1 rfl).ld ag22 rfl)) (by kernel_rfl) (by kernel_rfl) (by kernel_rfl) (V_g (q_lenV Tryd.underlying22 rfl hv36) (by kernel_rfl) (by kernel_rfl) (by kernel_rfl) (V_g (q_neqN (i := a2.length) (j := a0.Parts.length) rfl rfl) (by kernel_rfl) (by kernel_rfl) (by kernel_rfl) (V_or (j := 6) rfl rfl rfl (by kernel_rfl) (by kernel_rfl) ?_))))); clear HC a; intro a HC
    have H := HC.has; clear HC
    refine n_nil (then_normal (c_cond H rfl (fun hc38 => ?_) (fun hc38 => ?_)))
    · replace hm := condT hm hc38
      refine wp_seq (c_quiet (by kernel_rfl) (by kernel_rfl) ?_)
      refine qq_q H (q_load rfl ((hG.ext hS.x).ld gArg (by decide) ag36)) rfl ?_; clear H a; intro a H
      refine qq_q H (q_assign rfl) rfl ?_; clear H a; intro a H
      refine qq_q H (q_assign rfl) rfl ?_; clear H a; intro a H
      refine qq_nil ?_; intro w39 hE40
      replace hS := hS.ext hE40
      refine then_normal (wp_ret (then_ret ?_))
      obtain rfl := Option.some.inj hm
      replace hS := hS.nestNil 43 1 (rowR 50 2 eGMsg)
      replace hS := hS.dVar (A := A) (g := gArg) (by decide)
      replace hS := hS.pick 1 rfl; dsimp only [List.eraseIdx] at hS
      replace hS := hS.take 2; simp only [List.take_succ_cons, List.take_zero] at hS
      refine ret2 H (.inr rfl) rfl rfl rfl ?_
      exact ⟨_, _, rfl, hS⟩
    · replace hm := condF hm hc38
      refine wp_skip (then_normal (wp_seq (wp_region_lit (n_q H (q_fieldAddr0 rfl fo27_1) rfl (W_q (q_load rfl ((hS.blk 1 rfl).ld ag22 rfl)) rfl (W_q (q_lenV Tryd.underlying22 rfl hv36) rfl ?_)))))); clear H a; intro a H
      replace hm := chkS hm; obtain ⟨hk43, hm⟩ := hm
      refine n_make (L := a0.Parts.length) (C := a0.Parts.length) H Tryd.underlying29 el43 rfl rfl (Nat.le_refl _) hk43 (by simp only [maxLen]; omega) rfl ?_
      clear H; intro b44 w45 hN hE46 hs; clear a; intro a H; replace hS := hS.newOwn hN hE46 (by simp [blks]; omega); clear hN
      replace hS := St.mkNest0 (El := (rowR 50 2 eGMsg)) (z0 := []) (n := a0.Parts.length) rfl (by simp) (fun h => h.row0) hS
      refine n_q H (q_assign rfl) rfl ?_; clear H a; intro a H
      refine n_nil (then_normal (wp_seq (wp_seq (wp_region_lit (n_q H (q_fieldAddr0 rfl fo27_4) rfl (W_q (q_load rfl ((hS.blk 2 rfl).ld ag25 rfl)) rfl ?_)))))); clear H a; intro a H
      obtain ⟨A48, c48, hv48, hl48, hm48⟩ := SlR.formV (hrp0_3.ext (Flat.mono _) hS.x)
      refine n_q H (q_lenV Tryd.underlying25 rfl hv48) rfl (W_q (q_move rfl) rfl ?_); clear H a; intro a H
      refine n_nil (then_normal (wp_block ?_))
      replace hS := hS.take 1; simp only [List.take_succ_cons, List.take_zero] at hS
      replace hm := bindS hm; obtain ⟨q49, hm, hm49⟩ := hm; replace hm := iter_some hm; obtain ⟨n49, hm⟩ := hm
      refine c_loop (σ := Nat × (List (List GMsg)) × Nat) (fun (m, l50, i53) => [(1, v1), (2, v2), (8, .slice (some ⟨b44, 0, none⟩) a0.Parts.length a0.Parts.length), (37, vp0_3), (38, .int .i64 ((a0.Links.length : Nat) : Int)), (39, .int .i64 ((i53 : Nat) : Int))]) (fun (m, l50, i53) wl => iterN (g_frame_Carry_L58 a0 a1 a2) m (l50, i53) = some q49 ∧ St NB w wl [nestR 43 1 (rowR 50 2 eGMsg) (.slice (some ⟨b44, 0, none⟩) a0.Parts.length a0.Parts.length) l50]) (fun (m, l50, i53) => m) (n49, (List.replicate a0.Parts.length ([] : List GMsg)), 0) H ⟨rfl, rfl, rfl, rfl, rfl, rfl, trivial⟩ ⟨hm, hS⟩ ?_
      clear H hS hm a; intro xx a w54 H hR; obtain ⟨m, l50, i53⟩ := xx; simp only [ent, List.map_cons, List.map_nil] at H; (try dsimp only at hR); obtain ⟨hm, hS⟩ := hR
      replace hm := iterN_step hm; obtain ⟨m49, o49, rfl, hm, hn49⟩ := hm; try dsimp only [g_frame_Carry_L58] at hm
      refine wp_seq (wp_region_lit (n_q H (q_lssN (i := i53) (j := a0.Links.length) rfl rfl) rfl ?_)); clear H a; intro a H
      refine n_nil (then_normal (wp_seq (c_cond H rfl (fun hc55 => ?_) (fun hc55 => ?_))))
      · replace hm := condT hm hc55
        have hlt56 : i53 < a0.Links.length := of_decide_eq_true hc55
        refine wp_skip (then_normal ?_)
        replace hm := bindS hm; obtain ⟨j57, hm, hm57⟩ := hm
        refine c_join (σ := (List (List GMsg))) H (fun l558 => [(1, v1), (2, v2), (8, .slice (some ⟨b44, 0, none⟩) a0.Parts.length a0.Parts.length), (37, vp0_3), (38, .int .i64 ((a0.Links.length : Nat) : Int)), (39, .int .i64 ((i53 : Nat) : Int))]) (fun l558 wl => (g_frame_Carry_J57 i53) l558 = some o49 ∧ St NB w wl [nestR 43 1 (rowR 50 2 eGMsg) (.slice (some ⟨b44, 0, none⟩) a0.Parts.length a0.Parts.length) l558]) ?_ ?_
        · skip
          refine wp_block (wp_seq (wp_region_lit ?_))
          replace hm := bindS hm; obtain ⟨x561, hx561, hm⟩ := hm
          obtain ⟨adx561, hAx561⟩ := SlR.adV (hrp0_3.ext (Flat.mono _) hS.x) hv48 hx561
          refine n_q H (q_ixV (i := i53) Tryd.underlying25 sz47 rfl hv48 hAx561 rfl (natI hx561)) rfl (W_q (q_load rfl (SlR.ldAggV (hrp0_3.ext (Flat.mono _) hS.x) hv48 hAx561 ag47 sz47 hx561)) rfl ?_); clear H a; intro a H
          refine n_alloc H ze47 rfl ?_
          clear H; intro b562 w563 hN hE564 hs; clear a; intro a H
          replace hS := hS.newBlk hN hE564 hs; clear hN hs
          refine n_storeAll H rfl rfl (vs := [.int .i64 x561.From, .int .i64 x561.Out, .int .i64 x561.To, .int .i64 x561.In]) rfl sz47 (hS.blk 0 rfl) rfl (by simp) ?_
          clear H; intro w565 hN hC566 hz; clear a; intro a H; replace hS := hS.setBlk hN hC566; clear hN hz
          refine n_nil (then_normal (wp_seq ?_))
          replace hm := bindS hm; obtain ⟨j567, hm, hm567⟩ := hm
          refine c_join (σ := Bool) H (fun q1068 => [(1, v1), (2, v2), (8, .slice (some ⟨b44, 0, none⟩) a0.Parts.length a0.Parts.length), (10, .pointer (some ⟨b562, 0, none⟩)), (37, vp0_3), (38, .int .i64 ((a0.Links.length : Nat) : Int)), (39, .int .i64 ((i53 : Nat) : Int)), (56, .bool q1068)]) (fun q1068 wl => (g_frame_Carry_J56 a2 l50 x561) q1068 = some j57 ∧ St NB w wl [nestR 43 1 (rowR 50 2 eGMsg) (.slice (some ⟨b44, 0, none⟩) a0.Parts.length a0.Parts.length) l50, blkR b562 [.int .i64 x561.From, .int .i64 x561.Out, .int .i64 x561.To, .int .i64 x561.In] 47]) ?_ ?_
          · skip
            refine wp_region_lit (n_q H (q_move rfl) rfl (W_q (q_fieldAddr0 rfl fo47_0) rfl (W_q (q_load rfl ((hS.blk 0 rfl).ld ag3 rfl)) rfl ?_))); clear H a; intro a H
            replace hm := bindS hm; obtain ⟨x1069, hx1069, hm⟩ := hm
            obtain ⟨h0x1069, h1x1069, hxx1069⟩ := rdI_some hx1069
            obtain ⟨adx1069, hAx1069⟩ := SlR.adV (h1.ext (Flat.mono _) hS.x) hv35 hxx1069
            refine n_q H (q_ixVI Tryd.underlying28 sz4 rfl hv35 hAx1069 rfl h0x1069 h1x1069) rfl (W_q (q_load rfl (SlR.ldOneV (h1.ext (Flat.mono _) hS.x) hv35 hAx1069 ag4 hxx1069 rfl)) rfl (W_q (q_not rfl) rfl (W_q (q_move rfl) rfl ?_))); clear H a; intro a H
            rcases Bool.eq_false_or_eq_true (!x1069) with hg1070 | hg1070
            · replace H := H.know 49 rfl hg1070
              replace hm := condT hm hg1070
              refine n_no H rfl rfl (by decide) rfl (W_no rfl rfl (by decide) rfl (W_no rfl rfl (by decide) rfl (W_no rfl rfl (by decide) rfl (W_no rfl rfl (by decide) rfl (W_no rfl rfl (by decide) rfl (W_q (q_pickT rfl rfl) rfl ?_)))))); clear H a; intro a H
              refine n_nil (then_normal ?_)
              obtain rfl := Option.some.inj hm; replace hm := hm567; try dsimp only at hm
              replace hS := hS.pick 1 rfl; dsimp only [List.eraseIdx] at hS
              exact join true H ⟨rfl, rfl, rfl, rfl, rfl, rfl, rfl, rfl, trivial⟩ ⟨hm, hS⟩
            · replace H := H.know 49 rfl hg1070
              replace hm := condF hm hg1070
              refine n_yes H rfl rfl (n_q H (q_move rfl) rfl (W_yes rfl rfl (W_q (q_fieldAddr0 rfl fo47_2) rfl (W_yes rfl rfl (W_q (q_load rfl ((hS.blk 0 rfl).ld ag3 rfl)) rfl (W_yes rfl rfl ?_)))))); clear H a; intro a H
              replace hm := bindS hm; obtain ⟨x1071, hx1071, hm⟩ := hm
              obtain ⟨h0x1071, h1x1071, hxx1071⟩ := rdI_some hx1071
              obtain ⟨adx1071, hAx1071⟩ := SlR.adV (h1.ext (Flat.mono _) hS.x) hv35 hxx1071
              refine n_q H (q_ixVI Tryd.underlying28 sz4 rfl hv35 hAx1071 rfl h0x1071 h1x1071) rfl (W_yes rfl rfl (W_q (q_load rfl (SlR.ldOneV (h1.ext (Flat.mono _) hS.x) hv35 hAx1071 ag4 hxx1071 rfl)) rfl (W_yes rfl rfl (W_q (q_not rfl) rfl (W_q (q_pickF rfl rfl) rfl ?_))))); clear H a; intro a H
              refine n_nil (then_normal ?_)
              obtain rfl := Option.some.inj hm; replace hm := hm567; try dsimp only at hm
              replace hS := hS.pick 1 rfl; dsimp only [List.eraseIdx] at hS
              exact join (!x1071) H ⟨rfl, rfl, rfl, rfl, rfl, rfl, rfl, rfl, trivial⟩ ⟨hm, hS⟩
          · clear H hS hm a; intro q1068 a w1072 H hR
            simp only [ent, List.map_cons, List.map_nil] at H; (try dsimp only at hR); obtain ⟨hm, hS⟩ := hR; try dsimp only [g_frame_Carry_J56] at hm
            refine c_cond H rfl (fun hc1073 => ?_) (fun hc1073 => ?_)
            · replace hm := condT hm hc1073
              refine wp_exit (then_exit (block_exit (then_normal ?_)))
              obtain rfl := Option.some.inj hm; replace hm := hm57; try dsimp only at hm
              replace hS := hS.take 1; simp only [List.take_succ_cons, List.take_zero] at hS
              exact join l50 H ⟨rfl, rfl, rfl, rfl, rfl, rfl, trivial⟩ ⟨hm, hS⟩
            · replace hm := condF hm hc1073
              refine wp_skip (then_normal (wp_seq (wp_region_lit (n_q H (q_move rfl) rfl (W_q (q_fieldAddr0 rfl fo47_0) rfl (W_q (q_load rfl ((hS.blk 1 rfl).ld ag3 rfl)) rfl ?_)))))); clear H a; intro a H
              replace hm := bindS hm; obtain ⟨x1074, hx1074, hm⟩ := hm
              obtain ⟨h0x1074, h1x1074, hxx1074⟩ := rdI_some hx1074
              obtain ⟨adx1074, hAx1074⟩ := SlR.adV (h2.ext (RSl.mono _ _) hS.x) hv37 hxx1074
              obtain ⟨csx1074, hclx1074, ⟨vx1074, rfl, hrx1074⟩, hcx1074⟩ := SlR.elV h2 hv37 hAx1074 hxx1074
              refine n_q H (q_ixVI Tryd.underlying29 sz43 rfl hv37 hAx1074 rfl h0x1074 h1x1074) rfl (W_q (q_load rfl (LdX.ext (ldElH ag43 hcx1074) hS.x)) rfl ?_); clear H a; intro a H
              obtain ⟨A1075, c1075, hv1075, hl1075, hm1075⟩ := SlR.formV (hrx1074.ext (Flat.mono _) hS.x)
              refine n_q H (q_lenV Tryd.underlying43 rfl hv1075) rfl (W_q (q_move rfl) rfl ?_); clear H a; intro a H
              refine n_nil (then_normal (wp_block ?_))
              replace hm := bindS hm; obtain ⟨q1076, hm, hm1076⟩ := hm; replace hm := iter_some hm; obtain ⟨n1076, hm⟩ := hm
              refine c_loop (σ := Nat × (List (List GMsg)) × Nat) (fun (m, l1077, i1080) => [(1, v1), (2, v2), (8, .slice (some ⟨b44, 0, none⟩) a0.Parts.length a0.Parts.length), (10, .pointer (some ⟨b562, 0, none⟩)), (37, vp0_3), (38, .int .i64 ((a0.Links.length : Nat) : Int)), (39, .int .i64 ((i53 : Nat) : Int)), (61, vx1074), (62, .int .i64 ((x1074.length : Nat) : Int)), (63, .int .i64 ((i1080 : Nat) : Int))]) (fun (m, l1077, i1080) wl => iterN (g_frame_Carry_L55 x561 x1074) m (l1077, i1080) = some q1076 ∧ St NB w wl [nestR 43 1 (rowR 50 2 eGMsg) (.slice (some ⟨b44, 0, none⟩) a0.Parts.length a0.Parts.length) l1077, blkR b562 [.int .i64 x561.From, .int .i64 x561.Out, .int .i64 x561.To, .int .i64 x561.In] 47]) (fun (m, l1077, i1080) => m) (n1076, l50, 0) H ⟨rfl, rfl, rfl, rfl, rfl, rfl, rfl, rfl, rfl, rfl, trivial⟩ ⟨hm, hS⟩ ?_
              clear H hS hm a; intro xx a w1081 H hR; obtain ⟨m, l1077, i1080⟩ := xx; simp only [ent, List.map_cons, List.map_nil] at H; (try dsimp only at hR); obtain ⟨hm, hS⟩ := hR
              replace hm := iterN_step hm; obtain ⟨m1076, o1076, rfl, hm, hn1076⟩ := hm; try dsimp only [g_frame_Carry_L55] at hm
              refine wp_seq (wp_region_lit (n_q H (q_lssN (i := i1080) (j := x1074.length) rfl rfl) rfl ?_)); clear H a; intro a H
              refine n_nil (then_normal (wp_seq (c_cond H rfl (fun hc1082 => ?_) (fun hc1082 => ?_))))
              · replace hm := condT hm hc1082
                have hlt1083 : i1080 < x1074.length := of_decide_eq_true hc1082
                refine wp_skip (then_normal ?_)
                replace hm := bindS hm; obtain ⟨j1084, hm, hm1084⟩ := hm
                refine c_join (σ := (List (List GMsg))) H (fun l1585 => [(1, v1), (2, v2), (8, .slice (some ⟨b44, 0, none⟩) a0.Parts.length a0.Parts.length), (10, .pointer (some ⟨b562, 0, none⟩)), (37, vp0_3), (38, .int .i64 ((a0.Links.length : Nat) : Int)), (39, .int .i64 ((i53 : Nat) : Int)), (61, vx1074), (62, .int .i64 ((x1074.length : Nat) : Int)), (63, .int .i64 ((i1080 : Nat) : Int))]) (fun l1585 wl => (g_frame_Carry_J54 i1080) l1585 = some o1076 ∧ St NB w wl [nestR 43 1 (rowR 50 2 eGMsg) (.slice (some ⟨b44, 0, none⟩) a0.Parts.length a0.Parts.length) l1585, blkR b562 [.int .i64 x561.From, .int .i64 x561.Out, .int .i64 x561.To, .int .i64 x561.In] 47]) ?_ ?_
                · skip
                  refine wp_block (wp_seq (wp_region_lit ?_))
                  replace hm := bindS hm; obtain ⟨x1588, hx1588, hm⟩ := hm
                  obtain ⟨adx1588, hAx1588⟩ := SlR.adV (hrx1074.ext (Flat.mono _) hS.x) hv1075 hx1588
                  refine n_q H (q_ixV (i := i1080) Tryd.underlying43 sz50 rfl hv1075 hAx1588 rfl (natI hx1588)) rfl (W_q (q_load rfl (SlR.ldAggV (hrx1074.ext (Flat.mono _) hS.x) hv1075 hAx1588 ag50 sz50 hx1588)) rfl ?_); clear H a; intro a H
                  refine n_alloc H ze50 rfl ?_
                  clear H; intro b1589 w1590 hN hE1591 hs; clear a; intro a H
                  replace hS := hS.newBlk hN hE1591 hs; clear hN hs
                  refine n_storeAll H rfl rfl (vs := [.int .i64 x1588.Port, .string x1588.Data]) rfl sz50 (hS.blk 0 rfl) rfl (by simp) ?_
                  clear H; intro w1592 hN hC1593 hz; clear a; intro a H; replace hS := hS.setBlk hN hC1593; clear hN hz
                  refine n_nil (then_normal (wp_seq (wp_region_lit (n_q H (q_fieldAddr0 rfl fo50_0) rfl (W_q (q_load rfl ((hS.blk 0 rfl).ld ag3 rfl)) rfl (W_q (q_fieldAddr0 rfl fo47_1) rfl (W_q (q_load rfl ((hS.blk 2 rfl).ld ag3 rfl)) rfl (W_q (q_eqlD rfl rfl) rfl ?_)))))))); clear H a; intro a H
                  refine n_nil (then_normal (c_cond H rfl (fun hc1594 => ?_) (fun hc1594 => ?_)))
                  · replace hm := condT hm hc1594
                    refine c_ord (kB w.heap.size (b1589 :: (b562 :: (blks (.slice (some ⟨b44, 0, none⟩) a0.Parts.length a0.Parts.length) ++ []))) w1592.drew.heap.size) 16 (by kernel_rfl) ?_
                    obtain ⟨w1595, hw1595⟩ : ∃ x, x = w1592.drew := ⟨_, rfl⟩; rw [← hw1595]; have hE1596 : Ext w1592 w1595 := by rw [hw1595]; exact Ext.drew' _
                    clear hw1595
                    replace hS := hS.ext hE1596
                    have hh_b1589 := (hS.blk 0 rfl).lt
                    have hh_b562 := (hS.blk 2 rfl).lt
                    have hh_o1079 := hS.nestLt 1 rfl
                    have hh1597 := hS.x.size
                    have hW := Nat.le_refl w1595.heap.size
                    refine k_takeT 0 H rfl (q_move rfl) rfl (by kernel_rfl) (by kernel_rfl) (by kernel_rfl) (by kernel_rfl) (fun _ _ _ h => h) ?_; clear H a; intro a H
                    refine k_takeT 1 H rfl (q_fieldAddr0 rfl fo47_2) rfl (by kernel_rfl) (by kernel_rfl) (by kernel_rfl) (by kernel_rfl) (fun _ _ _ h => h) ?_; clear H a; intro a H
                    refine k_take 2 H rfl (q_load rfl ((hS.blk 2 rfl).ldB hh_b562 (kB_not (by simp)) ag3 rfl)) rfl (by kernel_rfl) (by kernel_rfl) (by kernel_rfl) (by kernel_rfl) (fun _ _ _ h => h) ?_; clear H a; intro a H
                    refine k_takeT 3 H rfl (q_move rfl) rfl (by kernel_rfl) (by kernel_rfl) (by kernel_rfl) (by kernel_rfl) (fun _ _ _ h => h) ?_; clear H a; intro a H
                    refine k_takeT 4 H rfl (q_fieldAddr0 rfl fo47_2) rfl (by kernel_rfl) (by kernel_rfl) (by kernel_rfl) (by kernel_rfl) (fun _ _ _ h => h) ?_; clear H a; intro a H
                    refine k_take 5 H rfl (q_load rfl ((hS.blk 2 rfl).ldB hh_b562 (kB_not (by simp)) ag3 rfl)) rfl (by kernel_rfl) (by kernel_rfl) (by kernel_rfl) (by kernel_rfl) (fun _ _ _ h => h) ?_; clear H a; intro a H
                    obtain ⟨A1598, c1598, hv1598, hl1598, hm1598⟩ := SlR.formV (hS.nestSl 1 rfl (rowR_R (E := 50) (k := 2) (e := eGMsg) (fun _ _ => rfl)))
                    replace hm := bindS hm; obtain ⟨x1599, hx1599, hm⟩ := hm
                    obtain ⟨h0x1599, h1x1599, hxx1599⟩ := rdI_some hx1599
                    obtain ⟨adx1599, hAx1599⟩ := SlR.adV (hS.nestSl 1 rfl (rowR_R (E := 50) (k := 2) (e := eGMsg) (fun _ _ => rfl))) hv1598 hxx1599
                    obtain ⟨csx1599, hclx1599, ⟨vx1599, rfl, hrx1599⟩, hcx1599⟩ := SlR.elV (hS.nestSl 1 rfl (rowR_R (E := 50) (k := 2) (e := eGMsg) (fun _ _ => rfl))) hv1598 hAx1599 hxx1599
                    refine k_takeT 6 H rfl (q_ixVI Tryd.underlying29 sz43 rfl hv1598 hAx1599 rfl h0x1599 h1x1599) rfl (by kernel_rfl) (by kernel_rfl) (by kernel_rfl) (by kernel_rfl) (fun _ _ _ h => h) ?_; clear H a; intro a H
                    refine k_take 7 H rfl (q_load rfl (LdC.cellB ag43 (cell_ext (hcx1599 0 _ rfl) Ext.rfl') (hh_o1079 _ (blk_of hv1598 hAx1599)) (kB_not (by simp [(blk_of hv1598 hAx1599)])))) rfl (by kernel_rfl) (by kernel_rfl) (by kernel_rfl) (by kernel_rfl) (fun _ _ _ h => h) ?_; clear H a; intro a H
                    refine k_takeT 8 H rfl (q_fieldAddr0 rfl fo47_3) rfl (by kernel_rfl) (by kernel_rfl) (by kernel_rfl) (by kernel_rfl) (fun _ _ _ h => h) ?_; clear H a; intro a H
                    refine k_take 9 H rfl (q_load rfl ((hS.blk 2 rfl).ldB hh_b562 (kB_not (by simp)) ag3 rfl)) rfl (by kernel_rfl) (by kernel_rfl) (by kernel_rfl) (by kernel_rfl) (fun _ _ _ h => h) ?_; clear H a; intro a H
                    refine k_takeT 10 H rfl (q_fieldAddr0 rfl fo50_1) rfl (by kernel_rfl) (by kernel_rfl) (by kernel_rfl) (by kernel_rfl) (fun _ _ _ h => h) ?_; clear H a; intro a H
                    refine k_take 11 H rfl (q_load rfl ((hS.blk 0 rfl).ldB hh_b1589 (kB_not (by simp)) ag9 rfl)) rfl (by kernel_rfl) (by kernel_rfl) (by kernel_rfl) (by kernel_rfl) (fun _ _ _ h => h) ?_; clear H a; intro a H
                    refine k_takeT 12 H rfl (q_build (cs := [.int .i64 x561.In, .string x1588.Data]) ze50 bd50 pl50 rfl (by kernel_rfl)) rfl (by kernel_rfl) (by kernel_rfl) (by kernel_rfl) (by kernel_rfl) (fun _ _ _ h => h) ?_; clear H a; intro a H
                    refine k_buildSlice 13 H rfl Tryd.underlying43 sz50 ze50 rfl rfl rfl (cs := [.int .i64 x561.In, .string x1588.Data]) (by kernel_rfl) rfl (by kernel_rfl) ?_
                    clear H; intro b1602 w1600 hN hE1601 hs; clear a; intro a H
                    have hge_b1602 : w1595.heap.size ≤ b1602 := hs ▸ hW
                    replace hS := hS.newBlk hN hE1601 hs; clear hN hs
                    replace hW := Nat.le_trans hW hE1601.size
                    replace hS := hS.blkOwnL (e := eGMsg) (k := 2) [(⟨x561.In, x1588.Data⟩ : GMsg)] rfl rfl (by simp [maxLen])
                    replace hS := hS.pick 2 rfl; dsimp only [List.eraseIdx] at hS
                    obtain ⟨css1604, hok1604, hS⟩ := hS.rowAt hxx1599 hv1598 hAx1599 (cell_ext (hcx1599 0 _ rfl) hE1601)
                    replace hm := chkS hm; obtain ⟨hk1605, hm⟩ := hm
                    refine k_app (e := eGMsg) 14 H rfl rfl rfl Tryd.underlying43 Tryd.underlying43 (by simp) el50 (hS.own 0 rfl) (((hS.own 3 rfl).slr rfl (fun _ _ => rfl)).src (fun _ _ => rfl)) eGMsg_one hk1605 (by simp only [maxLen]; omega) rfl (by kernel_rfl) (.inl (fun c hc hlt => mem_kB hlt (hS.geOwn 0 rfl c hc) (notin_cons (hS.neOwn' 0 4 (by decide) rfl rfl c hc) (notin_cons (hS.neOwn' 0 5 (by decide) rfl rfl c hc) (notin_app (hS.disjOwn 0 1 (by decide) rfl rfl c hc) notin_nil))))) ?_
                    clear H; intro v1608 w1606 hN hC1607 hb; clear a; intro a H; replace hS := hS.setOwn hN hC1607 hb; clear hN hb
                    replace hW := Nat.le_trans hW hC1607.size
                    refine k_takeT 15 H rfl (q_ixVI Tryd.underlying29 sz43 rfl hv1598 hAx1599 rfl h0x1599 h1x1599) rfl (by kernel_rfl) (by kernel_rfl) (by kernel_rfl) (by kernel_rfl) (fun _ _ _ h => h) ?_; clear H a; intro a H
                    replace hS := hS.pick 1 rfl; dsimp only [List.eraseIdx] at hS
                    refine k_storeR 16 H rfl rfl rfl sz43 (hS.own 0 rfl) hv1598 hAx1599 (natI hxx1599) (((hS.own 1 rfl).slr rfl (fun _ _ => rfl))).one (by kernel_rfl) (by kernel_rfl) ?_
                    clear H; intro w1610 hN hC1611; clear a; intro a H; replace hS := hS.setOwn hN hC1611 (.inl rfl); clear hN
                    replace hS := hS.pick 2 rfl; dsimp only [List.eraseIdx] at hS
                    replace hS := hS.pick 2 rfl; dsimp only [List.eraseIdx] at hS
                    replace hS := hS.pick 2 rfl; dsimp only [List.eraseIdx] at hS
                    replace hS := St.rowSet hok1604 (natI hxx1599) (((hS.own 1 rfl).slr rfl (fun _ _ => rfl))).one hS
                    refine k_done (by kernel_rfl) ?_
                    refine block_normal (then_normal ?_)
                    obtain rfl := Option.some.inj hm; replace hm := hm1084; try dsimp only at hm
                    replace hS := hS.pick 3 rfl; dsimp only [List.eraseIdx] at hS
                    replace hS := hS.pick 1 rfl; dsimp only [List.eraseIdx] at hS
                    replace hS := hS.take 2; simp only [List.take_succ_cons, List.take_zero] at hS
                    exact join (l1077.set x561.To.toNat (x1599 ++ [(⟨x561.In, x1588.Data⟩ : GMsg)])) H ⟨rfl, rfl, rfl, rfl, rfl, rfl, rfl, rfl, rfl, rfl, trivial⟩ ⟨hm, hS⟩
                  · replace hm := condF hm hc1594
                    refine wp_skip (block_normal (then_normal ?_))
                    obtain rfl := Option.some.inj hm; replace hm := hm1084; try dsimp only at hm
                    replace hS := hS.pick 2 rfl; dsimp only [List.eraseIdx] at hS
                    replace hS := hS.pick 2 rfl; dsimp only [List.eraseIdx] at hS
                    replace hS := hS.take 2; simp only [List.take_succ_cons, List.take_zero] at hS
                    exact join l1077 H ⟨rfl, rfl, rfl, rfl, rfl, rfl, rfl, rfl, rfl, rfl, trivial⟩ ⟨hm, hS⟩
                · clear H hS hm a; intro l1585 a w1612 H hR
                  simp only [ent, List.map_cons, List.map_nil] at H; (try dsimp only at hR); obtain ⟨hm, hS⟩ := hR; try dsimp only [g_frame_Carry_J54] at hm
                  refine wp_region_lit (n_q H (q_incr (i := i1080) (j := 1) rfl rfl (by omega)) rfl (W_q (q_move rfl) rfl ?_)); clear H a; intro a H
                  refine n_nil (then_normal ?_)
                  obtain rfl := Option.some.inj hm
                  exact round (m1076, l1585, i1080 + 1) H ⟨rfl, rfl, rfl, rfl, rfl, rfl, rfl, rfl, rfl, rfl, trivial⟩ ⟨hn1076, hS⟩ (Nat.lt_succ_self _)
              · replace hm := condF hm hc1082
                refine wp_exit (then_exit (then_exit (block_exit ?_)))
                obtain rfl := Option.some.inj hm; have hz : _ = q1076 := hn1076; subst hz; replace hm := hm1076; try dsimp only at hm
                refine block_normal (then_normal ?_)
                obtain rfl := Option.some.inj hm; replace hm := hm57; try dsimp only at hm
                replace hS := hS.take 1; simp only [List.take_succ_cons, List.take_zero] at hS
                exact join l1077 H ⟨rfl, rfl, rfl, rfl, rfl, rfl, trivial⟩ ⟨hm, hS⟩
        · clear H hS hm a; intro l558 a w1613 H hR
          simp only [ent, List.map_cons, List.map_nil] at H; (try dsimp only at hR); obtain ⟨hm, hS⟩ := hR; try dsimp only [g_frame_Carry_J57] at hm
          refine wp_region_lit (n_q H (q_incr (i := i53) (j := 1) rfl rfl (by omega)) rfl (W_q (q_move rfl) rfl ?_)); clear H a; intro a H
          refine n_nil (then_normal ?_)
          obtain rfl := Option.some.inj hm
          exact round (m49, l558, i53 + 1) H ⟨rfl, rfl, rfl, rfl, rfl, rfl, trivial⟩ ⟨hn49, hS⟩ (Nat.lt_succ_self _)
      · replace hm := condF hm hc55
        refine wp_exit (then_exit (then_exit (block_exit ?_)))
        obtain rfl := Option.some.inj hm; have hz : _ = q49 := hn49; subst hz; replace hm := hm49; try dsimp only at hm
        refine then_normal (wp_seq (wp_region_lit (n_q H (q_move rfl) rfl (W_q (q_assign rfl) rfl (W_q (q_assign rfl) rfl ?_))))); clear H a; intro a H
        refine n_nil (then_normal (wp_ret ?_))
        obtain rfl := Option.some.inj hm
        replace hS := hS.dNil (A := A)
        replace hS := hS.pick 1 rfl; dsimp only [List.eraseIdx] at hS
        refine ret2 H (.inr rfl) rfl rfl rfl ?_
        exact ⟨_, _, rfl, hS⟩
theorem g_frame_Windows_w {w : World} {A : Nat → Addr} {cs0 : List Value} {a0 : GConfig} {a1 : Int} (hG : EV A w) (h0 : RGConfig w cs0 a0) {r : List GWindow × ErrM} (hm : g_frame_Windows a0 a1 = some r) :
    Calls Tryd.prog 38 [.agg cs0.toArray, .int .i64 a1].toArray w (Ret fun u w' => ∃ h_0 h_1, u = .tuple #[h_0, h_1] ∧ St NB w w' [ownR 105 3 h_0 r.1.length (r.1.flatMap eGWindow), erQ A h_1 r.2]) := by
  obtain ⟨vp0_0, vp0_1, vp0_2, vp0_3, rfl, hrp0_0, hrp0_1, hrp0_2, hrp0_3⟩ := h0
  have hS := St.begin NB w
  unfold g_frame_Windows at hm
  refine enter Tryd.func38 rfl rfl rfl ?_; intro a H; dsimp only [enumL, Nat.zero_add, Nat.reduceAdd] at H
  refine wp_seq (wp_region_lit (n_box H rfl (cs := [.int .i64 a0.Ticks, vp0_0, vp0_1, vp0_2, vp0_3, .int .i64 a0.Tries]) rfl rfl ?_))
  clear H; intro b21 w22 hN hE23 hs; clear a; intro a H
  replace hS := hS.newBlk hN hE23 hs; clear hN hs
  refine n_q H (q_assign rfl) rfl (W_q (q_assign rfl) rfl ?_); clear H a; intro a H
  refine n_nil (then_normal (wp_seq (wp_seq (wp_region_lit (n_q H (q_load rfl ((hS.blk 0 rfl).ldAll ag27 sz27)) rfl ?_))))); clear H a; intro a H
  replace hm := bindS hm; obtain ⟨r24, hr24, hm⟩ := hm
  refine n_call H rfl en35 (g_frame_Check_w (A := A) (hG.ext hS.x) (⟨_, _, _, _, rfl, (hrp0_0.ext RGPlan.mono hS.x), (hrp0_1.ext (Flat.mono _) hS.x), (hrp0_2.ext (Flat.mono _) hS.x), (hrp0_3.ext (Flat.mono _) hS.x)⟩ : RGConfig _ [.int .i64 a0.Ticks, vp0_0, vp0_1, vp0_2, vp0_3, .int .i64 a0.Tries] a0) hr24) rfl ?_
  clear H; intro u25 w27 hv; clear a; intro a H; obtain ⟨_, rfl, hE28⟩ := hv
  replace hS := hS.new hE28; simp only [List.cons_append, List.nil_append] at hS
  refine n_q H (q_cast (q_nnilI Tryd.underlying36 rfl rfl (hS.any 0 rfl : IsE A w27 u25 r24).form) (show _ = Value.bool (!decide (r24 = .nil)) by rw [IsErr.isNil (hS.any 0 rfl : IsE A w27 u25 r24)])) rfl ?_; clear H a; intro a H
  refine n_nil (then_normal (c_cond H rfl (fun hc30 => ?_) (fun hc30 => ?_)))
  · replace hm := condT hm hc30
    refine wp_seq (c_quiet (by kernel_rfl) (by kernel_rfl) ?_)
    refine qq_q H (q_load rfl ((hG.ext hS.x).ld gPlan (by decide) ag36)) rfl ?_; clear H a; intro a H
    refine qq_q H (q_assign rfl) rfl ?_; clear H a; intro a H
    refine qq_q H (q_assign rfl) rfl ?_; clear H a; intro a H
    refine qq_nil ?_; intro w31 hE32
    replace hS := hS.ext hE32
    refine then_normal (wp_ret (then_ret ?_))
    obtain rfl := Option.some.inj hm
    replace hS := hS.nilOwn 105 3
    replace hS := hS.dVar (A := A) (g := gPlan) (by decide)
    replace hS := hS.pick 1 rfl; dsimp only [List.eraseIdx] at hS
    replace hS := hS.take 2; simp only [List.take_succ_cons, List.take_zero] at hS
    refine ret2 H (.inr rfl) rfl rfl rfl ?_
    exact ⟨_, _, rfl, hS⟩
  · replace hm := condF hm hc30
    refine wp_skip (then_normal (wp_seq (wp_seq (wp_region_lit (n_q H (q_load rfl ((hS.blk 1 rfl).ldAll ag27 sz27)) rfl (W_q (q_move rfl) rfl ?_)))))); clear H a; intro a H
    replace hm := bindS hm; obtain ⟨r35, hr35, hm⟩ := hm
    refine n_call H rfl en72 (g_frame_owner_w (A := A) (⟨_, _, _, _, rfl, (hrp0_0.ext RGPlan.mono hS.x), (hrp0_1.ext (Flat.mono _) hS.x), (hrp0_2.ext (Flat.mono _) hS.x), (hrp0_3.ext (Flat.mono _) hS.x)⟩ : RGConfig _ [.int .i64 a0.Ticks, vp0_0, vp0_1, vp0_2, vp0_3, .int .i64 a0.Tries] a0) hr35) rfl ?_
    clear H; intro x38 w36 hv; clear a; intro a H; obtain ⟨rfl, hE37⟩ := hv
    replace hS := hS.ext hE37
    refine n_q H (q_not rfl) rfl ?_; clear H a; intro a H
    refine n_nil (then_normal (c_cond H rfl (fun hc39 => ?_) (fun hc39 => ?_)))
    · replace hm := condT hm hc39
      refine wp_seq (c_quiet (by kernel_rfl) (by kernel_rfl) ?_)
      refine qq_q H (q_load rfl ((hG.ext hS.x).ld gArg (by decide) ag36)) rfl ?_; clear H a; intro a H
      refine qq_q H (q_assign rfl) rfl ?_; clear H a; intro a H
      refine qq_q H (q_assign rfl) rfl ?_; clear H a; intro a H
      refine qq_nil ?_; intro w40 hE41
      replace hS := hS.ext hE41
      refine then_normal (wp_ret (then_ret ?_))
      obtain rfl := Option.some.inj hm
      replace hS := hS.nilOwn 105 3
      replace hS := hS.dVar (A := A) (g := gArg) (by decide)
      replace hS := hS.pick 1 rfl; dsimp only [List.eraseIdx] at hS
      replace hS := hS.take 2; simp only [List.take_succ_cons, List.take_zero] at hS
      refine ret2 H (.inr rfl) rfl rfl rfl ?_
      exact ⟨_, _, rfl, hS⟩
    · replace hm := condF hm hc39
      refine wp_skip (then_normal (wp_seq (wp_region_lit (n_q H (q_assign rfl) rfl ?_)))); clear H a; intro a H
      refine n_nil (then_normal (wp_seq (wp_seq (wp_region_lit (n_q H (q_fieldAddr0 rfl fo27_3) rfl (W_q (q_load rfl ((hS.blk 1 rfl).ld ag24 rfl)) rfl ?_)))))); clear H a; intro a H
      obtain ⟨A44, c44, hv44, hl44, hm44⟩ := SlR.formV (hrp0_2.ext (Flat.mono _) hS.x)
      refine n_q H (q_lenV Tryd.underlying24 rfl hv44) rfl (W_q (q_move rfl) rfl ?_); clear H a; intro a H
      refine n_nil (then_normal (wp_block ?_))
      replace hS := hS.nilOwn 105 3
      replace hS := hS.take 1; simp only [List.take_succ_cons, List.take_zero] at hS
      replace hm := bindS hm; obtain ⟨q45, hm, hm45⟩ := hm; replace hm := iter_some hm; obtain ⟨n45, hm⟩ := hm
      refine c_loop (σ := Nat × (List GWindow) × Nat × Value) (fun (m, l46, i49, v47) => [(1, .int .i64 a1), (6, v47), (19, vp0_2), (20, .int .i64 ((a0.Windows.length : Nat) : Int)), (21, .int .i64 ((i49 : Nat) : Int))]) (fun (m, l46, i49, v47) wl => iterN (g_frame_Windows_L4 a0 a1) m (l46, i49) = some q45 ∧ St NB w wl [ownR 105 3 v47 l46.length (l46.flatMap eGWindow)]) (fun (m, l46, i49, v47) => m) (n45, ([] : List GWindow), 0, .slice none 0 0) H ⟨rfl, rfl, rfl, rfl, rfl, trivial⟩ ⟨hm, hS⟩ ?_
      clear H hS hm a; intro xx a w51 H hR; obtain ⟨m, l46, i49, v47⟩ := xx; simp only [ent, List.map_cons, List.map_nil] at H; (try dsimp only at hR); obtain ⟨hm, hS⟩ := hR
      replace hm := iterN_step hm; obtain ⟨m45, o45, rfl, hm, hn45⟩ := hm; try dsimp only [g_frame_Windows_L4] at hm
      refine wp_seq (wp_region_lit (n_q H (q_lssN (i := i49) (j := a0.Windows.length) rfl rfl) rfl ?_)); clear H a; intro a H
      refine n_nil (then_normal (wp_seq (c_cond H rfl (fun hc52 => ?_) (fun hc52 => ?_))))
      · replace hm := condT hm hc52
        have hlt53 : i49 < a0.Windows.length := of_decide_eq_true hc52
        refine wp_skip (then_normal ?_)
        replace hm := bindS hm; obtain ⟨j54, hm, hm54⟩ := hm
        refine c_join (σ := (List GWindow) × Value) H (fun (l555, v556) => [(1, .int .i64 a1), (6, v556), (19, vp0_2), (20, .int .i64 ((a0.Windows.length : Nat) : Int)), (21, .int .i64 ((i49 : Nat) : Int))]) (fun (l555, v556) wl => (g_frame_Windows_J3 i49) l555 = some o45 ∧ St NB w wl [ownR 105 3 v556 l555.length (l555.flatMap eGWindow)]) ?_ ?_
        · skip
          refine wp_block (wp_seq (wp_region_lit ?_))
          replace hm := bindS hm; obtain ⟨x558, hx558, hm⟩ := hm
          obtain ⟨adx558, hAx558⟩ := SlR.adV (hrp0_2.ext (Flat.mono _) hS.x) hv44 hx558
          refine n_q H (q_ixV (i := i49) Tryd.underlying24 sz105 rfl hv44 hAx558 rfl (natI hx558)) rfl (W_q (q_load rfl (SlR.ldAggV (hrp0_2.ext (Flat.mono _) hS.x) hv44 hAx558 ag105 sz105 hx558)) rfl ?_); clear H a; intro a H
          refine n_alloc H ze105 rfl ?_
          clear H; intro b559 w560 hN hE561 hs; clear a; intro a H
          replace hS := hS.newBlk hN hE561 hs; clear hN hs
          refine n_storeAll H rfl rfl (vs := [.int .i64 x558.Part, .int .i64 x558.Start, .int .i64 x558.Len]) rfl sz105 (hS.blk 0 rfl) rfl (by simp) ?_
          clear H; intro w562 hN hC563 hz; clear a; intro a H; replace hS := hS.setBlk hN hC563; clear hN hz
          refine n_nil (then_normal (wp_seq (wp_region_lit (n_q H (q_fieldAddr0 rfl fo105_0) rfl (W_q (q_load rfl ((hS.blk 0 rfl).ld ag3 rfl)) rfl (W_q (q_move rfl) rfl (W_q (q_eqlD rfl rfl) rfl ?_))))))); clear H a; intro a H
          refine n_nil (then_normal (c_cond H rfl (fun hc564 => ?_) (fun hc564 => ?_)))
          · replace hm := condT hm hc564
            refine wp_region_lit (n_q H (q_move rfl) rfl (W_q (q_load rfl ((hS.blk 0 rfl).ldAll ag105 sz105)) rfl ?_)); clear H a; intro a H
            refine n_buildSlice H Tryd.underlying24 sz105 ze105 rfl rfl rfl (cs := [.int .i64 x558.Part, .int .i64 x558.Start, .int .i64 x558.Len]) (by kernel_rfl) rfl ?_
            clear H; intro b567 w565 hN hE566 hs; clear a; intro a H
            replace hS := hS.newBlk hN hE566 hs; clear hN hs
            replace hS := hS.blkOwnL (e := eGWindow) (k := 3) [x558] rfl rfl (by simp [maxLen])
            replace hS := hS.pick 2 rfl; dsimp only [List.eraseIdx] at hS
            replace hm := chkS hm; obtain ⟨hk569, hm⟩ := hm
            refine n_app (e := eGWindow) H rfl rfl Tryd.underlying24 Tryd.underlying24 (by simp) el105 (hS.own 0 rfl) (((hS.own 1 rfl).slr rfl (fun _ _ => rfl)).src (fun _ _ => rfl)) eGWindow_one hk569 (by simp only [maxLen]; omega) rfl ?_
            clear H; intro v572 w570 hN hC571 hb; clear a; intro a H; replace hS := hS.setOwn hN hC571 hb; clear hN hb
            refine n_q H (q_assign rfl) rfl ?_; clear H a; intro a H
            refine n_nil (block_normal (then_normal ?_))
            obtain rfl := Option.some.inj hm; replace hm := hm54; try dsimp only at hm
            replace hS := hS.take 1; simp only [List.take_succ_cons, List.take_zero] at hS
            exact join ((l46 ++ [x558]), v572) H ⟨rfl, rfl, rfl, rfl, rfl, trivial⟩ ⟨hm, hS⟩
          · replace hm := condF hm hc564
            refine wp_skip (block_normal (then_normal ?_))
            obtain rfl := Option.some.inj hm; replace hm := hm54; try dsimp only at hm
            replace hS := hS.pick 1 rfl; dsimp only [List.eraseIdx] at hS
            replace hS := hS.take 1; simp only [List.take_succ_cons, List.take_zero] at hS
            exact join (l46, v47) H ⟨rfl, rfl, rfl, rfl, rfl, trivial⟩ ⟨hm, hS⟩
        · clear H hS hm a; intro xx a w574 H hR
          obtain ⟨l555, v556⟩ := xx
          simp only [ent, List.map_cons, List.map_nil] at H; (try dsimp only at hR); obtain ⟨hm, hS⟩ := hR; try dsimp only [g_frame_Windows_J3] at hm
          refine wp_region_lit (n_q H (q_incr (i := i49) (j := 1) rfl rfl (by omega)) rfl (W_q (q_move rfl) rfl ?_)); clear H a; intro a H
          refine n_nil (then_normal ?_)
          obtain rfl := Option.some.inj hm
          exact round (m45, l555, i49 + 1, v556) H ⟨rfl, rfl, rfl, rfl, rfl, trivial⟩ ⟨hn45, hS⟩ (Nat.lt_succ_self _)
      · replace hm := condF hm hc52
        refine wp_exit (then_exit (then_exit (block_exit ?_)))
        obtain rfl := Option.some.inj hm; have hz : _ = q45 := hn45; subst hz; replace hm := hm45; try dsimp only at hm
        refine then_normal (wp_seq (wp_region_lit (n_q H (q_move rfl) rfl (W_q (q_assign rfl) rfl (W_q (q_assign rfl) rfl ?_))))); clear H a; intro a H
        refine n_nil (then_normal (wp_ret ?_))
        obtain rfl := Option.some.inj hm
        replace hS := hS.dNil (A := A)
        replace hS := hS.pick 1 rfl; dsimp only [List.eraseIdx] at hS
        refine ret2 H (.inr rfl) rfl rfl rfl ?_
        exact ⟨_, _, rfl, hS⟩
theorem g_frame_sum_w {w : World} {A : Nat → Addr} {v0 : Value} {a0 : List GWindow} (h0 : SlR w 3 (Flat eGWindow) v0 a0) {r : Int} (hm : g_frame_sum a0 = some r) :
    Calls Tryd.prog 71 [v0].toArray w (Ret fun u w' => u = .int .i64 r ∧ Ext w w') := by
  have hS := St.begin NB w
  unfold g_frame_sum at hm
  refine enter Tryd.func71 rfl rfl rfl ?_; intro a H; dsimp only [enumL, Nat.zero_add, Nat.reduceAdd] at H
  refine wp_seq (wp_region_lit (n_q H (q_assign rfl) rfl ?_)); clear H a; intro a H
  refine n_nil (then_normal (wp_seq (wp_region_lit (n_q H (q_assign rfl) rfl ?_)))); clear H a; intro a H
  refine n_nil (then_normal (wp_seq (wp_seq (wp_region_lit (n_q H (q_move rfl) rfl ?_))))); clear H a; intro a H
  obtain ⟨A21, c21, hv21, hl21, hm21⟩ := SlR.formV (h0.ext (Flat.mono _) hS.x)
  refine n_q H (q_lenV Tryd.underlying24 rfl hv21) rfl (W_q (q_move rfl) rfl ?_); clear H a; intro a H
  refine n_nil (then_normal (wp_block ?_))
  replace hm := bindS hm; obtain ⟨q22, hm, hm22⟩ := hm; replace hm := iter_some hm; obtain ⟨n22, hm⟩ := hm
  refine c_loop (σ := Nat × Int × Nat) (fun (m, z25, i24) => [(3, .int .i64 z25), (6, v0), (7, .int .i64 ((a0.length : Nat) : Int)), (8, .int .i64 ((i24 : Nat) : Int))]) (fun (m, z25, i24) wl => iterN (g_frame_sum_L1 a0) m (z25, i24) = some q22 ∧ St NB w wl []) (fun (m, z25, i24) => m) (n22, 0, 0) H ⟨rfl, rfl, rfl, rfl, trivial⟩ ⟨hm, hS⟩ ?_
  clear H hS hm a; intro xx a w26 H hR; obtain ⟨m, z25, i24⟩ := xx; simp only [ent, List.map_cons, List.map_nil] at H; (try dsimp only at hR); obtain ⟨hm, hS⟩ := hR
  replace hm := iterN_step hm; obtain ⟨m22, o22, rfl, hm, hn22⟩ := hm; try dsimp only [g_frame_sum_L1] at hm
  refine wp_seq (wp_region_lit (n_q H (q_lssN (i := i24) (j := a0.length) rfl rfl) rfl ?_)); clear H a; intro a H
  refine n_nil (then_normal (wp_seq (c_cond H rfl (fun hc27 => ?_) (fun hc27 => ?_))))
  · replace hm := condT hm hc27
    have hlt28 : i24 < a0.length := of_decide_eq_true hc27
    refine wp_skip (then_normal (wp_seq (wp_block (wp_seq (wp_region_lit ?_)))))
    replace hm := bindS hm; obtain ⟨x29, hx29, hm⟩ := hm
    obtain ⟨adx29, hAx29⟩ := SlR.adV (h0.ext (Flat.mono _) hS.x) hv21 hx29
    refine n_q H (q_ixV (i := i24) Tryd.underlying24 sz105 rfl hv21 hAx29 rfl (natI hx29)) rfl (W_q (q_load rfl (SlR.ldAggV (h0.ext (Flat.mono _) hS.x) hv21 hAx29 ag105 sz105 hx29)) rfl ?_); clear H a; intro a H
    refine n_alloc H ze105 rfl ?_
    clear H; intro b30 w31 hN hE32 hs; clear a; intro a H
    replace hS := hS.newBlk hN hE32 hs; clear hN hs
    refine n_storeAll H rfl rfl (vs := [.int .i64 x29.Part, .int .i64 x29.Start, .int .i64 x29.Len]) rfl sz105 (hS.blk 0 rfl) rfl (by simp) ?_
    clear H; intro w33 hN hC34 hz; clear a; intro a H; replace hS := hS.setBlk hN hC34; clear hN hz
    refine n_nil (then_normal (wp_region_lit (n_q H (q_move rfl) rfl (W_q (q_fieldAddr0 rfl fo105_2) rfl (W_q (q_load rfl ((hS.blk 0 rfl).ld ag3 rfl)) rfl (W_q (q_addW rfl rfl) rfl (W_q (q_assign rfl) rfl ?_))))))); clear H a; intro a H
    refine n_nil (block_normal (then_normal (wp_region_lit (n_q H (q_incr (i := i24) (j := 1) rfl rfl (by omega)) rfl (W_q (q_move rfl) rfl ?_))))); clear H a; intro a H
    refine n_nil (then_normal ?_)
    obtain rfl := Option.some.inj hm
    replace hS := hS.take 0; simp only [List.take_succ_cons, List.take_zero] at hS
    exact round (m22, (IntKind.i64.wrap (z25 + x29.Len)), i24 + 1) H ⟨rfl, rfl, rfl, rfl, trivial⟩ ⟨hn22, hS⟩ (Nat.lt_succ_self _)
  · replace hm := condF hm hc27
    refine wp_exit (then_exit (then_exit (block_exit ?_)))
    obtain rfl := Option.some.inj hm; have hz : _ = q22 := hn22; subst hz; replace hm := hm22; try dsimp only at hm
    refine then_normal (wp_seq (wp_region_lit (n_q H (q_move rfl) rfl (W_q (q_assign rfl) rfl ?_)))); clear H a; intro a H
    refine n_nil (then_normal (wp_ret ?_))
    obtain rfl := Option.some.inj hm
    refine ret1 H (.inr rfl) rfl rfl ?_
    exact ⟨rfl, hS.x⟩
theorem g_frame_Load_w {w : World} {A : Nat → Addr} {cs0 : List Value} {a0 : GConfig} {a1 : Int} (hG : EV A w) (h0 : RGConfig w cs0 a0) {r : Int × ErrM} (hm : g_frame_Load a0 a1 = some r) :
    Calls Tryd.prog 37 [.agg cs0.toArray, .int .i64 a1].toArray w (Ret fun u w' => ∃ h_0, u = .tuple #[.int .i64 r.1, h_0] ∧ St NB w w' [erQ A h_0 r.2]) := by
  obtain ⟨vp0_0, vp0_1, vp0_2, vp0_3, rfl, hrp0_0, hrp0_1, hrp0_2, hrp0_3⟩ := h0
  have hS := St.begin NB w
  unfold g_frame_Load at hm
  refine enter Tryd.func37 rfl rfl rfl ?_; intro a H; dsimp only [enumL, Nat.zero_add, Nat.reduceAdd] at H
  refine wp_seq (wp_region_lit (n_box H rfl (cs := [.int .i64 a0.Ticks, vp0_0, vp0_1, vp0_2, vp0_3, .int .i64 a0.Tries]) rfl rfl ?_))
  clear H; intro b21 w22 hN hE23 hs; clear a; intro a H
  replace hS := hS.newBlk hN hE23 hs; clear hN hs
  refine n_q H (q_assign rfl) rfl (W_q (q_assign rfl) rfl ?_); clear H a; intro a H
  refine n_nil (then_normal (wp_seq (wp_region_lit (n_q H (q_load rfl ((hS.blk 0 rfl).ldAll ag27 sz27)) rfl (W_q (q_move rfl) rfl ?_))))); clear H a; intro a H
  replace hm := bindS hm; obtain ⟨r24, hr24, hm⟩ := hm
  refine n_call H rfl en38 (g_frame_Windows_w (A := A) (hG.ext hS.x) (⟨_, _, _, _, rfl, (hrp0_0.ext RGPlan.mono hS.x), (hrp0_1.ext (Flat.mono _) hS.x), (hrp0_2.ext (Flat.mono _) hS.x), (hrp0_3.ext (Flat.mono _) hS.x)⟩ : RGConfig _ [.int .i64 a0.Ticks, vp0_0, vp0_1, vp0_2, vp0_3, .int .i64 a0.Tries] a0) hr24) rfl ?_
  clear H; intro x31 w29 hv; clear a; intro a H; obtain ⟨u25, u26, rfl, hE30⟩ := hv
  replace hS := hS.new hE30; simp only [List.cons_append, List.nil_append] at hS
  refine n_q H (q_move rfl) rfl (W_q (q_extract rfl rfl) rfl (W_q (q_extract rfl rfl) rfl (W_q (q_assign rfl) rfl (W_q (q_assign rfl) rfl ?_)))); clear H a; intro a H
  refine n_nil (then_normal (wp_seq (wp_region_lit (n_q H (q_move rfl) rfl ?_)))); clear H a; intro a H
  replace hm := bindS hm; obtain ⟨r32, hr32, hm⟩ := hm
  refine n_call H rfl en71 (g_frame_sum_w (A := A) ((hS.own 0 rfl).slr rfl (fun _ _ => rfl)) hr32) rfl ?_
  clear H; intro x35 w33 hv; clear a; intro a H; obtain ⟨rfl, hE34⟩ := hv
  replace hS := hS.ext hE34
  refine n_q H (q_move rfl) rfl (W_q (q_assign rfl) rfl (W_q (q_assign rfl) rfl ?_)); clear H a; intro a H
  refine n_nil (then_normal (wp_ret ?_))
  obtain rfl := Option.some.inj hm
  replace hS := hS.pick 1 rfl; dsimp only [List.eraseIdx] at hS
  replace hS := hS.take 1; simp only [List.take_succ_cons, List.take_zero] at hS
  refine ret2 H (.inr rfl) rfl rfl rfl ?_
  exact ⟨_, rfl, hS⟩
theorem g_frame_Next_w {w : World} {A : Nat → Addr} {cs0 : List Value} {a0 : GConfig} {a1 : Int} {a2 : Int} (hG : EV A w) (h0 : RGConfig w cs0 a0) {r : Int × ErrM} (hm : g_frame_Next a0 a1 a2 = some r) :
    Calls Tryd.prog 41 [.agg cs0.toArray, .int .i64 a1, .int .i64 a2].toArray w (Ret fun u w' => ∃ h_0, u = .tuple #[.int .i64 r.1, h_0] ∧ St NB w w' [erQ A h_0 r.2]) := by
  obtain ⟨vp0_0, vp0_1, vp0_2, vp0_3, rfl, hrp0_0, hrp0_1, hrp0_2, hrp0_3⟩ := h0
  have hS := St.begin NB w
  unfold g_frame_Next at hm
  refine enter Tryd.func41 rfl rfl rfl ?_; intro a H; dsimp only [enumL, Nat.zero_add, Nat.reduceAdd] at H
  refine wp_seq (wp_region_lit (n_box H rfl (cs := [.int .i64 a0.Ticks, vp0_0, vp0_1, vp0_2, vp0_3, .int .i64 a0.Tries]) rfl rfl ?_))
  clear H; intro b21 w22 hN hE23 hs; clear a; intro a H
  replace hS := hS.newBlk hN hE23 hs; clear hN hs
  refine n_q H (q_assign rfl) rfl (W_q (q_assign rfl) rfl ?_); clear H a; intro a H
  refine n_nil (then_normal (wp_seq (wp_region_lit (n_q H (q_load rfl ((hS.blk 0 rfl).ldAll ag27 sz27)) rfl (W_q (q_move rfl) rfl ?_))))); clear H a; intro a H
  replace hm := bindS hm; obtain ⟨r24, hr24, hm⟩ := hm
  refine n_call H rfl en38 (g_frame_Windows_w (A := A) (hG.ext hS.x) (⟨_, _, _, _, rfl, (hrp0_0.ext RGPlan.mono hS.x), (hrp0_1.ext (Flat.mono _) hS.x), (hrp0_2.ext (Flat.mono _) hS.x), (hrp0_3.ext (Flat.mono _) hS.x)⟩ : RGConfig _ [.int .i64 a0.Ticks, vp0_0, vp0_1, vp0_2, vp0_3, .int .i64 a0.Tries] a0) hr24) rfl ?_
  clear H; intro x31 w29 hv; clear a; intro a H; obtain ⟨u25, u26, rfl, hE30⟩ := hv
  replace hS := hS.new hE30; simp only [List.cons_append, List.nil_append] at hS
  refine n_q H (q_move rfl) rfl (W_q (q_extract rfl rfl) rfl (W_q (q_extract rfl rfl) rfl (W_q (q_assign rfl) rfl (W_q (q_assign rfl) rfl ?_)))); clear H a; intro a H
  refine n_nil (then_normal (wp_seq (wp_seq (wp_region_lit (n_q H (q_move rfl) rfl (W_q (q_cast (q_nnilI Tryd.underlying36 rfl rfl (hS.any 1 rfl : IsE A w29 u26 r24.2).form) (show _ = Value.bool (!decide (r24.2 = .nil)) by rw [IsErr.isNil (hS.any 1 rfl : IsE A w29 u26 r24.2)])) rfl ?_)))))); clear H a; intro a H
  refine n_nil (then_normal (c_cond H rfl (fun hc32 => ?_) (fun hc32 => ?_)))
  · replace hm := condT hm hc32
    refine wp_seq (wp_region_lit (n_q H (q_move rfl) rfl (W_q (q_assign rfl) rfl (W_q (q_assign rfl) rfl ?_)))); clear H a; intro a H
    refine n_nil (then_normal (wp_ret (then_ret ?_)))
    obtain rfl := Option.some.inj hm
    replace hS := hS.pick 1 rfl; dsimp only [List.eraseIdx] at hS
    replace hS := hS.take 1; simp only [List.take_succ_cons, List.take_zero] at hS
    refine ret2 H (.inr rfl) rfl rfl rfl ?_
    exact ⟨_, rfl, hS⟩
  · replace hm := condF hm hc32
    refine wp_skip (then_normal (wp_seq (wp_seq (wp_region_lit (n_c H (fun HC => ?_)))))); clear H
    refine nc_q HC (q_move rfl) rfl (by kernel_rfl) (V_q (q_lss rfl rfl) rfl (by kernel_rfl) (V_q (q_move rfl) rfl (by kernel_rfl) (V_g (q_move rfl) (by kernel_rfl) (by kernel_rfl) (by kernel_rfl) (V_g (q_fieldAddr0 rfl fo27_0) (by kernel_rfl) (by kernel_rfl) (by kernel_rfl) (V_g (q_load rfl ((hS.blk 2 rfl).ld ag3 rfl)) (by kernel_rfl) (by kernel_rfl) (by kernel_rfl) (V_g (q_geq rfl rfl) (by kernel_rfl) (by kernel_rfl) (by kernel_rfl) (V_or (j := 2) rfl rfl rfl (by kernel_rfl) (by kernel_rfl) ?_))))))); clear HC a; intro a HC
    have H := HC.has; clear HC
    refine n_nil (then_normal (c_cond H rfl (fun hc33 => ?_) (fun hc33 => ?_)))
    · replace hm := condT hm hc33
      refine wp_seq (c_quiet (by kernel_rfl) (by kernel_rfl) ?_)
      refine qq_q H (q_load rfl ((hG.ext hS.x).ld gArg (by decide) ag36)) rfl ?_; clear H a; intro a H
      refine qq_q H (q_assign rfl) rfl ?_; clear H a; intro a H
      refine qq_q H (q_assign rfl) rfl ?_; clear H a; intro a H
      refine qq_nil ?_; intro w34 hE35
      replace hS := hS.ext hE35
      refine then_normal (wp_ret (then_ret ?_))
      obtain rfl := Option.some.inj hm
      replace hS := hS.dVar (A := A) (g := gArg) (by decide)
      replace hS := hS.take 1; simp only [List.take_succ_cons, List.take_zero] at hS
      refine ret2 H (.inr rfl) rfl rfl rfl ?_
      exact ⟨_, rfl, hS⟩
    · replace hm := condF hm hc33
      refine wp_skip (then_normal (wp_seq (wp_seq (wp_region_lit (n_q H (q_move rfl) rfl ?_))))); clear H a; intro a H
      obtain ⟨A37, c37, hv37, hl37, hm37⟩ := SlR.formV ((hS.own 0 rfl).slr rfl (fun _ _ => rfl))
      refine n_q H (q_lenV Tryd.underlying24 rfl hv37) rfl (W_q (q_move rfl) rfl ?_); clear H a; intro a H
      refine n_nil (then_normal (wp_block ?_))
      replace hS := hS.take 1; simp only [List.take_succ_cons, List.take_zero] at hS
      replace hm := bindS hm; obtain ⟨q38, hm, hm38⟩ := hm; replace hm := iter_some hm; obtain ⟨n38, hm⟩ := hm
      refine c_loop (σ := Nat × Nat) (fun (m, i39) => [(2, .int .i64 a2), (30, u25), (31, .int .i64 ((r24.1.length : Nat) : Int)), (32, .int .i64 ((i39 : Nat) : Int))]) (fun (m, i39) wl => iterN (g_frame_Next_L1 a2 r24) m i39 = some q38 ∧ St NB w wl [ownR 105 3 u25 r24.1.length (r24.1.flatMap eGWindow)]) (fun (m, i39) => m) (n38, 0) H ⟨rfl, rfl, rfl, rfl, trivial⟩ ⟨hm, hS⟩ ?_
      clear H hS hm a; intro xx a w40 H hR; obtain ⟨m, i39⟩ := xx; simp only [ent, List.map_cons, List.map_nil] at H; (try dsimp only at hR); obtain ⟨hm, hS⟩ := hR
      replace hm := iterN_step hm; obtain ⟨m38, o38, rfl, hm, hn38⟩ := hm; try dsimp only [g_frame_Next_L1] at hm
      refine wp_seq (wp_region_lit (n_q H (q_lssN (i := i39) (j := r24.1.length) rfl rfl) rfl ?_)); clear H a; intro a H
      refine n_nil (then_normal (wp_seq (c_cond H rfl (fun hc41 => ?_) (fun hc41 => ?_))))
      · replace hm := condT hm hc41
        have hlt42 : i39 < r24.1.length := of_decide_eq_true hc41
        refine wp_skip (then_normal (wp_seq (wp_block (wp_seq (wp_region_lit ?_)))))
        replace hm := bindS hm; obtain ⟨x43, hx43, hm⟩ := hm
        obtain ⟨adx43, hAx43⟩ := SlR.adV ((hS.own 0 rfl).slr rfl (fun _ _ => rfl)) hv37 hx43
        refine n_q H (q_ixV (i := i39) Tryd.underlying24 sz105 rfl hv37 hAx43 rfl (natI hx43)) rfl (W_q (q_load rfl (SlR.ldAggV ((hS.own 0 rfl).slr rfl (fun _ _ => rfl)) hv37 hAx43 ag105 sz105 hx43)) rfl ?_); clear H a; intro a H
        refine n_alloc H ze105 rfl ?_
        clear H; intro b44 w45 hN hE46 hs; clear a; intro a H
        replace hS := hS.newBlk hN hE46 hs; clear hN hs
        refine n_storeAll H rfl rfl (vs := [.int .i64 x43.Part, .int .i64 x43.Start, .int .i64 x43.Len]) rfl sz105 (hS.blk 0 rfl) rfl (by simp) ?_
        clear H; intro w47 hN hC48 hz; clear a; intro a H; replace hS := hS.setBlk hN hC48; clear hN hz
        refine n_nil (then_normal (wp_seq (wp_region_lit (n_q H (q_move rfl) rfl (W_q (q_fieldAddr0 rfl fo105_1) rfl (W_q (q_load rfl ((hS.blk 0 rfl).ld ag3 rfl)) rfl (W_q (q_fieldAddr0 rfl fo105_2) rfl (W_q (q_load rfl ((hS.blk 0 rfl).ld ag3 rfl)) rfl (W_q (q_addW rfl rfl) rfl (W_q (q_lss rfl rfl) rfl ?_)))))))))); clear H a; intro a H
        refine n_nil (then_normal (c_cond H rfl (fun hc49 => ?_) (fun hc49 => ?_)))
        · replace hm := condT hm hc49
          refine wp_seq (wp_region_lit (n_q H (q_move rfl) rfl (W_q (q_fieldAddr0 rfl fo105_1) rfl (W_q (q_load rfl ((hS.blk 0 rfl).ld ag3 rfl)) rfl (W_q (q_max rfl rfl) rfl (W_q (q_assign rfl) rfl (W_q (q_assign rfl) rfl ?_))))))); clear H a; intro a H
          refine n_nil (then_normal (wp_ret (block_ret (then_ret (then_ret (block_ret (then_ret ?_)))))))
          obtain rfl := Option.some.inj hm; have hz : _ = q38 := hn38; subst hz; replace hm := hm38; try dsimp only at hm
          obtain rfl := Option.some.inj hm
          replace hS := hS.dNil (A := A)
          replace hS := hS.take 1; simp only [List.take_succ_cons, List.take_zero] at hS
          refine ret2 H (.inr rfl) rfl rfl rfl ?_
          exact ⟨_, rfl, hS⟩
        · replace hm := condF hm hc49
          refine wp_skip (block_normal (then_normal (wp_region_lit (n_q H (q_incr (i := i39) (j := 1) rfl rfl (by omega)) rfl (W_q (q_move rfl) rfl ?_))))); clear H a; intro a H
          refine n_nil (then_normal ?_)
          obtain rfl := Option.some.inj hm
          replace hS := hS.pick 1 rfl; dsimp only [List.eraseIdx] at hS
          replace hS := hS.take 1; simp only [List.take_succ_cons, List.take_zero] at hS
          exact round (m38, i39 + 1) H ⟨rfl, rfl, rfl, rfl, trivial⟩ ⟨hn38, hS⟩ (Nat.lt_succ_self _)
      · replace hm := condF hm hc41
        refine wp_exit (then_exit (then_exit (block_exit ?_)))
        obtain rfl := Option.some.inj hm; have hz : _ = q38 := hn38; subst hz; replace hm := hm38; try dsimp only at hm
        refine then_normal (wp_seq (c_quiet (by kernel_rfl) (by kernel_rfl) ?_))
        refine qq_q H (q_load rfl ((hG.ext hS.x).ld gNone (by decide) ag36)) rfl ?_; clear H a; intro a H
        refine qq_q H (q_assign rfl) rfl ?_; clear H a; intro a H
        refine qq_q H (q_assign rfl) rfl ?_; clear H a; intro a H
        refine qq_nil ?_; intro w51 hE52
        replace hS := hS.ext hE52
        refine then_normal (wp_ret ?_)
        obtain rfl := Option.some.inj hm
        replace hS := hS.dVar (A := A) (g := gNone) (by decide)
        replace hS := hS.take 1; simp only [List.take_succ_cons, List.take_zero] at hS
        refine ret2 H (.inr rfl) rfl rfl rfl ?_
        exact ⟨_, rfl, hS⟩
end Go.Proofs.YtjoihegnjjjdaaaDoor
