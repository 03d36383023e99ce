/- Fa (written by wip/tools) -/
import Derived.Test.YtjoihegnjjjdaaaGreatDoorFaA
set_option linter.unusedVariables false
set_option linter.unusedSimpArgs false
set_option maxRecDepth 10000
namespace Go.Proofs.YtjoihegnjjjdaaaGreatDoor
open Go Go.RowKit
theorem ag172 : aggB Tryz.prog 172 = some true := by kernel_rfl
theorem ag66 : aggB Tryz.prog 66 = some true := by kernel_rfl
theorem bd172 : bdB Tryz.prog 172 = true := by kernel_rfl
theorem pl172 : placesB Tryz.prog 172 = some #[(0, 1), (1, 1)] := by kernel_rfl
theorem bd66 : bdB Tryz.prog 66 = true := by kernel_rfl
theorem pl66 : placesB Tryz.prog 66 = some #[(0, 1), (1, 1)] := by kernel_rfl
theorem el3 : ElemOk Tryz.prog 3 1 8 [.int .i64 0] := ⟨by kernel_rfl, by kernel_rfl, by kernel_rfl, rfl, by decide⟩
theorem en138 : entersB Tryz.prog 138 = true := by kernel_rfl
theorem en14 : entersB Tryz.prog 14 = true := by kernel_rfl
theorem en142 : entersB Tryz.prog 142 = true := by kernel_rfl
theorem en15 : entersB Tryz.prog 15 = true := by kernel_rfl
theorem en171 : entersB Tryz.prog 171 = true := by kernel_rfl
theorem en172 : entersB Tryz.prog 172 = true := by kernel_rfl
theorem en173 : entersB Tryz.prog 173 = true := by kernel_rfl
theorem en174 : entersB Tryz.prog 174 = true := by kernel_rfl
theorem en175 : entersB Tryz.prog 175 = true := by kernel_rfl
theorem en176 : entersB Tryz.prog 176 = true := by kernel_rfl
theorem en177 : entersB Tryz.prog 177 = true := by kernel_rfl
theorem en204 : entersB Tryz.prog 204 = true := by kernel_rfl
theorem en205 : entersB Tryz.prog 205 = true := by kernel_rfl
theorem en24 : entersB Tryz.prog 24 = true := by kernel_rfl
theorem en30 : entersB Tryz.prog 30 = true := by kernel_rfl
theorem en32 : entersB Tryz.prog 32 = true := by kernel_rfl
theorem en48 : entersB Tryz.prog 48 = true := by kernel_rfl
theorem en57 : entersB Tryz.prog 57 = true := by kernel_rfl
theorem en58 : entersB Tryz.prog 58 = true := by kernel_rfl
theorem en59 : entersB Tryz.prog 59 = true := by kernel_rfl
theorem en62 : entersB Tryz.prog 62 = true := by kernel_rfl
theorem en70 : entersB Tryz.prog 70 = true := by kernel_rfl
theorem en71 : entersB Tryz.prog 71 = true := by kernel_rfl
theorem en72 : entersB Tryz.prog 72 = true := by kernel_rfl
theorem en73 : entersB Tryz.prog 73 = true := by kernel_rfl
theorem en74 : entersB Tryz.prog 74 = true := by kernel_rfl
theorem en75 : entersB Tryz.prog 75 = true := by kernel_rfl
theorem en76 : entersB Tryz.prog 76 = true := by kernel_rfl
theorem en99 : entersB Tryz.prog 99 = true := by kernel_rfl
theorem fd172_0 : fdB Tryz.prog 172 0 = some (false, 0, 1) := by kernel_rfl
theorem fd66_0 : fdB Tryz.prog 66 0 = some (false, 0, 1) := by kernel_rfl
theorem fo172_0 : fOff Tryz.prog 172 0 = some 0 := by kernel_rfl
theorem fo66_0 : fOff Tryz.prog 66 0 = some 0 := by kernel_rfl
theorem sz172 : sizeB Tryz.prog 172 = some 2 := by kernel_rfl
theorem sz66 : sizeB Tryz.prog 66 = some 2 := by kernel_rfl
theorem ze172 : zeroB Tryz.prog 172 = some [.int .i64 0, .int .i64 0] := by kernel_rfl
theorem ze4 : zeroB Tryz.prog 4 = some [.bool false] := by kernel_rfl
theorem ze66 : zeroB Tryz.prog 66 = some [.int .i64 0, .int .i64 0] := by kernel_rfl
theorem ze87 : zeroB Tryz.prog 87 = some [.slice none 0 0] := by kernel_rfl

theorem g_frame_Load_w {w : World} {A : Nat → Addr} {cs0 : List Value} {a0 : GConfig} {a1 : Int} (hG : EV A w) (h0 : RGConfig w cs0 a0) {r : Int × ErrM} (hm : g_frame_Load a0 a1 = some r) :
    Calls Tryz.prog 58 [.agg cs0.toArray, .int .i64 a1].toArray w (Ret fun u w' => ∃ h_0, u = .tuple #[.int .i64 r.1, h_0] ∧ St NB w w' [erQ A h_0 r.2]) := by
  obtain ⟨vp0_0, vp0_1, vp0_2, vp0_3, rfl, hrp0_0, hrp0_1, hrp0_2, hrp0_3⟩ := h0
  have hS := St.begin NB w
  unfold g_frame_Load at hm
  refine enter Tryz.func58 rfl rfl rfl ?_; intro a H; dsimp only [enumL, Nat.zero_add, Nat.reduceAdd] at H
  refine wp_seq (wp_region_lit (n_box H rfl (cs := [.int .i64 a0.Ticks, vp0_0, vp0_1, vp0_2, vp0_3, .int .i64 a0.Tries]) rfl rfl ?_))
  clear H; intro b21 w22 hN hE23 hs; clear a; intro a H
  replace hS := hS.newBlk hN hE23 hs; clear hN hs
  refine n_q H (q_assign rfl) rfl (W_q (q_assign rfl) rfl ?_); clear H a; intro a H
  refine n_nil (then_normal (wp_seq (wp_region_lit (n_q H (q_load rfl ((hS.blk 0 rfl).ldAll ag49 sz49)) rfl (W_q (q_move rfl) rfl ?_))))); clear H a; intro a H
  replace hm := bindS hm; obtain ⟨r24, hr24, hm⟩ := hm
  refine n_call H rfl en32 (g_frame_Windows_w (A := A) (hG.ext hS.x) (⟨_, _, _, _, rfl, (hrp0_0.ext RGPlan.mono hS.x), (hrp0_1.ext (Flat.mono _) hS.x), (hrp0_2.ext (Flat.mono _) hS.x), (hrp0_3.ext (Flat.mono _) hS.x)⟩ : RGConfig _ [.int .i64 a0.Ticks, vp0_0, vp0_1, vp0_2, vp0_3, .int .i64 a0.Tries] a0) hr24) rfl ?_
  clear H; intro x31 w29 hv; clear a; intro a H; obtain ⟨u25, u26, rfl, hE30⟩ := hv
  replace hS := hS.new hE30; simp only [List.cons_append, List.nil_append] at hS
  refine n_q H (q_move rfl) rfl (W_q (q_extract rfl rfl) rfl (W_q (q_extract rfl rfl) rfl (W_q (q_assign rfl) rfl (W_q (q_assign rfl) rfl ?_)))); clear H a; intro a H
  refine n_nil (then_normal (wp_seq (wp_region_lit (n_q H (q_move rfl) rfl ?_)))); clear H a; intro a H
  replace hm := bindS hm; obtain ⟨r32, hr32, hm⟩ := hm
  refine n_call H rfl en62 (g_frame_sum_w (A := A) ((hS.own 0 rfl).slr rfl (fun _ _ => rfl)) hr32) rfl ?_
  clear H; intro x35 w33 hv; clear a; intro a H; obtain ⟨rfl, hE34⟩ := hv
  replace hS := hS.ext hE34
  refine n_q H (q_move rfl) rfl (W_q (q_assign rfl) rfl (W_q (q_assign rfl) rfl ?_)); clear H a; intro a H
  refine n_nil (then_normal (wp_ret ?_))
  obtain rfl := Option.some.inj hm
  replace hS := hS.pk1
  replace hS := hS.tk1
  refine ret2 H (.inr rfl) rfl rfl rfl ?_
  exact ⟨_, rfl, hS⟩
theorem g_frame_Next_w {w : World} {A : Nat → Addr} {cs0 : List Value} {a0 : GConfig} {a1 : Int} {a2 : Int} (hG : EV A w) (h0 : RGConfig w cs0 a0) {r : Int × ErrM} (hm : g_frame_Next a0 a1 a2 = some r) :
    Calls Tryz.prog 59 [.agg cs0.toArray, .int .i64 a1, .int .i64 a2].toArray w (Ret fun u w' => ∃ h_0, u = .tuple #[.int .i64 r.1, h_0] ∧ St NB w w' [erQ A h_0 r.2]) := by
  obtain ⟨vp0_0, vp0_1, vp0_2, vp0_3, rfl, hrp0_0, hrp0_1, hrp0_2, hrp0_3⟩ := h0
  have hS := St.begin NB w
  unfold g_frame_Next at hm
  refine enter Tryz.func59 rfl rfl rfl ?_; intro a H; dsimp only [enumL, Nat.zero_add, Nat.reduceAdd] at H
  refine wp_seq (wp_region_lit (n_box H rfl (cs := [.int .i64 a0.Ticks, vp0_0, vp0_1, vp0_2, vp0_3, .int .i64 a0.Tries]) rfl rfl ?_))
  clear H; intro b21 w22 hN hE23 hs; clear a; intro a H
  replace hS := hS.newBlk hN hE23 hs; clear hN hs
  refine n_q H (q_assign rfl) rfl (W_q (q_assign rfl) rfl ?_); clear H a; intro a H
  refine n_nil (then_normal (wp_seq (wp_region_lit (n_q H (q_load rfl ((hS.blk 0 rfl).ldAll ag49 sz49)) rfl (W_q (q_move rfl) rfl ?_))))); clear H a; intro a H
  replace hm := bindS hm; obtain ⟨r24, hr24, hm⟩ := hm
  refine n_call H rfl en32 (g_frame_Windows_w (A := A) (hG.ext hS.x) (⟨_, _, _, _, rfl, (hrp0_0.ext RGPlan.mono hS.x), (hrp0_1.ext (Flat.mono _) hS.x), (hrp0_2.ext (Flat.mono _) hS.x), (hrp0_3.ext (Flat.mono _) hS.x)⟩ : RGConfig _ [.int .i64 a0.Ticks, vp0_0, vp0_1, vp0_2, vp0_3, .int .i64 a0.Tries] a0) hr24) rfl ?_
  clear H; intro x31 w29 hv; clear a; intro a H; obtain ⟨u25, u26, rfl, hE30⟩ := hv
  replace hS := hS.new hE30; simp only [List.cons_append, List.nil_append] at hS
  refine n_q H (q_move rfl) rfl (W_q (q_extract rfl rfl) rfl (W_q (q_extract rfl rfl) rfl (W_q (q_assign rfl) rfl (W_q (q_assign rfl) rfl ?_)))); clear H a; intro a H
  refine n_nil (then_normal (wp_seq (wp_seq (wp_region_lit (n_q H (q_move rfl) rfl (W_q (q_cast (q_nnilI Tryz.underlying41 rfl rfl (hS.any 1 rfl : IsE A w29 u26 r24.2).form) (show _ = Value.bool (!decide (r24.2 = .nil)) by rw [IsErr.isNil (hS.any 1 rfl : IsE A w29 u26 r24.2)])) rfl ?_)))))); clear H a; intro a H
  refine n_nil (then_normal (c_cond H rfl (fun hc32 => ?_) (fun hc32 => ?_)))
  · replace hm := condT hm hc32
    refine wp_seq (wp_region_lit (n_q H (q_move rfl) rfl (W_q (q_assign rfl) rfl (W_q (q_assign rfl) rfl ?_)))); clear H a; intro a H
    refine n_nil (then_normal (wp_ret (then_ret ?_)))
    obtain rfl := Option.some.inj hm
    replace hS := hS.pk1
    replace hS := hS.tk1
    refine ret2 H (.inr rfl) rfl rfl rfl ?_
    exact ⟨_, rfl, hS⟩
  · replace hm := condF hm hc32
    refine wp_skip (then_normal (wp_seq (wp_seq (wp_region_lit (n_c H (fun HC => ?_)))))); clear H
    refine nc_q HC (q_move rfl) rfl (by kernel_rfl) (V_q (q_lss rfl rfl) rfl (by kernel_rfl) (V_q (q_move rfl) rfl (by kernel_rfl) (V_g (q_move rfl) (by kernel_rfl) (by kernel_rfl) (by kernel_rfl) (V_g (q_fieldAddr0 rfl fo49_0) (by kernel_rfl) (by kernel_rfl) (by kernel_rfl) (V_g (q_load rfl ((hS.blk 2 rfl).ld ag3 rfl)) (by kernel_rfl) (by kernel_rfl) (by kernel_rfl) (V_g (q_geq rfl rfl) (by kernel_rfl) (by kernel_rfl) (by kernel_rfl) (V_or (j := 2) rfl rfl rfl (by kernel_rfl) (by kernel_rfl) ?_))))))); clear HC a; intro a HC
    have H := HC.has; clear HC
    refine n_nil (then_normal (c_cond H rfl (fun hc33 => ?_) (fun hc33 => ?_)))
    · replace hm := condT hm hc33
      refine wp_seq (c_quiet (by kernel_rfl) (by kernel_rfl) ?_)
      refine qq_q H (q_load rfl ((hG.ext hS.x).ld gArg (by decide) ag41)) rfl ?_; clear H a; intro a H
      refine qq_q H (q_assign rfl) rfl ?_; clear H a; intro a H
      refine qq_q H (q_assign rfl) rfl ?_; clear H a; intro a H
      refine qq_nil ?_; intro w34 hE35
      replace hS := hS.ext hE35
      refine then_normal (wp_ret (then_ret ?_))
      obtain rfl := Option.some.inj hm
      replace hS := hS.dVar (A := A) (g := gArg) (by decide)
      replace hS := hS.tk1
      refine ret2 H (.inr rfl) rfl rfl rfl ?_
      exact ⟨_, rfl, hS⟩
    · replace hm := condF hm hc33
      refine wp_skip (then_normal (wp_seq (wp_seq (wp_region_lit (n_q H (q_move rfl) rfl ?_))))); clear H a; intro a H
      obtain ⟨A37, c37, hv37, hl37, hm37⟩ := SlR.formV ((hS.own 0 rfl).slr rfl (fun _ _ => rfl))
      refine n_q H (q_lenV Tryz.underlying46 rfl hv37) rfl (W_q (q_move rfl) rfl ?_); clear H a; intro a H
      refine n_nil (then_normal (wp_block ?_))
      replace hS := hS.tk1
      replace hm := bindS hm; obtain ⟨q38, hm, hm38⟩ := hm; replace hm := iter_some hm; obtain ⟨n38, hm⟩ := hm
      refine c_loop (σ := Nat × Nat) (fun (m, i39) => [(2, .int .i64 a2), (30, u25), (31, .int .i64 ((r24.1.length : Nat) : Int)), (32, .int .i64 ((i39 : Nat) : Int))]) (fun (m, i39) wl => iterN (g_frame_Next_L1 a2 r24) m i39 = some q38 ∧ St NB w wl [ownR 61 3 u25 r24.1.length (r24.1.flatMap eGWindow)]) (fun (m, i39) => m) (n38, 0) H ⟨rfl, rfl, rfl, rfl, trivial⟩ ⟨hm, hS⟩ ?_
      clear H hS hm a; intro xx a w40 H hR; obtain ⟨m, i39⟩ := xx; simp only [ent, List.map_cons, List.map_nil] at H; (try dsimp only at hR); obtain ⟨hm, hS⟩ := hR
      replace hm := iterN_step hm; obtain ⟨m38, o38, rfl, hm, hn38⟩ := hm; try dsimp only [g_frame_Next_L1] at hm
      refine wp_seq (wp_region_lit (n_q H (q_lssN (i := i39) (j := r24.1.length) rfl rfl) rfl ?_)); clear H a; intro a H
      refine n_nil (then_normal (wp_seq (c_cond H rfl (fun hc41 => ?_) (fun hc41 => ?_))))
      · replace hm := condT hm hc41
        have hlt42 : i39 < r24.1.length := of_decide_eq_true hc41
        refine wp_skip (then_normal (wp_seq (wp_block (wp_seq (wp_region_lit ?_)))))
        replace hm := bindS hm; obtain ⟨x43, hx43, hm⟩ := hm
        obtain ⟨adx43, hAx43⟩ := SlR.adV ((hS.own 0 rfl).slr rfl (fun _ _ => rfl)) hv37 hx43
        refine n_q H (q_ixV (i := i39) Tryz.underlying46 sz61 rfl hv37 hAx43 rfl (natI hx43)) rfl (W_q (q_load rfl (SlR.ldAggV ((hS.own 0 rfl).slr rfl (fun _ _ => rfl)) hv37 hAx43 ag61 sz61 hx43)) rfl ?_); clear H a; intro a H
        refine n_alloc H ze61 rfl ?_
        clear H; intro b44 w45 hN hE46 hs; clear a; intro a H
        replace hS := hS.newBlk hN hE46 hs; clear hN hs
        refine n_storeAll H rfl rfl (vs := [.int .i64 x43.Part, .int .i64 x43.Start, .int .i64 x43.Len]) rfl sz61 (hS.blk 0 rfl) rfl (by simp) ?_
        clear H; intro w47 hN hC48 hz; clear a; intro a H; replace hS := hS.setBlk hN hC48; clear hN hz
        refine n_nil (then_normal (wp_seq (wp_region_lit (n_q H (q_move rfl) rfl (W_q (q_fieldAddr0 rfl fo61_1) rfl (W_q (q_load rfl ((hS.blk 0 rfl).ld ag3 rfl)) rfl (W_q (q_fieldAddr0 rfl fo61_2) rfl (W_q (q_load rfl ((hS.blk 0 rfl).ld ag3 rfl)) rfl (W_q (q_addW rfl rfl) rfl (W_q (q_lss rfl rfl) rfl ?_)))))))))); clear H a; intro a H
        refine n_nil (then_normal (c_cond H rfl (fun hc49 => ?_) (fun hc49 => ?_)))
        · replace hm := condT hm hc49
          refine wp_seq (wp_region_lit (n_q H (q_move rfl) rfl (W_q (q_fieldAddr0 rfl fo61_1) rfl (W_q (q_load rfl ((hS.blk 0 rfl).ld ag3 rfl)) rfl (W_q (q_max rfl rfl) rfl (W_q (q_assign rfl) rfl (W_q (q_assign rfl) rfl ?_))))))); clear H a; intro a H
          refine n_nil (then_normal (wp_ret (block_ret (then_ret (then_ret (block_ret (then_ret ?_)))))))
          obtain rfl := Option.some.inj hm; have hz : _ = q38 := hn38; subst hz; replace hm := hm38; try dsimp only at hm
          obtain rfl := Option.some.inj hm
          replace hS := hS.dNil (A := A)
          replace hS := hS.tk1
          refine ret2 H (.inr rfl) rfl rfl rfl ?_
          exact ⟨_, rfl, hS⟩
        · replace hm := condF hm hc49
          refine wp_skip (block_normal (then_normal (wp_region_lit (n_q H (q_incr (i := i39) (j := 1) rfl rfl (by omega)) rfl (W_q (q_move rfl) rfl ?_))))); clear H a; intro a H
          refine n_nil (then_normal ?_)
          obtain rfl := Option.some.inj hm
          replace hS := hS.pk1
          replace hS := hS.tk1
          exact round (m38, i39 + 1) H ⟨rfl, rfl, rfl, rfl, trivial⟩ ⟨hn38, hS⟩ (Nat.lt_succ_self _)
      · replace hm := condF hm hc41
        refine wp_exit (then_exit (then_exit (block_exit ?_)))
        obtain rfl := Option.some.inj hm; have hz : _ = q38 := hn38; subst hz; replace hm := hm38; try dsimp only at hm
        refine then_normal (wp_seq (c_quiet (by kernel_rfl) (by kernel_rfl) ?_))
        refine qq_q H (q_load rfl ((hG.ext hS.x).ld gNone (by decide) ag41)) rfl ?_; clear H a; intro a H
        refine qq_q H (q_assign rfl) rfl ?_; clear H a; intro a H
        refine qq_q H (q_assign rfl) rfl ?_; clear H a; intro a H
        refine qq_nil ?_; intro w51 hE52
        replace hS := hS.ext hE52
        refine then_normal (wp_ret ?_)
        obtain rfl := Option.some.inj hm
        replace hS := hS.dVar (A := A) (g := gNone) (by decide)
        replace hS := hS.tk1
        refine ret2 H (.inr rfl) rfl rfl rfl ?_
        exact ⟨_, rfl, hS⟩
theorem g_law14_fixed_w {w : World} {A : Nat → Addr} (hG : EV A w) (hH : HE w) {r : Bool} (hm : g_law14_fixed = some r) :
    Calls Tryz.prog 17 [].toArray w (Ret fun u w' => u = .bool r ∧ Ext w w') := by
  have hS := St.begin NB w
  unfold g_law14_fixed at hm
  refine enter Tryz.func17 rfl rfl rfl ?_; intro a H; dsimp only [enumL, Nat.zero_add, Nat.reduceAdd] at H
  refine wp_seq (wp_region_lit (n_q H (q_assign rfl) rfl ?_)); clear H a; intro a H
  refine n_nil (then_normal (wp_seq (wp_region_lit ?_)))
  replace hm := bindS hm; obtain ⟨r21, hr21, hm⟩ := hm
  refine n_call H rfl en57 (g_law14_small_w (A := A) hr21) rfl ?_
  clear H; intro x32 w30 hv; clear a; intro a H; obtain ⟨u22, u23, u24, u25, rfl, hE31⟩ := hv
  replace hS := hS.new hE31; simp only [List.cons_append, List.nil_append] at hS
  refine n_alloc H ze49 rfl ?_
  clear H; intro b33 w34 hN hE35 hs; clear a; intro a H
  replace hS := hS.newBlk hN hE35 hs; clear hN hs
  refine n_storeAll H rfl rfl (vs := [.int .i64 r21.Ticks, u22, u23, u24, u25, .int .i64 r21.Tries]) rfl sz49 (hS.blk 0 rfl) rfl (by simp [((hS.deepSl 1 rfl)).one, (((hS.own 2 rfl).slr rfl (fun _ _ => rfl))).one, (((hS.own 3 rfl).slr rfl (fun _ _ => rfl))).one, (((hS.own 4 rfl).slr rfl (fun _ _ => rfl))).one]) ?_
  clear H; intro w36 hN hC37 hz; clear a; intro a H; replace hS := hS.setBlk hN hC37; clear hN hz
  refine n_nil (then_normal (wp_seq (wp_region_lit (n_q H (q_load rfl ((hS.blk 0 rfl).ldAll ag49 sz49)) rfl ?_)))); clear H a; intro a H
  replace hm := bindS hm; obtain ⟨r38, hr38, hm⟩ := hm
  refine n_call H rfl en58 (g_frame_Load_w (A := A) (hG.ext hS.x) (⟨_, _, _, _, rfl, (hS.deepSl 1 rfl), ((hS.own 2 rfl).slr rfl (fun _ _ => rfl)), ((hS.own 3 rfl).slr rfl (fun _ _ => rfl)), ((hS.own 4 rfl).slr rfl (fun _ _ => rfl))⟩ : RGConfig _ [.int .i64 r21.Ticks, u22, u23, u24, u25, .int .i64 r21.Tries] r21) hr38) rfl ?_
  clear H; intro x43 w41 hv; clear a; intro a H; obtain ⟨u39, rfl, hE42⟩ := hv
  replace hS := hS.new hE42; simp only [List.cons_append, List.nil_append] at hS
  refine n_q H (q_move rfl) rfl (W_q (q_extract rfl rfl) rfl (W_q (q_extract rfl rfl) rfl (W_q (q_assign rfl) rfl (W_q (q_assign rfl) rfl ?_)))); clear H a; intro a H
  refine n_nil (then_normal (wp_seq ?_))
  replace hm := bindS hm; obtain ⟨j44, hm, hm44⟩ := hm
  refine c_join (σ := Bool) H (fun q545 => [(1, .pointer (some ⟨b33, 0, none⟩)), (23, .bool q545)]) (fun q545 wl => (g_law14_fixed_J4 r21) q545 = some r ∧ St NB w wl [blkR b33 [.int .i64 r21.Ticks, u22, u23, u24, u25, .int .i64 r21.Tries] 49, deepR 27 7 RGPlan u22 r21.Parts, ownR 3 1 u23 r21.Homes.length (r21.Homes.flatMap eI), ownR 61 3 u24 r21.Windows.length (r21.Windows.flatMap eGWindow), ownR 63 4 u25 r21.Links.length (r21.Links.flatMap eGLink)]) ?_ ?_
  · skip
    refine wp_region_lit (n_q H (q_load rfl ((hS.blk 1 rfl).ldAll ag49 sz49)) rfl ?_); clear H a; intro a H
    replace hm := bindS hm; obtain ⟨r546, hr546, hm⟩ := hm
    refine n_call H rfl en28 (g_frame_Check_w (A := A) (hG.ext hS.x) (⟨_, _, _, _, rfl, (hS.deepSl 2 rfl), ((hS.own 3 rfl).slr rfl (fun _ _ => rfl)), ((hS.own 4 rfl).slr rfl (fun _ _ => rfl)), ((hS.own 5 rfl).slr rfl (fun _ _ => rfl))⟩ : RGConfig _ [.int .i64 r21.Ticks, u22, u23, u24, u25, .int .i64 r21.Tries] r21) hr546) rfl ?_
    clear H; intro u547 w549 hv; clear a; intro a H; obtain ⟨_, rfl, hE550⟩ := hv
    replace hS := hS.new hE550; simp only [List.cons_append, List.nil_append] at hS
    refine n_q H (q_cast (q_nnilI Tryz.underlying41 rfl rfl (hS.any 0 rfl : IsE A w549 u547 r546).form) (show _ = Value.bool (!decide (r546 = .nil)) by rw [IsErr.isNil (hS.any 0 rfl : IsE A w549 u547 r546)])) rfl (W_q (q_move rfl) rfl ?_); clear H a; intro a H
    rcases Bool.eq_false_or_eq_true (!decide (r546 = .nil)) with hg552 | hg552
    · replace H := H.know 16 rfl hg552
      replace hm := condT hm hg552
      refine n_no H rfl rfl (by decide) rfl (W_no rfl rfl (by decide) rfl (W_q (q_pickT rfl rfl) rfl (W_q (q_move rfl) rfl (W_no rfl rfl (by decide) rfl (W_no rfl rfl (by decide) rfl (W_q (q_pickT rfl rfl) rfl ?_)))))); clear H a; intro a H
      refine n_nil (then_normal ?_)
      obtain rfl := Option.some.inj hm; replace hm := hm44; try dsimp only at hm
      replace hS := hS.pk6
      replace hS := hS.pk6
      replace hS := hS.pk6
      replace hS := hS.pk6
      replace hS := hS.pk6
      replace hS := hS.tk5
      exact join true H ⟨rfl, rfl, trivial⟩ ⟨hm, hS⟩
    · replace H := H.know 16 rfl hg552
      replace hm := condF hm hg552
      refine n_yes H rfl rfl (n_q H (q_move rfl) rfl (W_yes rfl rfl (W_q (q_cast (q_nnilI Tryz.underlying41 rfl rfl (hS.any 1 rfl : IsE A w549 u39 r38.2).form) (show _ = Value.bool (!decide (r38.2 = .nil)) by rw [IsErr.isNil (hS.any 1 rfl : IsE A w549 u39 r38.2)])) rfl (W_q (q_pickF rfl rfl) rfl (W_q (q_move rfl) rfl ?_))))); clear H a; intro a H
      rcases Bool.eq_false_or_eq_true (!decide (r38.2 = .nil)) with hg553 | hg553
      · replace H := H.know 20 rfl hg553
        replace hm := condT hm hg553
        refine n_no H rfl rfl (by decide) rfl (W_no rfl rfl (by decide) rfl (W_q (q_pickT rfl rfl) rfl ?_)); clear H a; intro a H
        refine n_nil (then_normal ?_)
        obtain rfl := Option.some.inj hm; replace hm := hm44; try dsimp only at hm
        replace hS := hS.pk6
        replace hS := hS.pk6
        replace hS := hS.pk6
        replace hS := hS.pk6
        replace hS := hS.pk6
        replace hS := hS.tk5
        exact join true H ⟨rfl, rfl, trivial⟩ ⟨hm, hS⟩
      · replace H := H.know 20 rfl hg553
        replace hm := condF hm hg553
        refine n_yes H rfl rfl (n_q H (q_move rfl) rfl (W_yes rfl rfl (W_q (q_neqD rfl rfl) rfl (W_q (q_pickF rfl rfl) rfl ?_)))); clear H a; intro a H
        refine n_nil (then_normal ?_)
        obtain rfl := Option.some.inj hm; replace hm := hm44; try dsimp only at hm
        replace hS := hS.pk6
        replace hS := hS.pk6
        replace hS := hS.pk6
        replace hS := hS.pk6
        replace hS := hS.pk6
        replace hS := hS.tk5
        exact join (!decide (r38.1 = 60)) H ⟨rfl, rfl, trivial⟩ ⟨hm, hS⟩
  · clear H hS hm a; intro q545 a w554 H hR
    simp only [ent, List.map_cons, List.map_nil] at H; (try dsimp only at hR); obtain ⟨hm, hS⟩ := hR; try dsimp only [g_law14_fixed_J4] at hm
    refine c_cond H rfl (fun hc555 => ?_) (fun hc555 => ?_)
    · replace hm := condT hm hc555
      refine wp_seq (wp_region_lit (n_q H (q_assign rfl) rfl ?_)); clear H a; intro a H
      refine n_nil (then_normal (wp_ret (then_ret ?_)))
      obtain rfl := Option.some.inj hm
      replace hS := hS.tk0
      refine ret1 H (.inr rfl) rfl rfl ?_
      exact ⟨rfl, hS.x⟩
    · replace hm := condF hm hc555
      refine wp_skip (then_normal (wp_seq (wp_region_lit (n_q H (q_load rfl ((hS.blk 0 rfl).ldAll ag49 sz49)) rfl ?_)))); clear H a; intro a H
      replace hm := bindS hm; obtain ⟨r556, hr556, hm⟩ := hm
      refine n_call H rfl en59 (g_frame_Next_w (A := A) (hG.ext hS.x) (⟨_, _, _, _, rfl, (hS.deepSl 1 rfl), ((hS.own 2 rfl).slr rfl (fun _ _ => rfl)), ((hS.own 3 rfl).slr rfl (fun _ _ => rfl)), ((hS.own 4 rfl).slr rfl (fun _ _ => rfl))⟩ : RGConfig _ [.int .i64 r21.Ticks, u22, u23, u24, u25, .int .i64 r21.Tries] r21) hr556) rfl ?_
      clear H; intro x561 w559 hv; clear a; intro a H; obtain ⟨u557, rfl, hE560⟩ := hv
      replace hS := hS.new hE560; simp only [List.cons_append, List.nil_append] at hS
      refine n_q H (q_move rfl) rfl (W_q (q_extract rfl rfl) rfl (W_q (q_extract rfl rfl) rfl (W_q (q_assign rfl) rfl (W_q (q_assign rfl) rfl ?_)))); clear H a; intro a H
      refine n_nil (then_normal (wp_seq (wp_region_lit (n_q H (q_load rfl ((hS.blk 1 rfl).ldAll ag49 sz49)) rfl ?_)))); clear H a; intro a H
      refine n_buildSlice H Tryz.underlying30 sz4 ze4 rfl rfl rfl (cs := [.bool true, .bool true]) (by kernel_rfl) rfl ?_
      clear H; intro b564 w562 hN hE563 hs; clear a; intro a H
      replace hS := hS.newBlk hN hE563 hs; clear hN hs
      replace hS := hS.blkOwnL (e := eF) (k := 1) [true, true] rfl rfl (by simp [maxLen])
      refine n_q H (q_build (cs := [.int .i64 0, .string ⟨#[97]⟩]) ze133 bd133 pl133 rfl (by kernel_rfl)) rfl ?_; clear H a; intro a H
      refine n_buildSlice H Tryz.underlying87 sz133 ze133 rfl rfl rfl (cs := [.int .i64 0, .string ⟨#[97]⟩]) (by kernel_rfl) rfl ?_
      clear H; intro b568 w566 hN hE567 hs; clear a; intro a H
      replace hS := hS.newBlk hN hE567 hs; clear hN hs
      replace hS := hS.blkOwnL (e := eGMsg) (k := 2) [(⟨0, ⟨#[97]⟩⟩ : GMsg)] rfl rfl (by simp [maxLen])
      refine n_buildSlice H Tryz.underlying50 sz87 ze87 rfl rfl rfl (cs := [.slice (some ⟨b568, 0, none⟩) 1 1, .slice none 0 0]) ((fill1 (((hS.own 0 rfl).slr rfl (fun _ _ => rfl))).one rfl (by simp)).trans ((fill1 rfl rfl (by simp)).trans rfl)) rfl ?_
      clear H; intro b572 w570 hN hE571 hs; clear a; intro a H
      replace hS := hS.newBlk hN hE571 hs; clear hN hs
      replace hm := bindS hm; obtain ⟨r573, hr573, hm⟩ := hm
      refine n_call H rfl en30 (g_frame_Carry_w (A := A) (hG.ext hS.x) (⟨_, _, _, _, rfl, (hS.deepSl 5 rfl), ((hS.own 6 rfl).slr rfl (fun _ _ => rfl)), ((hS.own 7 rfl).slr rfl (fun _ _ => rfl)), ((hS.own 8 rfl).slr rfl (fun _ _ => rfl))⟩ : RGConfig _ [.int .i64 r21.Ticks, u22, u23, u24, u25, .int .i64 r21.Tries] r21) ((hS.own 2 rfl).slr rfl (fun _ _ => rfl)) (SlR.ofBlk (k := 1) (R := RSl 2 eGMsg) [[.slice (some ⟨b568, 0, none⟩) 1 1], [.slice none 0 0]] [[(⟨0, ⟨#[97]⟩⟩ : GMsg)], ([] : List GMsg)] (hS.blk 0 rfl) (DIn.cons rfl (by simp [(((hS.own 1 rfl).slr rfl (fun _ _ => rfl))).one]) ⟨_, rfl, ((hS.own 1 rfl).slr rfl (fun _ _ => rfl))⟩ (DIn.cons rfl (by simp) ⟨_, rfl, (SlR.nil _ 2 (Flat eGMsg))⟩ trivial)) rfl (by simp [maxLen])) hr573) rfl ?_
      clear H; intro x580 w578 hv; clear a; intro a H; obtain ⟨u574, u575, rfl, hE579⟩ := hv
      replace hS := hS.new hE579; simp only [List.cons_append, List.nil_append] at hS
      refine n_q H (q_move rfl) rfl (W_q (q_extract rfl rfl) rfl (W_q (q_extract rfl rfl) rfl (W_q (q_assign rfl) rfl (W_q (q_assign rfl) rfl ?_)))); clear H a; intro a H
      refine n_nil (then_normal (wp_seq ?_))
      replace hm := bindS hm; obtain ⟨j581, hm, hm581⟩ := hm
      refine c_join (σ := Bool) H (fun q1082 => [(1, .pointer (some ⟨b33, 0, none⟩)), (68, .bool q1082)]) (fun q1082 wl => (g_law14_fixed_J3 r21) q1082 = some r ∧ St NB w wl [blkR b33 [.int .i64 r21.Ticks, u22, u23, u24, u25, .int .i64 r21.Tries] 49, deepR 27 7 RGPlan u22 r21.Parts, ownR 3 1 u23 r21.Homes.length (r21.Homes.flatMap eI), ownR 61 3 u24 r21.Windows.length (r21.Windows.flatMap eGWindow), ownR 63 4 u25 r21.Links.length (r21.Links.flatMap eGLink)]) ?_ ?_
      · skip
        refine wp_region_lit (n_q H (q_move rfl) rfl (W_q (q_cast (q_nnilI Tryz.underlying41 rfl rfl (hS.any 5 rfl : IsE A w578 u557 r556.2).form) (show _ = Value.bool (!decide (r556.2 = .nil)) by rw [IsErr.isNil (hS.any 5 rfl : IsE A w578 u557 r556.2)])) rfl (W_q (q_move rfl) rfl ?_))); clear H a; intro a H
        rcases Bool.eq_false_or_eq_true (!decide (r556.2 = .nil)) with hg1083 | hg1083
        · replace H := H.know 40 rfl hg1083
          replace hm := condT hm hg1083
          refine n_no H rfl rfl (by decide) rfl (W_no rfl rfl (by decide) rfl (W_q (q_pickT rfl rfl) rfl (W_q (q_move rfl) rfl (W_no rfl rfl (by decide) rfl (W_no rfl rfl (by decide) rfl (W_q (q_pickT rfl rfl) rfl (W_q (q_move rfl) rfl (W_no rfl rfl (by decide) rfl (W_no rfl rfl (by decide) rfl (W_no rfl rfl (by decide) rfl (W_q (q_pickT rfl rfl) rfl ?_))))))))))); clear H a; intro a H
          refine n_q H (q_move rfl) rfl (W_no rfl rfl (by decide) rfl (W_no rfl rfl (by decide) rfl (W_no rfl rfl (by decide) rfl (W_no rfl rfl (by decide) rfl (W_no rfl rfl (by decide) rfl (W_q (q_pickT rfl rfl) rfl (W_q (q_move rfl) rfl (W_no rfl rfl (by decide) rfl (W_no rfl rfl (by decide) rfl (W_no rfl rfl (by decide) rfl (W_no rfl rfl (by decide) rfl ?_))))))))))); clear H a; intro a H
          refine n_no H rfl rfl (by decide) rfl (W_no rfl rfl (by decide) rfl (W_no rfl rfl (by decide) rfl (W_q (q_pickT rfl rfl) rfl ?_))); clear H a; intro a H
          refine n_nil (then_normal ?_)
          obtain rfl := Option.some.inj hm; replace hm := hm581; try dsimp only at hm
          replace hS := hS.pk10
          replace hS := hS.pk10
          replace hS := hS.pk10
          replace hS := hS.pk10
          replace hS := hS.pk10
          replace hS := hS.tk5
          exact join true H ⟨rfl, rfl, trivial⟩ ⟨hm, hS⟩
        · replace H := H.know 40 rfl hg1083
          replace hm := condF hm hg1083
          refine n_yes H rfl rfl (n_q H (q_move rfl) rfl (W_yes rfl rfl (W_q (q_neqD rfl rfl) rfl (W_q (q_pickF rfl rfl) rfl (W_q (q_move rfl) rfl ?_))))); clear H a; intro a H
          rcases Bool.eq_false_or_eq_true (!decide (r556.1 = 80)) with hg1084 | hg1084
          · replace H := H.know 44 rfl hg1084
            replace hm := condT hm hg1084
            refine n_no H rfl rfl (by decide) rfl (W_no rfl rfl (by decide) rfl (W_q (q_pickT rfl rfl) rfl (W_q (q_move rfl) rfl (W_no rfl rfl (by decide) rfl (W_no rfl rfl (by decide) rfl (W_no rfl rfl (by decide) rfl (W_q (q_pickT rfl rfl) rfl (W_q (q_move rfl) rfl (W_no rfl rfl (by decide) rfl (W_no rfl rfl (by decide) rfl (W_no rfl rfl (by decide) rfl ?_))))))))))); clear H a; intro a H
            refine n_no H rfl rfl (by decide) rfl (W_no rfl rfl (by decide) rfl (W_q (q_pickT rfl rfl) rfl (W_q (q_move rfl) rfl (W_no rfl rfl (by decide) rfl (W_no rfl rfl (by decide) rfl (W_no rfl rfl (by decide) rfl (W_no rfl rfl (by decide) rfl (W_no rfl rfl (by decide) rfl (W_no rfl rfl (by decide) rfl (W_no rfl rfl (by decide) rfl (W_q (q_pickT rfl rfl) rfl ?_))))))))))); clear H a; intro a H
            refine n_nil (then_normal ?_)
            obtain rfl := Option.some.inj hm; replace hm := hm581; try dsimp only at hm
            replace hS := hS.pk10
            replace hS := hS.pk10
            replace hS := hS.pk10
            replace hS := hS.pk10
            replace hS := hS.pk10
            replace hS := hS.tk5
            exact join true H ⟨rfl, rfl, trivial⟩ ⟨hm, hS⟩
          · replace H := H.know 44 rfl hg1084
            replace hm := condF hm hg1084
            refine n_yes H rfl rfl (n_q H (q_move rfl) rfl (W_yes rfl rfl (W_q (q_cast (q_nnilI Tryz.underlying41 rfl rfl (hS.any 1 rfl : IsE A w578 u575 r573.2).form) (show _ = Value.bool (!decide (r573.2 = .nil)) by rw [IsErr.isNil (hS.any 1 rfl : IsE A w578 u575 r573.2)])) rfl (W_q (q_pickF rfl rfl) rfl (W_q (q_move rfl) rfl ?_))))); clear H a; intro a H
            rcases Bool.eq_false_or_eq_true (!decide (r573.2 = .nil)) with hg1085 | hg1085
            · replace H := H.know 48 rfl hg1085
              replace hm := condT hm hg1085
              refine n_no H rfl rfl (by decide) rfl (W_no rfl rfl (by decide) rfl (W_no rfl rfl (by decide) rfl (W_q (q_pickT rfl rfl) rfl (W_q (q_move rfl) rfl (W_no rfl rfl (by decide) rfl (W_no rfl rfl (by decide) rfl (W_no rfl rfl (by decide) rfl (W_no rfl rfl (by decide) rfl (W_no rfl rfl (by decide) rfl (W_q (q_pickT rfl rfl) rfl (W_q (q_move rfl) rfl ?_))))))))))); clear H a; intro a H
              refine n_no H rfl rfl (by decide) rfl (W_no rfl rfl (by decide) rfl (W_no rfl rfl (by decide) rfl (W_no rfl rfl (by decide) rfl (W_no rfl rfl (by decide) rfl (W_no rfl rfl (by decide) rfl (W_no rfl rfl (by decide) rfl (W_q (q_pickT rfl rfl) rfl ?_))))))); clear H a; intro a H
              refine n_nil (then_normal ?_)
              obtain rfl := Option.some.inj hm; replace hm := hm581; try dsimp only at hm
              replace hS := hS.pk10
              replace hS := hS.pk10
              replace hS := hS.pk10
              replace hS := hS.pk10
              replace hS := hS.pk10
              replace hS := hS.tk5
              exact join true H ⟨rfl, rfl, trivial⟩ ⟨hm, hS⟩
            · replace H := H.know 48 rfl hg1085
              replace hm := condF hm hg1085
              refine n_yes H rfl rfl (n_q H (q_move rfl) rfl (W_yes rfl rfl ?_)); clear H a; intro a H
              obtain ⟨A1086, c1086, hv1086, hl1086, hm1086⟩ := SlR.formV (hS.nestSl 0 rfl (rowR_R (E := 133) (k := 2) (e := eGMsg) (fun _ _ => rfl)))
              refine n_q H (q_lenV Tryz.underlying50 rfl hv1086) rfl (W_yes rfl rfl (W_q (q_neqN (i := r573.1.length) (j := 2) rfl rfl) rfl (W_q (q_pickF rfl rfl) rfl (W_q (q_move rfl) rfl ?_)))); clear H a; intro a H
              rcases Bool.eq_false_or_eq_true (!decide (r573.1.length = 2)) with hg1087 | hg1087
              · replace H := H.know 53 rfl hg1087
                replace hm := condT hm hg1087
                refine n_no H rfl rfl (by decide) rfl (W_no rfl rfl (by decide) rfl (W_no rfl rfl (by decide) rfl (W_no rfl rfl (by decide) rfl (W_no rfl rfl (by decide) rfl (W_q (q_pickT rfl rfl) rfl (W_q (q_move rfl) rfl (W_no rfl rfl (by decide) rfl (W_no rfl rfl (by decide) rfl (W_no rfl rfl (by decide) rfl (W_no rfl rfl (by decide) rfl (W_no rfl rfl (by decide) rfl ?_))))))))))); clear H a; intro a H
                refine n_no H rfl rfl (by decide) rfl (W_no rfl rfl (by decide) rfl (W_q (q_pickT rfl rfl) rfl ?_)); clear H a; intro a H
                refine n_nil (then_normal ?_)
                obtain rfl := Option.some.inj hm; replace hm := hm581; try dsimp only at hm
                replace hS := hS.pk10
                replace hS := hS.pk10
                replace hS := hS.pk10
                replace hS := hS.pk10
                replace hS := hS.pk10
                replace hS := hS.tk5
                exact join true H ⟨rfl, rfl, trivial⟩ ⟨hm, hS⟩
              · replace H := H.know 53 rfl hg1087
                replace hm := condF hm hg1087
                refine n_yes H rfl rfl (n_q H (q_move rfl) rfl (W_yes rfl rfl ?_)); clear H a; intro a H
                replace hm := bindS hm; obtain ⟨x1088, hx1088, hm⟩ := hm
                obtain ⟨adx1088, hAx1088⟩ := SlR.adV (hS.nestSl 0 rfl (rowR_R (E := 133) (k := 2) (e := eGMsg) (fun _ _ => rfl))) hv1086 hx1088
                obtain ⟨csx1088, hclx1088, ⟨vx1088, rfl, hrx1088⟩, hcx1088⟩ := SlR.elV (hS.nestSl 0 rfl (rowR_R (E := 133) (k := 2) (e := eGMsg) (fun _ _ => rfl))) hv1086 hAx1088 hx1088
                refine n_q H (q_ixV (i := 1) Tryz.underlying50 sz87 rfl hv1086 hAx1088 rfl (natI hx1088)) rfl (W_yes rfl rfl (W_q (q_load rfl (LdX.ext (ldElH ag87 hcx1088) Ext.rfl')) rfl (W_yes rfl rfl ?_))); clear H a; intro a H
                obtain ⟨A1089, c1089, hv1089, hl1089, hm1089⟩ := SlR.formV (hrx1088.ext (Flat.mono _) Ext.rfl')
                refine n_q H (q_lenV Tryz.underlying87 rfl hv1089) rfl (W_yes rfl rfl (W_q (q_neqN (i := x1088.length) (j := 1) rfl rfl) rfl (W_q (q_pickF rfl rfl) rfl (W_q (q_move rfl) rfl ?_)))); clear H a; intro a H
                rcases Bool.eq_false_or_eq_true (!decide (x1088.length = 1)) with hg1090 | hg1090
                · replace H := H.know 60 rfl hg1090
                  replace hm := condT hm hg1090
                  refine n_no H rfl rfl (by decide) rfl (W_no rfl rfl (by decide) rfl (W_no rfl rfl (by decide) rfl (W_no rfl rfl (by decide) rfl (W_no rfl rfl (by decide) rfl (W_no rfl rfl (by decide) rfl (W_no rfl rfl (by decide) rfl (W_q (q_pickT rfl rfl) rfl ?_))))))); clear H a; intro a H
                  refine n_nil (then_normal ?_)
                  obtain rfl := Option.some.inj hm; replace hm := hm581; try dsimp only at hm
                  replace hS := hS.pk10
                  replace hS := hS.pk10
                  replace hS := hS.pk10
                  replace hS := hS.pk10
                  replace hS := hS.pk10
                  replace hS := hS.tk5
                  exact join true H ⟨rfl, rfl, trivial⟩ ⟨hm, hS⟩
                · replace H := H.know 60 rfl hg1090
                  replace hm := condF hm hg1090
                  refine n_yes H rfl rfl (n_q H (q_move rfl) rfl (W_yes rfl rfl ?_)); clear H a; intro a H
                  replace hm := bindS hm; obtain ⟨x1091, hx1091, hm⟩ := hm
                  obtain ⟨adx1091, hAx1091⟩ := SlR.adV (hS.nestSl 0 rfl (rowR_R (E := 133) (k := 2) (e := eGMsg) (fun _ _ => rfl))) hv1086 hx1091
                  obtain ⟨csx1091, hclx1091, ⟨vx1091, rfl, hrx1091⟩, hcx1091⟩ := SlR.elV (hS.nestSl 0 rfl (rowR_R (E := 133) (k := 2) (e := eGMsg) (fun _ _ => rfl))) hv1086 hAx1091 hx1091
                  refine n_q H (q_ixV (i := 1) Tryz.underlying50 sz87 rfl hv1086 hAx1091 rfl (natI hx1091)) rfl (W_yes rfl rfl (W_q (q_load rfl (LdX.ext (ldElH ag87 hcx1091) Ext.rfl')) rfl (W_yes rfl rfl ?_))); clear H a; intro a H
                  obtain ⟨A1092, c1092, hv1092, hl1092, hm1092⟩ := SlR.formV (hrx1091.ext (Flat.mono _) Ext.rfl')
                  replace hm := bindS hm; obtain ⟨x1093, hx1093, hm⟩ := hm
                  obtain ⟨adx1093, hAx1093⟩ := SlR.adV (hrx1091.ext (Flat.mono _) Ext.rfl') hv1092 hx1093
                  refine n_q H (q_ixV (i := 0) Tryz.underlying87 sz133 rfl hv1092 hAx1093 rfl (natI hx1093)) rfl (W_yes rfl rfl (W_q (q_fieldAddr rfl fo133_1) rfl (W_yes rfl rfl (W_q (q_load rfl (SlR.ldCellV (j := 1) (hrx1091.ext (Flat.mono _) Ext.rfl') hv1092 hAx1093 ag9 hx1093 rfl)) rfl (W_yes rfl rfl (W_q (q_neqS rfl rfl) rfl (W_q (q_pickF rfl rfl) rfl ?_))))))); clear H a; intro a H
                  refine n_nil (then_normal ?_)
                  obtain rfl := Option.some.inj hm; replace hm := hm581; try dsimp only at hm
                  replace hS := hS.pk10
                  replace hS := hS.pk10
                  replace hS := hS.pk10
                  replace hS := hS.pk10
                  replace hS := hS.pk10
                  replace hS := hS.tk5
                  exact join (!decide (x1093.Data = ⟨#[97]⟩)) H ⟨rfl, rfl, trivial⟩ ⟨hm, hS⟩
      · clear H hS hm a; intro q1082 a w1094 H hR
        simp only [ent, List.map_cons, List.map_nil] at H; (try dsimp only at hR); obtain ⟨hm, hS⟩ := hR; try dsimp only [g_law14_fixed_J3] at hm
        refine c_cond H rfl (fun hc1095 => ?_) (fun hc1095 => ?_)
        · replace hm := condT hm hc1095
          refine wp_seq (wp_region_lit (n_q H (q_assign rfl) rfl ?_)); clear H a; intro a H
          refine n_nil (then_normal (wp_ret (then_ret ?_)))
          obtain rfl := Option.some.inj hm
          replace hS := hS.tk0
          refine ret1 H (.inr rfl) rfl rfl ?_
          exact ⟨rfl, hS.x⟩
        · replace hm := condF hm hc1095
          refine wp_skip (then_normal (wp_seq (wp_region_lit (n_q H (q_fieldAddr0 rfl fo49_0) rfl ?_)))); clear H a; intro a H
          refine n_store1 H rfl rfl sz3 (hS.blk 0 rfl) (by simp) rfl ?_
          clear H; intro w1096 hN hC1097 hz; clear a; intro a H; replace hS := hS.setBlk hN hC1097; clear hN hz
          try simp only [List.set_cons_succ, List.set_cons_zero] at hS
          refine n_nil (then_normal (wp_seq (wp_region_lit (n_q H (q_load rfl ((hS.blk 0 rfl).ldAll ag49 sz49)) rfl ?_)))); clear H a; intro a H
          replace hm := bindS hm; obtain ⟨r1098, hr1098, hm⟩ := hm
          refine n_call H rfl en28 (g_frame_Check_w (A := A) (hG.ext hS.x) (⟨_, _, _, _, rfl, (hS.deepSl 1 rfl), ((hS.own 2 rfl).slr rfl (fun _ _ => rfl)), ((hS.own 3 rfl).slr rfl (fun _ _ => rfl)), ((hS.own 4 rfl).slr rfl (fun _ _ => rfl))⟩ : RGConfig _ [.int .i64 99, u22, u23, u24, u25, .int .i64 r21.Tries] (⟨99, r21.Parts, r21.Homes, r21.Windows, r21.Links, r21.Tries⟩ : GConfig)) hr1098) rfl ?_
          clear H; intro u1099 w1101 hv; clear a; intro a H; obtain ⟨_, rfl, hE1102⟩ := hv
          replace hS := hS.new hE1102; simp only [List.cons_append, List.nil_append] at hS
          refine n_q H (q_assign rfl) rfl ?_; clear H a; intro a H
          refine n_nil (then_normal (wp_seq (wp_region_lit (n_q H (q_move rfl) rfl ?_)))); clear H a; intro a H
          refine n_call H rfl en14 (code_w (hG.ext hS.x) (hS.any 0 rfl : IsE A w1101 u1099 r1098)) rfl ?_
          clear H; intro x1106 w1104 hv; clear a; intro a H; obtain ⟨rfl, hE1105⟩ := hv; replace hS := hS.ext hE1105
          refine n_q H (q_eqlD rfl rfl) rfl (W_q (q_move rfl) rfl ?_); clear H a; intro a H
          rcases Bool.eq_false_or_eq_true (decide ((ErrM.code r1098) = 4)) with hg1107 | hg1107
          · replace H := H.know 75 rfl hg1107
            replace hm := condT hm hg1107
            refine n_yes H rfl rfl (n_q H (q_move rfl) rfl (W_yes rfl rfl ?_)); clear H a; intro a H
            refine n_call H rfl en15 (place_w (hH.ext hS.x) (hS.any 0 rfl : IsE A w1104 u1099 r1098)) rfl ?_
            clear H; intro x1110 w1108 hv; clear a; intro a H; obtain ⟨rfl, hE1109⟩ := hv; replace hS := hS.ext hE1109
            refine n_yes H rfl rfl (n_q H (q_eqlD rfl rfl) rfl (W_q (q_pickT rfl rfl) rfl (W_q (q_assign rfl) rfl ?_))); clear H a; intro a H
            refine n_nil (then_normal (wp_ret ?_))
            obtain rfl := Option.some.inj hm
            replace hS := hS.tk0
            refine ret1 H (.inr rfl) rfl rfl ?_
            exact ⟨rfl, hS.x⟩
          · replace H := H.know 75 rfl hg1107
            replace hm := condF hm hg1107
            refine n_no H rfl rfl (by decide) rfl (W_no rfl rfl (by decide) rfl (W_no rfl rfl (by decide) rfl (W_q (q_pickF rfl rfl) rfl (W_q (q_assign rfl) rfl ?_)))); clear H a; intro a H
            refine n_nil (then_normal (wp_ret ?_))
            obtain rfl := Option.some.inj hm
            replace hS := hS.tk0
            refine ret1 H (.inr rfl) rfl rfl ?_
            exact ⟨rfl, hS.x⟩
theorem g_r14_bad_w {w : World} {A : Nat → Addr} {a0 : Int} {r : GR14Err} (hm : g_r14_bad a0 = some r) :
    Calls Tryz.prog 70 [.int .i64 a0].toArray w (Ret fun u w' => u = .agg (eGR14Err r).toArray ∧ Ext w w') := by
  have hS := St.begin NB w
  unfold g_r14_bad at hm
  refine enter Tryz.func70 rfl rfl rfl ?_; intro a H; dsimp only [enumL, Nat.zero_add, Nat.reduceAdd] at H
  refine wp_seq (wp_region_lit (n_alloc H ze66 rfl ?_))
  clear H; intro b21 w22 hN hE23 hs; clear a; intro a H
  replace hS := hS.newBlk hN hE23 hs; clear hN hs
  refine n_nil (then_normal (wp_seq (wp_region_lit (n_q H (q_move rfl) rfl (W_q (q_build (cs := [.int .i64 a0, .int .i64 (-1)]) ze66 bd66 pl66 rfl (by kernel_rfl)) rfl ?_))))); clear H a; intro a H
  refine n_storeAll H rfl rfl (vs := [.int .i64 a0, .int .i64 (-1)]) rfl sz66 (hS.blk 0 rfl) rfl (by simp) ?_
  clear H; intro w24 hN hC25 hz; clear a; intro a H; replace hS := hS.setBlk hN hC25; clear hN hz
  refine n_nil (then_normal (wp_ret ?_))
  obtain rfl := Option.some.inj hm
  refine retL H (.inr rfl) rfl (vs := [.agg #[.int .i64 a0, .int .i64 (-1)]]) (resCell rfl ((hS.blk 0 rfl).ldAll ag66 sz66) resNil) ?_
  replace hS := hS.tk0
  exact ⟨rfl, hS.x⟩
theorem g_r10_bad_w {w : World} {A : Nat → Addr} {a0 : Int} {r : GR10Err} (hm : g_r10_bad a0 = some r) :
    Calls Tryz.prog 171 [.int .i64 a0].toArray w (Ret fun u w' => u = .agg (eGR10Err r).toArray ∧ Ext w w') := by
  have hS := St.begin NB w
  unfold g_r10_bad at hm
  refine enter Tryz.func171 rfl rfl rfl ?_; intro a H; dsimp only [enumL, Nat.zero_add, Nat.reduceAdd] at H
  refine wp_seq (wp_region_lit (n_alloc H ze172 rfl ?_))
  clear H; intro b21 w22 hN hE23 hs; clear a; intro a H
  replace hS := hS.newBlk hN hE23 hs; clear hN hs
  refine n_nil (then_normal (wp_seq (wp_region_lit (n_q H (q_move rfl) rfl (W_q (q_build (cs := [.int .i64 a0, .int .i64 (-1)]) ze172 bd172 pl172 rfl (by kernel_rfl)) rfl ?_))))); clear H a; intro a H
  refine n_storeAll H rfl rfl (vs := [.int .i64 a0, .int .i64 (-1)]) rfl sz172 (hS.blk 0 rfl) rfl (by simp) ?_
  clear H; intro w24 hN hC25 hz; clear a; intro a H; replace hS := hS.setBlk hN hC25; clear hN hz
  refine n_nil (then_normal (wp_ret ?_))
  obtain rfl := Option.some.inj hm
  refine retL H (.inr rfl) rfl (vs := [.agg #[.int .i64 a0, .int .i64 (-1)]]) (resCell rfl ((hS.blk 0 rfl).ldAll ag172 sz172) resNil) ?_
  replace hS := hS.tk0
  exact ⟨rfl, hS.x⟩
theorem g_r10_none_w {w : World} {A : Nat → Addr} {r : GR10Err} (hm : g_r10_none = some r) :
    Calls Tryz.prog 177 [].toArray w (Ret fun u w' => u = .agg (eGR10Err r).toArray ∧ Ext w w') := by
  have hS := St.begin NB w
  unfold g_r10_none at hm
  refine enter Tryz.func177 rfl rfl rfl ?_; intro a H; dsimp only [enumL, Nat.zero_add, Nat.reduceAdd] at H
  refine wp_seq (wp_region_lit (n_alloc H ze172 rfl ?_))
  clear H; intro b21 w22 hN hE23 hs; clear a; intro a H
  replace hS := hS.newBlk hN hE23 hs; clear hN hs
  refine n_nil (then_normal (wp_seq (wp_region_lit (n_q H (q_build (cs := [.int .i64 0, .int .i64 (-1)]) ze172 bd172 pl172 rfl (by kernel_rfl)) rfl ?_)))); clear H a; intro a H
  refine n_storeAll H rfl rfl (vs := [.int .i64 0, .int .i64 (-1)]) rfl sz172 (hS.blk 0 rfl) rfl (by simp) ?_
  clear H; intro w24 hN hC25 hz; clear a; intro a H; replace hS := hS.setBlk hN hC25; clear hN hz
  refine n_nil (then_normal (wp_ret ?_))
  obtain rfl := Option.some.inj hm
  refine retL H (.inr rfl) rfl (vs := [.agg #[.int .i64 0, .int .i64 (-1)]]) (resCell rfl ((hS.blk 0 rfl).ldAll ag172 sz172) resNil) ?_
  replace hS := hS.tk0
  exact ⟨rfl, hS.x⟩
theorem g_r10_pages_w {w : World} {A : Nat → Addr} {cs0 : List Value} {a0 : GPlan} (h0 : RGPlan w cs0 a0) {r : GR10Err} (hm : g_r10_pages a0 = some r) :
    Calls Tryz.prog 172 [.agg cs0.toArray].toArray w (Ret fun u w' => u = .agg (eGR10Err r).toArray ∧ Ext w w') := by
  obtain ⟨vp0_0, vp0_1, vp0_2, vp0_3, rfl, hrp0_0, hrp0_1, hrp0_2, hrp0_3⟩ := h0
  have hS := St.begin NB w
  unfold g_r10_pages at hm
  refine enter Tryz.func172 rfl rfl rfl ?_; intro a H; dsimp only [enumL, Nat.zero_add, Nat.reduceAdd] at H
  refine wp_seq (wp_region_lit (n_box H rfl (cs := [.int .i64 a0.Id, .bool a0.Mobile, vp0_0, vp0_1, vp0_2, .int .i64 a0.Events, vp0_3]) rfl rfl ?_))
  clear H; intro b21 w22 hN hE23 hs; clear a; intro a H
  replace hS := hS.newBlk hN hE23 hs; clear hN hs
  refine n_alloc H ze172 rfl ?_
  clear H; intro b24 w25 hN hE26 hs; clear a; intro a H
  replace hS := hS.newBlk hN hE26 hs; clear hN hs
  refine n_nil (then_normal (wp_seq (wp_seq (wp_region_lit (n_c H (fun HC => ?_)))))); clear H
  refine nc_q HC (q_fieldAddr0 rfl fo27_2) rfl (by kernel_rfl) (V_q (q_load rfl ((hS.blk 1 rfl).ld ag22 rfl)) rfl (by kernel_rfl) ?_); clear HC a; intro a HC
  obtain ⟨A27, c27, hv27, hl27, hm27⟩ := SlR.formV (hrp0_0.ext (Flat.mono _) hS.x)
  refine nc_q HC (q_lenV Tryz.underlying22 rfl hv27) rfl (by kernel_rfl) (V_q (q_lssN (i := a0.Pages.length) (j := 1) rfl rfl) rfl (by kernel_rfl) (V_q (q_move rfl) rfl (by kernel_rfl) (V_g (q_fieldAddr0 rfl fo27_2) (by kernel_rfl) (by kernel_rfl) (by kernel_rfl) (V_g (q_load rfl ((hS.blk 1 rfl).ld ag22 rfl)) (by kernel_rfl) (by kernel_rfl) (by kernel_rfl) (V_g (q_lenV Tryz.underlying22 rfl hv27) (by kernel_rfl) (by kernel_rfl) (by kernel_rfl) (V_g (q_gtrN (i := a0.Pages.length) (j := 32) rfl rfl) (by kernel_rfl) (by kernel_rfl) (by kernel_rfl) (V_or (j := 4) rfl rfl rfl (by kernel_rfl) (by kernel_rfl) ?_))))))); clear HC a; intro a HC
  have H := HC.has; clear HC
  refine n_nil (then_normal (c_cond H rfl (fun hc28 => ?_) (fun hc28 => ?_)))
  · replace hm := condT hm hc28
    refine wp_seq (wp_region_lit ?_)
    replace hm := bindS hm; obtain ⟨r29, hr29, hm⟩ := hm
    refine n_call H rfl en171 (g_r10_bad_w (A := A) hr29) rfl ?_
    clear H; intro x32 w30 hv; clear a; intro a H; obtain ⟨rfl, hE31⟩ := hv
    replace hS := hS.ext hE31
    refine n_storeAll H rfl rfl (vs := [.int .i64 r29.Code, .int .i64 r29.Place]) rfl sz172 (hS.blk 0 rfl) rfl (by simp) ?_
    clear H; intro w33 hN hC34 hz; clear a; intro a H; replace hS := hS.setBlk hN hC34; clear hN hz
    refine n_nil (then_normal (wp_ret (then_ret ?_)))
    obtain rfl := Option.some.inj hm
    replace hS := hS.tk1
    refine retL H (.inr rfl) rfl (vs := [.agg #[.int .i64 r29.Code, .int .i64 r29.Place]]) (resCell rfl ((hS.blk 0 rfl).ldAll ag172 sz172) resNil) ?_
    replace hS := hS.tk0
    exact ⟨rfl, hS.x⟩
  · replace hm := condF hm hc28
    refine wp_skip (then_normal (wp_seq (wp_seq (wp_region_lit (n_q H (q_assign rfl) rfl ?_))))); clear H a; intro a H
    refine n_nil (then_normal (wp_block ?_))
    replace hS := hS.pk1
    replace hm := bindS hm; obtain ⟨q35, hm, hm35⟩ := hm; replace hm := iter_some hm; obtain ⟨n35, hm⟩ := hm
    refine c_loop (σ := Nat × Nat) (fun (m, i36) => [(1, .pointer (some ⟨b21, 0, none⟩)), (2, .pointer (some ⟨b24, 0, none⟩)), (3, .int .i64 ((i36 : Nat) : Int))]) (fun (m, i36) wl => iterN (g_r10_pages_L13 a0) m i36 = some q35 ∧ St NB w wl [blkR b21 [.int .i64 a0.Id, .bool a0.Mobile, vp0_0, vp0_1, vp0_2, .int .i64 a0.Events, vp0_3] 27, blkR b24 [.int .i64 0, .int .i64 0] 172]) (fun (m, i36) => m) (n35, 0) H ⟨rfl, rfl, rfl, trivial⟩ ⟨hm, hS⟩ ?_
    clear H hS hm a; intro xx a w37 H hR; obtain ⟨m, i36⟩ := xx; simp only [ent, List.map_cons, List.map_nil] at H; (try dsimp only at hR); obtain ⟨hm, hS⟩ := hR
    replace hm := iterN_step hm; obtain ⟨m35, o35, rfl, hm, hn35⟩ := hm; try dsimp only [g_r10_pages_L13] at hm
    refine wp_seq (wp_seq (wp_region_lit (n_q H (q_move rfl) rfl (W_q (q_fieldAddr0 rfl fo27_2) rfl (W_q (q_load rfl ((hS.blk 0 rfl).ld ag22 rfl)) rfl (W_q (q_lenV Tryz.underlying22 rfl hv27) rfl (W_q (q_lssN (i := i36) (j := a0.Pages.length) rfl rfl) rfl ?_))))))); clear H a; intro a H
    refine n_nil (then_normal (c_cond H rfl (fun hc38 => ?_) (fun hc38 => ?_)))
    · replace hm := condT hm hc38
      have hlt39 : i36 < a0.Pages.length := of_decide_eq_true hc38
      refine wp_skip (then_normal (wp_seq (wp_block (wp_seq ?_))))
      replace hm := bindS hm; obtain ⟨j40, hm, hm40⟩ := hm
      refine c_join (σ := Bool) H (fun q541 => [(1, .pointer (some ⟨b21, 0, none⟩)), (2, .pointer (some ⟨b24, 0, none⟩)), (3, .int .i64 ((i36 : Nat) : Int)), (37, .bool q541)]) (fun q541 wl => (g_r10_pages_J12 a0 i36) q541 = some o35 ∧ St NB w wl [blkR b21 [.int .i64 a0.Id, .bool a0.Mobile, vp0_0, vp0_1, vp0_2, .int .i64 a0.Events, vp0_3] 27, blkR b24 [.int .i64 0, .int .i64 0] 172]) ?_ ?_
      · skip
        refine wp_region_lit (n_q H (q_fieldAddr0 rfl fo27_2) rfl (W_q (q_load rfl ((hS.blk 0 rfl).ld ag22 rfl)) rfl (W_q (q_move rfl) rfl ?_))); clear H a; intro a H
        replace hm := bindS hm; obtain ⟨x542, hx542, hm⟩ := hm
        obtain ⟨adx542, hAx542⟩ := SlR.adV (hrp0_0.ext (Flat.mono _) hS.x) hv27 hx542
        refine n_q H (q_ixV (i := i36) Tryz.underlying22 sz167 rfl hv27 hAx542 rfl (natI hx542)) rfl (W_q (q_fieldAddr rfl fo167_0) rfl (W_q (q_load rfl (SlR.ldCellV (j := 0) (hrp0_0.ext (Flat.mono _) hS.x) hv27 hAx542 ag3 hx542 rfl)) rfl (W_q (q_lss rfl rfl) rfl (W_q (q_move rfl) rfl ?_)))); clear H a; intro a H
        rcases Bool.eq_false_or_eq_true (decide (x542.Rights < 0)) with hg543 | hg543
        · replace H := H.know 29 rfl hg543
          replace hm := condT hm hg543
          refine n_no H rfl rfl (by decide) rfl (W_no rfl rfl (by decide) rfl (W_no rfl rfl (by decide) rfl (W_no rfl rfl (by decide) rfl (W_no rfl rfl (by decide) rfl (W_no rfl rfl (by decide) rfl (W_no rfl rfl (by decide) rfl (W_q (q_pickT rfl rfl) rfl ?_))))))); clear H a; intro a H
          refine n_nil (then_normal ?_)
          obtain rfl := Option.some.inj hm; replace hm := hm40; try dsimp only at hm
          exact join true H ⟨rfl, rfl, rfl, rfl, trivial⟩ ⟨hm, hS⟩
        · replace H := H.know 29 rfl hg543
          replace hm := condF hm hg543
          refine n_yes H rfl rfl (n_q H (q_fieldAddr0 rfl fo27_2) rfl (W_yes rfl rfl (W_q (q_load rfl ((hS.blk 0 rfl).ld ag22 rfl)) rfl (W_yes rfl rfl (W_q (q_move rfl) rfl (W_yes rfl rfl ?_)))))); clear H a; intro a H
          replace hm := bindS hm; obtain ⟨x544, hx544, hm⟩ := hm
          obtain ⟨adx544, hAx544⟩ := SlR.adV (hrp0_0.ext (Flat.mono _) hS.x) hv27 hx544
          refine n_q H (q_ixV (i := i36) Tryz.underlying22 sz167 rfl hv27 hAx544 rfl (natI hx544)) rfl (W_yes rfl rfl (W_q (q_fieldAddr rfl fo167_0) rfl (W_yes rfl rfl (W_q (q_load rfl (SlR.ldCellV (j := 0) (hrp0_0.ext (Flat.mono _) hS.x) hv27 hAx544 ag3 hx544 rfl)) rfl (W_yes rfl rfl (W_q (q_gtr rfl rfl) rfl (W_q (q_pickF rfl rfl) rfl ?_))))))); clear H a; intro a H
          refine n_nil (then_normal ?_)
          obtain rfl := Option.some.inj hm; replace hm := hm40; try dsimp only at hm
          exact join (decide (7 < x544.Rights)) H ⟨rfl, rfl, rfl, rfl, trivial⟩ ⟨hm, hS⟩
      · clear H hS hm a; intro q541 a w545 H hR
        simp only [ent, List.map_cons, List.map_nil] at H; (try dsimp only at hR); obtain ⟨hm, hS⟩ := hR; try dsimp only [g_r10_pages_J12] at hm
        refine c_cond H rfl (fun hc546 => ?_) (fun hc546 => ?_)
        · replace hm := condT hm hc546
          refine wp_seq (wp_region_lit (n_q H (q_move rfl) rfl (W_q (q_build (cs := [.int .i64 4, .int .i64 ((i36 : Nat) : Int)]) ze172 bd172 pl172 rfl (by kernel_rfl)) rfl ?_))); clear H a; intro a H
          replace hS := hS.pk1
          refine n_storeAll H rfl rfl (vs := [.int .i64 4, .int .i64 ((i36 : Nat) : Int)]) rfl sz172 (hS.blk 0 rfl) rfl (by simp) ?_
          clear H; intro w547 hN hC548 hz; clear a; intro a H; replace hS := hS.setBlk hN hC548; clear hN hz
          refine n_nil (then_normal (wp_ret (then_ret (block_ret (then_ret (then_ret (block_ret (then_ret ?_))))))))
          obtain rfl := Option.some.inj hm; have hz : _ = q35 := hn35; subst hz; replace hm := hm35; try dsimp only at hm
          obtain rfl := Option.some.inj hm
          replace hS := hS.tk1
          refine retL H (.inr rfl) rfl (vs := [.agg #[.int .i64 4, .int .i64 ((i36 : Nat) : Int)]]) (resCell rfl ((hS.blk 0 rfl).ldAll ag172 sz172) resNil) ?_
          replace hS := hS.tk0
          exact ⟨rfl, hS.x⟩
        · replace hm := condF hm hc546
          refine wp_skip (then_normal (wp_seq (wp_region_lit (n_q H (q_fieldAddr0 rfl fo27_2) rfl (W_q (q_load rfl ((hS.blk 0 rfl).ld ag22 rfl)) rfl (W_q (q_move rfl) rfl ?_)))))); clear H a; intro a H
          replace hm := bindS hm; obtain ⟨x549, hx549, hm⟩ := hm
          obtain ⟨adx549, hAx549⟩ := SlR.adV (hrp0_0.ext (Flat.mono _) hS.x) hv27 hx549
          refine n_q H (q_ixV (i := i36) Tryz.underlying22 sz167 rfl hv27 hAx549 rfl (natI hx549)) rfl (W_q (q_fieldAddr rfl fo167_1) rfl (W_q (q_load rfl (SlR.ldCellV (j := 1) (hrp0_0.ext (Flat.mono _) hS.x) hv27 hAx549 ag9 hx549 rfl)) rfl (W_q (q_lenS Tryz.underlying9 rfl) rfl (W_q (q_gtrN (i := x549.Init.size) (j := 64) rfl rfl) rfl ?_)))); clear H a; intro a H
          refine n_nil (then_normal (c_cond H rfl (fun hc550 => ?_) (fun hc550 => ?_)))
          · replace hm := condT hm hc550
            refine wp_seq (wp_region_lit (n_q H (q_move rfl) rfl (W_q (q_build (cs := [.int .i64 5, .int .i64 ((i36 : Nat) : Int)]) ze172 bd172 pl172 rfl (by kernel_rfl)) rfl ?_))); clear H a; intro a H
            replace hS := hS.pk1
            refine n_storeAll H rfl rfl (vs := [.int .i64 5, .int .i64 ((i36 : Nat) : Int)]) rfl sz172 (hS.blk 0 rfl) rfl (by simp) ?_
            clear H; intro w551 hN hC552 hz; clear a; intro a H; replace hS := hS.setBlk hN hC552; clear hN hz
            refine n_nil (then_normal (wp_ret (block_ret (then_ret (then_ret (block_ret (then_ret ?_)))))))
            obtain rfl := Option.some.inj hm; have hz : _ = q35 := hn35; subst hz; replace hm := hm35; try dsimp only at hm
            obtain rfl := Option.some.inj hm
            replace hS := hS.tk1
            refine retL H (.inr rfl) rfl (vs := [.agg #[.int .i64 5, .int .i64 ((i36 : Nat) : Int)]]) (resCell rfl ((hS.blk 0 rfl).ldAll ag172 sz172) resNil) ?_
            replace hS := hS.tk0
            exact ⟨rfl, hS.x⟩
          · replace hm := condF hm hc550
            refine wp_skip (block_normal (then_normal (wp_region_lit (n_q H (q_move rfl) rfl (W_q (q_incr (i := i36) (j := 1) rfl rfl (by omega)) rfl (W_q (q_assign rfl) rfl ?_)))))); clear H a; intro a H
            refine n_nil (then_normal ?_)
            obtain rfl := Option.some.inj hm
            exact round (m35, i36 + 1) H ⟨rfl, rfl, rfl, trivial⟩ ⟨hn35, hS⟩ (Nat.lt_succ_self _)
    · replace hm := condF hm hc38
      refine wp_exit (then_exit (then_exit (block_exit ?_)))
      obtain rfl := Option.some.inj hm; have hz : _ = q35 := hn35; subst hz; replace hm := hm35; try dsimp only at hm
      refine then_normal (wp_seq (wp_region_lit ?_))
      replace hm := bindS hm; obtain ⟨r553, hr553, hm⟩ := hm
      refine n_call H rfl en177 (g_r10_none_w (A := A) hr553) rfl ?_
      clear H; intro x556 w554 hv; clear a; intro a H; obtain ⟨rfl, hE555⟩ := hv
      replace hS := hS.ext hE555
      replace hS := hS.pk1
      refine n_storeAll H rfl rfl (vs := [.int .i64 r553.Code, .int .i64 r553.Place]) rfl sz172 (hS.blk 0 rfl) rfl (by simp) ?_
      clear H; intro w557 hN hC558 hz; clear a; intro a H; replace hS := hS.setBlk hN hC558; clear hN hz
      refine n_nil (then_normal (wp_ret ?_))
      obtain rfl := Option.some.inj hm
      replace hS := hS.tk1
      refine retL H (.inr rfl) rfl (vs := [.agg #[.int .i64 r553.Code, .int .i64 r553.Place]]) (resCell rfl ((hS.blk 0 rfl).ldAll ag172 sz172) resNil) ?_
      replace hS := hS.tk0
      exact ⟨rfl, hS.x⟩
theorem g_r10_procs_w {w : World} {A : Nat → Addr} {cs0 : List Value} {a0 : GPlan} (h0 : RGPlan w cs0 a0) {r : GR10Err} (hm : g_r10_procs a0 = some r) :
    Calls Tryz.prog 173 [.agg cs0.toArray].toArray w (Ret fun u w' => u = .agg (eGR10Err r).toArray ∧ Ext w w') := by
  obtain ⟨vp0_0, vp0_1, vp0_2, vp0_3, rfl, hrp0_0, hrp0_1, hrp0_2, hrp0_3⟩ := h0
  have hS := St.begin NB w
  unfold g_r10_procs at hm
  refine enter Tryz.func173 rfl rfl rfl ?_; intro a H; dsimp only [enumL, Nat.zero_add, Nat.reduceAdd] at H
  refine wp_seq (wp_region_lit (n_box H rfl (cs := [.int .i64 a0.Id, .bool a0.Mobile, vp0_0, vp0_1, vp0_2, .int .i64 a0.Events, vp0_3]) rfl rfl ?_))
  clear H; intro b21 w22 hN hE23 hs; clear a; intro a H
  replace hS := hS.newBlk hN hE23 hs; clear hN hs
  refine n_alloc H ze172 rfl ?_
  clear H; intro b24 w25 hN hE26 hs; clear a; intro a H
  replace hS := hS.newBlk hN hE26 hs; clear hN hs
  refine n_nil (then_normal (wp_seq (wp_seq (wp_region_lit (n_c H (fun HC => ?_)))))); clear H
  refine nc_q HC (q_fieldAddr0 rfl fo27_3) rfl (by kernel_rfl) (V_q (q_load rfl ((hS.blk 1 rfl).ld ag23 rfl)) rfl (by kernel_rfl) ?_); clear HC a; intro a HC
  obtain ⟨A27, c27, hv27, hl27, hm27⟩ := SlR.formV (hrp0_1.ext (Flat.mono _) hS.x)
  refine nc_q HC (q_lenV Tryz.underlying23 rfl hv27) rfl (by kernel_rfl) (V_q (q_lssN (i := a0.Procs.length) (j := 1) rfl rfl) rfl (by kernel_rfl) (V_q (q_move rfl) rfl (by kernel_rfl) (V_g (q_fieldAddr0 rfl fo27_3) (by kernel_rfl) (by kernel_rfl) (by kernel_rfl) (V_g (q_load rfl ((hS.blk 1 rfl).ld ag23 rfl)) (by kernel_rfl) (by kernel_rfl) (by kernel_rfl) (V_g (q_lenV Tryz.underlying23 rfl hv27) (by kernel_rfl) (by kernel_rfl) (by kernel_rfl) (V_g (q_gtrN (i := a0.Procs.length) (j := 8) rfl rfl) (by kernel_rfl) (by kernel_rfl) (by kernel_rfl) (V_or (j := 4) rfl rfl rfl (by kernel_rfl) (by kernel_rfl) ?_))))))); clear HC a; intro a HC
  have H := HC.has; clear HC
  refine n_nil (then_normal (c_cond H rfl (fun hc28 => ?_) (fun hc28 => ?_)))
  · replace hm := condT hm hc28
    refine wp_seq (wp_region_lit ?_)
    replace hm := bindS hm; obtain ⟨r29, hr29, hm⟩ := hm
    refine n_call H rfl en171 (g_r10_bad_w (A := A) hr29) rfl ?_
    clear H; intro x32 w30 hv; clear a; intro a H; obtain ⟨rfl, hE31⟩ := hv
    replace hS := hS.ext hE31
    refine n_storeAll H rfl rfl (vs := [.int .i64 r29.Code, .int .i64 r29.Place]) rfl sz172 (hS.blk 0 rfl) rfl (by simp) ?_
    clear H; intro w33 hN hC34 hz; clear a; intro a H; replace hS := hS.setBlk hN hC34; clear hN hz
    refine n_nil (then_normal (wp_ret (then_ret ?_)))
    obtain rfl := Option.some.inj hm
    replace hS := hS.tk1
    refine retL H (.inr rfl) rfl (vs := [.agg #[.int .i64 r29.Code, .int .i64 r29.Place]]) (resCell rfl ((hS.blk 0 rfl).ldAll ag172 sz172) resNil) ?_
    replace hS := hS.tk0
    exact ⟨rfl, hS.x⟩
  · replace hm := condF hm hc28
    refine wp_skip (then_normal (wp_seq (wp_seq (wp_region_lit (n_q H (q_assign rfl) rfl ?_))))); clear H a; intro a H
    refine n_nil (then_normal (wp_block ?_))
    replace hS := hS.pk1
    replace hm := bindS hm; obtain ⟨q35, hm, hm35⟩ := hm; replace hm := iter_some hm; obtain ⟨n35, hm⟩ := hm
    refine c_loop (σ := Nat × Nat) (fun (m, i36) => [(1, .pointer (some ⟨b21, 0, none⟩)), (2, .pointer (some ⟨b24, 0, none⟩)), (3, .int .i64 ((i36 : Nat) : Int))]) (fun (m, i36) wl => iterN (g_r10_procs_L7 a0) m i36 = some q35 ∧ St NB w wl [blkR b21 [.int .i64 a0.Id, .bool a0.Mobile, vp0_0, vp0_1, vp0_2, .int .i64 a0.Events, vp0_3] 27, blkR b24 [.int .i64 0, .int .i64 0] 172]) (fun (m, i36) => m) (n35, 0) H ⟨rfl, rfl, rfl, trivial⟩ ⟨hm, hS⟩ ?_
    clear H hS hm a; intro xx a w37 H hR; obtain ⟨m, i36⟩ := xx; simp only [ent, List.map_cons, List.map_nil] at H; (try dsimp only at hR); obtain ⟨hm, hS⟩ := hR
    replace hm := iterN_step hm; obtain ⟨m35, o35, rfl, hm, hn35⟩ := hm; try dsimp only [g_r10_procs_L7] at hm
    refine wp_seq (wp_seq (wp_region_lit (n_q H (q_move rfl) rfl (W_q (q_fieldAddr0 rfl fo27_3) rfl (W_q (q_load rfl ((hS.blk 0 rfl).ld ag23 rfl)) rfl (W_q (q_lenV Tryz.underlying23 rfl hv27) rfl (W_q (q_lssN (i := i36) (j := a0.Procs.length) rfl rfl) rfl ?_))))))); clear H a; intro a H
    refine n_nil (then_normal (c_cond H rfl (fun hc38 => ?_) (fun hc38 => ?_)))
    · replace hm := condT hm hc38
      have hlt39 : i36 < a0.Procs.length := of_decide_eq_true hc38
      refine wp_skip (then_normal (wp_seq (wp_block (wp_seq (wp_region_lit (n_q H (q_fieldAddr0 rfl fo27_3) rfl (W_q (q_load rfl ((hS.blk 0 rfl).ld ag23 rfl)) rfl (W_q (q_move rfl) rfl ?_)))))))); clear H a; intro a H
      replace hm := bindS hm; obtain ⟨x40, hx40, hm⟩ := hm
      obtain ⟨adx40, hAx40⟩ := SlR.adV (hrp0_1.ext (Flat.mono _) hS.x) hv27 hx40
      refine n_q H (q_ixV (i := i36) Tryz.underlying23 sz169 rfl hv27 hAx40 rfl (natI hx40)) rfl (W_q (q_load rfl (SlR.ldAggV (hrp0_1.ext (Flat.mono _) hS.x) hv27 hAx40 ag169 sz169 hx40)) rfl ?_); clear H a; intro a H
      refine n_alloc H ze169 rfl ?_
      clear H; intro b41 w42 hN hE43 hs; clear a; intro a H
      replace hS := hS.newBlk hN hE43 hs; clear hN hs
      refine n_storeAll H rfl rfl (vs := [.int .i64 x40.Entry, .int .i64 x40.Prio, .bool x40.Auto]) rfl sz169 (hS.blk 0 rfl) rfl (by simp) ?_
      clear H; intro w44 hN hC45 hz; clear a; intro a H; replace hS := hS.setBlk hN hC45; clear hN hz
      refine n_nil (then_normal ?_)
      replace hm := bindS hm; obtain ⟨j46, hm, hm46⟩ := hm
      refine c_join (σ := Bool) H (fun q547 => [(1, .pointer (some ⟨b21, 0, none⟩)), (2, .pointer (some ⟨b24, 0, none⟩)), (3, .int .i64 ((i36 : Nat) : Int)), (55, .bool q547)]) (fun q547 wl => (g_r10_procs_J6 i36) q547 = some o35 ∧ St NB w wl [blkR b21 [.int .i64 a0.Id, .bool a0.Mobile, vp0_0, vp0_1, vp0_2, .int .i64 a0.Events, vp0_3] 27, blkR b24 [.int .i64 0, .int .i64 0] 172]) ?_ ?_
      · skip
        refine wp_region_lit (n_q H (q_fieldAddr0 rfl fo169_0) rfl (W_q (q_load rfl ((hS.blk 0 rfl).ld ag3 rfl)) rfl (W_q (q_lss rfl rfl) rfl (W_q (q_move rfl) rfl ?_)))); clear H a; intro a H
        rcases Bool.eq_false_or_eq_true (decide (x40.Entry < 0)) with hg548 | hg548
        · replace H := H.know 31 rfl hg548
          replace hm := condT hm hg548
          refine n_no H rfl rfl (by decide) rfl (W_no rfl rfl (by decide) rfl (W_no rfl rfl (by decide) rfl (W_no rfl rfl (by decide) rfl (W_q (q_pickT rfl rfl) rfl (W_q (q_move rfl) rfl (W_no rfl rfl (by decide) rfl (W_no rfl rfl (by decide) rfl (W_no rfl rfl (by decide) rfl (W_no rfl rfl (by decide) rfl (W_no rfl rfl (by decide) rfl (W_no rfl rfl (by decide) rfl ?_))))))))))); clear H a; intro a H
          refine n_no H rfl rfl (by decide) rfl (W_q (q_pickT rfl rfl) rfl (W_q (q_move rfl) rfl (W_no rfl rfl (by decide) rfl (W_no rfl rfl (by decide) rfl (W_no rfl rfl (by decide) rfl (W_q (q_pickT rfl rfl) rfl (W_q (q_move rfl) rfl (W_no rfl rfl (by decide) rfl (W_no rfl rfl (by decide) rfl (W_no rfl rfl (by decide) rfl (W_q (q_pickT rfl rfl) rfl ?_))))))))))); clear H a; intro a H
          refine n_nil (then_normal ?_)
          obtain rfl := Option.some.inj hm; replace hm := hm46; try dsimp only at hm
          replace hS := hS.pk2
          replace hS := hS.pk2
          replace hS := hS.tk2
          exact join true H ⟨rfl, rfl, rfl, rfl, trivial⟩ ⟨hm, hS⟩
        · replace H := H.know 31 rfl hg548
          replace hm := condF hm hg548
          refine n_yes H rfl rfl (n_q H (q_fieldAddr0 rfl fo169_0) rfl (W_yes rfl rfl (W_q (q_load rfl ((hS.blk 0 rfl).ld ag3 rfl)) rfl (W_yes rfl rfl (W_q (q_remW rfl rfl (by decide)) rfl (W_yes rfl rfl (W_q (q_neqD rfl rfl) rfl (W_q (q_pickF rfl rfl) rfl (W_q (q_move rfl) rfl ?_))))))))); clear H a; intro a H
          rcases Bool.eq_false_or_eq_true (!decide ((Int.tmod x40.Entry 4) = 0)) with hg549 | hg549
          · replace H := H.know 37 rfl hg549
            replace hm := condT hm hg549
            refine n_no H rfl rfl (by decide) rfl (W_no rfl rfl (by decide) rfl (W_no rfl rfl (by decide) rfl (W_no rfl rfl (by decide) rfl (W_no rfl rfl (by decide) rfl (W_no rfl rfl (by decide) rfl (W_no rfl rfl (by decide) rfl (W_q (q_pickT rfl rfl) rfl (W_q (q_move rfl) rfl (W_no rfl rfl (by decide) rfl (W_no rfl rfl (by decide) rfl (W_no rfl rfl (by decide) rfl ?_))))))))))); clear H a; intro a H
            refine n_q H (q_pickT rfl rfl) rfl (W_q (q_move rfl) rfl (W_no rfl rfl (by decide) rfl (W_no rfl rfl (by decide) rfl (W_no rfl rfl (by decide) rfl (W_q (q_pickT rfl rfl) rfl ?_))))); clear H a; intro a H
            refine n_nil (then_normal ?_)
            obtain rfl := Option.some.inj hm; replace hm := hm46; try dsimp only at hm
            replace hS := hS.pk2
            replace hS := hS.pk2
            replace hS := hS.tk2
            exact join true H ⟨rfl, rfl, rfl, rfl, trivial⟩ ⟨hm, hS⟩
          · replace H := H.know 37 rfl hg549
            replace hm := condF hm hg549
            refine n_yes H rfl rfl (n_q H (q_fieldAddr0 rfl fo169_0) rfl (W_yes rfl rfl (W_q (q_load rfl ((hS.blk 0 rfl).ld ag3 rfl)) rfl (W_yes rfl rfl (W_q (q_fieldAddr0 rfl fo27_2) rfl (W_yes rfl rfl (W_q (q_load rfl ((hS.blk 1 rfl).ld ag22 rfl)) rfl (W_yes rfl rfl ?_)))))))); clear H a; intro a H
            obtain ⟨A550, c550, hv550, hl550, hm550⟩ := SlR.formV (hrp0_0.ext (Flat.mono _) hS.x)
            refine n_q H (q_lenV Tryz.underlying22 rfl hv550) rfl (W_yes rfl rfl (W_q (q_mulW rfl rfl) rfl (W_yes rfl rfl (W_q (q_geq rfl rfl) rfl (W_q (q_pickF rfl rfl) rfl (W_q (q_move rfl) rfl ?_)))))); clear H a; intro a H
            rcases Bool.eq_false_or_eq_true (decide ((IntKind.i64.wrap (64 * ((a0.Pages.length : Nat) : Int))) ≤ x40.Entry)) with hg551 | hg551
            · replace H := H.know 46 rfl hg551
              replace hm := condT hm hg551
              refine n_no H rfl rfl (by decide) rfl (W_no rfl rfl (by decide) rfl (W_no rfl rfl (by decide) rfl (W_q (q_pickT rfl rfl) rfl (W_q (q_move rfl) rfl (W_no rfl rfl (by decide) rfl (W_no rfl rfl (by decide) rfl (W_no rfl rfl (by decide) rfl (W_q (q_pickT rfl rfl) rfl ?_)))))))); clear H a; intro a H
              refine n_nil (then_normal ?_)
              obtain rfl := Option.some.inj hm; replace hm := hm46; try dsimp only at hm
              replace hS := hS.pk2
              replace hS := hS.pk2
              replace hS := hS.tk2
              exact join true H ⟨rfl, rfl, rfl, rfl, trivial⟩ ⟨hm, hS⟩
            · replace H := H.know 46 rfl hg551
              replace hm := condF hm hg551
              refine n_yes H rfl rfl (n_q H (q_fieldAddr0 rfl fo169_1) rfl (W_yes rfl rfl (W_q (q_load rfl ((hS.blk 0 rfl).ld ag3 rfl)) rfl (W_yes rfl rfl (W_q (q_lss rfl rfl) rfl (W_q (q_pickF rfl rfl) rfl (W_q (q_move rfl) rfl ?_))))))); clear H a; intro a H
              rcases Bool.eq_false_or_eq_true (decide (x40.Prio < 0)) with hg552 | hg552
              · replace H := H.know 51 rfl hg552
                replace hm := condT hm hg552
                refine n_no H rfl rfl (by decide) rfl (W_no rfl rfl (by decide) rfl (W_no rfl rfl (by decide) rfl (W_q (q_pickT rfl rfl) rfl ?_))); clear H a; intro a H
                refine n_nil (then_normal ?_)
                obtain rfl := Option.some.inj hm; replace hm := hm46; try dsimp only at hm
                replace hS := hS.pk2
                replace hS := hS.pk2
                replace hS := hS.tk2
                exact join true H ⟨rfl, rfl, rfl, rfl, trivial⟩ ⟨hm, hS⟩
              · replace H := H.know 51 rfl hg552
                replace hm := condF hm hg552
                refine n_yes H rfl rfl (n_q H (q_fieldAddr0 rfl fo169_1) rfl (W_yes rfl rfl (W_q (q_load rfl ((hS.blk 0 rfl).ld ag3 rfl)) rfl (W_yes rfl rfl (W_q (q_gtr rfl rfl) rfl (W_q (q_pickF rfl rfl) rfl ?_)))))); clear H a; intro a H
                refine n_nil (then_normal ?_)
                obtain rfl := Option.some.inj hm; replace hm := hm46; try dsimp only at hm
                replace hS := hS.pk2
                replace hS := hS.pk2
                replace hS := hS.tk2
                exact join (decide (255 < x40.Prio)) H ⟨rfl, rfl, rfl, rfl, trivial⟩ ⟨hm, hS⟩
      · clear H hS hm a; intro q547 a w553 H hR
        simp only [ent, List.map_cons, List.map_nil] at H; (try dsimp only at hR); obtain ⟨hm, hS⟩ := hR; try dsimp only [g_r10_procs_J6] at hm
        refine c_cond H rfl (fun hc554 => ?_) (fun hc554 => ?_)
        · replace hm := condT hm hc554
          refine wp_seq (wp_region_lit (n_q H (q_move rfl) rfl (W_q (q_build (cs := [.int .i64 4, .int .i64 ((i36 : Nat) : Int)]) ze172 bd172 pl172 rfl (by kernel_rfl)) rfl ?_))); clear H a; intro a H
          replace hS := hS.pk1
          refine n_storeAll H rfl rfl (vs := [.int .i64 4, .int .i64 ((i36 : Nat) : Int)]) rfl sz172 (hS.blk 0 rfl) rfl (by simp) ?_
          clear H; intro w555 hN hC556 hz; clear a; intro a H; replace hS := hS.setBlk hN hC556; clear hN hz
          refine n_nil (then_normal (wp_ret (block_ret (then_ret (then_ret (block_ret (then_ret ?_)))))))
          obtain rfl := Option.some.inj hm; have hz : _ = q35 := hn35; subst hz; replace hm := hm35; try dsimp only at hm
          obtain rfl := Option.some.inj hm
          replace hS := hS.tk1
          refine retL H (.inr rfl) rfl (vs := [.agg #[.int .i64 4, .int .i64 ((i36 : Nat) : Int)]]) (resCell rfl ((hS.blk 0 rfl).ldAll ag172 sz172) resNil) ?_
          replace hS := hS.tk0
          exact ⟨rfl, hS.x⟩
        · replace hm := condF hm hc554
          refine wp_skip (block_normal (then_normal (wp_region_lit (n_q H (q_move rfl) rfl (W_q (q_incr (i := i36) (j := 1) rfl rfl (by omega)) rfl (W_q (q_assign rfl) rfl ?_)))))); clear H a; intro a H
          refine n_nil (then_normal ?_)
          obtain rfl := Option.some.inj hm
          exact round (m35, i36 + 1) H ⟨rfl, rfl, rfl, trivial⟩ ⟨hn35, hS⟩ (Nat.lt_succ_self _)
    · replace hm := condF hm hc38
      refine wp_exit (then_exit (then_exit (block_exit ?_)))
      obtain rfl := Option.some.inj hm; have hz : _ = q35 := hn35; subst hz; replace hm := hm35; try dsimp only at hm
      refine then_normal (wp_seq (wp_region_lit ?_))
      replace hm := bindS hm; obtain ⟨r557, hr557, hm⟩ := hm
      refine n_call H rfl en177 (g_r10_none_w (A := A) hr557) rfl ?_
      clear H; intro x560 w558 hv; clear a; intro a H; obtain ⟨rfl, hE559⟩ := hv
      replace hS := hS.ext hE559
      replace hS := hS.pk1
      refine n_storeAll H rfl rfl (vs := [.int .i64 r557.Code, .int .i64 r557.Place]) rfl sz172 (hS.blk 0 rfl) rfl (by simp) ?_
      clear H; intro w561 hN hC562 hz; clear a; intro a H; replace hS := hS.setBlk hN hC562; clear hN hz
      refine n_nil (then_normal (wp_ret ?_))
      obtain rfl := Option.some.inj hm
      replace hS := hS.tk1
      refine retL H (.inr rfl) rfl (vs := [.agg #[.int .i64 r557.Code, .int .i64 r557.Place]]) (resCell rfl ((hS.blk 0 rfl).ldAll ag172 sz172) resNil) ?_
      replace hS := hS.tk0
      exact ⟨rfl, hS.x⟩
theorem g_r07_CheckPlan_w {w : World} {A : Nat → Addr} {a0 : GPortPlan} {r : Int} (hm : g_r07_CheckPlan a0 = some r) :
    Calls Tryz.prog 204 [.agg (eGPortPlan a0).toArray].toArray w (Ret fun u w' => u = .int .i64 r ∧ Ext w w') := by
  have hS := St.begin NB w
  unfold g_r07_CheckPlan at hm
  refine enter Tryz.func204 rfl rfl rfl ?_; intro a H; dsimp only [enumL, Nat.zero_add, Nat.reduceAdd] at H
  refine wp_seq (wp_region_lit (n_box H rfl (cs := [.int .i64 a0.Kind, .int .i64 a0.Size, .int .i64 a0.Depth, .int .i64 a0.Refresh]) rfl rfl ?_))
  clear H; intro b21 w22 hN hE23 hs; clear a; intro a H
  replace hS := hS.newBlk hN hE23 hs; clear hN hs
  refine n_q H (q_assign rfl) rfl ?_; clear H a; intro a H
  refine n_nil (then_normal (wp_seq (wp_seq (wp_region_lit (n_c H (fun HC => ?_)))))); clear H
  refine nc_q HC (q_fieldAddr0 rfl fo171_0) rfl (by kernel_rfl) (V_q (q_load rfl ((hS.blk 0 rfl).ld ag3 rfl)) rfl (by kernel_rfl) (V_q (q_lss rfl rfl) rfl (by kernel_rfl) (V_q (q_move rfl) rfl (by kernel_rfl) (V_g (q_fieldAddr0 rfl fo171_0) (by kernel_rfl) (by kernel_rfl) (by kernel_rfl) (V_g (q_load rfl ((hS.blk 0 rfl).ld ag3 rfl)) (by kernel_rfl) (by kernel_rfl) (by kernel_rfl) (V_g (q_gtr rfl rfl) (by kernel_rfl) (by kernel_rfl) (by kernel_rfl) (V_or (j := 3) rfl rfl rfl (by kernel_rfl) (by kernel_rfl) ?_))))))); clear HC a; intro a HC
  have H := HC.has; clear HC
  refine n_nil (then_normal (c_cond H rfl (fun hc24 => ?_) (fun hc24 => ?_)))
  · replace hm := condT hm hc24
    refine wp_seq (wp_region_lit (n_q H (q_assign rfl) rfl ?_)); clear H a; intro a H
    refine n_nil (then_normal (wp_ret (then_ret ?_)))
    obtain rfl := Option.some.inj hm
    replace hS := hS.tk0
    refine ret1 H (.inr rfl) rfl rfl ?_
    exact ⟨rfl, hS.x⟩
  · replace hm := condF hm hc24
    refine wp_skip (then_normal (wp_seq (wp_seq (wp_region_lit (n_c H (fun HC => ?_)))))); clear H
    refine nc_q HC (q_fieldAddr0 rfl fo171_1) rfl (by kernel_rfl) (V_q (q_load rfl ((hS.blk 0 rfl).ld ag3 rfl)) rfl (by kernel_rfl) (V_q (q_lss rfl rfl) rfl (by kernel_rfl) (V_q (q_move rfl) rfl (by kernel_rfl) (V_g (q_fieldAddr0 rfl fo171_1) (by kernel_rfl) (by kernel_rfl) (by kernel_rfl) (V_g (q_load rfl ((hS.blk 0 rfl).ld ag3 rfl)) (by kernel_rfl) (by kernel_rfl) (by kernel_rfl) (V_g (q_gtr rfl rfl) (by kernel_rfl) (by kernel_rfl) (by kernel_rfl) (V_or (j := 3) rfl rfl rfl (by kernel_rfl) (by kernel_rfl) ?_))))))); clear HC a; intro a HC
    have H := HC.has; clear HC
    refine n_nil (then_normal (c_cond H rfl (fun hc25 => ?_) (fun hc25 => ?_)))
    · replace hm := condT hm hc25
      refine wp_seq (wp_region_lit (n_q H (q_assign rfl) rfl ?_)); clear H a; intro a H
      refine n_nil (then_normal (wp_ret (then_ret ?_)))
      obtain rfl := Option.some.inj hm
      replace hS := hS.tk0
      refine ret1 H (.inr rfl) rfl rfl ?_
      exact ⟨rfl, hS.x⟩
    · replace hm := condF hm hc25
      refine wp_skip (then_normal (wp_seq (wp_region_lit (n_q H (q_fieldAddr0 rfl fo171_0) rfl (W_q (q_load rfl ((hS.blk 0 rfl).ld ag3 rfl)) rfl (W_q (q_geq rfl rfl) rfl (W_q (q_assign rfl) rfl ?_))))))); clear H a; intro a H
      refine n_nil (then_normal (wp_seq (wp_seq (wp_region_lit (n_c H (fun HC => ?_)))))); clear H
      refine nc_q HC (q_fieldAddr0 rfl fo171_2) rfl (by kernel_rfl) (V_q (q_load rfl ((hS.blk 0 rfl).ld ag3 rfl)) rfl (by kernel_rfl) (V_q (q_lss rfl rfl) rfl (by kernel_rfl) (V_q (q_move rfl) rfl (by kernel_rfl) (V_g (q_fieldAddr0 rfl fo171_2) (by kernel_rfl) (by kernel_rfl) (by kernel_rfl) (V_g (q_load rfl ((hS.blk 0 rfl).ld ag3 rfl)) (by kernel_rfl) (by kernel_rfl) (by kernel_rfl) (V_g (q_gtr rfl rfl) (by kernel_rfl) (by kernel_rfl) (by kernel_rfl) (V_or (j := 3) rfl rfl rfl (by kernel_rfl) (by kernel_rfl) (V_q (q_move rfl) rfl (by kernel_rfl) (V_g (q_move rfl) (by kernel_rfl) (by kernel_rfl) (by kernel_rfl) (V_g (q_not rfl) (by kernel_rfl) (by kernel_rfl) (by kernel_rfl) (V_g (q_move rfl) (by kernel_rfl) (by kernel_rfl) (by kernel_rfl) ?_))))))))))); clear HC a; intro a HC
      refine nc_g HC (q_fieldAddr0 rfl fo171_2) (by kernel_rfl) (by kernel_rfl) (by kernel_rfl) (V_g (q_load rfl ((hS.blk 0 rfl).ld ag3 rfl)) (by kernel_rfl) (by kernel_rfl) (by kernel_rfl) (V_g (q_neqD rfl rfl) (by kernel_rfl) (by kernel_rfl) (by kernel_rfl) ?_)); clear HC a; intro a HC
      refine nc_andg (j := 11) HC rfl rfl rfl (by kernel_rfl) (by kernel_rfl) (by kernel_rfl) ?_; clear HC a; intro a HC
      refine nc_or (j := 8) HC rfl rfl rfl (by kernel_rfl) (by kernel_rfl) ?_; clear HC a; intro a HC
      have H := HC.has; clear HC
      refine n_nil (then_normal (c_cond H rfl (fun hc26 => ?_) (fun hc26 => ?_)))
      · replace hm := condT hm hc26
        refine wp_seq (wp_region_lit (n_q H (q_assign rfl) rfl ?_)); clear H a; intro a H
        refine n_nil (then_normal (wp_ret (then_ret ?_)))
        obtain rfl := Option.some.inj hm
        replace hS := hS.tk0
        refine ret1 H (.inr rfl) rfl rfl ?_
        exact ⟨rfl, hS.x⟩
      · replace hm := condF hm hc26
        refine wp_skip (then_normal (wp_seq (wp_seq (wp_region_lit (n_c H (fun HC => ?_)))))); clear H
        refine nc_q HC (q_fieldAddr0 rfl fo171_3) rfl (by kernel_rfl) (V_q (q_load rfl ((hS.blk 0 rfl).ld ag3 rfl)) rfl (by kernel_rfl) (V_q (q_lss rfl rfl) rfl (by kernel_rfl) (V_q (q_move rfl) rfl (by kernel_rfl) (V_g (q_fieldAddr0 rfl fo171_3) (by kernel_rfl) (by kernel_rfl) (by kernel_rfl) (V_g (q_load rfl ((hS.blk 0 rfl).ld ag3 rfl)) (by kernel_rfl) (by kernel_rfl) (by kernel_rfl) (V_g (q_gtr rfl rfl) (by kernel_rfl) (by kernel_rfl) (by kernel_rfl) (V_or (j := 3) rfl rfl rfl (by kernel_rfl) (by kernel_rfl) (V_q (q_move rfl) rfl (by kernel_rfl) (V_g (q_fieldAddr0 rfl fo171_0) (by kernel_rfl) (by kernel_rfl) (by kernel_rfl) (V_g (q_load rfl ((hS.blk 0 rfl).ld ag3 rfl)) (by kernel_rfl) (by kernel_rfl) (by kernel_rfl) (V_g (q_neqD rfl rfl) (by kernel_rfl) (by kernel_rfl) (by kernel_rfl) ?_))))))))))); clear HC a; intro a HC
        refine nc_g HC (q_move rfl) (by kernel_rfl) (by kernel_rfl) (by kernel_rfl) (V_g (q_fieldAddr0 rfl fo171_3) (by kernel_rfl) (by kernel_rfl) (by kernel_rfl) (V_g (q_load rfl ((hS.blk 0 rfl).ld ag3 rfl)) (by kernel_rfl) (by kernel_rfl) (by kernel_rfl) (V_g (q_neqD rfl rfl) (by kernel_rfl) (by kernel_rfl) (by kernel_rfl) ?_))); clear HC a; intro a HC
        refine nc_andg (j := 12) HC rfl rfl rfl (by kernel_rfl) (by kernel_rfl) (by kernel_rfl) ?_; clear HC a; intro a HC
        refine nc_or (j := 8) HC rfl rfl rfl (by kernel_rfl) (by kernel_rfl) ?_; clear HC a; intro a HC
        have H := HC.has; clear HC
        refine n_nil (then_normal (c_cond H rfl (fun hc27 => ?_) (fun hc27 => ?_)))
        · replace hm := condT hm hc27
          refine wp_seq (wp_region_lit (n_q H (q_assign rfl) rfl ?_)); clear H a; intro a H
          refine n_nil (then_normal (wp_ret (then_ret ?_)))
          obtain rfl := Option.some.inj hm
          replace hS := hS.tk0
          refine ret1 H (.inr rfl) rfl rfl ?_
          exact ⟨rfl, hS.x⟩
        · replace hm := condF hm hc27
          refine wp_skip (then_normal (wp_seq (wp_region_lit (n_q H (q_assign rfl) rfl ?_)))); clear H a; intro a H
          refine n_nil (then_normal (wp_ret ?_))
          obtain rfl := Option.some.inj hm
          replace hS := hS.tk0
          refine ret1 H (.inr rfl) rfl rfl ?_
          exact ⟨rfl, hS.x⟩
theorem g_r10_ports_w {w : World} {A : Nat → Addr} {cs0 : List Value} {a0 : GPlan} (h0 : RGPlan w cs0 a0) {r : GR10Err} (hm : g_r10_ports a0 = some r) :
    Calls Tryz.prog 174 [.agg cs0.toArray].toArray w (Ret fun u w' => u = .agg (eGR10Err r).toArray ∧ Ext w w') := by
  obtain ⟨vp0_0, vp0_1, vp0_2, vp0_3, rfl, hrp0_0, hrp0_1, hrp0_2, hrp0_3⟩ := h0
  have hS := St.begin NB w
  unfold g_r10_ports at hm
  refine enter Tryz.func174 rfl rfl rfl ?_; intro a H; dsimp only [enumL, Nat.zero_add, Nat.reduceAdd] at H
  refine wp_seq (wp_region_lit (n_box H rfl (cs := [.int .i64 a0.Id, .bool a0.Mobile, vp0_0, vp0_1, vp0_2, .int .i64 a0.Events, vp0_3]) rfl rfl ?_))
  clear H; intro b21 w22 hN hE23 hs; clear a; intro a H
  replace hS := hS.newBlk hN hE23 hs; clear hN hs
  refine n_alloc H ze172 rfl ?_
  clear H; intro b24 w25 hN hE26 hs; clear a; intro a H
  replace hS := hS.newBlk hN hE26 hs; clear hN hs
  refine n_nil (then_normal (wp_seq (wp_seq (wp_region_lit (n_q H (q_fieldAddr0 rfl fo27_4) rfl (W_q (q_load rfl ((hS.blk 1 rfl).ld ag24 rfl)) rfl ?_)))))); clear H a; intro a H
  obtain ⟨A27, c27, hv27, hl27, hm27⟩ := SlR.formV (hrp0_2.ext (Flat.mono _) hS.x)
  refine n_q H (q_lenV Tryz.underlying24 rfl hv27) rfl (W_q (q_gtrN (i := a0.Ports.length) (j := 8) rfl rfl) rfl ?_); clear H a; intro a H
  refine n_nil (then_normal (c_cond H rfl (fun hc28 => ?_) (fun hc28 => ?_)))
  · replace hm := condT hm hc28
    refine wp_seq (wp_region_lit ?_)
    replace hm := bindS hm; obtain ⟨r29, hr29, hm⟩ := hm
    refine n_call H rfl en171 (g_r10_bad_w (A := A) hr29) rfl ?_
    clear H; intro x32 w30 hv; clear a; intro a H; obtain ⟨rfl, hE31⟩ := hv
    replace hS := hS.ext hE31
    refine n_storeAll H rfl rfl (vs := [.int .i64 r29.Code, .int .i64 r29.Place]) rfl sz172 (hS.blk 0 rfl) rfl (by simp) ?_
    clear H; intro w33 hN hC34 hz; clear a; intro a H; replace hS := hS.setBlk hN hC34; clear hN hz
    refine n_nil (then_normal (wp_ret (then_ret ?_)))
    obtain rfl := Option.some.inj hm
    replace hS := hS.tk1
    refine retL H (.inr rfl) rfl (vs := [.agg #[.int .i64 r29.Code, .int .i64 r29.Place]]) (resCell rfl ((hS.blk 0 rfl).ldAll ag172 sz172) resNil) ?_
    replace hS := hS.tk0
    exact ⟨rfl, hS.x⟩
  · replace hm := condF hm hc28
    refine wp_skip (then_normal (wp_seq (wp_seq (wp_region_lit (n_q H (q_assign rfl) rfl ?_))))); clear H a; intro a H
    refine n_nil (then_normal (wp_block ?_))
    replace hS := hS.pk1
    replace hm := bindS hm; obtain ⟨q35, hm, hm35⟩ := hm; replace hm := iter_some hm; obtain ⟨n35, hm⟩ := hm
    refine c_loop (σ := Nat × Nat) (fun (m, i36) => [(1, .pointer (some ⟨b21, 0, none⟩)), (2, .pointer (some ⟨b24, 0, none⟩)), (3, .int .i64 ((i36 : Nat) : Int))]) (fun (m, i36) wl => iterN (g_r10_ports_L1 a0) m i36 = some q35 ∧ St NB w wl [blkR b21 [.int .i64 a0.Id, .bool a0.Mobile, vp0_0, vp0_1, vp0_2, .int .i64 a0.Events, vp0_3] 27, blkR b24 [.int .i64 0, .int .i64 0] 172]) (fun (m, i36) => m) (n35, 0) H ⟨rfl, rfl, rfl, trivial⟩ ⟨hm, hS⟩ ?_
    clear H hS hm a; intro xx a w37 H hR; obtain ⟨m, i36⟩ := xx; simp only [ent, List.map_cons, List.map_nil] at H; (try dsimp only at hR); obtain ⟨hm, hS⟩ := hR
    replace hm := iterN_step hm; obtain ⟨m35, o35, rfl, hm, hn35⟩ := hm; try dsimp only [g_r10_ports_L1] at hm
    refine wp_seq (wp_seq (wp_region_lit (n_q H (q_move rfl) rfl (W_q (q_fieldAddr0 rfl fo27_4) rfl (W_q (q_load rfl ((hS.blk 0 rfl).ld ag24 rfl)) rfl (W_q (q_lenV Tryz.underlying24 rfl hv27) rfl (W_q (q_lssN (i := i36) (j := a0.Ports.length) rfl rfl) rfl ?_))))))); clear H a; intro a H
    refine n_nil (then_normal (c_cond H rfl (fun hc38 => ?_) (fun hc38 => ?_)))
    · replace hm := condT hm hc38
      have hlt39 : i36 < a0.Ports.length := of_decide_eq_true hc38
      refine wp_skip (then_normal (wp_seq (wp_block (wp_seq (wp_region_lit (n_q H (q_fieldAddr0 rfl fo27_4) rfl (W_q (q_load rfl ((hS.blk 0 rfl).ld ag24 rfl)) rfl (W_q (q_move rfl) rfl ?_)))))))); clear H a; intro a H
      replace hm := bindS hm; obtain ⟨x40, hx40, hm⟩ := hm
      obtain ⟨adx40, hAx40⟩ := SlR.adV (hrp0_2.ext (Flat.mono _) hS.x) hv27 hx40
      refine n_q H (q_ixV (i := i36) Tryz.underlying24 sz171 rfl hv27 hAx40 rfl (natI hx40)) rfl (W_q (q_load rfl (SlR.ldAggV (hrp0_2.ext (Flat.mono _) hS.x) hv27 hAx40 ag171 sz171 hx40)) rfl ?_); clear H a; intro a H
      replace hm := bindS hm; obtain ⟨r41, hr41, hm⟩ := hm
      refine n_call H rfl en204 (g_r07_CheckPlan_w (A := A) hr41) rfl ?_
      clear H; intro x44 w42 hv; clear a; intro a H; obtain ⟨rfl, hE43⟩ := hv
      replace hS := hS.ext hE43
      refine n_q H (q_assign rfl) rfl ?_; clear H a; intro a H
      refine n_nil (then_normal (wp_seq (wp_region_lit (n_q H (q_move rfl) rfl (W_q (q_neqD rfl rfl) rfl ?_))))); clear H a; intro a H
      refine n_nil (then_normal (c_cond H rfl (fun hc45 => ?_) (fun hc45 => ?_)))
      · replace hm := condT hm hc45
        refine wp_seq (wp_region_lit (n_q H (q_move rfl) rfl (W_q (q_move rfl) rfl (W_q (q_build (cs := [.int .i64 r41, .int .i64 ((i36 : Nat) : Int)]) ze172 bd172 pl172 rfl (by kernel_rfl)) rfl ?_)))); clear H a; intro a H
        replace hS := hS.pk1
        refine n_storeAll H rfl rfl (vs := [.int .i64 r41, .int .i64 ((i36 : Nat) : Int)]) rfl sz172 (hS.blk 0 rfl) rfl (by simp) ?_
        clear H; intro w46 hN hC47 hz; clear a; intro a H; replace hS := hS.setBlk hN hC47; clear hN hz
        refine n_nil (then_normal (wp_ret (block_ret (then_ret (then_ret (block_ret (then_ret ?_)))))))
        obtain rfl := Option.some.inj hm; have hz : _ = q35 := hn35; subst hz; replace hm := hm35; try dsimp only at hm
        obtain rfl := Option.some.inj hm
        replace hS := hS.tk1
        refine retL H (.inr rfl) rfl (vs := [.agg #[.int .i64 r41, .int .i64 ((i36 : Nat) : Int)]]) (resCell rfl ((hS.blk 0 rfl).ldAll ag172 sz172) resNil) ?_
        replace hS := hS.tk0
        exact ⟨rfl, hS.x⟩
      · replace hm := condF hm hc45
        refine wp_skip (block_normal (then_normal (wp_region_lit (n_q H (q_move rfl) rfl (W_q (q_incr (i := i36) (j := 1) rfl rfl (by omega)) rfl (W_q (q_assign rfl) rfl ?_)))))); clear H a; intro a H
        refine n_nil (then_normal ?_)
        obtain rfl := Option.some.inj hm
        exact round (m35, i36 + 1) H ⟨rfl, rfl, rfl, trivial⟩ ⟨hn35, hS⟩ (Nat.lt_succ_self _)
    · replace hm := condF hm hc38
      refine wp_exit (then_exit (then_exit (block_exit ?_)))
      obtain rfl := Option.some.inj hm; have hz : _ = q35 := hn35; subst hz; replace hm := hm35; try dsimp only at hm
      refine then_normal (wp_seq (wp_region_lit ?_))
      replace hm := bindS hm; obtain ⟨r48, hr48, hm⟩ := hm
      refine n_call H rfl en177 (g_r10_none_w (A := A) hr48) rfl ?_
      clear H; intro x51 w49 hv; clear a; intro a H; obtain ⟨rfl, hE50⟩ := hv
      replace hS := hS.ext hE50
      replace hS := hS.pk1
      refine n_storeAll H rfl rfl (vs := [.int .i64 r48.Code, .int .i64 r48.Place]) rfl sz172 (hS.blk 0 rfl) rfl (by simp) ?_
      clear H; intro w52 hN hC53 hz; clear a; intro a H; replace hS := hS.setBlk hN hC53; clear hN hz
      refine n_nil (then_normal (wp_ret ?_))
      obtain rfl := Option.some.inj hm
      replace hS := hS.tk1
      refine retL H (.inr rfl) rfl (vs := [.agg #[.int .i64 r48.Code, .int .i64 r48.Place]]) (resCell rfl ((hS.blk 0 rfl).ldAll ag172 sz172) resNil) ?_
      replace hS := hS.tk0
      exact ⟨rfl, hS.x⟩
theorem g_r10_things_w {w : World} {A : Nat → Addr} {cs0 : List Value} {a0 : GPlan} (h0 : RGPlan w cs0 a0) {r : GR10Err} (hm : g_r10_things a0 = some r) :
    Calls Tryz.prog 175 [.agg cs0.toArray].toArray w (Ret fun u w' => u = .agg (eGR10Err r).toArray ∧ Ext w w') := by
  obtain ⟨vp0_0, vp0_1, vp0_2, vp0_3, rfl, hrp0_0, hrp0_1, hrp0_2, hrp0_3⟩ := h0
  have hS := St.begin NB w
  unfold g_r10_things at hm
  refine enter Tryz.func175 rfl rfl rfl ?_; intro a H; dsimp only [enumL, Nat.zero_add, Nat.reduceAdd] at H
  refine wp_seq (wp_region_lit (n_box H rfl (cs := [.int .i64 a0.Id, .bool a0.Mobile, vp0_0, vp0_1, vp0_2, .int .i64 a0.Events, vp0_3]) rfl rfl ?_))
  clear H; intro b21 w22 hN hE23 hs; clear a; intro a H
  replace hS := hS.newBlk hN hE23 hs; clear hN hs
  refine n_alloc H ze172 rfl ?_
  clear H; intro b24 w25 hN hE26 hs; clear a; intro a H
  replace hS := hS.newBlk hN hE26 hs; clear hN hs
  refine n_nil (then_normal (wp_seq (wp_seq (wp_region_lit (n_c H (fun HC => ?_)))))); clear H
  refine nc_q HC (q_fieldAddr0 rfl fo27_5) rfl (by kernel_rfl) (V_q (q_load rfl ((hS.blk 1 rfl).ld ag3 rfl)) rfl (by kernel_rfl) (V_q (q_lss rfl rfl) rfl (by kernel_rfl) (V_q (q_move rfl) rfl (by kernel_rfl) (V_g (q_fieldAddr0 rfl fo27_5) (by kernel_rfl) (by kernel_rfl) (by kernel_rfl) (V_g (q_load rfl ((hS.blk 1 rfl).ld ag3 rfl)) (by kernel_rfl) (by kernel_rfl) (by kernel_rfl) (V_g (q_gtr rfl rfl) (by kernel_rfl) (by kernel_rfl) (by kernel_rfl) (V_or (j := 3) rfl rfl rfl (by kernel_rfl) (by kernel_rfl) ?_))))))); clear HC a; intro a HC
  have H := HC.has; clear HC
  refine n_nil (then_normal (c_cond H rfl (fun hc27 => ?_) (fun hc27 => ?_)))
  · replace hm := condT hm hc27
    refine wp_seq (wp_region_lit ?_)
    replace hm := bindS hm; obtain ⟨r28, hr28, hm⟩ := hm
    refine n_call H rfl en171 (g_r10_bad_w (A := A) hr28) rfl ?_
    clear H; intro x31 w29 hv; clear a; intro a H; obtain ⟨rfl, hE30⟩ := hv
    replace hS := hS.ext hE30
    refine n_storeAll H rfl rfl (vs := [.int .i64 r28.Code, .int .i64 r28.Place]) rfl sz172 (hS.blk 0 rfl) rfl (by simp) ?_
    clear H; intro w32 hN hC33 hz; clear a; intro a H; replace hS := hS.setBlk hN hC33; clear hN hz
    refine n_nil (then_normal (wp_ret (then_ret ?_)))
    obtain rfl := Option.some.inj hm
    replace hS := hS.tk1
    refine retL H (.inr rfl) rfl (vs := [.agg #[.int .i64 r28.Code, .int .i64 r28.Place]]) (resCell rfl ((hS.blk 0 rfl).ldAll ag172 sz172) resNil) ?_
    replace hS := hS.tk0
    exact ⟨rfl, hS.x⟩
  · replace hm := condF hm hc27
    refine wp_skip (then_normal (wp_seq (wp_seq (wp_region_lit (n_q H (q_fieldAddr0 rfl fo27_6) rfl (W_q (q_load rfl ((hS.blk 1 rfl).ld ag25 rfl)) rfl ?_)))))); clear H a; intro a H
    obtain ⟨A34, c34, hv34, hl34, hm34⟩ := SlR.formV (hrp0_3.ext (Flat.mono _) hS.x)
    refine n_q H (q_lenV Tryz.underlying25 rfl hv34) rfl (W_q (q_gtrN (i := a0.Sems.length) (j := 8) rfl rfl) rfl ?_); clear H a; intro a H
    refine n_nil (then_normal (c_cond H rfl (fun hc35 => ?_) (fun hc35 => ?_)))
    · replace hm := condT hm hc35
      refine wp_seq (wp_region_lit ?_)
      replace hm := bindS hm; obtain ⟨r36, hr36, hm⟩ := hm
      refine n_call H rfl en171 (g_r10_bad_w (A := A) hr36) rfl ?_
      clear H; intro x39 w37 hv; clear a; intro a H; obtain ⟨rfl, hE38⟩ := hv
      replace hS := hS.ext hE38
      refine n_storeAll H rfl rfl (vs := [.int .i64 r36.Code, .int .i64 r36.Place]) rfl sz172 (hS.blk 0 rfl) rfl (by simp) ?_
      clear H; intro w40 hN hC41 hz; clear a; intro a H; replace hS := hS.setBlk hN hC41; clear hN hz
      refine n_nil (then_normal (wp_ret (then_ret ?_)))
      obtain rfl := Option.some.inj hm
      replace hS := hS.tk1
      refine retL H (.inr rfl) rfl (vs := [.agg #[.int .i64 r36.Code, .int .i64 r36.Place]]) (resCell rfl ((hS.blk 0 rfl).ldAll ag172 sz172) resNil) ?_
      replace hS := hS.tk0
      exact ⟨rfl, hS.x⟩
    · replace hm := condF hm hc35
      refine wp_skip (then_normal (wp_seq (wp_seq (wp_region_lit (n_q H (q_assign rfl) rfl ?_))))); clear H a; intro a H
      refine n_nil (then_normal (wp_block ?_))
      replace hS := hS.pk1
      replace hm := bindS hm; obtain ⟨q42, hm, hm42⟩ := hm; replace hm := iter_some hm; obtain ⟨n42, hm⟩ := hm
      refine c_loop (σ := Nat × Nat) (fun (m, i43) => [(1, .pointer (some ⟨b21, 0, none⟩)), (2, .pointer (some ⟨b24, 0, none⟩)), (3, .int .i64 ((i43 : Nat) : Int))]) (fun (m, i43) wl => iterN (g_r10_things_L7 a0) m i43 = some q42 ∧ St NB w wl [blkR b21 [.int .i64 a0.Id, .bool a0.Mobile, vp0_0, vp0_1, vp0_2, .int .i64 a0.Events, vp0_3] 27, blkR b24 [.int .i64 0, .int .i64 0] 172]) (fun (m, i43) => m) (n42, 0) H ⟨rfl, rfl, rfl, trivial⟩ ⟨hm, hS⟩ ?_
      clear H hS hm a; intro xx a w44 H hR; obtain ⟨m, i43⟩ := xx; simp only [ent, List.map_cons, List.map_nil] at H; (try dsimp only at hR); obtain ⟨hm, hS⟩ := hR
      replace hm := iterN_step hm; obtain ⟨m42, o42, rfl, hm, hn42⟩ := hm; try dsimp only [g_r10_things_L7] at hm
      refine wp_seq (wp_seq (wp_region_lit (n_q H (q_move rfl) rfl (W_q (q_fieldAddr0 rfl fo27_6) rfl (W_q (q_load rfl ((hS.blk 0 rfl).ld ag25 rfl)) rfl (W_q (q_lenV Tryz.underlying25 rfl hv34) rfl (W_q (q_lssN (i := i43) (j := a0.Sems.length) rfl rfl) rfl ?_))))))); clear H a; intro a H
      refine n_nil (then_normal (c_cond H rfl (fun hc45 => ?_) (fun hc45 => ?_)))
      · replace hm := condT hm hc45
        have hlt46 : i43 < a0.Sems.length := of_decide_eq_true hc45
        refine wp_skip (then_normal (wp_seq (wp_block ?_)))
        replace hm := bindS hm; obtain ⟨j47, hm, hm47⟩ := hm
        refine c_join (σ := Bool) H (fun q548 => [(1, .pointer (some ⟨b21, 0, none⟩)), (2, .pointer (some ⟨b24, 0, none⟩)), (3, .int .i64 ((i43 : Nat) : Int)), (38, .bool q548)]) (fun q548 wl => (g_r10_things_J6 i43) q548 = some o42 ∧ St NB w wl [blkR b21 [.int .i64 a0.Id, .bool a0.Mobile, vp0_0, vp0_1, vp0_2, .int .i64 a0.Events, vp0_3] 27, blkR b24 [.int .i64 0, .int .i64 0] 172]) ?_ ?_
        · skip
          refine wp_region_lit (n_q H (q_fieldAddr0 rfl fo27_6) rfl (W_q (q_load rfl ((hS.blk 0 rfl).ld ag25 rfl)) rfl (W_q (q_move rfl) rfl ?_))); clear H a; intro a H
          replace hm := bindS hm; obtain ⟨x549, hx549, hm⟩ := hm
          obtain ⟨adx549, hAx549⟩ := SlR.adV (hrp0_3.ext (Flat.mono _) hS.x) hv34 hx549
          refine n_q H (q_ixV (i := i43) Tryz.underlying25 sz3 rfl hv34 hAx549 rfl (natI hx549)) rfl (W_q (q_load rfl (SlR.ldOneV (hrp0_3.ext (Flat.mono _) hS.x) hv34 hAx549 ag3 hx549 rfl)) rfl (W_q (q_lss rfl rfl) rfl (W_q (q_move rfl) rfl ?_))); clear H a; intro a H
          rcases Bool.eq_false_or_eq_true (decide (x549 < 0)) with hg550 | hg550
          · replace H := H.know 31 rfl hg550
            replace hm := condT hm hg550
            refine n_no H rfl rfl (by decide) rfl (W_no rfl rfl (by decide) rfl (W_no rfl rfl (by decide) rfl (W_no rfl rfl (by decide) rfl (W_no rfl rfl (by decide) rfl (W_no rfl rfl (by decide) rfl (W_q (q_pickT rfl rfl) rfl ?_)))))); clear H a; intro a H
            refine n_nil (then_normal ?_)
            obtain rfl := Option.some.inj hm; replace hm := hm47; try dsimp only at hm
            exact join true H ⟨rfl, rfl, rfl, rfl, trivial⟩ ⟨hm, hS⟩
          · replace H := H.know 31 rfl hg550
            replace hm := condF hm hg550
            refine n_yes H rfl rfl (n_q H (q_fieldAddr0 rfl fo27_6) rfl (W_yes rfl rfl (W_q (q_load rfl ((hS.blk 0 rfl).ld ag25 rfl)) rfl (W_yes rfl rfl (W_q (q_move rfl) rfl (W_yes rfl rfl ?_)))))); clear H a; intro a H
            replace hm := bindS hm; obtain ⟨x551, hx551, hm⟩ := hm
            obtain ⟨adx551, hAx551⟩ := SlR.adV (hrp0_3.ext (Flat.mono _) hS.x) hv34 hx551
            refine n_q H (q_ixV (i := i43) Tryz.underlying25 sz3 rfl hv34 hAx551 rfl (natI hx551)) rfl (W_yes rfl rfl (W_q (q_load rfl (SlR.ldOneV (hrp0_3.ext (Flat.mono _) hS.x) hv34 hAx551 ag3 hx551 rfl)) rfl (W_yes rfl rfl (W_q (q_gtr rfl rfl) rfl (W_q (q_pickF rfl rfl) rfl ?_))))); clear H a; intro a H
            refine n_nil (then_normal ?_)
            obtain rfl := Option.some.inj hm; replace hm := hm47; try dsimp only at hm
            exact join (decide (255 < x551)) H ⟨rfl, rfl, rfl, rfl, trivial⟩ ⟨hm, hS⟩
        · clear H hS hm a; intro q548 a w552 H hR
          simp only [ent, List.map_cons, List.map_nil] at H; (try dsimp only at hR); obtain ⟨hm, hS⟩ := hR; try dsimp only [g_r10_things_J6] at hm
          refine c_cond H rfl (fun hc553 => ?_) (fun hc553 => ?_)
          · replace hm := condT hm hc553
            refine wp_seq (wp_region_lit (n_q H (q_move rfl) rfl (W_q (q_build (cs := [.int .i64 4, .int .i64 ((i43 : Nat) : Int)]) ze172 bd172 pl172 rfl (by kernel_rfl)) rfl ?_))); clear H a; intro a H
            replace hS := hS.pk1
            refine n_storeAll H rfl rfl (vs := [.int .i64 4, .int .i64 ((i43 : Nat) : Int)]) rfl sz172 (hS.blk 0 rfl) rfl (by simp) ?_
            clear H; intro w554 hN hC555 hz; clear a; intro a H; replace hS := hS.setBlk hN hC555; clear hN hz
            refine n_nil (then_normal (wp_ret (block_ret (then_ret (then_ret (block_ret (then_ret ?_)))))))
            obtain rfl := Option.some.inj hm; have hz : _ = q42 := hn42; subst hz; replace hm := hm42; try dsimp only at hm
            obtain rfl := Option.some.inj hm
            replace hS := hS.tk1
            refine retL H (.inr rfl) rfl (vs := [.agg #[.int .i64 4, .int .i64 ((i43 : Nat) : Int)]]) (resCell rfl ((hS.blk 0 rfl).ldAll ag172 sz172) resNil) ?_
            replace hS := hS.tk0
            exact ⟨rfl, hS.x⟩
          · replace hm := condF hm hc553
            refine wp_skip (block_normal (then_normal (wp_region_lit (n_q H (q_move rfl) rfl (W_q (q_incr (i := i43) (j := 1) rfl rfl (by omega)) rfl (W_q (q_assign rfl) rfl ?_)))))); clear H a; intro a H
            refine n_nil (then_normal ?_)
            obtain rfl := Option.some.inj hm
            exact round (m42, i43 + 1) H ⟨rfl, rfl, rfl, trivial⟩ ⟨hn42, hS⟩ (Nat.lt_succ_self _)
      · replace hm := condF hm hc45
        refine wp_exit (then_exit (then_exit (block_exit ?_)))
        obtain rfl := Option.some.inj hm; have hz : _ = q42 := hn42; subst hz; replace hm := hm42; try dsimp only at hm
        refine then_normal (wp_seq (wp_region_lit ?_))
        replace hm := bindS hm; obtain ⟨r556, hr556, hm⟩ := hm
        refine n_call H rfl en177 (g_r10_none_w (A := A) hr556) rfl ?_
        clear H; intro x559 w557 hv; clear a; intro a H; obtain ⟨rfl, hE558⟩ := hv
        replace hS := hS.ext hE558
        replace hS := hS.pk1
        refine n_storeAll H rfl rfl (vs := [.int .i64 r556.Code, .int .i64 r556.Place]) rfl sz172 (hS.blk 0 rfl) rfl (by simp) ?_
        clear H; intro w560 hN hC561 hz; clear a; intro a H; replace hS := hS.setBlk hN hC561; clear hN hz
        refine n_nil (then_normal (wp_ret ?_))
        obtain rfl := Option.some.inj hm
        replace hS := hS.tk1
        refine retL H (.inr rfl) rfl (vs := [.agg #[.int .i64 r556.Code, .int .i64 r556.Place]]) (resCell rfl ((hS.blk 0 rfl).ldAll ag172 sz172) resNil) ?_
        replace hS := hS.tk0
        exact ⟨rfl, hS.x⟩
theorem g_r07_Most_w {w : World} {A : Nat → Addr} {a0 : GPortPlan} {r : Int × Int} (hm : g_r07_Most a0 = some r) :
    Calls Tryz.prog 205 [.agg (eGPortPlan a0).toArray].toArray w (Ret fun u w' => u = .tuple #[.int .i64 r.1, .int .i64 r.2] ∧ Ext w w') := by
  have hS := St.begin NB w
  unfold g_r07_Most at hm
  refine enter Tryz.func205 rfl rfl rfl ?_; intro a H; dsimp only [enumL, Nat.zero_add, Nat.reduceAdd] at H
  refine wp_seq (wp_region_lit (n_box H rfl (cs := [.int .i64 a0.Kind, .int .i64 a0.Size, .int .i64 a0.Depth, .int .i64 a0.Refresh]) rfl rfl ?_))
  clear H; intro b21 w22 hN hE23 hs; clear a; intro a H
  replace hS := hS.newBlk hN hE23 hs; clear hN hs
  refine n_q H (q_assign rfl) rfl (W_q (q_assign rfl) rfl ?_); clear H a; intro a H
  refine n_nil (then_normal (wp_seq (wp_seq (wp_region_lit (n_q H (q_load rfl ((hS.blk 0 rfl).ldAll ag171 sz171)) rfl ?_))))); clear H a; intro a H
  replace hm := bindS hm; obtain ⟨r24, hr24, hm⟩ := hm
  refine n_call H rfl en204 (g_r07_CheckPlan_w (A := A) hr24) rfl ?_
  clear H; intro x27 w25 hv; clear a; intro a H; obtain ⟨rfl, hE26⟩ := hv
  replace hS := hS.ext hE26
  refine n_q H (q_neqD rfl rfl) rfl ?_; clear H a; intro a H
  refine n_nil (then_normal (c_cond H rfl (fun hc28 => ?_) (fun hc28 => ?_)))
  · replace hm := condT hm hc28
    refine wp_seq (wp_region_lit (n_q H (q_assign rfl) rfl (W_q (q_assign rfl) rfl ?_))); clear H a; intro a H
    refine n_nil (then_normal (wp_ret (then_ret ?_)))
    obtain rfl := Option.some.inj hm
    replace hS := hS.tk0
    refine ret2 H (.inr rfl) rfl rfl rfl ?_
    exact ⟨rfl, hS.x⟩
  · replace hm := condF hm hc28
    refine wp_skip (then_normal (wp_seq (wp_seq (wp_region_lit (n_q H (q_fieldAddr0 rfl fo171_0) rfl (W_q (q_load rfl ((hS.blk 0 rfl).ld ag3 rfl)) rfl ?_)))))); clear H a; intro a H
    refine n_nil (then_normal (wp_block (wp_seq (wp_region_lit (n_q H (q_eqlD rfl rfl) rfl (W_q (q_assign rfl) rfl ?_)))))); clear H a; intro a H
    refine n_nil (then_normal (c_cond H rfl (fun hc29 => ?_) (fun hc29 => ?_)))
    · replace hm := condT hm hc29
      refine wp_seq (wp_region_lit (n_q H (q_fieldAddr0 rfl fo171_1) rfl (W_q (q_load rfl ((hS.blk 0 rfl).ld ag3 rfl)) rfl (W_q (q_addW rfl rfl) rfl (W_q (q_assign rfl) rfl (W_q (q_assign rfl) rfl ?_)))))); clear H a; intro a H
      refine n_nil (then_normal (wp_ret (block_ret (then_ret ?_))))
      obtain rfl := Option.some.inj hm
      replace hS := hS.tk0
      refine ret2 H (.inr rfl) rfl rfl rfl ?_
      exact ⟨rfl, hS.x⟩
    · replace hm := condF hm hc29
      refine wp_seq (wp_region_lit (n_q H (q_eqlD rfl rfl) rfl (W_q (q_assign rfl) rfl ?_))); clear H a; intro a H
      refine n_nil (then_normal (c_cond H rfl (fun hc30 => ?_) (fun hc30 => ?_)))
      · replace hm := condT hm hc30
        refine wp_seq (wp_region_lit (n_q H (q_fieldAddr0 rfl fo171_2) rfl (W_q (q_load rfl ((hS.blk 0 rfl).ld ag3 rfl)) rfl (W_q (q_fieldAddr0 rfl fo171_1) rfl (W_q (q_load rfl ((hS.blk 0 rfl).ld ag3 rfl)) rfl (W_q (q_addW rfl rfl) rfl (W_q (q_mulW rfl rfl) rfl (W_q (q_addW rfl rfl) rfl (W_q (q_assign rfl) rfl (W_q (q_assign rfl) rfl ?_)))))))))); clear H a; intro a H
        refine n_nil (then_normal (wp_ret (block_ret (then_ret ?_))))
        obtain rfl := Option.some.inj hm
        replace hS := hS.tk0
        refine ret2 H (.inr rfl) rfl rfl rfl ?_
        exact ⟨rfl, hS.x⟩
      · replace hm := condF hm hc30
        refine wp_skip (block_normal (then_normal (wp_seq (wp_region_lit (n_q H (q_assign rfl) rfl (W_q (q_assign rfl) rfl ?_)))))); clear H a; intro a H
        refine n_nil (then_normal (wp_ret ?_))
        obtain rfl := Option.some.inj hm
        replace hS := hS.tk0
        refine ret2 H (.inr rfl) rfl rfl rfl ?_
        exact ⟨rfl, hS.x⟩
theorem g_r10_bound_w {w : World} {A : Nat → Addr} {cs0 : List Value} {a0 : GPlan} (h0 : RGPlan w cs0 a0) {r : Int} (hm : g_r10_bound a0 = some r) :
    Calls Tryz.prog 176 [.agg cs0.toArray].toArray w (Ret fun u w' => u = .int .i64 r ∧ Ext w w') := by
  obtain ⟨vp0_0, vp0_1, vp0_2, vp0_3, rfl, hrp0_0, hrp0_1, hrp0_2, hrp0_3⟩ := h0
  have hS := St.begin NB w
  unfold g_r10_bound at hm
  refine enter Tryz.func176 rfl rfl rfl ?_; intro a H; dsimp only [enumL, Nat.zero_add, Nat.reduceAdd] at H
  refine wp_seq (wp_region_lit (n_box H rfl (cs := [.int .i64 a0.Id, .bool a0.Mobile, vp0_0, vp0_1, vp0_2, .int .i64 a0.Events, vp0_3]) rfl rfl ?_))
  clear H; intro b21 w22 hN hE23 hs; clear a; intro a H
  replace hS := hS.newBlk hN hE23 hs; clear hN hs
  refine n_q H (q_assign rfl) rfl ?_; clear H a; intro a H
  refine n_nil (then_normal (wp_seq (wp_region_lit (n_q H (q_fieldAddr0 rfl fo27_3) rfl (W_q (q_load rfl ((hS.blk 0 rfl).ld ag23 rfl)) rfl ?_))))); clear H a; intro a H
  obtain ⟨A24, c24, hv24, hl24, hm24⟩ := SlR.formV (hrp0_1.ext (Flat.mono _) hS.x)
  refine n_q H (q_lenV Tryz.underlying23 rfl hv24) rfl (W_q (q_mulW rfl rfl) rfl (W_q (q_addW rfl rfl) rfl (W_q (q_fieldAddr0 rfl fo27_2) rfl (W_q (q_load rfl ((hS.blk 0 rfl).ld ag22 rfl)) rfl ?_)))); clear H a; intro a H
  obtain ⟨A25, c25, hv25, hl25, hm25⟩ := SlR.formV (hrp0_0.ext (Flat.mono _) hS.x)
  refine n_q H (q_lenV Tryz.underlying22 rfl hv25) rfl (W_q (q_mulW rfl rfl) rfl (W_q (q_addW rfl rfl) rfl (W_q (q_fieldAddr0 rfl fo27_5) rfl (W_q (q_load rfl ((hS.blk 0 rfl).ld ag3 rfl)) rfl (W_q (q_addW rfl rfl) rfl (W_q (q_fieldAddr0 rfl fo27_6) rfl (W_q (q_load rfl ((hS.blk 0 rfl).ld ag25 rfl)) rfl ?_))))))); clear H a; intro a H
  obtain ⟨A26, c26, hv26, hl26, hm26⟩ := SlR.formV (hrp0_3.ext (Flat.mono _) hS.x)
  refine n_q H (q_lenV Tryz.underlying25 rfl hv26) rfl (W_q (q_addW rfl rfl) rfl (W_q (q_assign rfl) rfl ?_)); clear H a; intro a H
  refine n_nil (then_normal (wp_seq (wp_seq (wp_region_lit (n_q H (q_assign rfl) rfl ?_))))); clear H a; intro a H
  refine n_nil (then_normal (wp_block ?_))
  replace hm := bindS hm; obtain ⟨q27, hm, hm27⟩ := hm; replace hm := iter_some hm; obtain ⟨n27, hm⟩ := hm
  refine c_loop (σ := Nat × Int × Nat) (fun (m, z28, i29) => [(1, .pointer (some ⟨b21, 0, none⟩)), (3, .int .i64 z28), (4, .int .i64 ((i29 : Nat) : Int))]) (fun (m, z28, i29) wl => iterN (g_r10_bound_L1 a0) m (z28, i29) = some q27 ∧ St NB w wl [blkR b21 [.int .i64 a0.Id, .bool a0.Mobile, vp0_0, vp0_1, vp0_2, .int .i64 a0.Events, vp0_3] 27]) (fun (m, z28, i29) => m) (n27, (IntKind.i64.wrap ((IntKind.i64.wrap ((IntKind.i64.wrap ((IntKind.i64.wrap (58 + (IntKind.i64.wrap (76 * ((a0.Procs.length : Nat) : Int))))) + (IntKind.i64.wrap (68 * ((a0.Pages.length : Nat) : Int))))) + a0.Events)) + ((a0.Sems.length : Nat) : Int))), 0) H ⟨rfl, rfl, rfl, trivial⟩ ⟨hm, hS⟩ ?_
  clear H hS hm a; intro xx a w30 H hR; obtain ⟨m, z28, i29⟩ := xx; simp only [ent, List.map_cons, List.map_nil] at H; (try dsimp only at hR); obtain ⟨hm, hS⟩ := hR
  replace hm := iterN_step hm; obtain ⟨m27, o27, rfl, hm, hn27⟩ := hm; try dsimp only [g_r10_bound_L1] at hm
  refine wp_seq (wp_seq (wp_region_lit (n_q H (q_move rfl) rfl (W_q (q_fieldAddr0 rfl fo27_4) rfl (W_q (q_load rfl ((hS.blk 0 rfl).ld ag24 rfl)) rfl ?_))))); clear H a; intro a H
  obtain ⟨A31, c31, hv31, hl31, hm31⟩ := SlR.formV (hrp0_2.ext (Flat.mono _) hS.x)
  refine n_q H (q_lenV Tryz.underlying24 rfl hv31) rfl (W_q (q_lssN (i := i29) (j := a0.Ports.length) rfl rfl) rfl ?_); clear H a; intro a H
  refine n_nil (then_normal (c_cond H rfl (fun hc32 => ?_) (fun hc32 => ?_)))
  · replace hm := condT hm hc32
    have hlt33 : i29 < a0.Ports.length := of_decide_eq_true hc32
    refine wp_skip (then_normal (wp_seq (wp_block (wp_seq (wp_region_lit (n_q H (q_fieldAddr0 rfl fo27_4) rfl (W_q (q_load rfl ((hS.blk 0 rfl).ld ag24 rfl)) rfl (W_q (q_move rfl) rfl ?_)))))))); clear H a; intro a H
    replace hm := bindS hm; obtain ⟨x34, hx34, hm⟩ := hm
    obtain ⟨adx34, hAx34⟩ := SlR.adV (hrp0_2.ext (Flat.mono _) hS.x) hv31 hx34
    refine n_q H (q_ixV (i := i29) Tryz.underlying24 sz171 rfl hv31 hAx34 rfl (natI hx34)) rfl (W_q (q_load rfl (SlR.ldAggV (hrp0_2.ext (Flat.mono _) hS.x) hv31 hAx34 ag171 sz171 hx34)) rfl ?_); clear H a; intro a H
    replace hm := bindS hm; obtain ⟨r35, hr35, hm⟩ := hm
    refine n_call H rfl en205 (g_r07_Most_w (A := A) hr35) rfl ?_
    clear H; intro x38 w36 hv; clear a; intro a H; obtain ⟨rfl, hE37⟩ := hv
    replace hS := hS.ext hE37
    refine n_q H (q_move rfl) rfl (W_q (q_extract rfl rfl) rfl (W_q (q_extract rfl rfl) rfl (W_q (q_assign rfl) rfl (W_q (q_assign rfl) rfl ?_)))); clear H a; intro a H
    refine n_nil (then_normal (wp_region_lit (n_q H (q_move rfl) rfl (W_q (q_move rfl) rfl (W_q (q_addW rfl rfl) rfl (W_q (q_addW rfl rfl) rfl (W_q (q_assign rfl) rfl ?_))))))); clear H a; intro a H
    refine n_nil (block_normal (then_normal (wp_region_lit (n_q H (q_move rfl) rfl (W_q (q_incr (i := i29) (j := 1) rfl rfl (by omega)) rfl (W_q (q_assign rfl) rfl ?_)))))); clear H a; intro a H
    refine n_nil (then_normal ?_)
    obtain rfl := Option.some.inj hm
    exact round (m27, (IntKind.i64.wrap (z28 + (IntKind.i64.wrap (3 + r35.1)))), i29 + 1) H ⟨rfl, rfl, rfl, trivial⟩ ⟨hn27, hS⟩ (Nat.lt_succ_self _)
  · replace hm := condF hm hc32
    refine wp_exit (then_exit (then_exit (block_exit ?_)))
    obtain rfl := Option.some.inj hm; have hz : _ = q27 := hn27; subst hz; replace hm := hm27; try dsimp only at hm
    refine then_normal (wp_seq (wp_region_lit (n_q H (q_move rfl) rfl (W_q (q_assign rfl) rfl ?_)))); clear H a; intro a H
    refine n_nil (then_normal (wp_ret ?_))
    obtain rfl := Option.some.inj hm
    replace hS := hS.tk0
    refine ret1 H (.inr rfl) rfl rfl ?_
    exact ⟨rfl, hS.x⟩
theorem g_r10_Check_w {w : World} {A : Nat → Addr} {cs0 : List Value} {a0 : GPlan} (h0 : RGPlan w cs0 a0) {r : GR10Err} (hm : g_r10_Check a0 = some r) :
    Calls Tryz.prog 99 [.agg cs0.toArray].toArray w (Ret fun u w' => u = .agg (eGR10Err r).toArray ∧ Ext w w') := by
  obtain ⟨vp0_0, vp0_1, vp0_2, vp0_3, rfl, hrp0_0, hrp0_1, hrp0_2, hrp0_3⟩ := h0
  have hS := St.begin NB w
  unfold g_r10_Check at hm
  refine enter Tryz.func99 rfl rfl rfl ?_; intro a H; dsimp only [enumL, Nat.zero_add, Nat.reduceAdd] at H
  refine wp_seq (wp_region_lit (n_box H rfl (cs := [.int .i64 a0.Id, .bool a0.Mobile, vp0_0, vp0_1, vp0_2, .int .i64 a0.Events, vp0_3]) rfl rfl ?_))
  clear H; intro b21 w22 hN hE23 hs; clear a; intro a H
  replace hS := hS.newBlk hN hE23 hs; clear hN hs
  refine n_alloc H ze172 rfl ?_
  clear H; intro b24 w25 hN hE26 hs; clear a; intro a H
  replace hS := hS.newBlk hN hE26 hs; clear hN hs
  refine n_nil (then_normal (wp_seq (wp_seq (wp_region_lit (n_c H (fun HC => ?_)))))); clear H
  refine nc_q HC (q_fieldAddr0 rfl fo27_0) rfl (by kernel_rfl) (V_q (q_load rfl ((hS.blk 1 rfl).ld ag3 rfl)) rfl (by kernel_rfl) (V_q (q_lss rfl rfl) rfl (by kernel_rfl) (V_q (q_move rfl) rfl (by kernel_rfl) (V_g (q_fieldAddr0 rfl fo27_0) (by kernel_rfl) (by kernel_rfl) (by kernel_rfl) (V_g (q_load rfl ((hS.blk 1 rfl).ld ag3 rfl)) (by kernel_rfl) (by kernel_rfl) (by kernel_rfl) (V_g (q_gtr rfl rfl) (by kernel_rfl) (by kernel_rfl) (by kernel_rfl) (V_or (j := 3) rfl rfl rfl (by kernel_rfl) (by kernel_rfl) ?_))))))); clear HC a; intro a HC
  have H := HC.has; clear HC
  refine n_nil (then_normal (c_cond H rfl (fun hc27 => ?_) (fun hc27 => ?_)))
  · replace hm := condT hm hc27
    refine wp_seq (wp_region_lit ?_)
    replace hm := bindS hm; obtain ⟨r28, hr28, hm⟩ := hm
    refine n_call H rfl en171 (g_r10_bad_w (A := A) hr28) rfl ?_
    clear H; intro x31 w29 hv; clear a; intro a H; obtain ⟨rfl, hE30⟩ := hv
    replace hS := hS.ext hE30
    refine n_storeAll H rfl rfl (vs := [.int .i64 r28.Code, .int .i64 r28.Place]) rfl sz172 (hS.blk 0 rfl) rfl (by simp) ?_
    clear H; intro w32 hN hC33 hz; clear a; intro a H; replace hS := hS.setBlk hN hC33; clear hN hz
    refine n_nil (then_normal (wp_ret (then_ret ?_)))
    obtain rfl := Option.some.inj hm
    replace hS := hS.tk1
    refine retL H (.inr rfl) rfl (vs := [.agg #[.int .i64 r28.Code, .int .i64 r28.Place]]) (resCell rfl ((hS.blk 0 rfl).ldAll ag172 sz172) resNil) ?_
    replace hS := hS.tk0
    exact ⟨rfl, hS.x⟩
  · replace hm := condF hm hc27
    refine wp_skip (then_normal (wp_seq (c_ord [] 10 (by kernel_rfl) ?_)))
    obtain ⟨w34, hw34⟩ : ∃ x, x = w25.drew := ⟨_, rfl⟩; rw [← hw34]; have hE35 : Ext w25 w34 := by rw [hw34]; exact Ext.drew' _
    clear hw34
    replace hS := hS.ext hE35
    have hS36 := hS
    have hW := Nat.le_refl w34.heap.size
    refine k_take 0 H rfl (q_load rfl (LdC.old ((hS36.blk 1 rfl).ldAll ag27 sz27) Ext.rfl' (Nat.le_refl _) (by simp))) rfl (by kernel_rfl) (by kernel_rfl) (by kernel_rfl) (by kernel_rfl) (fun _ _ _ h => h) ?_; clear H a; intro a H
    refine k_take 2 H rfl (q_load rfl (LdC.old ((hS36.blk 1 rfl).ldAll ag27 sz27) Ext.rfl' (Nat.le_refl _) (by simp))) rfl (by kernel_rfl) (by kernel_rfl) (by kernel_rfl) (by kernel_rfl) (fun _ _ _ h => h) ?_; clear H a; intro a H
    refine k_take 4 H rfl (q_load rfl (LdC.old ((hS36.blk 1 rfl).ldAll ag27 sz27) Ext.rfl' (Nat.le_refl _) (by simp))) rfl (by kernel_rfl) (by kernel_rfl) (by kernel_rfl) (by kernel_rfl) (fun _ _ _ h => h) ?_; clear H a; intro a H
    refine k_take 6 H rfl (q_load rfl (LdC.old ((hS36.blk 1 rfl).ldAll ag27 sz27) Ext.rfl' (Nat.le_refl _) (by simp))) rfl (by kernel_rfl) (by kernel_rfl) (by kernel_rfl) (by kernel_rfl) (fun _ _ _ h => h) ?_; clear H a; intro a H
    replace hm := bindS hm; obtain ⟨r37, hr37, hm⟩ := hm
    refine k_of_kk 1 (by kernel_rfl) ?_
    refine kk_call 1 H rfl rfl en172 (g_r10_pages_w (A := A) (⟨_, _, _, _, rfl, (hrp0_0.ext (Flat.mono _) hS.x), (hrp0_1.ext (Flat.mono _) hS.x), (hrp0_2.ext (Flat.mono _) hS.x), (hrp0_3.ext (Flat.mono _) hS.x)⟩ : RGPlan _ [.int .i64 a0.Id, .bool a0.Mobile, vp0_0, vp0_1, vp0_2, .int .i64 a0.Events, vp0_3] a0) hr37) rfl (fun v w hv => .inl (ChgF.of_ext (by obtain ⟨_, hE0⟩ := hv; exact hE0))) ?_
    clear H; intro x40 w38 hv; clear a; intro a H; obtain ⟨rfl, hE39⟩ := hv
    replace hS := hS.ext hE39
    replace hW := Nat.le_trans hW hE39.size
    replace hm := bindS hm; obtain ⟨r41, hr41, hm⟩ := hm
    refine k_of_kk 3 (by kernel_rfl) ?_
    refine kk_call 3 H rfl rfl en173 (g_r10_procs_w (A := A) (⟨_, _, _, _, rfl, (hrp0_0.ext (Flat.mono _) hS.x), (hrp0_1.ext (Flat.mono _) hS.x), (hrp0_2.ext (Flat.mono _) hS.x), (hrp0_3.ext (Flat.mono _) hS.x)⟩ : RGPlan _ [.int .i64 a0.Id, .bool a0.Mobile, vp0_0, vp0_1, vp0_2, .int .i64 a0.Events, vp0_3] a0) hr41) rfl (fun v w hv => .inl (ChgF.of_ext (by obtain ⟨_, hE0⟩ := hv; exact hE0))) ?_
    clear H; intro x44 w42 hv; clear a; intro a H; obtain ⟨rfl, hE43⟩ := hv
    replace hS := hS.ext hE43
    replace hW := Nat.le_trans hW hE43.size
    replace hm := bindS hm; obtain ⟨r45, hr45, hm⟩ := hm
    refine k_of_kk 5 (by kernel_rfl) ?_
    refine kk_call 5 H rfl rfl en174 (g_r10_ports_w (A := A) (⟨_, _, _, _, rfl, (hrp0_0.ext (Flat.mono _) hS.x), (hrp0_1.ext (Flat.mono _) hS.x), (hrp0_2.ext (Flat.mono _) hS.x), (hrp0_3.ext (Flat.mono _) hS.x)⟩ : RGPlan _ [.int .i64 a0.Id, .bool a0.Mobile, vp0_0, vp0_1, vp0_2, .int .i64 a0.Events, vp0_3] a0) hr45) rfl (fun v w hv => .inl (ChgF.of_ext (by obtain ⟨_, hE0⟩ := hv; exact hE0))) ?_
    clear H; intro x48 w46 hv; clear a; intro a H; obtain ⟨rfl, hE47⟩ := hv
    replace hS := hS.ext hE47
    replace hW := Nat.le_trans hW hE47.size
    replace hm := bindS hm; obtain ⟨r49, hr49, hm⟩ := hm
    refine k_of_kk 7 (by kernel_rfl) ?_
    refine kk_call 7 H rfl rfl en175 (g_r10_things_w (A := A) (⟨_, _, _, _, rfl, (hrp0_0.ext (Flat.mono _) hS.x), (hrp0_1.ext (Flat.mono _) hS.x), (hrp0_2.ext (Flat.mono _) hS.x), (hrp0_3.ext (Flat.mono _) hS.x)⟩ : RGPlan _ [.int .i64 a0.Id, .bool a0.Mobile, vp0_0, vp0_1, vp0_2, .int .i64 a0.Events, vp0_3] a0) hr49) rfl (fun v w hv => .inl (ChgF.of_ext (by obtain ⟨_, hE0⟩ := hv; exact hE0))) ?_
    clear H; intro x52 w50 hv; clear a; intro a H; obtain ⟨rfl, hE51⟩ := hv
    replace hS := hS.ext hE51
    replace hW := Nat.le_trans hW hE51.size
    refine k_buildSlice 8 H rfl Tryz.underlying231 sz172 ze172 rfl rfl rfl (cs := [.int .i64 r37.Code, .int .i64 r37.Place, .int .i64 r41.Code, .int .i64 r41.Place, .int .i64 r45.Code, .int .i64 r45.Place, .int .i64 r49.Code, .int .i64 r49.Place]) (by kernel_rfl) rfl (by kernel_rfl) ?_
    clear H; intro b55 w53 hN hE54 hs; clear a; intro a H
    have hge_b55 : w34.heap.size ≤ b55 := hs ▸ hW
    replace hS := hS.newBlk hN hE54 hs; clear hN hs
    replace hW := Nat.le_trans hW hE54.size
    replace hS := hS.blkOwnL (e := eGR10Err) (k := 2) [r37, r41, r45, r49] rfl rfl (by simp [maxLen])
    refine k_takeT 9 H rfl (q_assign rfl) rfl (by kernel_rfl) (by kernel_rfl) (by kernel_rfl) (by kernel_rfl) (fun _ _ _ h => h) ?_; clear H a; intro a H
    refine k_done (by kernel_rfl) ?_
    refine then_normal (wp_seq (wp_seq (wp_region_lit (n_q H (q_assign rfl) rfl ?_)))); clear H a; intro a H
    refine n_nil (then_normal (wp_block ?_))
    replace hS := hS.pk1
    replace hS := hS.pk2
    replace hS := hS.pk2
    replace hm := bindS hm; obtain ⟨q57, hm, hm57⟩ := hm; replace hm := iter_some hm; obtain ⟨n57, hm⟩ := hm
    refine c_loop (σ := Nat × Nat) (fun (m, i58) => [(1, .pointer (some ⟨b21, 0, none⟩)), (2, .pointer (some ⟨b24, 0, none⟩)), (3, .slice (some ⟨b55, 0, none⟩) 4 4), (4, .int .i64 ((i58 : Nat) : Int))]) (fun (m, i58) wl => iterN (g_r10_Check_L1 r37 r41 r45 r49) m i58 = some q57 ∧ St NB w wl [ownR 172 2 (.slice (some ⟨b55, 0, none⟩) 4 4) [r37, r41, r45, r49].length ([r37, r41, r45, r49].flatMap eGR10Err), blkR b21 [.int .i64 a0.Id, .bool a0.Mobile, vp0_0, vp0_1, vp0_2, .int .i64 a0.Events, vp0_3] 27, blkR b24 [.int .i64 0, .int .i64 0] 172]) (fun (m, i58) => m) (n57, 0) H ⟨rfl, rfl, rfl, rfl, trivial⟩ ⟨hm, hS⟩ ?_
    clear H hS hm a; intro xx a w59 H hR; obtain ⟨m, i58⟩ := xx; simp only [ent, List.map_cons, List.map_nil] at H; (try dsimp only at hR); obtain ⟨hm, hS⟩ := hR
    replace hm := iterN_step hm; obtain ⟨m57, o57, rfl, hm, hn57⟩ := hm; try dsimp only [g_r10_Check_L1] at hm
    refine wp_seq (wp_seq (wp_region_lit (n_q H (q_move rfl) rfl (W_q (q_move rfl) rfl ?_)))); clear H a; intro a H
    obtain ⟨A60, c60, hv60, hl60, hm60⟩ := SlR.formV ((hS.own 0 rfl).slr rfl (fun _ _ => rfl))
    refine n_q H (q_lenV Tryz.underlying231 rfl hv60) rfl (W_q (q_lssN (i := i58) (j := ([r37, r41, r45, r49].length)) rfl rfl) rfl ?_); clear H a; intro a H
    refine n_nil (then_normal (c_cond H rfl (fun hc61 => ?_) (fun hc61 => ?_)))
    · replace hm := condT hm hc61
      have hlt62 : i58 < [r37, r41, r45, r49].length := of_decide_eq_true hc61
      refine wp_skip (then_normal (wp_seq (wp_block (wp_seq (wp_region_lit (n_q H (q_move rfl) rfl (W_q (q_move rfl) rfl ?_))))))); clear H a; intro a H
      replace hm := bindS hm; obtain ⟨x63, hx63, hm⟩ := hm
      obtain ⟨adx63, hAx63⟩ := SlR.adV ((hS.own 0 rfl).slr rfl (fun _ _ => rfl)) hv60 hx63
      refine n_q H (q_ixV (i := i58) Tryz.underlying231 sz172 rfl hv60 hAx63 rfl (natI hx63)) rfl (W_q (q_fieldAddr rfl fo172_0) rfl (W_q (q_load rfl (SlR.ldCellV (j := 0) ((hS.own 0 rfl).slr rfl (fun _ _ => rfl)) hv60 hAx63 ag3 hx63 rfl)) rfl (W_q (q_neqD rfl rfl) rfl ?_))); clear H a; intro a H
      refine n_nil (then_normal (c_cond H rfl (fun hc64 => ?_) (fun hc64 => ?_)))
      · replace hm := condT hm hc64
        refine wp_seq (wp_region_lit (n_q H (q_move rfl) rfl (W_q (q_move rfl) rfl ?_))); clear H a; intro a H
        replace hm := bindS hm; obtain ⟨x65, hx65, hm⟩ := hm
        obtain ⟨adx65, hAx65⟩ := SlR.adV ((hS.own 0 rfl).slr rfl (fun _ _ => rfl)) hv60 hx65
        refine n_q H (q_ixV (i := i58) Tryz.underlying231 sz172 rfl hv60 hAx65 rfl (natI hx65)) rfl (W_q (q_load rfl (SlR.ldAggV ((hS.own 0 rfl).slr rfl (fun _ _ => rfl)) hv60 hAx65 ag172 sz172 hx65)) rfl ?_); clear H a; intro a H
        replace hS := hS.pk2
        refine n_storeAll H rfl rfl (vs := [.int .i64 x65.Code, .int .i64 x65.Place]) rfl sz172 (hS.blk 0 rfl) rfl (by simp) ?_
        clear H; intro w66 hN hC67 hz; clear a; intro a H; replace hS := hS.setBlk hN hC67; clear hN hz
        refine n_nil (then_normal (wp_ret (block_ret (then_ret (then_ret (block_ret (then_ret ?_)))))))
        obtain rfl := Option.some.inj hm; have hz : _ = q57 := hn57; subst hz; replace hm := hm57; try dsimp only at hm
        obtain rfl := Option.some.inj hm
        replace hS := hS.tk1
        refine retL H (.inr rfl) rfl (vs := [.agg #[.int .i64 x65.Code, .int .i64 x65.Place]]) (resCell rfl ((hS.blk 0 rfl).ldAll ag172 sz172) resNil) ?_
        replace hS := hS.tk0
        exact ⟨rfl, hS.x⟩
      · replace hm := condF hm hc64
        refine wp_skip (block_normal (then_normal (wp_region_lit (n_q H (q_move rfl) rfl (W_q (q_incr (i := i58) (j := 1) rfl rfl (by omega)) rfl (W_q (q_assign rfl) rfl ?_)))))); clear H a; intro a H
        refine n_nil (then_normal ?_)
        obtain rfl := Option.some.inj hm
        exact round (m57, i58 + 1) H ⟨rfl, rfl, rfl, rfl, trivial⟩ ⟨hn57, hS⟩ (Nat.lt_succ_self _)
    · replace hm := condF hm hc61
      refine wp_exit (then_exit (then_exit (block_exit ?_)))
      obtain rfl := Option.some.inj hm; have hz : _ = q57 := hn57; subst hz; replace hm := hm57; try dsimp only at hm
      refine then_normal (wp_seq (wp_seq (wp_region_lit (n_q H (q_load rfl ((hS.blk 1 rfl).ldAll ag27 sz27)) rfl ?_)))); clear H a; intro a H
      replace hm := bindS hm; obtain ⟨r68, hr68, hm⟩ := hm
      refine n_call H rfl en176 (g_r10_bound_w (A := A) (⟨_, _, _, _, rfl, (hrp0_0.ext (Flat.mono _) hS.x), (hrp0_1.ext (Flat.mono _) hS.x), (hrp0_2.ext (Flat.mono _) hS.x), (hrp0_3.ext (Flat.mono _) hS.x)⟩ : RGPlan _ [.int .i64 a0.Id, .bool a0.Mobile, vp0_0, vp0_1, vp0_2, .int .i64 a0.Events, vp0_3] a0) hr68) rfl ?_
      clear H; intro x71 w69 hv; clear a; intro a H; obtain ⟨rfl, hE70⟩ := hv
      replace hS := hS.ext hE70
      refine n_q H (q_gtr rfl rfl) rfl ?_; clear H a; intro a H
      refine n_nil (then_normal (c_cond H rfl (fun hc72 => ?_) (fun hc72 => ?_)))
      · replace hm := condT hm hc72
        refine wp_seq (wp_region_lit ?_)
        replace hm := bindS hm; obtain ⟨r73, hr73, hm⟩ := hm
        refine n_call H rfl en171 (g_r10_bad_w (A := A) hr73) rfl ?_
        clear H; intro x76 w74 hv; clear a; intro a H; obtain ⟨rfl, hE75⟩ := hv
        replace hS := hS.ext hE75
        replace hS := hS.pk2
        refine n_storeAll H rfl rfl (vs := [.int .i64 r73.Code, .int .i64 r73.Place]) rfl sz172 (hS.blk 0 rfl) rfl (by simp) ?_
        clear H; intro w77 hN hC78 hz; clear a; intro a H; replace hS := hS.setBlk hN hC78; clear hN hz
        refine n_nil (then_normal (wp_ret (then_ret ?_)))
        obtain rfl := Option.some.inj hm
        replace hS := hS.tk1
        refine retL H (.inr rfl) rfl (vs := [.agg #[.int .i64 r73.Code, .int .i64 r73.Place]]) (resCell rfl ((hS.blk 0 rfl).ldAll ag172 sz172) resNil) ?_
        replace hS := hS.tk0
        exact ⟨rfl, hS.x⟩
      · replace hm := condF hm hc72
        refine wp_skip (then_normal (wp_seq (wp_region_lit ?_)))
        replace hm := bindS hm; obtain ⟨r79, hr79, hm⟩ := hm
        refine n_call H rfl en177 (g_r10_none_w (A := A) hr79) rfl ?_
        clear H; intro x82 w80 hv; clear a; intro a H; obtain ⟨rfl, hE81⟩ := hv
        replace hS := hS.ext hE81
        replace hS := hS.pk2
        refine n_storeAll H rfl rfl (vs := [.int .i64 r79.Code, .int .i64 r79.Place]) rfl sz172 (hS.blk 0 rfl) rfl (by simp) ?_
        clear H; intro w83 hN hC84 hz; clear a; intro a H; replace hS := hS.setBlk hN hC84; clear hN hz
        refine n_nil (then_normal (wp_ret ?_))
        obtain rfl := Option.some.inj hm
        replace hS := hS.tk1
        refine retL H (.inr rfl) rfl (vs := [.agg #[.int .i64 r79.Code, .int .i64 r79.Place]]) (resCell rfl ((hS.blk 0 rfl).ldAll ag172 sz172) resNil) ?_
        replace hS := hS.tk0
        exact ⟨rfl, hS.x⟩
theorem g_r10_Good_w {w : World} {A : Nat → Addr} {cs0 : List Value} {a0 : GPlan} (h0 : RGPlan w cs0 a0) {r : Bool} (hm : g_r10_Good a0 = some r) :
    Calls Tryz.prog 48 [.agg cs0.toArray].toArray w (Ret fun u w' => u = .bool r ∧ Ext w w') := by
  obtain ⟨vp0_0, vp0_1, vp0_2, vp0_3, rfl, hrp0_0, hrp0_1, hrp0_2, hrp0_3⟩ := h0
  have hS := St.begin NB w
  unfold g_r10_Good at hm
  refine enter Tryz.func48 rfl rfl rfl ?_; intro a H; dsimp only [enumL, Nat.zero_add, Nat.reduceAdd] at H
  refine wp_seq (wp_region_lit (n_box H rfl (cs := [.int .i64 a0.Id, .bool a0.Mobile, vp0_0, vp0_1, vp0_2, .int .i64 a0.Events, vp0_3]) rfl rfl ?_))
  clear H; intro b21 w22 hN hE23 hs; clear a; intro a H
  replace hS := hS.newBlk hN hE23 hs; clear hN hs
  refine n_q H (q_assign rfl) rfl ?_; clear H a; intro a H
  refine n_nil (then_normal (wp_seq (wp_region_lit (n_q H (q_load rfl ((hS.blk 0 rfl).ldAll ag27 sz27)) rfl ?_)))); clear H a; intro a H
  replace hm := bindS hm; obtain ⟨r24, hr24, hm⟩ := hm
  refine n_call H rfl en99 (g_r10_Check_w (A := A) (⟨_, _, _, _, rfl, (hrp0_0.ext (Flat.mono _) hS.x), (hrp0_1.ext (Flat.mono _) hS.x), (hrp0_2.ext (Flat.mono _) hS.x), (hrp0_3.ext (Flat.mono _) hS.x)⟩ : RGPlan _ [.int .i64 a0.Id, .bool a0.Mobile, vp0_0, vp0_1, vp0_2, .int .i64 a0.Events, vp0_3] a0) hr24) rfl ?_
  clear H; intro x27 w25 hv; clear a; intro a H; obtain ⟨rfl, hE26⟩ := hv
  replace hS := hS.ext hE26
  refine n_q H (q_fieldV fd172_0 rfl rfl) rfl (W_q (q_eqlD rfl rfl) rfl (W_q (q_assign rfl) rfl ?_)); clear H a; intro a H
  refine n_nil (then_normal (wp_ret ?_))
  obtain rfl := Option.some.inj hm
  replace hS := hS.tk0
  refine ret1 H (.inr rfl) rfl rfl ?_
  exact ⟨rfl, hS.x⟩
theorem g_r14_none_w {w : World} {A : Nat → Addr} {r : GR14Err} (hm : g_r14_none = some r) :
    Calls Tryz.prog 75 [].toArray w (Ret fun u w' => u = .agg (eGR14Err r).toArray ∧ Ext w w') := by
  have hS := St.begin NB w
  unfold g_r14_none at hm
  refine enter Tryz.func75 rfl rfl rfl ?_; intro a H; dsimp only [enumL, Nat.zero_add, Nat.reduceAdd] at H
  refine wp_seq (wp_region_lit (n_alloc H ze66 rfl ?_))
  clear H; intro b21 w22 hN hE23 hs; clear a; intro a H
  replace hS := hS.newBlk hN hE23 hs; clear hN hs
  refine n_nil (then_normal (wp_seq (wp_region_lit (n_q H (q_build (cs := [.int .i64 0, .int .i64 (-1)]) ze66 bd66 pl66 rfl (by kernel_rfl)) rfl ?_)))); clear H a; intro a H
  refine n_storeAll H rfl rfl (vs := [.int .i64 0, .int .i64 (-1)]) rfl sz66 (hS.blk 0 rfl) rfl (by simp) ?_
  clear H; intro w24 hN hC25 hz; clear a; intro a H; replace hS := hS.setBlk hN hC25; clear hN hz
  refine n_nil (then_normal (wp_ret ?_))
  obtain rfl := Option.some.inj hm
  refine retL H (.inr rfl) rfl (vs := [.agg #[.int .i64 0, .int .i64 (-1)]]) (resCell rfl ((hS.blk 0 rfl).ldAll ag66 sz66) resNil) ?_
  replace hS := hS.tk0
  exact ⟨rfl, hS.x⟩
theorem g_r14_parts_w {w : World} {A : Nat → Addr} {cs0 : List Value} {a0 : GConfig} (h0 : RGConfig w cs0 a0) {r : GR14Err} (hm : g_r14_parts a0 = some r) :
    Calls Tryz.prog 71 [.agg cs0.toArray].toArray w (Ret fun u w' => u = .agg (eGR14Err r).toArray ∧ Ext w w') := by
  obtain ⟨vp0_0, vp0_1, vp0_2, vp0_3, rfl, hrp0_0, hrp0_1, hrp0_2, hrp0_3⟩ := h0
  have hS := St.begin NB w
  unfold g_r14_parts at hm
  refine enter Tryz.func71 rfl rfl rfl ?_; intro a H; dsimp only [enumL, Nat.zero_add, Nat.reduceAdd] at H
  refine wp_seq (wp_region_lit (n_box H rfl (cs := [.int .i64 a0.Ticks, vp0_0, vp0_1, vp0_2, vp0_3, .int .i64 a0.Tries]) rfl rfl ?_))
  clear H; intro b21 w22 hN hE23 hs; clear a; intro a H
  replace hS := hS.newBlk hN hE23 hs; clear hN hs
  refine n_alloc H ze66 rfl ?_
  clear H; intro b24 w25 hN hE26 hs; clear a; intro a H
  replace hS := hS.newBlk hN hE26 hs; clear hN hs
  refine n_nil (then_normal (wp_seq (wp_seq (wp_region_lit (n_c H (fun HC => ?_)))))); clear H
  refine nc_q HC (q_fieldAddr0 rfl fo49_1) rfl (by kernel_rfl) (V_q (q_load rfl ((hS.blk 1 rfl).ld ag45 rfl)) rfl (by kernel_rfl) ?_); clear HC a; intro a HC
  obtain ⟨A27, c27, hv27, hl27, hm27⟩ := SlR.formV (hrp0_0.ext RGPlan.mono hS.x)
  refine nc_q HC (q_lenV Tryz.underlying45 rfl hv27) rfl (by kernel_rfl) (V_q (q_lssN (i := a0.Parts.length) (j := 1) rfl rfl) rfl (by kernel_rfl) (V_q (q_move rfl) rfl (by kernel_rfl) (V_g (q_fieldAddr0 rfl fo49_1) (by kernel_rfl) (by kernel_rfl) (by kernel_rfl) (V_g (q_load rfl ((hS.blk 1 rfl).ld ag45 rfl)) (by kernel_rfl) (by kernel_rfl) (by kernel_rfl) (V_g (q_lenV Tryz.underlying45 rfl hv27) (by kernel_rfl) (by kernel_rfl) (by kernel_rfl) (V_g (q_gtrN (i := a0.Parts.length) (j := 8) rfl rfl) (by kernel_rfl) (by kernel_rfl) (by kernel_rfl) (V_or (j := 4) rfl rfl rfl (by kernel_rfl) (by kernel_rfl) ?_))))))); clear HC a; intro a HC
  have H := HC.has; clear HC
  refine n_nil (then_normal (c_cond H rfl (fun hc28 => ?_) (fun hc28 => ?_)))
  · replace hm := condT hm hc28
    refine wp_seq (wp_region_lit ?_)
    replace hm := bindS hm; obtain ⟨r29, hr29, hm⟩ := hm
    refine n_call H rfl en70 (g_r14_bad_w (A := A) hr29) rfl ?_
    clear H; intro x32 w30 hv; clear a; intro a H; obtain ⟨rfl, hE31⟩ := hv
    replace hS := hS.ext hE31
    refine n_storeAll H rfl rfl (vs := [.int .i64 r29.Code, .int .i64 r29.Place]) rfl sz66 (hS.blk 0 rfl) rfl (by simp) ?_
    clear H; intro w33 hN hC34 hz; clear a; intro a H; replace hS := hS.setBlk hN hC34; clear hN hz
    refine n_nil (then_normal (wp_ret (then_ret ?_)))
    obtain rfl := Option.some.inj hm
    replace hS := hS.tk1
    refine retL H (.inr rfl) rfl (vs := [.agg #[.int .i64 r29.Code, .int .i64 r29.Place]]) (resCell rfl ((hS.blk 0 rfl).ldAll ag66 sz66) resNil) ?_
    replace hS := hS.tk0
    exact ⟨rfl, hS.x⟩
  · replace hm := condF hm hc28
    refine wp_skip (then_normal (wp_seq (wp_seq (wp_region_lit (n_q H (q_assign rfl) rfl ?_))))); clear H a; intro a H
    refine n_nil (then_normal (wp_block ?_))
    replace hS := hS.pk1
    replace hm := bindS hm; obtain ⟨q35, hm, hm35⟩ := hm; replace hm := iter_some hm; obtain ⟨n35, hm⟩ := hm
    refine c_loop (σ := Nat × Nat) (fun (m, i36) => [(1, .pointer (some ⟨b21, 0, none⟩)), (2, .pointer (some ⟨b24, 0, none⟩)), (3, .int .i64 ((i36 : Nat) : Int))]) (fun (m, i36) wl => iterN (g_r14_parts_L8 a0) m i36 = some q35 ∧ St NB w wl [blkR b21 [.int .i64 a0.Ticks, vp0_0, vp0_1, vp0_2, vp0_3, .int .i64 a0.Tries] 49, blkR b24 [.int .i64 0, .int .i64 0] 66]) (fun (m, i36) => m) (n35, 0) H ⟨rfl, rfl, rfl, trivial⟩ ⟨hm, hS⟩ ?_
    clear H hS hm a; intro xx a w37 H hR; obtain ⟨m, i36⟩ := xx; simp only [ent, List.map_cons, List.map_nil] at H; (try dsimp only at hR); obtain ⟨hm, hS⟩ := hR
    replace hm := iterN_step hm; obtain ⟨m35, o35, rfl, hm, hn35⟩ := hm; try dsimp only [g_r14_parts_L8] at hm
    refine wp_seq (wp_seq (wp_region_lit (n_q H (q_move rfl) rfl (W_q (q_fieldAddr0 rfl fo49_1) rfl (W_q (q_load rfl ((hS.blk 0 rfl).ld ag45 rfl)) rfl (W_q (q_lenV Tryz.underlying45 rfl hv27) rfl (W_q (q_lssN (i := i36) (j := a0.Parts.length) rfl rfl) rfl ?_))))))); clear H a; intro a H
    refine n_nil (then_normal (c_cond H rfl (fun hc38 => ?_) (fun hc38 => ?_)))
    · replace hm := condT hm hc38
      have hlt39 : i36 < a0.Parts.length := of_decide_eq_true hc38
      refine wp_skip (then_normal (wp_seq (wp_block (wp_seq (wp_seq (wp_region_lit (n_q H (q_fieldAddr0 rfl fo49_1) rfl (W_q (q_load rfl ((hS.blk 0 rfl).ld ag45 rfl)) rfl (W_q (q_move rfl) rfl ?_))))))))); clear H a; intro a H
      replace hm := bindS hm; obtain ⟨x40, hx40, hm⟩ := hm
      obtain ⟨adx40, hAx40⟩ := SlR.adV (hrp0_0.ext RGPlan.mono hS.x) hv27 hx40
      obtain ⟨csx40, hclx40, ⟨vx40_0, vx40_1, vx40_2, vx40_3, rfl, hrx40_0, hrx40_1, hrx40_2, hrx40_3⟩, hcx40⟩ := SlR.elV hrp0_0 hv27 hAx40 hx40
      refine n_q H (q_ixV (i := i36) Tryz.underlying45 sz27 rfl hv27 hAx40 rfl (natI hx40)) rfl (W_q (q_load rfl (LdX.ext (ldEl ag27 sz27 rfl hcx40) hS.x)) rfl ?_); clear H a; intro a H
      replace hm := bindS hm; obtain ⟨r41, hr41, hm⟩ := hm
      refine n_call H rfl en48 (g_r10_Good_w (A := A) (⟨_, _, _, _, rfl, (hrx40_0.ext (Flat.mono _) hS.x), (hrx40_1.ext (Flat.mono _) hS.x), (hrx40_2.ext (Flat.mono _) hS.x), (hrx40_3.ext (Flat.mono _) hS.x)⟩ : RGPlan _ [.int .i64 x40.Id, .bool x40.Mobile, vx40_0, vx40_1, vx40_2, .int .i64 x40.Events, vx40_3] x40) hr41) rfl ?_
      clear H; intro x44 w42 hv; clear a; intro a H; obtain ⟨rfl, hE43⟩ := hv
      replace hS := hS.ext hE43
      refine n_q H (q_not rfl) rfl ?_; clear H a; intro a H
      refine n_nil (then_normal (c_cond H rfl (fun hc45 => ?_) (fun hc45 => ?_)))
      · replace hm := condT hm hc45
        refine wp_seq (wp_region_lit (n_q H (q_move rfl) rfl (W_q (q_build (cs := [.int .i64 8, .int .i64 ((i36 : Nat) : Int)]) ze66 bd66 pl66 rfl (by kernel_rfl)) rfl ?_))); clear H a; intro a H
        replace hS := hS.pk1
        refine n_storeAll H rfl rfl (vs := [.int .i64 8, .int .i64 ((i36 : Nat) : Int)]) rfl sz66 (hS.blk 0 rfl) rfl (by simp) ?_
        clear H; intro w46 hN hC47 hz; clear a; intro a H; replace hS := hS.setBlk hN hC47; clear hN hz
        refine n_nil (then_normal (wp_ret (then_ret (block_ret (then_ret (then_ret (block_ret (then_ret ?_))))))))
        obtain rfl := Option.some.inj hm; have hz : _ = q35 := hn35; subst hz; replace hm := hm35; try dsimp only at hm
        obtain rfl := Option.some.inj hm
        replace hS := hS.tk1
        refine retL H (.inr rfl) rfl (vs := [.agg #[.int .i64 8, .int .i64 ((i36 : Nat) : Int)]]) (resCell rfl ((hS.blk 0 rfl).ldAll ag66 sz66) resNil) ?_
        replace hS := hS.tk0
        exact ⟨rfl, hS.x⟩
      · replace hm := condF hm hc45
        refine wp_skip (then_normal (wp_seq (wp_region_lit (n_q H (q_fieldAddr0 rfl fo49_1) rfl (W_q (q_load rfl ((hS.blk 0 rfl).ld ag45 rfl)) rfl (W_q (q_move rfl) rfl ?_)))))); clear H a; intro a H
        replace hm := bindS hm; obtain ⟨x48, hx48, hm⟩ := hm
        obtain ⟨adx48, hAx48⟩ := SlR.adV (hrp0_0.ext RGPlan.mono hS.x) hv27 hx48
        obtain ⟨csx48, hclx48, ⟨vx48_0, vx48_1, vx48_2, vx48_3, rfl, hrx48_0, hrx48_1, hrx48_2, hrx48_3⟩, hcx48⟩ := SlR.elV hrp0_0 hv27 hAx48 hx48
        refine n_q H (q_ixV (i := i36) Tryz.underlying45 sz27 rfl hv27 hAx48 rfl (natI hx48)) rfl (W_q (q_fieldAddr rfl fo27_0) rfl (W_q (q_load rfl (LdX.ext (ldElC (j := 0) ag3 hcx48 rfl) hS.x)) rfl (W_q (q_move rfl) rfl (W_q (q_neqD rfl rfl) rfl ?_)))); clear H a; intro a H
        refine n_nil (then_normal (c_cond H rfl (fun hc49 => ?_) (fun hc49 => ?_)))
        · replace hm := condT hm hc49
          refine wp_seq (wp_region_lit (n_q H (q_move rfl) rfl (W_q (q_build (cs := [.int .i64 12, .int .i64 ((i36 : Nat) : Int)]) ze66 bd66 pl66 rfl (by kernel_rfl)) rfl ?_))); clear H a; intro a H
          replace hS := hS.pk1
          refine n_storeAll H rfl rfl (vs := [.int .i64 12, .int .i64 ((i36 : Nat) : Int)]) rfl sz66 (hS.blk 0 rfl) rfl (by simp) ?_
          clear H; intro w50 hN hC51 hz; clear a; intro a H; replace hS := hS.setBlk hN hC51; clear hN hz
          refine n_nil (then_normal (wp_ret (block_ret (then_ret (then_ret (block_ret (then_ret ?_)))))))
          obtain rfl := Option.some.inj hm; have hz : _ = q35 := hn35; subst hz; replace hm := hm35; try dsimp only at hm
          obtain rfl := Option.some.inj hm
          replace hS := hS.tk1
          refine retL H (.inr rfl) rfl (vs := [.agg #[.int .i64 12, .int .i64 ((i36 : Nat) : Int)]]) (resCell rfl ((hS.blk 0 rfl).ldAll ag66 sz66) resNil) ?_
          replace hS := hS.tk0
          exact ⟨rfl, hS.x⟩
        · replace hm := condF hm hc49
          refine wp_skip (block_normal (then_normal (wp_region_lit (n_q H (q_move rfl) rfl (W_q (q_incr (i := i36) (j := 1) rfl rfl (by omega)) rfl (W_q (q_assign rfl) rfl ?_)))))); clear H a; intro a H
          refine n_nil (then_normal ?_)
          obtain rfl := Option.some.inj hm
          exact round (m35, i36 + 1) H ⟨rfl, rfl, rfl, trivial⟩ ⟨hn35, hS⟩ (Nat.lt_succ_self _)
    · replace hm := condF hm hc38
      refine wp_exit (then_exit (then_exit (block_exit ?_)))
      obtain rfl := Option.some.inj hm; have hz : _ = q35 := hn35; subst hz; replace hm := hm35; try dsimp only at hm
      refine then_normal (wp_seq (wp_seq (wp_region_lit (n_q H (q_fieldAddr0 rfl fo49_2) rfl (W_q (q_load rfl ((hS.blk 0 rfl).ld ag25 rfl)) rfl ?_))))); clear H a; intro a H
      obtain ⟨A52, c52, hv52, hl52, hm52⟩ := SlR.formV (hrp0_1.ext (Flat.mono _) hS.x)
      refine n_q H (q_lenV Tryz.underlying25 rfl hv52) rfl (W_q (q_fieldAddr0 rfl fo49_1) rfl (W_q (q_load rfl ((hS.blk 0 rfl).ld ag45 rfl)) rfl (W_q (q_lenV Tryz.underlying45 rfl hv27) rfl (W_q (q_neqN (i := a0.Homes.length) (j := a0.Parts.length) rfl rfl) rfl ?_)))); clear H a; intro a H
      refine n_nil (then_normal (c_cond H rfl (fun hc53 => ?_) (fun hc53 => ?_)))
      · replace hm := condT hm hc53
        refine wp_seq (wp_region_lit ?_)
        replace hm := bindS hm; obtain ⟨r54, hr54, hm⟩ := hm
        refine n_call H rfl en70 (g_r14_bad_w (A := A) hr54) rfl ?_
        clear H; intro x57 w55 hv; clear a; intro a H; obtain ⟨rfl, hE56⟩ := hv
        replace hS := hS.ext hE56
        replace hS := hS.pk1
        refine n_storeAll H rfl rfl (vs := [.int .i64 r54.Code, .int .i64 r54.Place]) rfl sz66 (hS.blk 0 rfl) rfl (by simp) ?_
        clear H; intro w58 hN hC59 hz; clear a; intro a H; replace hS := hS.setBlk hN hC59; clear hN hz
        refine n_nil (then_normal (wp_ret (then_ret ?_)))
        obtain rfl := Option.some.inj hm
        replace hS := hS.tk1
        refine retL H (.inr rfl) rfl (vs := [.agg #[.int .i64 r54.Code, .int .i64 r54.Place]]) (resCell rfl ((hS.blk 0 rfl).ldAll ag66 sz66) resNil) ?_
        replace hS := hS.tk0
        exact ⟨rfl, hS.x⟩
      · replace hm := condF hm hc53
        refine wp_skip (then_normal (wp_seq (wp_seq (wp_region_lit (n_q H (q_assign rfl) rfl ?_))))); clear H a; intro a H
        refine n_nil (then_normal (wp_block ?_))
        replace hm := bindS hm; obtain ⟨q60, hm, hm60⟩ := hm; replace hm := iter_some hm; obtain ⟨n60, hm⟩ := hm
        refine c_loop (σ := Nat × Nat) (fun (m, i61) => [(1, .pointer (some ⟨b21, 0, none⟩)), (2, .pointer (some ⟨b24, 0, none⟩)), (4, .int .i64 ((i61 : Nat) : Int))]) (fun (m, i61) wl => iterN (g_r14_parts_L7 a0) m i61 = some q60 ∧ St NB w wl [blkR b21 [.int .i64 a0.Ticks, vp0_0, vp0_1, vp0_2, vp0_3, .int .i64 a0.Tries] 49, blkR b24 [.int .i64 0, .int .i64 0] 66]) (fun (m, i61) => m) (n60, 0) H ⟨rfl, rfl, rfl, trivial⟩ ⟨hm, hS⟩ ?_
        clear H hS hm a; intro xx a w62 H hR; obtain ⟨m, i61⟩ := xx; simp only [ent, List.map_cons, List.map_nil] at H; (try dsimp only at hR); obtain ⟨hm, hS⟩ := hR
        replace hm := iterN_step hm; obtain ⟨m60, o60, rfl, hm, hn60⟩ := hm; try dsimp only [g_r14_parts_L7] at hm
        refine wp_seq (wp_seq (wp_region_lit (n_q H (q_move rfl) rfl (W_q (q_fieldAddr0 rfl fo49_2) rfl (W_q (q_load rfl ((hS.blk 0 rfl).ld ag25 rfl)) rfl (W_q (q_lenV Tryz.underlying25 rfl hv52) rfl (W_q (q_lssN (i := i61) (j := a0.Homes.length) rfl rfl) rfl ?_))))))); clear H a; intro a H
        refine n_nil (then_normal (c_cond H rfl (fun hc63 => ?_) (fun hc63 => ?_)))
        · replace hm := condT hm hc63
          have hlt64 : i61 < a0.Homes.length := of_decide_eq_true hc63
          refine wp_skip (then_normal (wp_seq (wp_block ?_)))
          replace hm := bindS hm; obtain ⟨j65, hm, hm65⟩ := hm
          refine c_join (σ := Bool) H (fun q566 => [(1, .pointer (some ⟨b21, 0, none⟩)), (2, .pointer (some ⟨b24, 0, none⟩)), (4, .int .i64 ((i61 : Nat) : Int)), (70, .bool q566)]) (fun q566 wl => (g_r14_parts_J6 i61) q566 = some o60 ∧ St NB w wl [blkR b21 [.int .i64 a0.Ticks, vp0_0, vp0_1, vp0_2, vp0_3, .int .i64 a0.Tries] 49, blkR b24 [.int .i64 0, .int .i64 0] 66]) ?_ ?_
          · skip
            refine wp_region_lit (n_q H (q_fieldAddr0 rfl fo49_2) rfl (W_q (q_load rfl ((hS.blk 0 rfl).ld ag25 rfl)) rfl (W_q (q_move rfl) rfl ?_))); clear H a; intro a H
            replace hm := bindS hm; obtain ⟨x567, hx567, hm⟩ := hm
            obtain ⟨adx567, hAx567⟩ := SlR.adV (hrp0_1.ext (Flat.mono _) hS.x) hv52 hx567
            refine n_q H (q_ixV (i := i61) Tryz.underlying25 sz3 rfl hv52 hAx567 rfl (natI hx567)) rfl (W_q (q_load rfl (SlR.ldOneV (hrp0_1.ext (Flat.mono _) hS.x) hv52 hAx567 ag3 hx567 rfl)) rfl (W_q (q_neqD rfl rfl) rfl (W_q (q_move rfl) rfl ?_))); clear H a; intro a H
            rcases Bool.eq_false_or_eq_true (!decide (x567 = 0)) with hg568 | hg568
            · replace H := H.know 63 rfl hg568
              replace hm := condT hm hg568
              refine n_yes H rfl rfl (n_q H (q_fieldAddr0 rfl fo49_2) rfl (W_yes rfl rfl (W_q (q_load rfl ((hS.blk 0 rfl).ld ag25 rfl)) rfl (W_yes rfl rfl (W_q (q_move rfl) rfl (W_yes rfl rfl ?_)))))); clear H a; intro a H
              replace hm := bindS hm; obtain ⟨x569, hx569, hm⟩ := hm
              obtain ⟨adx569, hAx569⟩ := SlR.adV (hrp0_1.ext (Flat.mono _) hS.x) hv52 hx569
              refine n_q H (q_ixV (i := i61) Tryz.underlying25 sz3 rfl hv52 hAx569 rfl (natI hx569)) rfl (W_yes rfl rfl (W_q (q_load rfl (SlR.ldOneV (hrp0_1.ext (Flat.mono _) hS.x) hv52 hAx569 ag3 hx569 rfl)) rfl (W_yes rfl rfl (W_q (q_neqD rfl rfl) rfl (W_q (q_pickT rfl rfl) rfl ?_))))); clear H a; intro a H
              refine n_nil (then_normal ?_)
              obtain rfl := Option.some.inj hm; replace hm := hm65; try dsimp only at hm
              exact join (!decide (x569 = 1)) H ⟨rfl, rfl, rfl, rfl, trivial⟩ ⟨hm, hS⟩
            · replace H := H.know 63 rfl hg568
              replace hm := condF hm hg568
              refine n_no H rfl rfl (by decide) rfl (W_no rfl rfl (by decide) rfl (W_no rfl rfl (by decide) rfl (W_no rfl rfl (by decide) rfl (W_no rfl rfl (by decide) rfl (W_no rfl rfl (by decide) rfl (W_q (q_pickF rfl rfl) rfl ?_)))))); clear H a; intro a H
              refine n_nil (then_normal ?_)
              obtain rfl := Option.some.inj hm; replace hm := hm65; try dsimp only at hm
              exact join false H ⟨rfl, rfl, rfl, rfl, trivial⟩ ⟨hm, hS⟩
          · clear H hS hm a; intro q566 a w570 H hR
            simp only [ent, List.map_cons, List.map_nil] at H; (try dsimp only at hR); obtain ⟨hm, hS⟩ := hR; try dsimp only [g_r14_parts_J6] at hm
            refine c_cond H rfl (fun hc571 => ?_) (fun hc571 => ?_)
            · replace hm := condT hm hc571
              refine wp_seq (wp_region_lit (n_q H (q_move rfl) rfl (W_q (q_build (cs := [.int .i64 4, .int .i64 ((i61 : Nat) : Int)]) ze66 bd66 pl66 rfl (by kernel_rfl)) rfl ?_))); clear H a; intro a H
              replace hS := hS.pk1
              refine n_storeAll H rfl rfl (vs := [.int .i64 4, .int .i64 ((i61 : Nat) : Int)]) rfl sz66 (hS.blk 0 rfl) rfl (by simp) ?_
              clear H; intro w572 hN hC573 hz; clear a; intro a H; replace hS := hS.setBlk hN hC573; clear hN hz
              refine n_nil (then_normal (wp_ret (block_ret (then_ret (then_ret (block_ret (then_ret ?_)))))))
              obtain rfl := Option.some.inj hm; have hz : _ = q60 := hn60; subst hz; replace hm := hm60; try dsimp only at hm
              obtain rfl := Option.some.inj hm
              replace hS := hS.tk1
              refine retL H (.inr rfl) rfl (vs := [.agg #[.int .i64 4, .int .i64 ((i61 : Nat) : Int)]]) (resCell rfl ((hS.blk 0 rfl).ldAll ag66 sz66) resNil) ?_
              replace hS := hS.tk0
              exact ⟨rfl, hS.x⟩
            · replace hm := condF hm hc571
              refine wp_skip (block_normal (then_normal (wp_region_lit (n_q H (q_move rfl) rfl (W_q (q_incr (i := i61) (j := 1) rfl rfl (by omega)) rfl (W_q (q_assign rfl) rfl ?_)))))); clear H a; intro a H
              refine n_nil (then_normal ?_)
              obtain rfl := Option.some.inj hm
              exact round (m60, i61 + 1) H ⟨rfl, rfl, rfl, trivial⟩ ⟨hn60, hS⟩ (Nat.lt_succ_self _)
        · replace hm := condF hm hc63
          refine wp_exit (then_exit (then_exit (block_exit ?_)))
          obtain rfl := Option.some.inj hm; have hz : _ = q60 := hn60; subst hz; replace hm := hm60; try dsimp only at hm
          refine then_normal (wp_seq (wp_region_lit ?_))
          replace hm := bindS hm; obtain ⟨r574, hr574, hm⟩ := hm
          refine n_call H rfl en75 (g_r14_none_w (A := A) hr574) rfl ?_
          clear H; intro x577 w575 hv; clear a; intro a H; obtain ⟨rfl, hE576⟩ := hv
          replace hS := hS.ext hE576
          replace hS := hS.pk1
          refine n_storeAll H rfl rfl (vs := [.int .i64 r574.Code, .int .i64 r574.Place]) rfl sz66 (hS.blk 0 rfl) rfl (by simp) ?_
          clear H; intro w578 hN hC579 hz; clear a; intro a H; replace hS := hS.setBlk hN hC579; clear hN hz
          refine n_nil (then_normal (wp_ret ?_))
          obtain rfl := Option.some.inj hm
          replace hS := hS.tk1
          refine retL H (.inr rfl) rfl (vs := [.agg #[.int .i64 r574.Code, .int .i64 r574.Place]]) (resCell rfl ((hS.blk 0 rfl).ldAll ag66 sz66) resNil) ?_
          replace hS := hS.tk0
          exact ⟨rfl, hS.x⟩
theorem g_r14_count_w {w : World} {A : Nat → Addr} {cs0 : List Value} {a0 : GConfig} {a1 : Int} (h0 : RGConfig w cs0 a0) {r : Int} (hm : g_r14_count a0 a1 = some r) :
    Calls Tryz.prog 74 [.agg cs0.toArray, .int .i64 a1].toArray w (Ret fun u w' => u = .int .i64 r ∧ Ext w w') := by
  obtain ⟨vp0_0, vp0_1, vp0_2, vp0_3, rfl, hrp0_0, hrp0_1, hrp0_2, hrp0_3⟩ := h0
  have hS := St.begin NB w
  unfold g_r14_count at hm
  refine enter Tryz.func74 rfl rfl rfl ?_; intro a H; dsimp only [enumL, Nat.zero_add, Nat.reduceAdd] at H
  refine wp_seq (wp_region_lit (n_box H rfl (cs := [.int .i64 a0.Ticks, vp0_0, vp0_1, vp0_2, vp0_3, .int .i64 a0.Tries]) rfl rfl ?_))
  clear H; intro b21 w22 hN hE23 hs; clear a; intro a H
  replace hS := hS.newBlk hN hE23 hs; clear hN hs
  refine n_q H (q_assign rfl) rfl ?_; clear H a; intro a H
  refine n_nil (then_normal (wp_seq (wp_region_lit (n_q H (q_assign rfl) rfl ?_)))); clear H a; intro a H
  refine n_nil (then_normal (wp_seq (wp_seq (wp_region_lit (n_q H (q_assign rfl) rfl ?_))))); clear H a; intro a H
  refine n_nil (then_normal (wp_block ?_))
  replace hm := bindS hm; obtain ⟨q24, hm, hm24⟩ := hm; replace hm := iter_some hm; obtain ⟨n24, hm⟩ := hm
  refine c_loop (σ := Nat × Int × Nat) (fun (m, z27, i26) => [(1, .int .i64 a1), (2, .pointer (some ⟨b21, 0, none⟩)), (5, .int .i64 z27), (6, .int .i64 ((i26 : Nat) : Int))]) (fun (m, z27, i26) wl => iterN (g_r14_count_L5 a0 a1) m (z27, i26) = some q24 ∧ St NB w wl [blkR b21 [.int .i64 a0.Ticks, vp0_0, vp0_1, vp0_2, vp0_3, .int .i64 a0.Tries] 49]) (fun (m, z27, i26) => m) (n24, 0, 0) H ⟨rfl, rfl, rfl, rfl, trivial⟩ ⟨hm, hS⟩ ?_
  clear H hS hm a; intro xx a w28 H hR; obtain ⟨m, z27, i26⟩ := xx; simp only [ent, List.map_cons, List.map_nil] at H; (try dsimp only at hR); obtain ⟨hm, hS⟩ := hR
  replace hm := iterN_step hm; obtain ⟨m24, o24, rfl, hm, hn24⟩ := hm; try dsimp only [g_r14_count_L5] at hm
  refine wp_seq (wp_seq (wp_region_lit (n_q H (q_move rfl) rfl (W_q (q_fieldAddr0 rfl fo49_3) rfl (W_q (q_load rfl ((hS.blk 0 rfl).ld ag46 rfl)) rfl ?_))))); clear H a; intro a H
  obtain ⟨A29, c29, hv29, hl29, hm29⟩ := SlR.formV (hrp0_2.ext (Flat.mono _) hS.x)
  refine n_q H (q_lenV Tryz.underlying46 rfl hv29) rfl (W_q (q_lssN (i := i26) (j := a0.Windows.length) rfl rfl) rfl ?_); clear H a; intro a H
  refine n_nil (then_normal (c_cond H rfl (fun hc30 => ?_) (fun hc30 => ?_)))
  · replace hm := condT hm hc30
    have hlt31 : i26 < a0.Windows.length := of_decide_eq_true hc30
    refine wp_skip (then_normal ?_)
    replace hm := bindS hm; obtain ⟨j32, hm, hm32⟩ := hm
    refine c_join (σ := Int) H (fun z533 => [(1, .int .i64 a1), (2, .pointer (some ⟨b21, 0, none⟩)), (5, .int .i64 z533), (6, .int .i64 ((i26 : Nat) : Int))]) (fun z533 wl => (g_r14_count_J4 i26) z533 = some o24 ∧ St NB w wl [blkR b21 [.int .i64 a0.Ticks, vp0_0, vp0_1, vp0_2, vp0_3, .int .i64 a0.Tries] 49]) ?_ ?_
    · skip
      refine wp_block (wp_seq (wp_region_lit (n_q H (q_fieldAddr0 rfl fo49_3) rfl (W_q (q_load rfl ((hS.blk 0 rfl).ld ag46 rfl)) rfl (W_q (q_move rfl) rfl ?_))))); clear H a; intro a H
      replace hm := bindS hm; obtain ⟨x534, hx534, hm⟩ := hm
      obtain ⟨adx534, hAx534⟩ := SlR.adV (hrp0_2.ext (Flat.mono _) hS.x) hv29 hx534
      refine n_q H (q_ixV (i := i26) Tryz.underlying46 sz61 rfl hv29 hAx534 rfl (natI hx534)) rfl (W_q (q_fieldAddr rfl fo61_0) rfl (W_q (q_load rfl (SlR.ldCellV (j := 0) (hrp0_2.ext (Flat.mono _) hS.x) hv29 hAx534 ag3 hx534 rfl)) rfl (W_q (q_move rfl) rfl (W_q (q_eqlD rfl rfl) rfl ?_)))); clear H a; intro a H
      refine n_nil (then_normal (c_cond H rfl (fun hc535 => ?_) (fun hc535 => ?_)))
      · replace hm := condT hm hc535
        refine wp_region_lit (n_q H (q_move rfl) rfl (W_q (q_addW rfl rfl) rfl (W_q (q_assign rfl) rfl ?_))); clear H a; intro a H
        refine n_nil (block_normal (then_normal ?_))
        obtain rfl := Option.some.inj hm; replace hm := hm32; try dsimp only at hm
        exact join (IntKind.i64.wrap (z27 + 1)) H ⟨rfl, rfl, rfl, rfl, trivial⟩ ⟨hm, hS⟩
      · replace hm := condF hm hc535
        refine wp_skip (block_normal (then_normal ?_))
        obtain rfl := Option.some.inj hm; replace hm := hm32; try dsimp only at hm
        exact join z27 H ⟨rfl, rfl, rfl, rfl, trivial⟩ ⟨hm, hS⟩
    · clear H hS hm a; intro z533 a w536 H hR
      simp only [ent, List.map_cons, List.map_nil] at H; (try dsimp only at hR); obtain ⟨hm, hS⟩ := hR; try dsimp only [g_r14_count_J4] at hm
      refine wp_region_lit (n_q H (q_move rfl) rfl (W_q (q_incr (i := i26) (j := 1) rfl rfl (by omega)) rfl (W_q (q_assign rfl) rfl ?_))); clear H a; intro a H
      refine n_nil (then_normal ?_)
      obtain rfl := Option.some.inj hm
      exact round (m24, z533, i26 + 1) H ⟨rfl, rfl, rfl, rfl, trivial⟩ ⟨hn24, hS⟩ (Nat.lt_succ_self _)
  · replace hm := condF hm hc30
    refine wp_exit (then_exit (then_exit (block_exit ?_)))
    obtain rfl := Option.some.inj hm; have hz : _ = q24 := hn24; subst hz; replace hm := hm24; try dsimp only at hm
    refine then_normal (wp_seq (wp_region_lit (n_q H (q_move rfl) rfl (W_q (q_assign rfl) rfl ?_)))); clear H a; intro a H
    refine n_nil (then_normal (wp_ret ?_))
    obtain rfl := Option.some.inj hm
    replace hS := hS.tk0
    refine ret1 H (.inr rfl) rfl rfl ?_
    exact ⟨rfl, hS.x⟩
theorem g_r14_owner_w {w : World} {A : Nat → Addr} {cs0 : List Value} {a0 : GConfig} {a1 : Int} (h0 : RGConfig w cs0 a0) {r : Bool} (hm : g_r14_owner a0 a1 = some r) :
    Calls Tryz.prog 76 [.agg cs0.toArray, .int .i64 a1].toArray w (Ret fun u w' => u = .bool r ∧ Ext w w') := by
  obtain ⟨vp0_0, vp0_1, vp0_2, vp0_3, rfl, hrp0_0, hrp0_1, hrp0_2, hrp0_3⟩ := h0
  have hS := St.begin NB w
  unfold g_r14_owner at hm
  refine enter Tryz.func76 rfl rfl rfl ?_; intro a H; dsimp only [enumL, Nat.zero_add, Nat.reduceAdd] at H
  refine wp_seq (wp_region_lit (n_box H rfl (cs := [.int .i64 a0.Ticks, vp0_0, vp0_1, vp0_2, vp0_3, .int .i64 a0.Tries]) rfl rfl ?_))
  clear H; intro b21 w22 hN hE23 hs; clear a; intro a H
  replace hS := hS.newBlk hN hE23 hs; clear hN hs
  refine n_q H (q_assign rfl) rfl ?_; clear H a; intro a H
  refine n_nil (then_normal (wp_seq (wp_region_lit (n_c H (fun HC => ?_))))); clear H
  refine nc_q HC (q_move rfl) rfl (by kernel_rfl) (V_q (q_geq rfl rfl) rfl (by kernel_rfl) (V_q (q_move rfl) rfl (by kernel_rfl) (V_g (q_move rfl) (by kernel_rfl) (by kernel_rfl) (by kernel_rfl) (V_g (q_fieldAddr0 rfl fo49_1) (by kernel_rfl) (by kernel_rfl) (by kernel_rfl) (V_g (q_load rfl ((hS.blk 0 rfl).ld ag45 rfl)) (by kernel_rfl) (by kernel_rfl) (by kernel_rfl) ?_))))); clear HC a; intro a HC
  obtain ⟨A24, c24, hv24, hl24, hm24⟩ := SlR.formV (hrp0_0.ext RGPlan.mono hS.x)
  refine nc_g HC (q_lenV Tryz.underlying45 rfl hv24) (by kernel_rfl) (by kernel_rfl) (by kernel_rfl) (V_g (q_lss rfl rfl) (by kernel_rfl) (by kernel_rfl) (by kernel_rfl) (V_and (j := 2) rfl rfl rfl (by kernel_rfl) (by kernel_rfl) (V_q (q_assign rfl) rfl (by kernel_rfl) ?_))); clear HC a; intro a HC
  have H := HC.has; clear HC
  refine n_nil (then_normal (wp_ret ?_))
  obtain rfl := Option.some.inj hm
  replace hS := hS.tk0
  refine ret1 H (.inr rfl) rfl rfl ?_
  exact ⟨rfl, hS.x⟩
theorem g_r14_windows_w {w : World} {A : Nat → Addr} {cs0 : List Value} {a0 : GConfig} (h0 : RGConfig w cs0 a0) {r : GR14Err} (hm : g_r14_windows a0 = some r) :
    Calls Tryz.prog 72 [.agg cs0.toArray].toArray w (Ret fun u w' => u = .agg (eGR14Err r).toArray ∧ Ext w w') := by
  obtain ⟨vp0_0, vp0_1, vp0_2, vp0_3, rfl, hrp0_0, hrp0_1, hrp0_2, hrp0_3⟩ := h0
  have hS := St.begin NB w
  unfold g_r14_windows at hm
  refine enter Tryz.func72 rfl rfl rfl ?_; intro a H; dsimp only [enumL, Nat.zero_add, Nat.reduceAdd] at H
  refine wp_seq (wp_region_lit (n_box H rfl (cs := [.int .i64 a0.Ticks, vp0_0, vp0_1, vp0_2, vp0_3, .int .i64 a0.Tries]) rfl rfl ?_))
  clear H; intro b21 w22 hN hE23 hs; clear a; intro a H
  replace hS := hS.newBlk hN hE23 hs; clear hN hs
  refine n_alloc H ze66 rfl ?_
  clear H; intro b24 w25 hN hE26 hs; clear a; intro a H
  replace hS := hS.newBlk hN hE26 hs; clear hN hs
  refine n_nil (then_normal (wp_seq (wp_seq (wp_region_lit (n_q H (q_fieldAddr0 rfl fo49_3) rfl (W_q (q_load rfl ((hS.blk 1 rfl).ld ag46 rfl)) rfl ?_)))))); clear H a; intro a H
  obtain ⟨A27, c27, hv27, hl27, hm27⟩ := SlR.formV (hrp0_2.ext (Flat.mono _) hS.x)
  refine n_q H (q_lenV Tryz.underlying46 rfl hv27) rfl (W_q (q_gtrN (i := a0.Windows.length) (j := 32) rfl rfl) rfl ?_); clear H a; intro a H
  refine n_nil (then_normal (c_cond H rfl (fun hc28 => ?_) (fun hc28 => ?_)))
  · replace hm := condT hm hc28
    refine wp_seq (wp_region_lit ?_)
    replace hm := bindS hm; obtain ⟨r29, hr29, hm⟩ := hm
    refine n_call H rfl en70 (g_r14_bad_w (A := A) hr29) rfl ?_
    clear H; intro x32 w30 hv; clear a; intro a H; obtain ⟨rfl, hE31⟩ := hv
    replace hS := hS.ext hE31
    refine n_storeAll H rfl rfl (vs := [.int .i64 r29.Code, .int .i64 r29.Place]) rfl sz66 (hS.blk 0 rfl) rfl (by simp) ?_
    clear H; intro w33 hN hC34 hz; clear a; intro a H; replace hS := hS.setBlk hN hC34; clear hN hz
    refine n_nil (then_normal (wp_ret (then_ret ?_)))
    obtain rfl := Option.some.inj hm
    replace hS := hS.tk1
    refine retL H (.inr rfl) rfl (vs := [.agg #[.int .i64 r29.Code, .int .i64 r29.Place]]) (resCell rfl ((hS.blk 0 rfl).ldAll ag66 sz66) resNil) ?_
    replace hS := hS.tk0
    exact ⟨rfl, hS.x⟩
  · replace hm := condF hm hc28
    refine wp_skip (then_normal (wp_seq (wp_seq (wp_region_lit (n_q H (q_assign rfl) rfl ?_))))); clear H a; intro a H
    refine n_nil (then_normal (wp_block ?_))
    replace hS := hS.pk1
    replace hm := bindS hm; obtain ⟨q35, hm, hm35⟩ := hm; replace hm := iter_some hm; obtain ⟨n35, hm⟩ := hm
    refine c_loop (σ := Nat × Nat) (fun (m, i36) => [(1, .pointer (some ⟨b21, 0, none⟩)), (2, .pointer (some ⟨b24, 0, none⟩)), (3, .int .i64 ((i36 : Nat) : Int))]) (fun (m, i36) wl => iterN (g_r14_windows_L6 a0) m i36 = some q35 ∧ St NB w wl [blkR b21 [.int .i64 a0.Ticks, vp0_0, vp0_1, vp0_2, vp0_3, .int .i64 a0.Tries] 49, blkR b24 [.int .i64 0, .int .i64 0] 66]) (fun (m, i36) => m) (n35, 0) H ⟨rfl, rfl, rfl, trivial⟩ ⟨hm, hS⟩ ?_
    clear H hS hm a; intro xx a w37 H hR; obtain ⟨m, i36⟩ := xx; simp only [ent, List.map_cons, List.map_nil] at H; (try dsimp only at hR); obtain ⟨hm, hS⟩ := hR
    replace hm := iterN_step hm; obtain ⟨m35, o35, rfl, hm, hn35⟩ := hm; try dsimp only [g_r14_windows_L6] at hm
    refine wp_seq (wp_seq (wp_region_lit (n_q H (q_move rfl) rfl (W_q (q_fieldAddr0 rfl fo49_3) rfl (W_q (q_load rfl ((hS.blk 0 rfl).ld ag46 rfl)) rfl (W_q (q_lenV Tryz.underlying46 rfl hv27) rfl (W_q (q_lssN (i := i36) (j := a0.Windows.length) rfl rfl) rfl ?_))))))); clear H a; intro a H
    refine n_nil (then_normal (c_cond H rfl (fun hc38 => ?_) (fun hc38 => ?_)))
    · replace hm := condT hm hc38
      have hlt39 : i36 < a0.Windows.length := of_decide_eq_true hc38
      refine wp_skip (then_normal (wp_seq (wp_block (wp_seq (wp_region_lit (n_q H (q_fieldAddr0 rfl fo49_3) rfl (W_q (q_load rfl ((hS.blk 0 rfl).ld ag46 rfl)) rfl (W_q (q_move rfl) rfl ?_)))))))); clear H a; intro a H
      replace hm := bindS hm; obtain ⟨x40, hx40, hm⟩ := hm
      obtain ⟨adx40, hAx40⟩ := SlR.adV (hrp0_2.ext (Flat.mono _) hS.x) hv27 hx40
      refine n_q H (q_ixV (i := i36) Tryz.underlying46 sz61 rfl hv27 hAx40 rfl (natI hx40)) rfl (W_q (q_load rfl (SlR.ldAggV (hrp0_2.ext (Flat.mono _) hS.x) hv27 hAx40 ag61 sz61 hx40)) rfl ?_); clear H a; intro a H
      refine n_alloc H ze61 rfl ?_
      clear H; intro b41 w42 hN hE43 hs; clear a; intro a H
      replace hS := hS.newBlk hN hE43 hs; clear hN hs
      refine n_storeAll H rfl rfl (vs := [.int .i64 x40.Part, .int .i64 x40.Start, .int .i64 x40.Len]) rfl sz61 (hS.blk 0 rfl) rfl (by simp) ?_
      clear H; intro w44 hN hC45 hz; clear a; intro a H; replace hS := hS.setBlk hN hC45; clear hN hz
      refine n_nil (then_normal (wp_seq (wp_seq (wp_region_lit (n_q H (q_load rfl ((hS.blk 1 rfl).ldAll ag49 sz49)) rfl (W_q (q_fieldAddr0 rfl fo61_0) rfl (W_q (q_load rfl ((hS.blk 0 rfl).ld ag3 rfl)) rfl ?_))))))); clear H a; intro a H
      replace hm := bindS hm; obtain ⟨r46, hr46, hm⟩ := hm
      refine n_call H rfl en76 (g_r14_owner_w (A := A) (⟨_, _, _, _, rfl, (hrp0_0.ext RGPlan.mono hS.x), (hrp0_1.ext (Flat.mono _) hS.x), (hrp0_2.ext (Flat.mono _) hS.x), (hrp0_3.ext (Flat.mono _) hS.x)⟩ : RGConfig _ [.int .i64 a0.Ticks, vp0_0, vp0_1, vp0_2, vp0_3, .int .i64 a0.Tries] a0) hr46) rfl ?_
      clear H; intro x49 w47 hv; clear a; intro a H; obtain ⟨rfl, hE48⟩ := hv
      replace hS := hS.ext hE48
      refine n_q H (q_not rfl) rfl ?_; clear H a; intro a H
      refine n_nil (then_normal (c_cond H rfl (fun hc50 => ?_) (fun hc50 => ?_)))
      · replace hm := condT hm hc50
        refine wp_seq (wp_region_lit (n_q H (q_move rfl) rfl (W_q (q_build (cs := [.int .i64 12, .int .i64 ((i36 : Nat) : Int)]) ze66 bd66 pl66 rfl (by kernel_rfl)) rfl ?_))); clear H a; intro a H
        replace hS := hS.pk2
        refine n_storeAll H rfl rfl (vs := [.int .i64 12, .int .i64 ((i36 : Nat) : Int)]) rfl sz66 (hS.blk 0 rfl) rfl (by simp) ?_
        clear H; intro w51 hN hC52 hz; clear a; intro a H; replace hS := hS.setBlk hN hC52; clear hN hz
        refine n_nil (then_normal (wp_ret (then_ret (block_ret (then_ret (then_ret (block_ret (then_ret ?_))))))))
        obtain rfl := Option.some.inj hm; have hz : _ = q35 := hn35; subst hz; replace hm := hm35; try dsimp only at hm
        obtain rfl := Option.some.inj hm
        replace hS := hS.tk1
        refine retL H (.inr rfl) rfl (vs := [.agg #[.int .i64 12, .int .i64 ((i36 : Nat) : Int)]]) (resCell rfl ((hS.blk 0 rfl).ldAll ag66 sz66) resNil) ?_
        replace hS := hS.tk0
        exact ⟨rfl, hS.x⟩
      · replace hm := condF hm hc50
        refine wp_skip (then_normal (wp_seq (wp_seq (wp_region_lit (n_c H (fun HC => ?_)))))); clear H
        refine nc_q HC (q_fieldAddr0 rfl fo61_1) rfl (by kernel_rfl) (V_q (q_load rfl ((hS.blk 0 rfl).ld ag3 rfl)) rfl (by kernel_rfl) (V_q (q_lss rfl rfl) rfl (by kernel_rfl) (V_q (q_move rfl) rfl (by kernel_rfl) (V_g (q_fieldAddr0 rfl fo61_2) (by kernel_rfl) (by kernel_rfl) (by kernel_rfl) (V_g (q_load rfl ((hS.blk 0 rfl).ld ag3 rfl)) (by kernel_rfl) (by kernel_rfl) (by kernel_rfl) (V_g (q_lss rfl rfl) (by kernel_rfl) (by kernel_rfl) (by kernel_rfl) (V_or (j := 3) rfl rfl rfl (by kernel_rfl) (by kernel_rfl) (V_q (q_move rfl) rfl (by kernel_rfl) (V_g (q_fieldAddr0 rfl fo61_1) (by kernel_rfl) (by kernel_rfl) (by kernel_rfl) (V_g (q_load rfl ((hS.blk 0 rfl).ld ag3 rfl)) (by kernel_rfl) (by kernel_rfl) (by kernel_rfl) (V_g (q_fieldAddr0 rfl fo49_0) (by kernel_rfl) (by kernel_rfl) (by kernel_rfl) ?_))))))))))); clear HC a; intro a HC
        refine nc_g HC (q_load rfl ((hS.blk 1 rfl).ld ag3 rfl)) (by kernel_rfl) (by kernel_rfl) (by kernel_rfl) (V_g (q_geq rfl rfl) (by kernel_rfl) (by kernel_rfl) (by kernel_rfl) (V_or (j := 8) rfl rfl rfl (by kernel_rfl) (by kernel_rfl) (V_q (q_move rfl) rfl (by kernel_rfl) (V_g (q_fieldAddr0 rfl fo61_2) (by kernel_rfl) (by kernel_rfl) (by kernel_rfl) (V_g (q_load rfl ((hS.blk 0 rfl).ld ag3 rfl)) (by kernel_rfl) (by kernel_rfl) (by kernel_rfl) (V_g (q_fieldAddr0 rfl fo49_0) (by kernel_rfl) (by kernel_rfl) (by kernel_rfl) (V_g (q_load rfl ((hS.blk 1 rfl).ld ag3 rfl)) (by kernel_rfl) (by kernel_rfl) (by kernel_rfl) (V_g (q_fieldAddr0 rfl fo61_1) (by kernel_rfl) (by kernel_rfl) (by kernel_rfl) (V_g (q_load rfl ((hS.blk 0 rfl).ld ag3 rfl)) (by kernel_rfl) (by kernel_rfl) (by kernel_rfl) (V_g (q_subW rfl rfl) (by kernel_rfl) (by kernel_rfl) (by kernel_rfl) (V_g (q_gtr rfl rfl) (by kernel_rfl) (by kernel_rfl) (by kernel_rfl) ?_))))))))))); clear HC a; intro a HC
        refine nc_or (j := 15) HC rfl rfl rfl (by kernel_rfl) (by kernel_rfl) ?_; clear HC a; intro a HC
        have H := HC.has; clear HC
        refine n_nil (then_normal (c_cond H rfl (fun hc53 => ?_) (fun hc53 => ?_)))
        · replace hm := condT hm hc53
          refine wp_seq (wp_region_lit (n_q H (q_move rfl) rfl (W_q (q_build (cs := [.int .i64 4, .int .i64 ((i36 : Nat) : Int)]) ze66 bd66 pl66 rfl (by kernel_rfl)) rfl ?_))); clear H a; intro a H
          replace hS := hS.pk2
          refine n_storeAll H rfl rfl (vs := [.int .i64 4, .int .i64 ((i36 : Nat) : Int)]) rfl sz66 (hS.blk 0 rfl) rfl (by simp) ?_
          clear H; intro w54 hN hC55 hz; clear a; intro a H; replace hS := hS.setBlk hN hC55; clear hN hz
          refine n_nil (then_normal (wp_ret (then_ret (block_ret (then_ret (then_ret (block_ret (then_ret ?_))))))))
          obtain rfl := Option.some.inj hm; have hz : _ = q35 := hn35; subst hz; replace hm := hm35; try dsimp only at hm
          obtain rfl := Option.some.inj hm
          replace hS := hS.tk1
          refine retL H (.inr rfl) rfl (vs := [.agg #[.int .i64 4, .int .i64 ((i36 : Nat) : Int)]]) (resCell rfl ((hS.blk 0 rfl).ldAll ag66 sz66) resNil) ?_
          replace hS := hS.tk0
          exact ⟨rfl, hS.x⟩
        · replace hm := condF hm hc53
          refine wp_skip (then_normal ?_)
          replace hm := bindS hm; obtain ⟨j56, hm, hm56⟩ := hm
          refine c_join (σ := Bool) H (fun q557 => [(1, .pointer (some ⟨b21, 0, none⟩)), (2, .pointer (some ⟨b24, 0, none⟩)), (3, .int .i64 ((i36 : Nat) : Int)), (78, .bool q557)]) (fun q557 wl => (g_r14_windows_J4 i36) q557 = some o35 ∧ St NB w wl [blkR b21 [.int .i64 a0.Ticks, vp0_0, vp0_1, vp0_2, vp0_3, .int .i64 a0.Tries] 49, blkR b24 [.int .i64 0, .int .i64 0] 66]) ?_ ?_
          · skip
            refine c_quiet (by kernel_rfl) (by kernel_rfl) ?_
            refine qq_q H (q_move rfl) rfl ?_; clear H a; intro a H
            refine qq_q H (q_gtrN (i := i36) (j := 0) rfl rfl) rfl ?_; clear H a; intro a H
            refine qq_q H (q_move rfl) rfl ?_; clear H a; intro a H
            rcases Bool.eq_false_or_eq_true (decide (0 < i36)) with hg558 | hg558
            · replace H := H.know 59 rfl hg558
              replace hm := condT hm hg558
              refine qq_yes H rfl rfl ?_
              refine qq_q H (q_fieldAddr0 rfl fo61_1) rfl ?_; clear H a; intro a H
              refine qq_yes H rfl rfl ?_
              refine qq_q H (q_load rfl ((hS.blk 0 rfl).ld ag3 rfl)) rfl ?_; clear H a; intro a H
              refine qq_yes H rfl rfl ?_
              refine qq_q H (q_fieldAddr0 rfl fo49_3) rfl ?_; clear H a; intro a H
              refine qq_yes H rfl rfl ?_
              refine qq_q H (q_load rfl ((hS.blk 1 rfl).ld ag46 rfl)) rfl ?_; clear H a; intro a H
              refine qq_yes H rfl rfl ?_
              refine qq_q H (q_move rfl) rfl ?_; clear H a; intro a H
              refine qq_yes H rfl rfl ?_
              refine qq_q H (q_subW rfl rfl) rfl ?_; clear H a; intro a H
              refine qq_yes H rfl rfl ?_
              replace hm := bindS hm; obtain ⟨x559, hx559, hm⟩ := hm
              obtain ⟨h0x559, h1x559, hxx559⟩ := rdI_some hx559
              obtain ⟨adx559, hAx559⟩ := SlR.adV (hrp0_2.ext (Flat.mono _) hS.x) hv27 hxx559
              refine qq_q H (q_ixVI Tryz.underlying46 sz61 rfl hv27 hAx559 rfl h0x559 h1x559) rfl ?_; clear H a; intro a H
              refine qq_yes H rfl rfl ?_
              refine qq_q H (q_fieldAddr rfl fo61_1) rfl ?_; clear H a; intro a H
              refine qq_yes H rfl rfl ?_
              refine qq_q H (q_load rfl (SlR.ldCellV (j := 1) (hrp0_2.ext (Flat.mono _) hS.x) hv27 hAx559 ag3 hxx559 rfl)) rfl ?_; clear H a; intro a H
              refine qq_yes H rfl rfl ?_
              refine qq_q H (q_fieldAddr0 rfl fo49_3) rfl ?_; clear H a; intro a H
              refine qq_yes H rfl rfl ?_
              refine qq_q H (q_load rfl ((hS.blk 1 rfl).ld ag46 rfl)) rfl ?_; clear H a; intro a H
              refine qq_yes H rfl rfl ?_
              refine qq_q H (q_move rfl) rfl ?_; clear H a; intro a H
              refine qq_yes H rfl rfl ?_
              refine qq_q H (q_subW rfl rfl) rfl ?_; clear H a; intro a H
              refine qq_yes H rfl rfl ?_
              replace hm := bindS hm; obtain ⟨x560, hx560, hm⟩ := hm
              obtain ⟨h0x560, h1x560, hxx560⟩ := rdI_some hx560
              obtain ⟨adx560, hAx560⟩ := SlR.adV (hrp0_2.ext (Flat.mono _) hS.x) hv27 hxx560
              refine qq_q H (q_ixVI Tryz.underlying46 sz61 rfl hv27 hAx560 rfl h0x560 h1x560) rfl ?_; clear H a; intro a H
              refine qq_yes H rfl rfl ?_
              refine qq_q H (q_fieldAddr rfl fo61_2) rfl ?_; clear H a; intro a H
              refine qq_yes H rfl rfl ?_
              refine qq_q H (q_load rfl (SlR.ldCellV (j := 2) (hrp0_2.ext (Flat.mono _) hS.x) hv27 hAx560 ag3 hxx560 rfl)) rfl ?_; clear H a; intro a H
              refine qq_yes H rfl rfl ?_
              refine qq_q H (q_addW rfl rfl) rfl ?_; clear H a; intro a H
              refine qq_yes H rfl rfl ?_
              refine qq_q H (q_lss rfl rfl) rfl ?_; clear H a; intro a H
              refine qq_q H (q_pickT rfl rfl) rfl ?_; clear H a; intro a H
              refine qq_nil ?_; intro w561 hE562
              replace hS := hS.ext hE562
              refine then_normal ?_
              obtain rfl := Option.some.inj hm; replace hm := hm56; try dsimp only at hm
              replace hS := hS.pk2
              replace hS := hS.pk2
              replace hS := hS.tk2
              exact join (decide (x40.Start < (IntKind.i64.wrap (x559.Start + x560.Len)))) H ⟨rfl, rfl, rfl, rfl, trivial⟩ ⟨hm, hS⟩
            · replace H := H.know 59 rfl hg558
              replace hm := condF hm hg558
              refine qq_no H rfl rfl (by decide) rfl ?_; clear H a; intro a H
              refine qq_no H rfl rfl (by decide) rfl ?_; clear H a; intro a H
              refine qq_no H rfl rfl (by decide) rfl ?_; clear H a; intro a H
              refine qq_no H rfl rfl (by decide) rfl ?_; clear H a; intro a H
              refine qq_no H rfl rfl (by decide) rfl ?_; clear H a; intro a H
              refine qq_no H rfl rfl (by decide) rfl ?_; clear H a; intro a H
              refine qq_no H rfl rfl (by decide) rfl ?_; clear H a; intro a H
              refine qq_no H rfl rfl (by decide) rfl ?_; clear H a; intro a H
              refine qq_no H rfl rfl (by decide) rfl ?_; clear H a; intro a H
              refine qq_no H rfl rfl (by decide) rfl ?_; clear H a; intro a H
              refine qq_no H rfl rfl (by decide) rfl ?_; clear H a; intro a H
              refine qq_no H rfl rfl (by decide) rfl ?_; clear H a; intro a H
              refine qq_no H rfl rfl (by decide) rfl ?_; clear H a; intro a H
              refine qq_no H rfl rfl (by decide) rfl ?_; clear H a; intro a H
              refine qq_no H rfl rfl (by decide) rfl ?_; clear H a; intro a H
              refine qq_no H rfl rfl (by decide) rfl ?_; clear H a; intro a H
              refine qq_no H rfl rfl (by decide) rfl ?_; clear H a; intro a H
              refine qq_no H rfl rfl (by decide) rfl ?_; clear H a; intro a H
              refine qq_q H (q_pickF rfl rfl) rfl ?_; clear H a; intro a H
              refine qq_nil ?_; intro w563 hE564
              replace hS := hS.ext hE564
              refine then_normal ?_
              obtain rfl := Option.some.inj hm; replace hm := hm56; try dsimp only at hm
              replace hS := hS.pk2
              replace hS := hS.pk2
              replace hS := hS.tk2
              exact join false H ⟨rfl, rfl, rfl, rfl, trivial⟩ ⟨hm, hS⟩
          · clear H hS hm a; intro q557 a w565 H hR
            simp only [ent, List.map_cons, List.map_nil] at H; (try dsimp only at hR); obtain ⟨hm, hS⟩ := hR; try dsimp only [g_r14_windows_J4] at hm
            refine c_cond H rfl (fun hc566 => ?_) (fun hc566 => ?_)
            · replace hm := condT hm hc566
              refine wp_seq (wp_region_lit (n_q H (q_move rfl) rfl (W_q (q_build (cs := [.int .i64 14, .int .i64 ((i36 : Nat) : Int)]) ze66 bd66 pl66 rfl (by kernel_rfl)) rfl ?_))); clear H a; intro a H
              replace hS := hS.pk1
              refine n_storeAll H rfl rfl (vs := [.int .i64 14, .int .i64 ((i36 : Nat) : Int)]) rfl sz66 (hS.blk 0 rfl) rfl (by simp) ?_
              clear H; intro w567 hN hC568 hz; clear a; intro a H; replace hS := hS.setBlk hN hC568; clear hN hz
              refine n_nil (then_normal (wp_ret (block_ret (then_ret (then_ret (block_ret (then_ret ?_)))))))
              obtain rfl := Option.some.inj hm; have hz : _ = q35 := hn35; subst hz; replace hm := hm35; try dsimp only at hm
              obtain rfl := Option.some.inj hm
              replace hS := hS.tk1
              refine retL H (.inr rfl) rfl (vs := [.agg #[.int .i64 14, .int .i64 ((i36 : Nat) : Int)]]) (resCell rfl ((hS.blk 0 rfl).ldAll ag66 sz66) resNil) ?_
              replace hS := hS.tk0
              exact ⟨rfl, hS.x⟩
            · replace hm := condF hm hc566
              refine wp_skip (block_normal (then_normal (wp_region_lit (n_q H (q_move rfl) rfl (W_q (q_incr (i := i36) (j := 1) rfl rfl (by omega)) rfl (W_q (q_assign rfl) rfl ?_)))))); clear H a; intro a H
              refine n_nil (then_normal ?_)
              obtain rfl := Option.some.inj hm
              exact round (m35, i36 + 1) H ⟨rfl, rfl, rfl, trivial⟩ ⟨hn35, hS⟩ (Nat.lt_succ_self _)
    · replace hm := condF hm hc38
      refine wp_exit (then_exit (then_exit (block_exit ?_)))
      obtain rfl := Option.some.inj hm; have hz : _ = q35 := hn35; subst hz; replace hm := hm35; try dsimp only at hm
      refine then_normal (wp_seq (wp_seq (wp_region_lit (n_q H (q_assign rfl) rfl ?_)))); clear H a; intro a H
      refine n_nil (then_normal (wp_block ?_))
      replace hm := bindS hm; obtain ⟨q569, hm, hm569⟩ := hm; replace hm := iter_some hm; obtain ⟨n569, hm⟩ := hm
      refine c_loop (σ := Nat × Nat) (fun (m, i570) => [(1, .pointer (some ⟨b21, 0, none⟩)), (2, .pointer (some ⟨b24, 0, none⟩)), (5, .int .i64 ((i570 : Nat) : Int))]) (fun (m, i570) wl => iterN (g_r14_windows_L5 a0) m i570 = some q569 ∧ St NB w wl [blkR b21 [.int .i64 a0.Ticks, vp0_0, vp0_1, vp0_2, vp0_3, .int .i64 a0.Tries] 49, blkR b24 [.int .i64 0, .int .i64 0] 66]) (fun (m, i570) => m) (n569, 0) H ⟨rfl, rfl, rfl, trivial⟩ ⟨hm, hS⟩ ?_
      clear H hS hm a; intro xx a w571 H hR; obtain ⟨m, i570⟩ := xx; simp only [ent, List.map_cons, List.map_nil] at H; (try dsimp only at hR); obtain ⟨hm, hS⟩ := hR
      replace hm := iterN_step hm; obtain ⟨m569, o569, rfl, hm, hn569⟩ := hm; try dsimp only [g_r14_windows_L5] at hm
      refine wp_seq (wp_seq (wp_region_lit (n_q H (q_move rfl) rfl (W_q (q_fieldAddr0 rfl fo49_1) rfl (W_q (q_load rfl ((hS.blk 0 rfl).ld ag45 rfl)) rfl ?_))))); clear H a; intro a H
      obtain ⟨A572, c572, hv572, hl572, hm572⟩ := SlR.formV (hrp0_0.ext RGPlan.mono hS.x)
      refine n_q H (q_lenV Tryz.underlying45 rfl hv572) rfl (W_q (q_lssN (i := i570) (j := a0.Parts.length) rfl rfl) rfl ?_); clear H a; intro a H
      refine n_nil (then_normal (c_cond H rfl (fun hc573 => ?_) (fun hc573 => ?_)))
      · replace hm := condT hm hc573
        have hlt574 : i570 < a0.Parts.length := of_decide_eq_true hc573
        refine wp_skip (then_normal (wp_seq (wp_block (wp_seq (wp_region_lit (n_q H (q_load rfl ((hS.blk 0 rfl).ldAll ag49 sz49)) rfl (W_q (q_move rfl) rfl ?_))))))); clear H a; intro a H
        replace hm := bindS hm; obtain ⟨r575, hr575, hm⟩ := hm
        refine n_call H rfl en74 (g_r14_count_w (A := A) (⟨_, _, _, _, rfl, (hrp0_0.ext RGPlan.mono hS.x), (hrp0_1.ext (Flat.mono _) hS.x), (hrp0_2.ext (Flat.mono _) hS.x), (hrp0_3.ext (Flat.mono _) hS.x)⟩ : RGConfig _ [.int .i64 a0.Ticks, vp0_0, vp0_1, vp0_2, vp0_3, .int .i64 a0.Tries] a0) hr575) rfl ?_
        clear H; intro x578 w576 hv; clear a; intro a H; obtain ⟨rfl, hE577⟩ := hv
        replace hS := hS.ext hE577
        refine n_q H (q_eqlD rfl rfl) rfl ?_; clear H a; intro a H
        refine n_nil (then_normal (c_cond H rfl (fun hc579 => ?_) (fun hc579 => ?_)))
        · replace hm := condT hm hc579
          refine wp_seq (wp_region_lit (n_q H (q_move rfl) rfl (W_q (q_build (cs := [.int .i64 17, .int .i64 ((i570 : Nat) : Int)]) ze66 bd66 pl66 rfl (by kernel_rfl)) rfl ?_))); clear H a; intro a H
          replace hS := hS.pk1
          refine n_storeAll H rfl rfl (vs := [.int .i64 17, .int .i64 ((i570 : Nat) : Int)]) rfl sz66 (hS.blk 0 rfl) rfl (by simp) ?_
          clear H; intro w580 hN hC581 hz; clear a; intro a H; replace hS := hS.setBlk hN hC581; clear hN hz
          refine n_nil (then_normal (wp_ret (block_ret (then_ret (then_ret (block_ret (then_ret ?_)))))))
          obtain rfl := Option.some.inj hm; have hz : _ = q569 := hn569; subst hz; replace hm := hm569; try dsimp only at hm
          obtain rfl := Option.some.inj hm
          replace hS := hS.tk1
          refine retL H (.inr rfl) rfl (vs := [.agg #[.int .i64 17, .int .i64 ((i570 : Nat) : Int)]]) (resCell rfl ((hS.blk 0 rfl).ldAll ag66 sz66) resNil) ?_
          replace hS := hS.tk0
          exact ⟨rfl, hS.x⟩
        · replace hm := condF hm hc579
          refine wp_skip (block_normal (then_normal (wp_region_lit (n_q H (q_move rfl) rfl (W_q (q_incr (i := i570) (j := 1) rfl rfl (by omega)) rfl (W_q (q_assign rfl) rfl ?_)))))); clear H a; intro a H
          refine n_nil (then_normal ?_)
          obtain rfl := Option.some.inj hm
          exact round (m569, i570 + 1) H ⟨rfl, rfl, rfl, trivial⟩ ⟨hn569, hS⟩ (Nat.lt_succ_self _)
      · replace hm := condF hm hc573
        refine wp_exit (then_exit (then_exit (block_exit ?_)))
        obtain rfl := Option.some.inj hm; have hz : _ = q569 := hn569; subst hz; replace hm := hm569; try dsimp only at hm
        refine then_normal (wp_seq (wp_region_lit ?_))
        replace hm := bindS hm; obtain ⟨r582, hr582, hm⟩ := hm
        refine n_call H rfl en75 (g_r14_none_w (A := A) hr582) rfl ?_
        clear H; intro x585 w583 hv; clear a; intro a H; obtain ⟨rfl, hE584⟩ := hv
        replace hS := hS.ext hE584
        replace hS := hS.pk1
        refine n_storeAll H rfl rfl (vs := [.int .i64 r582.Code, .int .i64 r582.Place]) rfl sz66 (hS.blk 0 rfl) rfl (by simp) ?_
        clear H; intro w586 hN hC587 hz; clear a; intro a H; replace hS := hS.setBlk hN hC587; clear hN hz
        refine n_nil (then_normal (wp_ret ?_))
        obtain rfl := Option.some.inj hm
        replace hS := hS.tk1
        refine retL H (.inr rfl) rfl (vs := [.agg #[.int .i64 r582.Code, .int .i64 r582.Place]]) (resCell rfl ((hS.blk 0 rfl).ldAll ag66 sz66) resNil) ?_
        replace hS := hS.tk0
        exact ⟨rfl, hS.x⟩
theorem g_r14_kind_w {w : World} {A : Nat → Addr} {cs0 : List Value} {a0 : GConfig} {a1 : Int} {a2 : Int} (h0 : RGConfig w cs0 a0) {r : Int} (hm : g_r14_kind a0 a1 a2 = some r) :
    Calls Tryz.prog 142 [.agg cs0.toArray, .int .i64 a1, .int .i64 a2].toArray w (Ret fun u w' => u = .int .i64 r ∧ Ext w w') := by
  obtain ⟨vp0_0, vp0_1, vp0_2, vp0_3, rfl, hrp0_0, hrp0_1, hrp0_2, hrp0_3⟩ := h0
  have hS := St.begin NB w
  unfold g_r14_kind at hm
  refine enter Tryz.func142 rfl rfl rfl ?_; intro a H; dsimp only [enumL, Nat.zero_add, Nat.reduceAdd] at H
  refine wp_seq (wp_region_lit (n_box H rfl (cs := [.int .i64 a0.Ticks, vp0_0, vp0_1, vp0_2, vp0_3, .int .i64 a0.Tries]) rfl rfl ?_))
  clear H; intro b21 w22 hN hE23 hs; clear a; intro a H
  replace hS := hS.newBlk hN hE23 hs; clear hN hs
  refine n_q H (q_assign rfl) rfl ?_; clear H a; intro a H
  refine n_nil (then_normal (wp_seq (wp_region_lit (n_q H (q_fieldAddr0 rfl fo49_1) rfl (W_q (q_load rfl ((hS.blk 0 rfl).ld ag45 rfl)) rfl (W_q (q_move rfl) rfl ?_)))))); clear H a; intro a H
  obtain ⟨A24, c24, hv24, hl24, hm24⟩ := SlR.formV (hrp0_0.ext RGPlan.mono hS.x)
  replace hm := bindS hm; obtain ⟨x25, hx25, hm⟩ := hm
  obtain ⟨h0x25, h1x25, hxx25⟩ := rdI_some hx25
  obtain ⟨adx25, hAx25⟩ := SlR.adV (hrp0_0.ext RGPlan.mono hS.x) hv24 hxx25
  obtain ⟨csx25, hclx25, ⟨vx25_0, vx25_1, vx25_2, vx25_3, rfl, hrx25_0, hrx25_1, hrx25_2, hrx25_3⟩, hcx25⟩ := SlR.elV hrp0_0 hv24 hAx25 hxx25
  refine n_q H (q_ixVI Tryz.underlying45 sz27 rfl hv24 hAx25 rfl h0x25 h1x25) rfl (W_q (q_fieldAddr rfl fo27_4) rfl (W_q (q_load rfl (LdX.ext (ldElC (j := 4) ag24 hcx25 rfl) hS.x)) rfl (W_q (q_assign rfl) rfl ?_))); clear H a; intro a H
  refine n_nil (then_normal (wp_seq (wp_seq (wp_region_lit (n_c H (fun HC => ?_)))))); clear H
  refine nc_q HC (q_move rfl) rfl (by kernel_rfl) (V_q (q_lss rfl rfl) rfl (by kernel_rfl) (V_q (q_move rfl) rfl (by kernel_rfl) (V_g (q_move rfl) (by kernel_rfl) (by kernel_rfl) (by kernel_rfl) (V_g (q_move rfl) (by kernel_rfl) (by kernel_rfl) (by kernel_rfl) ?_)))); clear HC a; intro a HC
  obtain ⟨A26, c26, hv26, hl26, hm26⟩ := SlR.formV (hrx25_2.ext (Flat.mono _) hS.x)
  refine nc_g HC (q_lenV Tryz.underlying24 rfl hv26) (by kernel_rfl) (by kernel_rfl) (by kernel_rfl) (V_g (q_geq rfl rfl) (by kernel_rfl) (by kernel_rfl) (by kernel_rfl) (V_or (j := 2) rfl rfl rfl (by kernel_rfl) (by kernel_rfl) ?_)); clear HC a; intro a HC
  have H := HC.has; clear HC
  refine n_nil (then_normal (c_cond H rfl (fun hc27 => ?_) (fun hc27 => ?_)))
  · replace hm := condT hm hc27
    refine wp_seq (wp_region_lit (n_q H (q_assign rfl) rfl ?_)); clear H a; intro a H
    refine n_nil (then_normal (wp_ret (then_ret ?_)))
    obtain rfl := Option.some.inj hm
    replace hS := hS.tk0
    refine ret1 H (.inr rfl) rfl rfl ?_
    exact ⟨rfl, hS.x⟩
  · replace hm := condF hm hc27
    refine wp_skip (then_normal (wp_seq (wp_region_lit (n_q H (q_move rfl) rfl (W_q (q_move rfl) rfl ?_))))); clear H a; intro a H
    replace hm := bindS hm; obtain ⟨x28, hx28, hm⟩ := hm
    obtain ⟨h0x28, h1x28, hxx28⟩ := rdI_some hx28
    obtain ⟨adx28, hAx28⟩ := SlR.adV (hrx25_2.ext (Flat.mono _) hS.x) hv26 hxx28
    refine n_q H (q_ixVI Tryz.underlying24 sz171 rfl hv26 hAx28 rfl h0x28 h1x28) rfl (W_q (q_fieldAddr rfl fo171_0) rfl (W_q (q_load rfl (SlR.ldCellV (j := 0) (hrx25_2.ext (Flat.mono _) hS.x) hv26 hAx28 ag3 hxx28 rfl)) rfl (W_q (q_assign rfl) rfl ?_))); clear H a; intro a H
    refine n_nil (then_normal (wp_ret ?_))
    obtain rfl := Option.some.inj hm
    replace hS := hS.tk0
    refine ret1 H (.inr rfl) rfl rfl ?_
    exact ⟨rfl, hS.x⟩
theorem g_r14_links_w {w : World} {A : Nat → Addr} {cs0 : List Value} {a0 : GConfig} (h0 : RGConfig w cs0 a0) {r : GR14Err} (hm : g_r14_links a0 = some r) :
    Calls Tryz.prog 73 [.agg cs0.toArray].toArray w (Ret fun u w' => u = .agg (eGR14Err r).toArray ∧ Ext w w') := by
  obtain ⟨vp0_0, vp0_1, vp0_2, vp0_3, rfl, hrp0_0, hrp0_1, hrp0_2, hrp0_3⟩ := h0
  have hS := St.begin NB w
  unfold g_r14_links at hm
  refine enter Tryz.func73 rfl rfl rfl ?_; intro a H; dsimp only [enumL, Nat.zero_add, Nat.reduceAdd] at H
  refine wp_seq (wp_region_lit (n_box H rfl (cs := [.int .i64 a0.Ticks, vp0_0, vp0_1, vp0_2, vp0_3, .int .i64 a0.Tries]) rfl rfl ?_))
  clear H; intro b21 w22 hN hE23 hs; clear a; intro a H
  replace hS := hS.newBlk hN hE23 hs; clear hN hs
  refine n_alloc H ze66 rfl ?_
  clear H; intro b24 w25 hN hE26 hs; clear a; intro a H
  replace hS := hS.newBlk hN hE26 hs; clear hN hs
  refine n_nil (then_normal (wp_seq (wp_seq (wp_region_lit (n_q H (q_fieldAddr0 rfl fo49_4) rfl (W_q (q_load rfl ((hS.blk 1 rfl).ld ag47 rfl)) rfl ?_)))))); clear H a; intro a H
  obtain ⟨A27, c27, hv27, hl27, hm27⟩ := SlR.formV (hrp0_3.ext (Flat.mono _) hS.x)
  refine n_q H (q_lenV Tryz.underlying47 rfl hv27) rfl (W_q (q_gtrN (i := a0.Links.length) (j := 16) rfl rfl) rfl ?_); clear H a; intro a H
  refine n_nil (then_normal (c_cond H rfl (fun hc28 => ?_) (fun hc28 => ?_)))
  · replace hm := condT hm hc28
    refine wp_seq (wp_region_lit ?_)
    replace hm := bindS hm; obtain ⟨r29, hr29, hm⟩ := hm
    refine n_call H rfl en70 (g_r14_bad_w (A := A) hr29) rfl ?_
    clear H; intro x32 w30 hv; clear a; intro a H; obtain ⟨rfl, hE31⟩ := hv
    replace hS := hS.ext hE31
    refine n_storeAll H rfl rfl (vs := [.int .i64 r29.Code, .int .i64 r29.Place]) rfl sz66 (hS.blk 0 rfl) rfl (by simp) ?_
    clear H; intro w33 hN hC34 hz; clear a; intro a H; replace hS := hS.setBlk hN hC34; clear hN hz
    refine n_nil (then_normal (wp_ret (then_ret ?_)))
    obtain rfl := Option.some.inj hm
    replace hS := hS.tk1
    refine retL H (.inr rfl) rfl (vs := [.agg #[.int .i64 r29.Code, .int .i64 r29.Place]]) (resCell rfl ((hS.blk 0 rfl).ldAll ag66 sz66) resNil) ?_
    replace hS := hS.tk0
    exact ⟨rfl, hS.x⟩
  · replace hm := condF hm hc28
    refine wp_skip (then_normal (wp_seq (wp_seq (wp_region_lit (n_q H (q_assign rfl) rfl ?_))))); clear H a; intro a H
    refine n_nil (then_normal (wp_block ?_))
    replace hS := hS.pk1
    replace hm := bindS hm; obtain ⟨q35, hm, hm35⟩ := hm; replace hm := iter_some hm; obtain ⟨n35, hm⟩ := hm
    refine c_loop (σ := Nat × Nat) (fun (m, i36) => [(1, .pointer (some ⟨b21, 0, none⟩)), (2, .pointer (some ⟨b24, 0, none⟩)), (3, .int .i64 ((i36 : Nat) : Int))]) (fun (m, i36) wl => iterN (g_r14_links_L25 a0) m i36 = some q35 ∧ St NB w wl [blkR b21 [.int .i64 a0.Ticks, vp0_0, vp0_1, vp0_2, vp0_3, .int .i64 a0.Tries] 49, blkR b24 [.int .i64 0, .int .i64 0] 66]) (fun (m, i36) => m) (n35, 0) H ⟨rfl, rfl, rfl, trivial⟩ ⟨hm, hS⟩ ?_
    clear H hS hm a; intro xx a w37 H hR; obtain ⟨m, i36⟩ := xx; simp only [ent, List.map_cons, List.map_nil] at H; (try dsimp only at hR); obtain ⟨hm, hS⟩ := hR
    replace hm := iterN_step hm; obtain ⟨m35, o35, rfl, hm, hn35⟩ := hm; try dsimp only [g_r14_links_L25] at hm
    refine wp_seq (wp_seq (wp_region_lit (n_q H (q_move rfl) rfl (W_q (q_fieldAddr0 rfl fo49_4) rfl (W_q (q_load rfl ((hS.blk 0 rfl).ld ag47 rfl)) rfl (W_q (q_lenV Tryz.underlying47 rfl hv27) rfl (W_q (q_lssN (i := i36) (j := a0.Links.length) rfl rfl) rfl ?_))))))); clear H a; intro a H
    refine n_nil (then_normal (c_cond H rfl (fun hc38 => ?_) (fun hc38 => ?_)))
    · replace hm := condT hm hc38
      have hlt39 : i36 < a0.Links.length := of_decide_eq_true hc38
      refine wp_skip (then_normal (wp_seq (wp_block (wp_seq (wp_region_lit (n_q H (q_fieldAddr0 rfl fo49_4) rfl (W_q (q_load rfl ((hS.blk 0 rfl).ld ag47 rfl)) rfl (W_q (q_move rfl) rfl ?_)))))))); clear H a; intro a H
      replace hm := bindS hm; obtain ⟨x40, hx40, hm⟩ := hm
      obtain ⟨adx40, hAx40⟩ := SlR.adV (hrp0_3.ext (Flat.mono _) hS.x) hv27 hx40
      refine n_q H (q_ixV (i := i36) Tryz.underlying47 sz63 rfl hv27 hAx40 rfl (natI hx40)) rfl (W_q (q_load rfl (SlR.ldAggV (hrp0_3.ext (Flat.mono _) hS.x) hv27 hAx40 ag63 sz63 hx40)) rfl ?_); clear H a; intro a H
      refine n_alloc H ze63 rfl ?_
      clear H; intro b41 w42 hN hE43 hs; clear a; intro a H
      replace hS := hS.newBlk hN hE43 hs; clear hN hs
      refine n_storeAll H rfl rfl (vs := [.int .i64 x40.From, .int .i64 x40.Out, .int .i64 x40.To, .int .i64 x40.In]) rfl sz63 (hS.blk 0 rfl) rfl (by simp) ?_
      clear H; intro w44 hN hC45 hz; clear a; intro a H; replace hS := hS.setBlk hN hC45; clear hN hz
      refine n_nil (then_normal (wp_seq ?_))
      replace hm := bindS hm; obtain ⟨j46, hm, hm46⟩ := hm
      refine c_join (σ := Bool) H (fun q547 => [(1, .pointer (some ⟨b21, 0, none⟩)), (2, .pointer (some ⟨b24, 0, none⟩)), (3, .int .i64 ((i36 : Nat) : Int)), (4, .pointer (some ⟨b41, 0, none⟩)), (52, .bool q547)]) (fun q547 wl => (g_r14_links_J24 a0 i36 x40) q547 = some o35 ∧ St NB w wl [blkR b21 [.int .i64 a0.Ticks, vp0_0, vp0_1, vp0_2, vp0_3, .int .i64 a0.Tries] 49, blkR b24 [.int .i64 0, .int .i64 0] 66, blkR b41 [.int .i64 x40.From, .int .i64 x40.Out, .int .i64 x40.To, .int .i64 x40.In] 63]) ?_ ?_
      · skip
        refine wp_region_lit (n_q H (q_fieldAddr0 rfl fo63_0) rfl (W_q (q_load rfl ((hS.blk 0 rfl).ld ag3 rfl)) rfl (W_q (q_lss rfl rfl) rfl (W_q (q_move rfl) rfl ?_)))); clear H a; intro a H
        rcases Bool.eq_false_or_eq_true (decide (x40.From < 0)) with hg548 | hg548
        · replace H := H.know 27 rfl hg548
          replace hm := condT hm hg548
          refine n_no H rfl rfl (by decide) rfl (W_no rfl rfl (by decide) rfl (W_no rfl rfl (by decide) rfl (W_q (q_pickT rfl rfl) rfl (W_q (q_move rfl) rfl (W_no rfl rfl (by decide) rfl (W_no rfl rfl (by decide) rfl (W_no rfl rfl (by decide) rfl (W_no rfl rfl (by decide) rfl (W_no rfl rfl (by decide) rfl (W_q (q_pickT rfl rfl) rfl (W_q (q_move rfl) rfl ?_))))))))))); clear H a; intro a H
          refine n_no H rfl rfl (by decide) rfl (W_no rfl rfl (by decide) rfl (W_no rfl rfl (by decide) rfl (W_no rfl rfl (by decide) rfl (W_no rfl rfl (by decide) rfl (W_q (q_pickT rfl rfl) rfl (W_q (q_move rfl) rfl (W_no rfl rfl (by decide) rfl (W_no rfl rfl (by decide) rfl (W_no rfl rfl (by decide) rfl (W_no rfl rfl (by decide) rfl (W_no rfl rfl (by decide) rfl ?_))))))))))); clear H a; intro a H
          refine n_q H (q_pickT rfl rfl) rfl ?_; clear H a; intro a H
          refine n_nil (then_normal ?_)
          obtain rfl := Option.some.inj hm; replace hm := hm46; try dsimp only at hm
          replace hS := hS.pk2
          replace hS := hS.pk2
          exact join true H ⟨rfl, rfl, rfl, rfl, rfl, trivial⟩ ⟨hm, hS⟩
        · replace H := H.know 27 rfl hg548
          replace hm := condF hm hg548
          refine n_yes H rfl rfl (n_q H (q_fieldAddr0 rfl fo63_2) rfl (W_yes rfl rfl (W_q (q_load rfl ((hS.blk 0 rfl).ld ag3 rfl)) rfl (W_yes rfl rfl (W_q (q_lss rfl rfl) rfl (W_q (q_pickF rfl rfl) rfl (W_q (q_move rfl) rfl ?_))))))); clear H a; intro a H
          rcases Bool.eq_false_or_eq_true (decide (x40.To < 0)) with hg549 | hg549
          · replace H := H.know 32 rfl hg549
            replace hm := condT hm hg549
            refine n_no H rfl rfl (by decide) rfl (W_no rfl rfl (by decide) rfl (W_no rfl rfl (by decide) rfl (W_no rfl rfl (by decide) rfl (W_no rfl rfl (by decide) rfl (W_q (q_pickT rfl rfl) rfl (W_q (q_move rfl) rfl (W_no rfl rfl (by decide) rfl (W_no rfl rfl (by decide) rfl (W_no rfl rfl (by decide) rfl (W_no rfl rfl (by decide) rfl (W_no rfl rfl (by decide) rfl ?_))))))))))); clear H a; intro a H
            refine n_q H (q_pickT rfl rfl) rfl (W_q (q_move rfl) rfl (W_no rfl rfl (by decide) rfl (W_no rfl rfl (by decide) rfl (W_no rfl rfl (by decide) rfl (W_no rfl rfl (by decide) rfl (W_no rfl rfl (by decide) rfl (W_q (q_pickT rfl rfl) rfl ?_))))))); clear H a; intro a H
            refine n_nil (then_normal ?_)
            obtain rfl := Option.some.inj hm; replace hm := hm46; try dsimp only at hm
            replace hS := hS.pk2
            replace hS := hS.pk2
            exact join true H ⟨rfl, rfl, rfl, rfl, rfl, trivial⟩ ⟨hm, hS⟩
          · replace H := H.know 32 rfl hg549
            replace hm := condF hm hg549
            refine n_yes H rfl rfl (n_q H (q_load rfl ((hS.blk 1 rfl).ldAll ag49 sz49)) rfl (W_yes rfl rfl (W_q (q_fieldAddr0 rfl fo63_0) rfl (W_yes rfl rfl (W_q (q_load rfl ((hS.blk 0 rfl).ld ag3 rfl)) rfl (W_yes rfl rfl ?_)))))); clear H a; intro a H
            replace hm := bindS hm; obtain ⟨r550, hr550, hm⟩ := hm
            refine n_call H rfl en76 (g_r14_owner_w (A := A) (⟨_, _, _, _, rfl, (hrp0_0.ext RGPlan.mono hS.x), (hrp0_1.ext (Flat.mono _) hS.x), (hrp0_2.ext (Flat.mono _) hS.x), (hrp0_3.ext (Flat.mono _) hS.x)⟩ : RGConfig _ [.int .i64 a0.Ticks, vp0_0, vp0_1, vp0_2, vp0_3, .int .i64 a0.Tries] a0) hr550) rfl ?_
            clear H; intro x553 w551 hv; clear a; intro a H; obtain ⟨rfl, hE552⟩ := hv
            replace hS := hS.ext hE552
            refine n_yes H rfl rfl (n_q H (q_not rfl) rfl (W_q (q_pickF rfl rfl) rfl (W_q (q_move rfl) rfl ?_))); clear H a; intro a H
            rcases Bool.eq_false_or_eq_true (!r550) with hg554 | hg554
            · replace H := H.know 39 rfl hg554
              replace hm := condT hm hg554
              refine n_no H rfl rfl (by decide) rfl (W_no rfl rfl (by decide) rfl (W_no rfl rfl (by decide) rfl (W_no rfl rfl (by decide) rfl (W_no rfl rfl (by decide) rfl (W_q (q_pickT rfl rfl) rfl (W_q (q_move rfl) rfl (W_no rfl rfl (by decide) rfl (W_no rfl rfl (by decide) rfl (W_no rfl rfl (by decide) rfl (W_no rfl rfl (by decide) rfl (W_no rfl rfl (by decide) rfl ?_))))))))))); clear H a; intro a H
              refine n_q H (q_pickT rfl rfl) rfl ?_; clear H a; intro a H
              refine n_nil (then_normal ?_)
              obtain rfl := Option.some.inj hm; replace hm := hm46; try dsimp only at hm
              replace hS := hS.pk2
              replace hS := hS.pk2
              exact join true H ⟨rfl, rfl, rfl, rfl, rfl, trivial⟩ ⟨hm, hS⟩
            · replace H := H.know 39 rfl hg554
              replace hm := condF hm hg554
              refine n_yes H rfl rfl (n_q H (q_load rfl ((hS.blk 1 rfl).ldAll ag49 sz49)) rfl (W_yes rfl rfl (W_q (q_fieldAddr0 rfl fo63_2) rfl (W_yes rfl rfl (W_q (q_load rfl ((hS.blk 0 rfl).ld ag3 rfl)) rfl (W_yes rfl rfl ?_)))))); clear H a; intro a H
              replace hm := bindS hm; obtain ⟨r555, hr555, hm⟩ := hm
              refine n_call H rfl en76 (g_r14_owner_w (A := A) (⟨_, _, _, _, rfl, (hrp0_0.ext RGPlan.mono hS.x), (hrp0_1.ext (Flat.mono _) hS.x), (hrp0_2.ext (Flat.mono _) hS.x), (hrp0_3.ext (Flat.mono _) hS.x)⟩ : RGConfig _ [.int .i64 a0.Ticks, vp0_0, vp0_1, vp0_2, vp0_3, .int .i64 a0.Tries] a0) hr555) rfl ?_
              clear H; intro x558 w556 hv; clear a; intro a H; obtain ⟨rfl, hE557⟩ := hv
              replace hS := hS.ext hE557
              refine n_yes H rfl rfl (n_q H (q_not rfl) rfl (W_q (q_pickF rfl rfl) rfl (W_q (q_move rfl) rfl ?_))); clear H a; intro a H
              rcases Bool.eq_false_or_eq_true (!r555) with hg559 | hg559
              · replace H := H.know 46 rfl hg559
                replace hm := condT hm hg559
                refine n_no H rfl rfl (by decide) rfl (W_no rfl rfl (by decide) rfl (W_no rfl rfl (by decide) rfl (W_no rfl rfl (by decide) rfl (W_no rfl rfl (by decide) rfl (W_q (q_pickT rfl rfl) rfl ?_))))); clear H a; intro a H
                refine n_nil (then_normal ?_)
                obtain rfl := Option.some.inj hm; replace hm := hm46; try dsimp only at hm
                replace hS := hS.pk2
                replace hS := hS.pk2
                exact join true H ⟨rfl, rfl, rfl, rfl, rfl, trivial⟩ ⟨hm, hS⟩
              · replace H := H.know 46 rfl hg559
                replace hm := condF hm hg559
                refine n_yes H rfl rfl (n_q H (q_fieldAddr0 rfl fo63_0) rfl (W_yes rfl rfl (W_q (q_load rfl ((hS.blk 0 rfl).ld ag3 rfl)) rfl (W_yes rfl rfl (W_q (q_fieldAddr0 rfl fo63_2) rfl (W_yes rfl rfl (W_q (q_load rfl ((hS.blk 0 rfl).ld ag3 rfl)) rfl (W_yes rfl rfl (W_q (q_eqlD rfl rfl) rfl (W_q (q_pickF rfl rfl) rfl ?_)))))))))); clear H a; intro a H
                refine n_nil (then_normal ?_)
                obtain rfl := Option.some.inj hm; replace hm := hm46; try dsimp only at hm
                replace hS := hS.pk2
                replace hS := hS.pk2
                exact join (decide (x40.From = x40.To)) H ⟨rfl, rfl, rfl, rfl, rfl, trivial⟩ ⟨hm, hS⟩
      · clear H hS hm a; intro q547 a w560 H hR
        simp only [ent, List.map_cons, List.map_nil] at H; (try dsimp only at hR); obtain ⟨hm, hS⟩ := hR; try dsimp only [g_r14_links_J24] at hm
        refine c_cond H rfl (fun hc561 => ?_) (fun hc561 => ?_)
        · replace hm := condT hm hc561
          refine wp_seq (wp_region_lit (n_q H (q_move rfl) rfl (W_q (q_build (cs := [.int .i64 12, .int .i64 ((i36 : Nat) : Int)]) ze66 bd66 pl66 rfl (by kernel_rfl)) rfl ?_))); clear H a; intro a H
          replace hS := hS.pk1
          refine n_storeAll H rfl rfl (vs := [.int .i64 12, .int .i64 ((i36 : Nat) : Int)]) rfl sz66 (hS.blk 0 rfl) rfl (by simp) ?_
          clear H; intro w562 hN hC563 hz; clear a; intro a H; replace hS := hS.setBlk hN hC563; clear hN hz
          refine n_nil (then_normal (wp_ret (then_ret (block_ret (then_ret (then_ret (block_ret (then_ret ?_))))))))
          obtain rfl := Option.some.inj hm; have hz : _ = q35 := hn35; subst hz; replace hm := hm35; try dsimp only at hm
          obtain rfl := Option.some.inj hm
          replace hS := hS.tk1
          refine retL H (.inr rfl) rfl (vs := [.agg #[.int .i64 12, .int .i64 ((i36 : Nat) : Int)]]) (resCell rfl ((hS.blk 0 rfl).ldAll ag66 sz66) resNil) ?_
          replace hS := hS.tk0
          exact ⟨rfl, hS.x⟩
        · replace hm := condF hm hc561
          refine wp_skip (then_normal (wp_seq ?_))
          replace hm := bindS hm; obtain ⟨j564, hm, hm564⟩ := hm
          refine c_join (σ := Bool) H (fun q1065 => [(1, .pointer (some ⟨b21, 0, none⟩)), (2, .pointer (some ⟨b24, 0, none⟩)), (3, .int .i64 ((i36 : Nat) : Int)), (4, .pointer (some ⟨b41, 0, none⟩)), (70, .bool q1065)]) (fun q1065 wl => (g_r14_links_J23 a0 i36 x40) q1065 = some o35 ∧ St NB w wl [blkR b21 [.int .i64 a0.Ticks, vp0_0, vp0_1, vp0_2, vp0_3, .int .i64 a0.Tries] 49, blkR b24 [.int .i64 0, .int .i64 0] 66, blkR b41 [.int .i64 x40.From, .int .i64 x40.Out, .int .i64 x40.To, .int .i64 x40.In] 63]) ?_ ?_
          · skip
            refine wp_region_lit (n_q H (q_fieldAddr0 rfl fo49_1) rfl (W_q (q_load rfl ((hS.blk 0 rfl).ld ag45 rfl)) rfl (W_q (q_fieldAddr0 rfl fo63_0) rfl (W_q (q_load rfl ((hS.blk 2 rfl).ld ag3 rfl)) rfl ?_)))); clear H a; intro a H
            obtain ⟨A1066, c1066, hv1066, hl1066, hm1066⟩ := SlR.formV (hrp0_0.ext RGPlan.mono hS.x)
            replace hm := bindS hm; obtain ⟨x1067, hx1067, hm⟩ := hm
            obtain ⟨h0x1067, h1x1067, hxx1067⟩ := rdI_some hx1067
            obtain ⟨adx1067, hAx1067⟩ := SlR.adV (hrp0_0.ext RGPlan.mono hS.x) hv1066 hxx1067
            obtain ⟨csx1067, hclx1067, ⟨vx1067_0, vx1067_1, vx1067_2, vx1067_3, rfl, hrx1067_0, hrx1067_1, hrx1067_2, hrx1067_3⟩, hcx1067⟩ := SlR.elV hrp0_0 hv1066 hAx1067 hxx1067
            refine n_q H (q_ixVI Tryz.underlying45 sz27 rfl hv1066 hAx1067 rfl h0x1067 h1x1067) rfl (W_q (q_fieldAddr rfl fo27_1) rfl (W_q (q_load rfl (LdX.ext (ldElC (j := 1) ag4 hcx1067 rfl) hS.x)) rfl (W_q (q_move rfl) rfl ?_))); clear H a; intro a H
            rcases Bool.eq_false_or_eq_true x1067.Mobile with hg1068 | hg1068
            · replace H := H.know 62 rfl hg1068
              replace hm := condT hm hg1068
              refine n_no H rfl rfl (by decide) rfl (W_no rfl rfl (by decide) rfl (W_no rfl rfl (by decide) rfl (W_no rfl rfl (by decide) rfl (W_no rfl rfl (by decide) rfl (W_no rfl rfl (by decide) rfl (W_no rfl rfl (by decide) rfl (W_q (q_pickT rfl rfl) rfl ?_))))))); clear H a; intro a H
              refine n_nil (then_normal ?_)
              obtain rfl := Option.some.inj hm; replace hm := hm564; try dsimp only at hm
              exact join true H ⟨rfl, rfl, rfl, rfl, rfl, trivial⟩ ⟨hm, hS⟩
            · replace H := H.know 62 rfl hg1068
              replace hm := condF hm hg1068
              refine n_yes H rfl rfl (n_q H (q_fieldAddr0 rfl fo49_1) rfl (W_yes rfl rfl (W_q (q_load rfl ((hS.blk 0 rfl).ld ag45 rfl)) rfl (W_yes rfl rfl (W_q (q_fieldAddr0 rfl fo63_2) rfl (W_yes rfl rfl (W_q (q_load rfl ((hS.blk 2 rfl).ld ag3 rfl)) rfl (W_yes rfl rfl ?_)))))))); clear H a; intro a H
              replace hm := bindS hm; obtain ⟨x1069, hx1069, hm⟩ := hm
              obtain ⟨h0x1069, h1x1069, hxx1069⟩ := rdI_some hx1069
              obtain ⟨adx1069, hAx1069⟩ := SlR.adV (hrp0_0.ext RGPlan.mono hS.x) hv1066 hxx1069
              obtain ⟨csx1069, hclx1069, ⟨vx1069_0, vx1069_1, vx1069_2, vx1069_3, rfl, hrx1069_0, hrx1069_1, hrx1069_2, hrx1069_3⟩, hcx1069⟩ := SlR.elV hrp0_0 hv1066 hAx1069 hxx1069
              refine n_q H (q_ixVI Tryz.underlying45 sz27 rfl hv1066 hAx1069 rfl h0x1069 h1x1069) rfl (W_yes rfl rfl (W_q (q_fieldAddr rfl fo27_1) rfl (W_yes rfl rfl (W_q (q_load rfl (LdX.ext (ldElC (j := 1) ag4 hcx1069 rfl) hS.x)) rfl (W_q (q_pickF rfl rfl) rfl ?_))))); clear H a; intro a H
              refine n_nil (then_normal ?_)
              obtain rfl := Option.some.inj hm; replace hm := hm564; try dsimp only at hm
              exact join x1069.Mobile H ⟨rfl, rfl, rfl, rfl, rfl, trivial⟩ ⟨hm, hS⟩
          · clear H hS hm a; intro q1065 a w1070 H hR
            simp only [ent, List.map_cons, List.map_nil] at H; (try dsimp only at hR); obtain ⟨hm, hS⟩ := hR; try dsimp only [g_r14_links_J23] at hm
            refine c_cond H rfl (fun hc1071 => ?_) (fun hc1071 => ?_)
            · replace hm := condT hm hc1071
              refine wp_seq (wp_region_lit (n_q H (q_move rfl) rfl (W_q (q_build (cs := [.int .i64 8, .int .i64 ((i36 : Nat) : Int)]) ze66 bd66 pl66 rfl (by kernel_rfl)) rfl ?_))); clear H a; intro a H
              replace hS := hS.pk1
              refine n_storeAll H rfl rfl (vs := [.int .i64 8, .int .i64 ((i36 : Nat) : Int)]) rfl sz66 (hS.blk 0 rfl) rfl (by simp) ?_
              clear H; intro w1072 hN hC1073 hz; clear a; intro a H; replace hS := hS.setBlk hN hC1073; clear hN hz
              refine n_nil (then_normal (wp_ret (then_ret (block_ret (then_ret (then_ret (block_ret (then_ret ?_))))))))
              obtain rfl := Option.some.inj hm; have hz : _ = q35 := hn35; subst hz; replace hm := hm35; try dsimp only at hm
              obtain rfl := Option.some.inj hm
              replace hS := hS.tk1
              refine retL H (.inr rfl) rfl (vs := [.agg #[.int .i64 8, .int .i64 ((i36 : Nat) : Int)]]) (resCell rfl ((hS.blk 0 rfl).ldAll ag66 sz66) resNil) ?_
              replace hS := hS.tk0
              exact ⟨rfl, hS.x⟩
            · replace hm := condF hm hc1071
              refine wp_skip (then_normal (wp_seq (c_quiet (by kernel_rfl) (by kernel_rfl) ?_)))
              refine qq_q H (q_load rfl ((hS.blk 0 rfl).ldAll ag49 sz49)) rfl ?_; clear H a; intro a H
              refine qq_q H (q_fieldAddr0 rfl fo63_0) rfl ?_; clear H a; intro a H
              refine qq_q H (q_load rfl ((hS.blk 2 rfl).ld ag3 rfl)) rfl ?_; clear H a; intro a H
              refine qq_q H (q_fieldAddr0 rfl fo63_1) rfl ?_; clear H a; intro a H
              refine qq_q H (q_load rfl ((hS.blk 2 rfl).ld ag3 rfl)) rfl ?_; clear H a; intro a H
              replace hm := bindS hm; obtain ⟨r1074, hr1074, hm⟩ := hm
              refine qq_call H rfl en142 (fun w' hw => g_r14_kind_w (A := A) (⟨_, _, _, _, rfl, ((hrp0_0.ext RGPlan.mono hS.x).ext RGPlan.mono hw), ((hrp0_1.ext (Flat.mono _) hS.x).ext (Flat.mono _) hw), ((hrp0_2.ext (Flat.mono _) hS.x).ext (Flat.mono _) hw), ((hrp0_3.ext (Flat.mono _) hS.x).ext (Flat.mono _) hw)⟩ : RGConfig _ [.int .i64 a0.Ticks, vp0_0, vp0_1, vp0_2, vp0_3, .int .i64 a0.Tries] a0) hr1074) rfl ?_; clear H a; intro a H
              refine qq_q H (q_load rfl ((hS.blk 0 rfl).ldAll ag49 sz49)) rfl ?_; clear H a; intro a H
              refine qq_q H (q_fieldAddr0 rfl fo63_2) rfl ?_; clear H a; intro a H
              refine qq_q H (q_load rfl ((hS.blk 2 rfl).ld ag3 rfl)) rfl ?_; clear H a; intro a H
              refine qq_q H (q_fieldAddr0 rfl fo63_3) rfl ?_; clear H a; intro a H
              refine qq_q H (q_load rfl ((hS.blk 2 rfl).ld ag3 rfl)) rfl ?_; clear H a; intro a H
              replace hm := bindS hm; obtain ⟨r1075, hr1075, hm⟩ := hm
              refine qq_call H rfl en142 (fun w' hw => g_r14_kind_w (A := A) (⟨_, _, _, _, rfl, ((hrp0_0.ext RGPlan.mono hS.x).ext RGPlan.mono hw), ((hrp0_1.ext (Flat.mono _) hS.x).ext (Flat.mono _) hw), ((hrp0_2.ext (Flat.mono _) hS.x).ext (Flat.mono _) hw), ((hrp0_3.ext (Flat.mono _) hS.x).ext (Flat.mono _) hw)⟩ : RGConfig _ [.int .i64 a0.Ticks, vp0_0, vp0_1, vp0_2, vp0_3, .int .i64 a0.Tries] a0) hr1075) rfl ?_; clear H a; intro a H
              refine qq_q H (q_assign rfl) rfl ?_; clear H a; intro a H
              refine qq_q H (q_assign rfl) rfl ?_; clear H a; intro a H
              refine qq_nil ?_; intro w1076 hE1077
              replace hS := hS.ext hE1077
              refine then_normal (wp_seq (wp_region_lit (n_c H (fun HC => ?_)))); clear H
              refine nc_q HC (q_move rfl) rfl (by kernel_rfl) (V_q (q_neqD rfl rfl) rfl (by kernel_rfl) (V_q (q_move rfl) rfl (by kernel_rfl) (V_g (q_move rfl) (by kernel_rfl) (by kernel_rfl) (by kernel_rfl) (V_g (q_neqD rfl rfl) (by kernel_rfl) (by kernel_rfl) (by kernel_rfl) (V_and (j := 2) rfl rfl rfl (by kernel_rfl) (by kernel_rfl) (V_q (q_move rfl) rfl (by kernel_rfl) (V_g (q_move rfl) (by kernel_rfl) (by kernel_rfl) (by kernel_rfl) (V_g (q_neqD rfl rfl) (by kernel_rfl) (by kernel_rfl) (by kernel_rfl) (V_g (q_move rfl) (by kernel_rfl) (by kernel_rfl) (by kernel_rfl) (V_g (q_move rfl) (by kernel_rfl) (by kernel_rfl) (by kernel_rfl) (V_g (q_neqD rfl rfl) (by kernel_rfl) (by kernel_rfl) (by kernel_rfl) ?_))))))))))); clear HC a; intro a HC
              refine nc_andg (j := 9) HC rfl rfl rfl (by kernel_rfl) (by kernel_rfl) (by kernel_rfl) ?_; clear HC a; intro a HC
              refine nc_or (j := 6) HC rfl rfl rfl (by kernel_rfl) (by kernel_rfl) ?_; clear HC a; intro a HC
              have H := HC.has; clear HC
              refine n_nil (then_normal (c_cond H rfl (fun hc1078 => ?_) (fun hc1078 => ?_)))
              · replace hm := condT hm hc1078
                refine wp_seq (wp_region_lit (n_q H (q_move rfl) rfl (W_q (q_build (cs := [.int .i64 7, .int .i64 ((i36 : Nat) : Int)]) ze66 bd66 pl66 rfl (by kernel_rfl)) rfl ?_))); clear H a; intro a H
                replace hS := hS.pk1
                refine n_storeAll H rfl rfl (vs := [.int .i64 7, .int .i64 ((i36 : Nat) : Int)]) rfl sz66 (hS.blk 0 rfl) rfl (by simp) ?_
                clear H; intro w1079 hN hC1080 hz; clear a; intro a H; replace hS := hS.setBlk hN hC1080; clear hN hz
                refine n_nil (then_normal (wp_ret (block_ret (then_ret (then_ret (block_ret (then_ret ?_)))))))
                obtain rfl := Option.some.inj hm; have hz : _ = q35 := hn35; subst hz; replace hm := hm35; try dsimp only at hm
                obtain rfl := Option.some.inj hm
                replace hS := hS.tk1
                refine retL H (.inr rfl) rfl (vs := [.agg #[.int .i64 7, .int .i64 ((i36 : Nat) : Int)]]) (resCell rfl ((hS.blk 0 rfl).ldAll ag66 sz66) resNil) ?_
                replace hS := hS.tk0
                exact ⟨rfl, hS.x⟩
              · replace hm := condF hm hc1078
                refine wp_skip (block_normal (then_normal (wp_region_lit (n_q H (q_move rfl) rfl (W_q (q_incr (i := i36) (j := 1) rfl rfl (by omega)) rfl (W_q (q_assign rfl) rfl ?_)))))); clear H a; intro a H
                refine n_nil (then_normal ?_)
                obtain rfl := Option.some.inj hm
                replace hS := hS.tk2
                exact round (m35, i36 + 1) H ⟨rfl, rfl, rfl, trivial⟩ ⟨hn35, hS⟩ (Nat.lt_succ_self _)
    · replace hm := condF hm hc38
      refine wp_exit (then_exit (then_exit (block_exit ?_)))
      obtain rfl := Option.some.inj hm; have hz : _ = q35 := hn35; subst hz; replace hm := hm35; try dsimp only at hm
      refine then_normal (wp_seq (wp_region_lit ?_))
      replace hm := bindS hm; obtain ⟨r1081, hr1081, hm⟩ := hm
      refine n_call H rfl en75 (g_r14_none_w (A := A) hr1081) rfl ?_
      clear H; intro x1084 w1082 hv; clear a; intro a H; obtain ⟨rfl, hE1083⟩ := hv
      replace hS := hS.ext hE1083
      replace hS := hS.pk1
      refine n_storeAll H rfl rfl (vs := [.int .i64 r1081.Code, .int .i64 r1081.Place]) rfl sz66 (hS.blk 0 rfl) rfl (by simp) ?_
      clear H; intro w1085 hN hC1086 hz; clear a; intro a H; replace hS := hS.setBlk hN hC1086; clear hN hz
      refine n_nil (then_normal (wp_ret ?_))
      obtain rfl := Option.some.inj hm
      replace hS := hS.tk1
      refine retL H (.inr rfl) rfl (vs := [.agg #[.int .i64 r1081.Code, .int .i64 r1081.Place]]) (resCell rfl ((hS.blk 0 rfl).ldAll ag66 sz66) resNil) ?_
      replace hS := hS.tk0
      exact ⟨rfl, hS.x⟩
theorem g_r14_Check_w {w : World} {A : Nat → Addr} {cs0 : List Value} {a0 : GConfig} (h0 : RGConfig w cs0 a0) {r : GR14Err} (hm : g_r14_Check a0 = some r) :
    Calls Tryz.prog 24 [.agg cs0.toArray].toArray w (Ret fun u w' => u = .agg (eGR14Err r).toArray ∧ Ext w w') := by
  obtain ⟨vp0_0, vp0_1, vp0_2, vp0_3, rfl, hrp0_0, hrp0_1, hrp0_2, hrp0_3⟩ := h0
  have hS := St.begin NB w
  unfold g_r14_Check at hm
  refine enter Tryz.func24 rfl rfl rfl ?_; intro a H; dsimp only [enumL, Nat.zero_add, Nat.reduceAdd] at H
  refine wp_seq (wp_region_lit (n_box H rfl (cs := [.int .i64 a0.Ticks, vp0_0, vp0_1, vp0_2, vp0_3, .int .i64 a0.Tries]) rfl rfl ?_))
  clear H; intro b21 w22 hN hE23 hs; clear a; intro a H
  replace hS := hS.newBlk hN hE23 hs; clear hN hs
  refine n_alloc H ze66 rfl ?_
  clear H; intro b24 w25 hN hE26 hs; clear a; intro a H
  replace hS := hS.newBlk hN hE26 hs; clear hN hs
  refine n_nil (then_normal (wp_seq (wp_seq (wp_region_lit (n_c H (fun HC => ?_)))))); clear H
  refine nc_q HC (q_fieldAddr0 rfl fo49_0) rfl (by kernel_rfl) (V_q (q_load rfl ((hS.blk 1 rfl).ld ag3 rfl)) rfl (by kernel_rfl) (V_q (q_lss rfl rfl) rfl (by kernel_rfl) (V_q (q_move rfl) rfl (by kernel_rfl) (V_g (q_fieldAddr0 rfl fo49_0) (by kernel_rfl) (by kernel_rfl) (by kernel_rfl) (V_g (q_load rfl ((hS.blk 1 rfl).ld ag3 rfl)) (by kernel_rfl) (by kernel_rfl) (by kernel_rfl) (V_g (q_gtr rfl rfl) (by kernel_rfl) (by kernel_rfl) (by kernel_rfl) (V_or (j := 3) rfl rfl rfl (by kernel_rfl) (by kernel_rfl) (V_q (q_move rfl) rfl (by kernel_rfl) (V_g (q_fieldAddr0 rfl fo49_5) (by kernel_rfl) (by kernel_rfl) (by kernel_rfl) (V_g (q_load rfl ((hS.blk 1 rfl).ld ag3 rfl)) (by kernel_rfl) (by kernel_rfl) (by kernel_rfl) (V_g (q_lss rfl rfl) (by kernel_rfl) (by kernel_rfl) (by kernel_rfl) ?_))))))))))); clear HC a; intro a HC
  refine nc_or (j := 8) HC rfl rfl rfl (by kernel_rfl) (by kernel_rfl) (V_q (q_move rfl) rfl (by kernel_rfl) (V_g (q_fieldAddr0 rfl fo49_5) (by kernel_rfl) (by kernel_rfl) (by kernel_rfl) (V_g (q_load rfl ((hS.blk 1 rfl).ld ag3 rfl)) (by kernel_rfl) (by kernel_rfl) (by kernel_rfl) (V_g (q_gtr rfl rfl) (by kernel_rfl) (by kernel_rfl) (by kernel_rfl) (V_or (j := 13) rfl rfl rfl (by kernel_rfl) (by kernel_rfl) ?_))))); clear HC a; intro a HC
  have H := HC.has; clear HC
  refine n_nil (then_normal (c_cond H rfl (fun hc27 => ?_) (fun hc27 => ?_)))
  · replace hm := condT hm hc27
    refine wp_seq (wp_region_lit ?_)
    replace hm := bindS hm; obtain ⟨r28, hr28, hm⟩ := hm
    refine n_call H rfl en70 (g_r14_bad_w (A := A) hr28) rfl ?_
    clear H; intro x31 w29 hv; clear a; intro a H; obtain ⟨rfl, hE30⟩ := hv
    replace hS := hS.ext hE30
    refine n_storeAll H rfl rfl (vs := [.int .i64 r28.Code, .int .i64 r28.Place]) rfl sz66 (hS.blk 0 rfl) rfl (by simp) ?_
    clear H; intro w32 hN hC33 hz; clear a; intro a H; replace hS := hS.setBlk hN hC33; clear hN hz
    refine n_nil (then_normal (wp_ret (then_ret ?_)))
    obtain rfl := Option.some.inj hm
    replace hS := hS.tk1
    refine retL H (.inr rfl) rfl (vs := [.agg #[.int .i64 r28.Code, .int .i64 r28.Place]]) (resCell rfl ((hS.blk 0 rfl).ldAll ag66 sz66) resNil) ?_
    replace hS := hS.tk0
    exact ⟨rfl, hS.x⟩
  · replace hm := condF hm hc27
    refine wp_skip (then_normal (wp_seq (wp_region_lit (n_q H (q_load rfl ((hS.blk 1 rfl).ldAll ag49 sz49)) rfl ?_)))); clear H a; intro a H
    replace hm := bindS hm; obtain ⟨r34, hr34, hm⟩ := hm
    refine n_call H rfl en71 (g_r14_parts_w (A := A) (⟨_, _, _, _, rfl, (hrp0_0.ext RGPlan.mono hS.x), (hrp0_1.ext (Flat.mono _) hS.x), (hrp0_2.ext (Flat.mono _) hS.x), (hrp0_3.ext (Flat.mono _) hS.x)⟩ : RGConfig _ [.int .i64 a0.Ticks, vp0_0, vp0_1, vp0_2, vp0_3, .int .i64 a0.Tries] a0) hr34) rfl ?_
    clear H; intro x37 w35 hv; clear a; intro a H; obtain ⟨rfl, hE36⟩ := hv
    replace hS := hS.ext hE36
    refine n_alloc H ze66 rfl ?_
    clear H; intro b38 w39 hN hE40 hs; clear a; intro a H
    replace hS := hS.newBlk hN hE40 hs; clear hN hs
    refine n_storeAll H rfl rfl (vs := [.int .i64 r34.Code, .int .i64 r34.Place]) rfl sz66 (hS.blk 0 rfl) rfl (by simp) ?_
    clear H; intro w41 hN hC42 hz; clear a; intro a H; replace hS := hS.setBlk hN hC42; clear hN hz
    refine n_nil (then_normal ?_)
    replace hm := bindS hm; obtain ⟨j43, hm, hm43⟩ := hm
    refine c_join (σ := GR14Err) H (fun t544 => [(1, .pointer (some ⟨b21, 0, none⟩)), (2, .pointer (some ⟨b24, 0, none⟩)), (3, .pointer (some ⟨b38, 0, none⟩))]) (fun t544 wl => (g_r14_Check_J9 a0) t544 = some r ∧ St NB w wl [blkR b21 [.int .i64 a0.Ticks, vp0_0, vp0_1, vp0_2, vp0_3, .int .i64 a0.Tries] 49, blkR b24 [.int .i64 0, .int .i64 0] 66, blkR b38 [.int .i64 t544.Code, .int .i64 t544.Place] 66]) ?_ ?_
    · skip
      refine wp_seq (wp_region_lit (n_q H (q_fieldAddr0 rfl fo66_0) rfl (W_q (q_load rfl ((hS.blk 0 rfl).ld ag3 rfl)) rfl (W_q (q_eqlD rfl rfl) rfl ?_)))); clear H a; intro a H
      refine n_nil (then_normal (c_cond H rfl (fun hc545 => ?_) (fun hc545 => ?_)))
      · replace hm := condT hm hc545
        refine wp_region_lit (n_q H (q_load rfl ((hS.blk 2 rfl).ldAll ag49 sz49)) rfl ?_); clear H a; intro a H
        replace hm := bindS hm; obtain ⟨r546, hr546, hm⟩ := hm
        refine n_call H rfl en72 (g_r14_windows_w (A := A) (⟨_, _, _, _, rfl, (hrp0_0.ext RGPlan.mono hS.x), (hrp0_1.ext (Flat.mono _) hS.x), (hrp0_2.ext (Flat.mono _) hS.x), (hrp0_3.ext (Flat.mono _) hS.x)⟩ : RGConfig _ [.int .i64 a0.Ticks, vp0_0, vp0_1, vp0_2, vp0_3, .int .i64 a0.Tries] a0) hr546) rfl ?_
        clear H; intro x549 w547 hv; clear a; intro a H; obtain ⟨rfl, hE548⟩ := hv
        replace hS := hS.ext hE548
        refine n_storeAll H rfl rfl (vs := [.int .i64 r546.Code, .int .i64 r546.Place]) rfl sz66 (hS.blk 0 rfl) rfl (by simp) ?_
        clear H; intro w550 hN hC551 hz; clear a; intro a H; replace hS := hS.setBlk hN hC551; clear hN hz
        refine n_nil (then_normal ?_)
        obtain rfl := Option.some.inj hm; replace hm := hm43; try dsimp only at hm
        replace hS := hS.pk1
        replace hS := hS.pk2
        exact join r546 H ⟨rfl, rfl, rfl, trivial⟩ ⟨hm, hS⟩
      · replace hm := condF hm hc545
        refine wp_skip (then_normal ?_)
        obtain rfl := Option.some.inj hm; replace hm := hm43; try dsimp only at hm
        replace hS := hS.pk1
        replace hS := hS.pk2
        exact join r34 H ⟨rfl, rfl, rfl, trivial⟩ ⟨hm, hS⟩
    · clear H hS hm a; intro t544 a w552 H hR
      simp only [ent, List.map_cons, List.map_nil] at H; (try dsimp only at hR); obtain ⟨hm, hS⟩ := hR; try dsimp only [g_r14_Check_J9] at hm
      replace hm := bindS hm; obtain ⟨j553, hm, hm553⟩ := hm
      refine c_join (σ := GR14Err) H (fun t1054 => [(1, .pointer (some ⟨b21, 0, none⟩)), (2, .pointer (some ⟨b24, 0, none⟩)), (3, .pointer (some ⟨b38, 0, none⟩))]) (fun t1054 wl => (g_r14_Check_J8 a0) t1054 = some r ∧ St NB w wl [blkR b21 [.int .i64 a0.Ticks, vp0_0, vp0_1, vp0_2, vp0_3, .int .i64 a0.Tries] 49, blkR b24 [.int .i64 0, .int .i64 0] 66, blkR b38 [.int .i64 t1054.Code, .int .i64 t1054.Place] 66]) ?_ ?_
      · skip
        refine wp_seq (wp_region_lit (n_q H (q_fieldAddr0 rfl fo66_0) rfl (W_q (q_load rfl ((hS.blk 2 rfl).ld ag3 rfl)) rfl (W_q (q_eqlD rfl rfl) rfl ?_)))); clear H a; intro a H
        refine n_nil (then_normal (c_cond H rfl (fun hc1055 => ?_) (fun hc1055 => ?_)))
        · replace hm := condT hm hc1055
          refine wp_region_lit (n_q H (q_load rfl ((hS.blk 0 rfl).ldAll ag49 sz49)) rfl ?_); clear H a; intro a H
          replace hm := bindS hm; obtain ⟨r1056, hr1056, hm⟩ := hm
          refine n_call H rfl en73 (g_r14_links_w (A := A) (⟨_, _, _, _, rfl, (hrp0_0.ext RGPlan.mono hS.x), (hrp0_1.ext (Flat.mono _) hS.x), (hrp0_2.ext (Flat.mono _) hS.x), (hrp0_3.ext (Flat.mono _) hS.x)⟩ : RGConfig _ [.int .i64 a0.Ticks, vp0_0, vp0_1, vp0_2, vp0_3, .int .i64 a0.Tries] a0) hr1056) rfl ?_
          clear H; intro x1059 w1057 hv; clear a; intro a H; obtain ⟨rfl, hE1058⟩ := hv
          replace hS := hS.ext hE1058
          replace hS := hS.pk2
          refine n_storeAll H rfl rfl (vs := [.int .i64 r1056.Code, .int .i64 r1056.Place]) rfl sz66 (hS.blk 0 rfl) rfl (by simp) ?_
          clear H; intro w1060 hN hC1061 hz; clear a; intro a H; replace hS := hS.setBlk hN hC1061; clear hN hz
          refine n_nil (then_normal ?_)
          obtain rfl := Option.some.inj hm; replace hm := hm553; try dsimp only at hm
          replace hS := hS.pk2
          replace hS := hS.pk2
          exact join r1056 H ⟨rfl, rfl, rfl, trivial⟩ ⟨hm, hS⟩
        · replace hm := condF hm hc1055
          refine wp_skip (then_normal ?_)
          obtain rfl := Option.some.inj hm; replace hm := hm553; try dsimp only at hm
          exact join t544 H ⟨rfl, rfl, rfl, trivial⟩ ⟨hm, hS⟩
      · clear H hS hm a; intro t1054 a w1062 H hR
        simp only [ent, List.map_cons, List.map_nil] at H; (try dsimp only at hR); obtain ⟨hm, hS⟩ := hR; try dsimp only [g_r14_Check_J8] at hm
        refine wp_seq (wp_seq (wp_region_lit (n_q H (q_fieldAddr0 rfl fo66_0) rfl (W_q (q_load rfl ((hS.blk 2 rfl).ld ag3 rfl)) rfl (W_q (q_neqD rfl rfl) rfl ?_))))); clear H a; intro a H
        refine n_nil (then_normal (c_cond H rfl (fun hc1063 => ?_) (fun hc1063 => ?_)))
        · replace hm := condT hm hc1063
          refine wp_seq (wp_region_lit (n_q H (q_load rfl ((hS.blk 2 rfl).ldAll ag66 sz66)) rfl ?_)); clear H a; intro a H
          replace hS := hS.pk1
          refine n_storeAll H rfl rfl (vs := [.int .i64 t1054.Code, .int .i64 t1054.Place]) rfl sz66 (hS.blk 0 rfl) rfl (by simp) ?_
          clear H; intro w1064 hN hC1065 hz; clear a; intro a H; replace hS := hS.setBlk hN hC1065; clear hN hz
          refine n_nil (then_normal (wp_ret (then_ret ?_)))
          obtain rfl := Option.some.inj hm
          replace hS := hS.tk1
          refine retL H (.inr rfl) rfl (vs := [.agg #[.int .i64 t1054.Code, .int .i64 t1054.Place]]) (resCell rfl ((hS.blk 0 rfl).ldAll ag66 sz66) resNil) ?_
          replace hS := hS.tk0
          exact ⟨rfl, hS.x⟩
        · replace hm := condF hm hc1063
          refine wp_skip (then_normal (wp_seq (wp_seq (wp_region_lit (n_q H (q_assign rfl) rfl ?_))))); clear H a; intro a H
          refine n_nil (then_normal (wp_block ?_))
          replace hS := hS.tk2
          replace hm := bindS hm; obtain ⟨q1066, hm, hm1066⟩ := hm; replace hm := iter_some hm; obtain ⟨n1066, hm⟩ := hm
          refine c_loop (σ := Nat × Nat) (fun (m, i1067) => [(1, .pointer (some ⟨b21, 0, none⟩)), (2, .pointer (some ⟨b24, 0, none⟩)), (4, .int .i64 ((i1067 : Nat) : Int))]) (fun (m, i1067) wl => iterN (g_r14_Check_L7 a0) m i1067 = some q1066 ∧ St NB w wl [blkR b21 [.int .i64 a0.Ticks, vp0_0, vp0_1, vp0_2, vp0_3, .int .i64 a0.Tries] 49, blkR b24 [.int .i64 0, .int .i64 0] 66]) (fun (m, i1067) => m) (n1066, 0) H ⟨rfl, rfl, rfl, trivial⟩ ⟨hm, hS⟩ ?_
          clear H hS hm a; intro xx a w1068 H hR; obtain ⟨m, i1067⟩ := xx; simp only [ent, List.map_cons, List.map_nil] at H; (try dsimp only at hR); obtain ⟨hm, hS⟩ := hR
          replace hm := iterN_step hm; obtain ⟨m1066, o1066, rfl, hm, hn1066⟩ := hm; try dsimp only [g_r14_Check_L7] at hm
          refine wp_seq (wp_seq (wp_region_lit (n_q H (q_move rfl) rfl (W_q (q_fieldAddr0 rfl fo49_1) rfl (W_q (q_load rfl ((hS.blk 0 rfl).ld ag45 rfl)) rfl ?_))))); clear H a; intro a H
          obtain ⟨A1069, c1069, hv1069, hl1069, hm1069⟩ := SlR.formV (hrp0_0.ext RGPlan.mono hS.x)
          refine n_q H (q_lenV Tryz.underlying45 rfl hv1069) rfl (W_q (q_lssN (i := i1067) (j := a0.Parts.length) rfl rfl) rfl ?_); clear H a; intro a H
          refine n_nil (then_normal (c_cond H rfl (fun hc1070 => ?_) (fun hc1070 => ?_)))
          · replace hm := condT hm hc1070
            have hlt1071 : i1067 < a0.Parts.length := of_decide_eq_true hc1070
            refine wp_skip (then_normal (wp_seq (wp_block ?_)))
            replace hm := bindS hm; obtain ⟨j1072, hm, hm1072⟩ := hm
            refine c_join (σ := Bool) H (fun q1573 => [(1, .pointer (some ⟨b21, 0, none⟩)), (2, .pointer (some ⟨b24, 0, none⟩)), (4, .int .i64 ((i1067 : Nat) : Int)), (57, .bool q1573)]) (fun q1573 wl => (g_r14_Check_J6 i1067) q1573 = some o1066 ∧ St NB w wl [blkR b21 [.int .i64 a0.Ticks, vp0_0, vp0_1, vp0_2, vp0_3, .int .i64 a0.Tries] 49, blkR b24 [.int .i64 0, .int .i64 0] 66]) ?_ ?_
            · skip
              refine wp_region_lit (n_q H (q_fieldAddr0 rfl fo49_1) rfl (W_q (q_load rfl ((hS.blk 0 rfl).ld ag45 rfl)) rfl (W_q (q_move rfl) rfl ?_))); clear H a; intro a H
              replace hm := bindS hm; obtain ⟨x1574, hx1574, hm⟩ := hm
              obtain ⟨adx1574, hAx1574⟩ := SlR.adV (hrp0_0.ext RGPlan.mono hS.x) hv1069 hx1574
              obtain ⟨csx1574, hclx1574, ⟨vx1574_0, vx1574_1, vx1574_2, vx1574_3, rfl, hrx1574_0, hrx1574_1, hrx1574_2, hrx1574_3⟩, hcx1574⟩ := SlR.elV hrp0_0 hv1069 hAx1574 hx1574
              refine n_q H (q_ixV (i := i1067) Tryz.underlying45 sz27 rfl hv1069 hAx1574 rfl (natI hx1574)) rfl (W_q (q_fieldAddr rfl fo27_1) rfl (W_q (q_load rfl (LdX.ext (ldElC (j := 1) ag4 hcx1574 rfl) hS.x)) rfl (W_q (q_move rfl) rfl ?_))); clear H a; intro a H
              rcases Bool.eq_false_or_eq_true x1574.Mobile with hg1575 | hg1575
              · replace H := H.know 53 rfl hg1575
                replace hm := condT hm hg1575
                refine n_yes H rfl rfl (n_q H (q_load rfl ((hS.blk 0 rfl).ldAll ag49 sz49)) rfl (W_yes rfl rfl ?_)); clear H a; intro a H
                replace hm := bindS hm; obtain ⟨r1576, hr1576, hm⟩ := hm
                refine n_call H rfl en74 (g_r14_count_w (A := A) (⟨_, _, _, _, rfl, (hrp0_0.ext RGPlan.mono hS.x), (hrp0_1.ext (Flat.mono _) hS.x), (hrp0_2.ext (Flat.mono _) hS.x), (hrp0_3.ext (Flat.mono _) hS.x)⟩ : RGConfig _ [.int .i64 a0.Ticks, vp0_0, vp0_1, vp0_2, vp0_3, .int .i64 a0.Tries] a0) hr1576) rfl ?_
                clear H; intro x1579 w1577 hv; clear a; intro a H; obtain ⟨rfl, hE1578⟩ := hv
                replace hS := hS.ext hE1578
                refine n_yes H rfl rfl (n_q H (q_eqlD rfl rfl) rfl (W_q (q_pickT rfl rfl) rfl ?_)); clear H a; intro a H
                refine n_nil (then_normal ?_)
                obtain rfl := Option.some.inj hm; replace hm := hm1072; try dsimp only at hm
                exact join (decide (r1576 = 0)) H ⟨rfl, rfl, rfl, rfl, trivial⟩ ⟨hm, hS⟩
              · replace H := H.know 53 rfl hg1575
                replace hm := condF hm hg1575
                refine n_no H rfl rfl (by decide) rfl (W_no rfl rfl (by decide) rfl (W_no rfl rfl (by decide) rfl (W_q (q_pickF rfl rfl) rfl ?_))); clear H a; intro a H
                refine n_nil (then_normal ?_)
                obtain rfl := Option.some.inj hm; replace hm := hm1072; try dsimp only at hm
                exact join false H ⟨rfl, rfl, rfl, rfl, trivial⟩ ⟨hm, hS⟩
            · clear H hS hm a; intro q1573 a w1580 H hR
              simp only [ent, List.map_cons, List.map_nil] at H; (try dsimp only at hR); obtain ⟨hm, hS⟩ := hR; try dsimp only [g_r14_Check_J6] at hm
              refine c_cond H rfl (fun hc1581 => ?_) (fun hc1581 => ?_)
              · replace hm := condT hm hc1581
                refine wp_seq (wp_region_lit ?_)
                replace hm := bindS hm; obtain ⟨r1582, hr1582, hm⟩ := hm
                refine n_call H rfl en70 (g_r14_bad_w (A := A) hr1582) rfl ?_
                clear H; intro x1585 w1583 hv; clear a; intro a H; obtain ⟨rfl, hE1584⟩ := hv
                replace hS := hS.ext hE1584
                replace hS := hS.pk1
                refine n_storeAll H rfl rfl (vs := [.int .i64 r1582.Code, .int .i64 r1582.Place]) rfl sz66 (hS.blk 0 rfl) rfl (by simp) ?_
                clear H; intro w1586 hN hC1587 hz; clear a; intro a H; replace hS := hS.setBlk hN hC1587; clear hN hz
                refine n_nil (then_normal (wp_ret (block_ret (then_ret (then_ret (block_ret (then_ret ?_)))))))
                obtain rfl := Option.some.inj hm; have hz : _ = q1066 := hn1066; subst hz; replace hm := hm1066; try dsimp only at hm
                obtain rfl := Option.some.inj hm
                replace hS := hS.tk1
                refine retL H (.inr rfl) rfl (vs := [.agg #[.int .i64 r1582.Code, .int .i64 r1582.Place]]) (resCell rfl ((hS.blk 0 rfl).ldAll ag66 sz66) resNil) ?_
                replace hS := hS.tk0
                exact ⟨rfl, hS.x⟩
              · replace hm := condF hm hc1581
                refine wp_skip (block_normal (then_normal (wp_region_lit (n_q H (q_move rfl) rfl (W_q (q_incr (i := i1067) (j := 1) rfl rfl (by omega)) rfl (W_q (q_assign rfl) rfl ?_)))))); clear H a; intro a H
                refine n_nil (then_normal ?_)
                obtain rfl := Option.some.inj hm
                exact round (m1066, i1067 + 1) H ⟨rfl, rfl, rfl, trivial⟩ ⟨hn1066, hS⟩ (Nat.lt_succ_self _)
          · replace hm := condF hm hc1070
            refine wp_exit (then_exit (then_exit (block_exit ?_)))
            obtain rfl := Option.some.inj hm; have hz : _ = q1066 := hn1066; subst hz; replace hm := hm1066; try dsimp only at hm
            refine then_normal (wp_seq (wp_region_lit ?_))
            replace hm := bindS hm; obtain ⟨r1588, hr1588, hm⟩ := hm
            refine n_call H rfl en75 (g_r14_none_w (A := A) hr1588) rfl ?_
            clear H; intro x1591 w1589 hv; clear a; intro a H; obtain ⟨rfl, hE1590⟩ := hv
            replace hS := hS.ext hE1590
            replace hS := hS.pk1
            refine n_storeAll H rfl rfl (vs := [.int .i64 r1588.Code, .int .i64 r1588.Place]) rfl sz66 (hS.blk 0 rfl) rfl (by simp) ?_
            clear H; intro w1592 hN hC1593 hz; clear a; intro a H; replace hS := hS.setBlk hN hC1593; clear hN hz
            refine n_nil (then_normal (wp_ret ?_))
            obtain rfl := Option.some.inj hm
            replace hS := hS.tk1
            refine retL H (.inr rfl) rfl (vs := [.agg #[.int .i64 r1588.Code, .int .i64 r1588.Place]]) (resCell rfl ((hS.blk 0 rfl).ldAll ag66 sz66) resNil) ?_
            replace hS := hS.tk0
            exact ⟨rfl, hS.x⟩
theorem g_r14_Good_w {w : World} {A : Nat → Addr} {cs0 : List Value} {a0 : GConfig} (h0 : RGConfig w cs0 a0) {r : Bool} (hm : g_r14_Good a0 = some r) :
    Calls Tryz.prog 60 [.agg cs0.toArray].toArray w (Ret fun u w' => u = .bool r ∧ Ext w w') := by
  obtain ⟨vp0_0, vp0_1, vp0_2, vp0_3, rfl, hrp0_0, hrp0_1, hrp0_2, hrp0_3⟩ := h0
  have hS := St.begin NB w
  unfold g_r14_Good at hm
  refine enter Tryz.func60 rfl rfl rfl ?_; intro a H; dsimp only [enumL, Nat.zero_add, Nat.reduceAdd] at H
  refine wp_seq (wp_region_lit (n_box H rfl (cs := [.int .i64 a0.Ticks, vp0_0, vp0_1, vp0_2, vp0_3, .int .i64 a0.Tries]) rfl rfl ?_))
  clear H; intro b21 w22 hN hE23 hs; clear a; intro a H
  replace hS := hS.newBlk hN hE23 hs; clear hN hs
  refine n_q H (q_assign rfl) rfl ?_; clear H a; intro a H
  refine n_nil (then_normal (wp_seq (wp_region_lit (n_q H (q_load rfl ((hS.blk 0 rfl).ldAll ag49 sz49)) rfl ?_)))); clear H a; intro a H
  replace hm := bindS hm; obtain ⟨r24, hr24, hm⟩ := hm
  refine n_call H rfl en24 (g_r14_Check_w (A := A) (⟨_, _, _, _, rfl, (hrp0_0.ext RGPlan.mono hS.x), (hrp0_1.ext (Flat.mono _) hS.x), (hrp0_2.ext (Flat.mono _) hS.x), (hrp0_3.ext (Flat.mono _) hS.x)⟩ : RGConfig _ [.int .i64 a0.Ticks, vp0_0, vp0_1, vp0_2, vp0_3, .int .i64 a0.Tries] a0) hr24) rfl ?_
  clear H; intro x27 w25 hv; clear a; intro a H; obtain ⟨rfl, hE26⟩ := hv
  replace hS := hS.ext hE26
  refine n_q H (q_fieldV fd66_0 rfl rfl) rfl (W_q (q_eqlD rfl rfl) rfl (W_q (q_assign rfl) rfl ?_)); clear H a; intro a H
  refine n_nil (then_normal (wp_ret ?_))
  obtain rfl := Option.some.inj hm
  replace hS := hS.tk0
  refine ret1 H (.inr rfl) rfl rfl ?_
  exact ⟨rfl, hS.x⟩
theorem g_r14_Owners_w {w : World} {A : Nat → Addr} {cs0 : List Value} {a0 : GConfig} (h0 : RGConfig w cs0 a0) {r : List Int} (hm : g_r14_Owners a0 = some r) :
    Calls Tryz.prog 138 [.agg cs0.toArray].toArray w (Ret fun u w' => ∃ h_0, u = h_0 ∧ St NB w w' [ownR 3 1 h_0 r.length (r.flatMap eI)]) := by
  obtain ⟨vp0_0, vp0_1, vp0_2, vp0_3, rfl, hrp0_0, hrp0_1, hrp0_2, hrp0_3⟩ := h0
  have hS := St.begin NB w
  unfold g_r14_Owners at hm
  refine enter Tryz.func138 rfl rfl rfl ?_; intro a H; dsimp only [enumL, Nat.zero_add, Nat.reduceAdd] at H
  refine wp_seq (wp_region_lit (n_box H rfl (cs := [.int .i64 a0.Ticks, vp0_0, vp0_1, vp0_2, vp0_3, .int .i64 a0.Tries]) rfl rfl ?_))
  clear H; intro b21 w22 hN hE23 hs; clear a; intro a H
  replace hS := hS.newBlk hN hE23 hs; clear hN hs
  refine n_q H (q_assign rfl) rfl ?_; clear H a; intro a H
  refine n_nil (then_normal (wp_seq (wp_region_lit (n_q H (q_fieldAddr0 rfl fo49_0) rfl (W_q (q_load rfl ((hS.blk 0 rfl).ld ag3 rfl)) rfl ?_))))); clear H a; intro a H
  replace hm := chkS hm; obtain ⟨hk24, hm⟩ := hm
  replace hm := chkS hm; obtain ⟨hk25, hm⟩ := hm
  refine n_makeL (e := eI) (z0 := 0) (L := a0.Ticks.toNat) (C := a0.Ticks.toNat) H Tryz.underlying25 el3 rfl (by show _ = some (Value.int .i64 ((Int.toNat a0.Ticks : Nat) : Int)); rw [Int.toNat_of_nonneg hk24]; rfl) (by show _ = some (Value.int .i64 ((Int.toNat a0.Ticks : Nat) : Int)); rw [Int.toNat_of_nonneg hk24]; rfl) (Nat.le_refl _) hk25 (by simp only [maxLen]; omega) rfl ?_
  clear H; intro b26 w27 hN hE28 hs; clear a; intro a H; replace hS := hS.newOwn hN hE28 (by simp [blks]; omega); clear hN
  refine n_q H (q_assign rfl) rfl ?_; clear H a; intro a H
  refine n_nil (then_normal (wp_seq (wp_seq (wp_region_lit (n_q H (q_assign rfl) rfl ?_))))); clear H a; intro a H
  refine n_nil (then_normal (wp_block ?_))
  replace hm := bindS hm; obtain ⟨q30, hm, hm30⟩ := hm; replace hm := iter_some hm; obtain ⟨n30, hm⟩ := hm
  refine c_loop (σ := Nat × (List Int) × Int) (fun (m, l31, z35) => [(1, .pointer (some ⟨b21, 0, none⟩)), (3, .slice (some ⟨b26, 0, none⟩) a0.Ticks.toNat a0.Ticks.toNat), (4, .int .i64 z35)]) (fun (m, l31, z35) wl => iterN (g_r14_Owners_L17 a0) m (l31, z35) = some q30 ∧ St NB w wl [ownR 3 1 (.slice (some ⟨b26, 0, none⟩) a0.Ticks.toNat a0.Ticks.toNat) l31.length (l31.flatMap eI), blkR b21 [.int .i64 a0.Ticks, vp0_0, vp0_1, vp0_2, vp0_3, .int .i64 a0.Tries] 49]) (fun (m, l31, z35) => m) (n30, (List.replicate a0.Ticks.toNat 0), 0) H ⟨rfl, rfl, rfl, trivial⟩ ⟨hm, hS⟩ ?_
  clear H hS hm a; intro xx a w36 H hR; obtain ⟨m, l31, z35⟩ := xx; simp only [ent, List.map_cons, List.map_nil] at H; (try dsimp only at hR); obtain ⟨hm, hS⟩ := hR
  replace hm := iterN_step hm; obtain ⟨m30, o30, rfl, hm, hn30⟩ := hm; try dsimp only [g_r14_Owners_L17] at hm
  refine wp_seq (wp_seq (wp_region_lit (n_q H (q_move rfl) rfl (W_q (q_fieldAddr0 rfl fo49_0) rfl (W_q (q_load rfl ((hS.blk 1 rfl).ld ag3 rfl)) rfl (W_q (q_lss rfl rfl) rfl ?_)))))); clear H a; intro a H
  refine n_nil (then_normal (c_cond H rfl (fun hc37 => ?_) (fun hc37 => ?_)))
  · replace hm := condT hm hc37
    refine wp_skip (then_normal (wp_seq (wp_block (wp_seq (wp_region_lit (n_q H (q_move rfl) rfl (W_q (q_move rfl) rfl ?_))))))); clear H a; intro a H
    obtain ⟨A38, c38, hv38, hl38, hm38⟩ := SlR.formV ((hS.own 0 rfl).slr rfl (fun _ _ => rfl))
    replace hm := bindS hm; obtain ⟨x39, hx39, hm⟩ := hm
    obtain ⟨h0x39, h1x39, hxx39⟩ := rdI_some hx39
    obtain ⟨adx39, hAx39⟩ := SlR.adV ((hS.own 0 rfl).slr rfl (fun _ _ => rfl)) hv38 hxx39
    refine n_q H (q_ixVI Tryz.underlying25 sz3 rfl hv38 hAx39 rfl h0x39 h1x39) rfl ?_; clear H a; intro a H
    refine n_storeEl (e := eI) (x' := (-2)) H rfl rfl sz3 (hS.own 0 rfl) hv38 hAx39 (natI hxx39) rfl (eI_one _) (fun _ => rfl) ?_
    clear H; intro w40 hN hC41; clear a; intro a H; replace hS := hS.setOwn hN hC41 (.inl rfl); clear hN
    refine n_nil (then_normal (wp_seq (wp_region_lit (n_q H (q_assign rfl) rfl ?_)))); clear H a; intro a H
    refine n_nil (then_normal (wp_block ?_))
    replace hm := bindS hm; obtain ⟨q42, hm, hm42⟩ := hm; replace hm := iter_some hm; obtain ⟨n42, hm⟩ := hm
    refine c_loop (σ := Nat × (List Int) × Nat) (fun (m, l43, i46) => [(1, .pointer (some ⟨b21, 0, none⟩)), (3, .slice (some ⟨b26, 0, none⟩) a0.Ticks.toNat a0.Ticks.toNat), (4, .int .i64 z35), (5, .int .i64 ((i46 : Nat) : Int))]) (fun (m, l43, i46) wl => iterN (g_r14_Owners_L16 a0 z35) m (l43, i46) = some q42 ∧ St NB w wl [ownR 3 1 (.slice (some ⟨b26, 0, none⟩) a0.Ticks.toNat a0.Ticks.toNat) l43.length (l43.flatMap eI), blkR b21 [.int .i64 a0.Ticks, vp0_0, vp0_1, vp0_2, vp0_3, .int .i64 a0.Tries] 49]) (fun (m, l43, i46) => m) (n42, (l31.set z35.toNat (-2)), 0) H ⟨rfl, rfl, rfl, rfl, trivial⟩ ⟨hm, hS⟩ ?_
    clear H hS hm a; intro xx a w47 H hR; obtain ⟨m, l43, i46⟩ := xx; simp only [ent, List.map_cons, List.map_nil] at H; (try dsimp only at hR); obtain ⟨hm, hS⟩ := hR
    replace hm := iterN_step hm; obtain ⟨m42, o42, rfl, hm, hn42⟩ := hm; try dsimp only [g_r14_Owners_L16] at hm
    refine wp_seq (wp_seq (wp_region_lit (n_q H (q_move rfl) rfl (W_q (q_fieldAddr0 rfl fo49_3) rfl (W_q (q_load rfl ((hS.blk 1 rfl).ld ag46 rfl)) rfl ?_))))); clear H a; intro a H
    obtain ⟨A48, c48, hv48, hl48, hm48⟩ := SlR.formV (hrp0_2.ext (Flat.mono _) hS.x)
    refine n_q H (q_lenV Tryz.underlying46 rfl hv48) rfl (W_q (q_lssN (i := i46) (j := a0.Windows.length) rfl rfl) rfl ?_); clear H a; intro a H
    refine n_nil (then_normal (c_cond H rfl (fun hc49 => ?_) (fun hc49 => ?_)))
    · replace hm := condT hm hc49
      have hlt50 : i46 < a0.Windows.length := of_decide_eq_true hc49
      refine wp_skip (then_normal ?_)
      replace hm := bindS hm; obtain ⟨j51, hm, hm51⟩ := hm
      refine c_join (σ := (List Int)) H (fun l552 => [(1, .pointer (some ⟨b21, 0, none⟩)), (3, .slice (some ⟨b26, 0, none⟩) a0.Ticks.toNat a0.Ticks.toNat), (4, .int .i64 z35), (5, .int .i64 ((i46 : Nat) : Int))]) (fun l552 wl => (g_r14_Owners_J15 i46) l552 = some o42 ∧ St NB w wl [ownR 3 1 (.slice (some ⟨b26, 0, none⟩) a0.Ticks.toNat a0.Ticks.toNat) l552.length (l552.flatMap eI), blkR b21 [.int .i64 a0.Ticks, vp0_0, vp0_1, vp0_2, vp0_3, .int .i64 a0.Tries] 49]) ?_ ?_
      · skip
        refine wp_block (wp_seq (wp_region_lit (n_q H (q_fieldAddr0 rfl fo49_3) rfl (W_q (q_load rfl ((hS.blk 1 rfl).ld ag46 rfl)) rfl (W_q (q_move rfl) rfl ?_))))); clear H a; intro a H
        replace hm := bindS hm; obtain ⟨x555, hx555, hm⟩ := hm
        obtain ⟨adx555, hAx555⟩ := SlR.adV (hrp0_2.ext (Flat.mono _) hS.x) hv48 hx555
        refine n_q H (q_ixV (i := i46) Tryz.underlying46 sz61 rfl hv48 hAx555 rfl (natI hx555)) rfl (W_q (q_load rfl (SlR.ldAggV (hrp0_2.ext (Flat.mono _) hS.x) hv48 hAx555 ag61 sz61 hx555)) rfl ?_); clear H a; intro a H
        refine n_alloc H ze61 rfl ?_
        clear H; intro b556 w557 hN hE558 hs; clear a; intro a H
        replace hS := hS.newBlk hN hE558 hs; clear hN hs
        refine n_storeAll H rfl rfl (vs := [.int .i64 x555.Part, .int .i64 x555.Start, .int .i64 x555.Len]) rfl sz61 (hS.blk 0 rfl) rfl (by simp) ?_
        clear H; intro w559 hN hC560 hz; clear a; intro a H; replace hS := hS.setBlk hN hC560; clear hN hz
        refine n_nil (then_normal (wp_seq (wp_region_lit (n_c H (fun HC => ?_))))); clear H
        refine nc_q HC (q_fieldAddr0 rfl fo61_1) rfl (by kernel_rfl) (V_q (q_load rfl ((hS.blk 0 rfl).ld ag3 rfl)) rfl (by kernel_rfl) (V_q (q_move rfl) rfl (by kernel_rfl) (V_q (q_leq rfl rfl) rfl (by kernel_rfl) (V_q (q_move rfl) rfl (by kernel_rfl) (V_g (q_move rfl) (by kernel_rfl) (by kernel_rfl) (by kernel_rfl) (V_g (q_fieldAddr0 rfl fo61_1) (by kernel_rfl) (by kernel_rfl) (by kernel_rfl) (V_g (q_load rfl ((hS.blk 0 rfl).ld ag3 rfl)) (by kernel_rfl) (by kernel_rfl) (by kernel_rfl) (V_g (q_fieldAddr0 rfl fo61_2) (by kernel_rfl) (by kernel_rfl) (by kernel_rfl) (V_g (q_load rfl ((hS.blk 0 rfl).ld ag3 rfl)) (by kernel_rfl) (by kernel_rfl) (by kernel_rfl) (V_g (q_addW rfl rfl) (by kernel_rfl) (by kernel_rfl) (by kernel_rfl) (V_g (q_lss rfl rfl) (by kernel_rfl) (by kernel_rfl) (by kernel_rfl) ?_))))))))))); clear HC a; intro a HC
        refine nc_and (j := 4) HC rfl rfl rfl (by kernel_rfl) (by kernel_rfl) ?_; clear HC a; intro a HC
        have H := HC.has; clear HC
        refine n_nil (then_normal (c_cond H rfl (fun hc561 => ?_) (fun hc561 => ?_)))
        · replace hm := condT hm hc561
          refine wp_region_lit (n_q H (q_move rfl) rfl (W_q (q_move rfl) rfl (W_q (q_fieldAddr0 rfl fo61_0) rfl (W_q (q_load rfl ((hS.blk 0 rfl).ld ag3 rfl)) rfl ?_)))); clear H a; intro a H
          obtain ⟨A562, c562, hv562, hl562, hm562⟩ := SlR.formV ((hS.own 1 rfl).slr rfl (fun _ _ => rfl))
          replace hm := bindS hm; obtain ⟨x563, hx563, hm⟩ := hm
          obtain ⟨h0x563, h1x563, hxx563⟩ := rdI_some hx563
          obtain ⟨adx563, hAx563⟩ := SlR.adV ((hS.own 1 rfl).slr rfl (fun _ _ => rfl)) hv562 hxx563
          refine n_q H (q_ixVI Tryz.underlying25 sz3 rfl hv562 hAx563 rfl h0x563 h1x563) rfl ?_; clear H a; intro a H
          replace hS := hS.pk1
          refine n_storeEl (e := eI) (x' := x555.Part) H rfl rfl sz3 (hS.own 0 rfl) hv562 hAx563 (natI hxx563) rfl (eI_one _) (fun _ => rfl) ?_
          clear H; intro w564 hN hC565; clear a; intro a H; replace hS := hS.setOwn hN hC565 (.inl rfl); clear hN
          refine n_nil (block_normal (then_normal ?_))
          obtain rfl := Option.some.inj hm; replace hm := hm51; try dsimp only at hm
          replace hS := hS.pk2
          replace hS := hS.pk1
          replace hS := hS.tk2
          exact join (l43.set z35.toNat x555.Part) H ⟨rfl, rfl, rfl, rfl, trivial⟩ ⟨hm, hS⟩
        · replace hm := condF hm hc561
          refine wp_skip (block_normal (then_normal ?_))
          obtain rfl := Option.some.inj hm; replace hm := hm51; try dsimp only at hm
          replace hS := hS.pk2
          replace hS := hS.pk2
          replace hS := hS.tk2
          exact join l43 H ⟨rfl, rfl, rfl, rfl, trivial⟩ ⟨hm, hS⟩
      · clear H hS hm a; intro l552 a w566 H hR
        simp only [ent, List.map_cons, List.map_nil] at H; (try dsimp only at hR); obtain ⟨hm, hS⟩ := hR; try dsimp only [g_r14_Owners_J15] at hm
        refine wp_region_lit (n_q H (q_move rfl) rfl (W_q (q_incr (i := i46) (j := 1) rfl rfl (by omega)) rfl (W_q (q_assign rfl) rfl ?_))); clear H a; intro a H
        refine n_nil (then_normal ?_)
        obtain rfl := Option.some.inj hm
        exact round (m42, l552, i46 + 1) H ⟨rfl, rfl, rfl, rfl, trivial⟩ ⟨hn42, hS⟩ (Nat.lt_succ_self _)
    · replace hm := condF hm hc49
      refine wp_exit (then_exit (then_exit (block_exit ?_)))
      obtain rfl := Option.some.inj hm; have hz : _ = q42 := hn42; subst hz; replace hm := hm42; try dsimp only at hm
      refine block_normal (then_normal (wp_region_lit (n_q H (q_move rfl) rfl (W_q (q_addW rfl rfl) rfl (W_q (q_assign rfl) rfl ?_))))); clear H a; intro a H
      refine n_nil (then_normal ?_)
      obtain rfl := Option.some.inj hm
      exact round (m30, l43, (IntKind.i64.wrap (z35 + 1))) H ⟨rfl, rfl, rfl, trivial⟩ ⟨hn30, hS⟩ (Nat.lt_succ_self _)
  · replace hm := condF hm hc37
    refine wp_exit (then_exit (then_exit (block_exit ?_)))
    obtain rfl := Option.some.inj hm; have hz : _ = q30 := hn30; subst hz; replace hm := hm30; try dsimp only at hm
    refine then_normal (wp_seq (wp_region_lit (n_q H (q_move rfl) rfl (W_q (q_assign rfl) rfl ?_)))); clear H a; intro a H
    refine n_nil (then_normal (wp_ret ?_))
    obtain rfl := Option.some.inj hm
    replace hS := hS.tk1
    refine ret1 H (.inr rfl) rfl rfl ?_
    exact ⟨_, rfl, hS⟩
theorem g_r14_ticks_w {w : World} {A : Nat → Addr} {cs0 : List Value} {a0 : GConfig} {a1 : Int} (h0 : RGConfig w cs0 a0) {r : Int} (hm : g_r14_ticks a0 a1 = some r) :
    Calls Tryz.prog 61 [.agg cs0.toArray, .int .i64 a1].toArray w (Ret fun u w' => u = .int .i64 r ∧ Ext w w') := by
  obtain ⟨vp0_0, vp0_1, vp0_2, vp0_3, rfl, hrp0_0, hrp0_1, hrp0_2, hrp0_3⟩ := h0
  have hS := St.begin NB w
  unfold g_r14_ticks at hm
  refine enter Tryz.func61 rfl rfl rfl ?_; intro a H; dsimp only [enumL, Nat.zero_add, Nat.reduceAdd] at H
  refine wp_seq (wp_region_lit (n_box H rfl (cs := [.int .i64 a0.Ticks, vp0_0, vp0_1, vp0_2, vp0_3, .int .i64 a0.Tries]) rfl rfl ?_))
  clear H; intro b21 w22 hN hE23 hs; clear a; intro a H
  replace hS := hS.newBlk hN hE23 hs; clear hN hs
  refine n_q H (q_assign rfl) rfl ?_; clear H a; intro a H
  refine n_nil (then_normal (wp_seq (wp_region_lit (n_q H (q_load rfl ((hS.blk 0 rfl).ldAll ag49 sz49)) rfl ?_)))); clear H a; intro a H
  replace hm := bindS hm; obtain ⟨r24, hr24, hm⟩ := hm
  refine n_call H rfl en138 (g_r14_Owners_w (A := A) (⟨_, _, _, _, rfl, (hrp0_0.ext RGPlan.mono hS.x), (hrp0_1.ext (Flat.mono _) hS.x), (hrp0_2.ext (Flat.mono _) hS.x), (hrp0_3.ext (Flat.mono _) hS.x)⟩ : RGConfig _ [.int .i64 a0.Ticks, vp0_0, vp0_1, vp0_2, vp0_3, .int .i64 a0.Tries] a0) hr24) rfl ?_
  clear H; intro u25 w27 hv; clear a; intro a H; obtain ⟨_, rfl, hE28⟩ := hv
  replace hS := hS.new hE28; simp only [List.cons_append, List.nil_append] at hS
  refine n_q H (q_assign rfl) rfl ?_; clear H a; intro a H
  refine n_nil (then_normal (wp_seq (wp_region_lit (n_q H (q_assign rfl) rfl ?_)))); clear H a; intro a H
  refine n_nil (then_normal (wp_seq (wp_seq (wp_region_lit (n_q H (q_assign rfl) rfl ?_))))); clear H a; intro a H
  refine n_nil (then_normal (wp_block ?_))
  replace hS := hS.tk1
  replace hm := bindS hm; obtain ⟨q30, hm, hm30⟩ := hm; replace hm := iter_some hm; obtain ⟨n30, hm⟩ := hm
  refine c_loop (σ := Nat × Int × Nat) (fun (m, z33, i32) => [(1, .int .i64 a1), (5, u25), (6, .int .i64 z33), (7, .int .i64 ((i32 : Nat) : Int))]) (fun (m, z33, i32) wl => iterN (g_r14_ticks_L5 a1 r24) m (z33, i32) = some q30 ∧ St NB w wl [ownR 3 1 u25 r24.length (r24.flatMap eI)]) (fun (m, z33, i32) => m) (n30, 0, 0) H ⟨rfl, rfl, rfl, rfl, trivial⟩ ⟨hm, hS⟩ ?_
  clear H hS hm a; intro xx a w34 H hR; obtain ⟨m, z33, i32⟩ := xx; simp only [ent, List.map_cons, List.map_nil] at H; (try dsimp only at hR); obtain ⟨hm, hS⟩ := hR
  replace hm := iterN_step hm; obtain ⟨m30, o30, rfl, hm, hn30⟩ := hm; try dsimp only [g_r14_ticks_L5] at hm
  refine wp_seq (wp_seq (wp_region_lit (n_q H (q_move rfl) rfl (W_q (q_move rfl) rfl ?_)))); clear H a; intro a H
  obtain ⟨A35, c35, hv35, hl35, hm35⟩ := SlR.formV ((hS.own 0 rfl).slr rfl (fun _ _ => rfl))
  refine n_q H (q_lenV Tryz.underlying25 rfl hv35) rfl (W_q (q_lssN (i := i32) (j := r24.length) rfl rfl) rfl ?_); clear H a; intro a H
  refine n_nil (then_normal (c_cond H rfl (fun hc36 => ?_) (fun hc36 => ?_)))
  · replace hm := condT hm hc36
    have hlt37 : i32 < r24.length := of_decide_eq_true hc36
    refine wp_skip (then_normal ?_)
    replace hm := bindS hm; obtain ⟨j38, hm, hm38⟩ := hm
    refine c_join (σ := Int) H (fun z539 => [(1, .int .i64 a1), (5, u25), (6, .int .i64 z539), (7, .int .i64 ((i32 : Nat) : Int))]) (fun z539 wl => (g_r14_ticks_J4 i32) z539 = some o30 ∧ St NB w wl [ownR 3 1 u25 r24.length (r24.flatMap eI)]) ?_ ?_
    · skip
      refine wp_block (wp_seq (wp_region_lit (n_q H (q_move rfl) rfl (W_q (q_move rfl) rfl ?_)))); clear H a; intro a H
      replace hm := bindS hm; obtain ⟨x540, hx540, hm⟩ := hm
      obtain ⟨adx540, hAx540⟩ := SlR.adV ((hS.own 0 rfl).slr rfl (fun _ _ => rfl)) hv35 hx540
      refine n_q H (q_ixV (i := i32) Tryz.underlying25 sz3 rfl hv35 hAx540 rfl (natI hx540)) rfl (W_q (q_load rfl (SlR.ldOneV ((hS.own 0 rfl).slr rfl (fun _ _ => rfl)) hv35 hAx540 ag3 hx540 rfl)) rfl (W_q (q_move rfl) rfl (W_q (q_eqlD rfl rfl) rfl ?_))); clear H a; intro a H
      refine n_nil (then_normal (c_cond H rfl (fun hc541 => ?_) (fun hc541 => ?_)))
      · replace hm := condT hm hc541
        refine wp_region_lit (n_q H (q_move rfl) rfl (W_q (q_addW rfl rfl) rfl (W_q (q_assign rfl) rfl ?_))); clear H a; intro a H
        refine n_nil (block_normal (then_normal ?_))
        obtain rfl := Option.some.inj hm; replace hm := hm38; try dsimp only at hm
        exact join (IntKind.i64.wrap (z33 + 1)) H ⟨rfl, rfl, rfl, rfl, trivial⟩ ⟨hm, hS⟩
      · replace hm := condF hm hc541
        refine wp_skip (block_normal (then_normal ?_))
        obtain rfl := Option.some.inj hm; replace hm := hm38; try dsimp only at hm
        exact join z33 H ⟨rfl, rfl, rfl, rfl, trivial⟩ ⟨hm, hS⟩
    · clear H hS hm a; intro z539 a w542 H hR
      simp only [ent, List.map_cons, List.map_nil] at H; (try dsimp only at hR); obtain ⟨hm, hS⟩ := hR; try dsimp only [g_r14_ticks_J4] at hm
      refine wp_region_lit (n_q H (q_move rfl) rfl (W_q (q_incr (i := i32) (j := 1) rfl rfl (by omega)) rfl (W_q (q_assign rfl) rfl ?_))); clear H a; intro a H
      refine n_nil (then_normal ?_)
      obtain rfl := Option.some.inj hm
      exact round (m30, z539, i32 + 1) H ⟨rfl, rfl, rfl, rfl, trivial⟩ ⟨hn30, hS⟩ (Nat.lt_succ_self _)
  · replace hm := condF hm hc36
    refine wp_exit (then_exit (then_exit (block_exit ?_)))
    obtain rfl := Option.some.inj hm; have hz : _ = q30 := hn30; subst hz; replace hm := hm30; try dsimp only at hm
    refine then_normal (wp_seq (wp_region_lit (n_q H (q_move rfl) rfl (W_q (q_assign rfl) rfl ?_)))); clear H a; intro a H
    refine n_nil (then_normal (wp_ret ?_))
    obtain rfl := Option.some.inj hm
    replace hS := hS.tk0
    refine ret1 H (.inr rfl) rfl rfl ?_
    exact ⟨rfl, hS.x⟩
end Go.Proofs.YtjoihegnjjjdaaaGreatDoor
