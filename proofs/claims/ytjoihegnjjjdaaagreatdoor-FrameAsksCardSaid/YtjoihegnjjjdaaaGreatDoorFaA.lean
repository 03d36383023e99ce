/- Fa (written by wip/tools) -/
import Derived.Test.YtjoihegnjjjdaaaGreatDoorFaD
set_option linter.unusedVariables false
set_option linter.unusedSimpArgs false
set_option maxRecDepth 10000
namespace Go.Proofs.YtjoihegnjjjdaaaGreatDoor
open Go Go.RowKit
theorem ag117 : aggB Tryz.prog 117 = some false := by kernel_rfl
theorem ag133 : aggB Tryz.prog 133 = some true := by kernel_rfl
theorem ag167 : aggB Tryz.prog 167 = some true := by kernel_rfl
theorem ag169 : aggB Tryz.prog 169 = some true := by kernel_rfl
theorem ag171 : aggB Tryz.prog 171 = some true := by kernel_rfl
theorem ag22 : aggB Tryz.prog 22 = some false := by kernel_rfl
theorem ag23 : aggB Tryz.prog 23 = some false := by kernel_rfl
theorem ag24 : aggB Tryz.prog 24 = some false := by kernel_rfl
theorem ag25 : aggB Tryz.prog 25 = some false := by kernel_rfl
theorem ag27 : aggB Tryz.prog 27 = some true := by kernel_rfl
theorem ag4 : aggB Tryz.prog 4 = some false := by kernel_rfl
theorem ag45 : aggB Tryz.prog 45 = some false := by kernel_rfl
theorem ag46 : aggB Tryz.prog 46 = some false := by kernel_rfl
theorem ag47 : aggB Tryz.prog 47 = some false := by kernel_rfl
theorem ag49 : aggB Tryz.prog 49 = some true := by kernel_rfl
theorem ag61 : aggB Tryz.prog 61 = some true := by kernel_rfl
theorem ag63 : aggB Tryz.prog 63 = some true := by kernel_rfl
theorem ag77 : aggB Tryz.prog 77 = some false := by kernel_rfl
theorem ag87 : aggB Tryz.prog 87 = some false := by kernel_rfl
theorem ag9 : aggB Tryz.prog 9 = some false := by kernel_rfl
theorem bd128 : bdB Tryz.prog 128 = true := by kernel_rfl
theorem pl128 : placesB Tryz.prog 128 = some #[(0, 1), (1, 1)] := by kernel_rfl
theorem bd133 : bdB Tryz.prog 133 = true := by kernel_rfl
theorem pl133 : placesB Tryz.prog 133 = some #[(0, 1), (1, 1)] := by kernel_rfl
theorem bd167 : bdB Tryz.prog 167 = true := by kernel_rfl
theorem pl167 : placesB Tryz.prog 167 = some #[(0, 1), (1, 1)] := by kernel_rfl
theorem bd169 : bdB Tryz.prog 169 = true := by kernel_rfl
theorem pl169 : placesB Tryz.prog 169 = some #[(0, 1), (1, 1), (2, 1)] := by kernel_rfl
theorem bd171 : bdB Tryz.prog 171 = true := by kernel_rfl
theorem pl171 : placesB Tryz.prog 171 = some #[(0, 1), (1, 1), (2, 1), (3, 1)] := by kernel_rfl
theorem bd27 : bdB Tryz.prog 27 = true := by kernel_rfl
theorem pl27 : placesB Tryz.prog 27 = some #[(0, 1), (1, 1), (2, 1), (3, 1), (4, 1), (5, 1), (6, 1)] := by kernel_rfl
theorem bd49 : bdB Tryz.prog 49 = true := by kernel_rfl
theorem pl49 : placesB Tryz.prog 49 = some #[(0, 1), (1, 1), (2, 1), (3, 1), (4, 1), (5, 1)] := by kernel_rfl
theorem bd61 : bdB Tryz.prog 61 = true := by kernel_rfl
theorem pl61 : placesB Tryz.prog 61 = some #[(0, 1), (1, 1), (2, 1)] := by kernel_rfl
theorem bd63 : bdB Tryz.prog 63 = true := by kernel_rfl
theorem pl63 : placesB Tryz.prog 63 = some #[(0, 1), (1, 1), (2, 1), (3, 1)] := by kernel_rfl
theorem el133 : ElemOk Tryz.prog 133 2 24 [.int .i64 0, .string ⟨#[]⟩] := ⟨by kernel_rfl, by kernel_rfl, by kernel_rfl, rfl, by decide⟩
theorem el61 : ElemOk Tryz.prog 61 3 24 [.int .i64 0, .int .i64 0, .int .i64 0] := ⟨by kernel_rfl, by kernel_rfl, by kernel_rfl, rfl, by decide⟩
theorem el87 : ElemOk Tryz.prog 87 1 24 [.slice none 0 0] := ⟨by kernel_rfl, by kernel_rfl, by kernel_rfl, rfl, by decide⟩
theorem en107 : entersB Tryz.prog 107 = true := by kernel_rfl
theorem en108 : entersB Tryz.prog 108 = true := by kernel_rfl
theorem en109 : entersB Tryz.prog 109 = true := by kernel_rfl
theorem en139 : entersB Tryz.prog 139 = true := by kernel_rfl
theorem en143 : entersB Tryz.prog 143 = true := by kernel_rfl
theorem en144 : entersB Tryz.prog 144 = true := by kernel_rfl
theorem en145 : entersB Tryz.prog 145 = true := by kernel_rfl
theorem en146 : entersB Tryz.prog 146 = true := by kernel_rfl
theorem en147 : entersB Tryz.prog 147 = true := by kernel_rfl
theorem en186 : entersB Tryz.prog 186 = true := by kernel_rfl
theorem en187 : entersB Tryz.prog 187 = true := by kernel_rfl
theorem en188 : entersB Tryz.prog 188 = true := by kernel_rfl
theorem en194 : entersB Tryz.prog 194 = true := by kernel_rfl
theorem en195 : entersB Tryz.prog 195 = true := by kernel_rfl
theorem en196 : entersB Tryz.prog 196 = true := by kernel_rfl
theorem en208 : entersB Tryz.prog 208 = true := by kernel_rfl
theorem en209 : entersB Tryz.prog 209 = true := by kernel_rfl
theorem en210 : entersB Tryz.prog 210 = true := by kernel_rfl
theorem en211 : entersB Tryz.prog 211 = true := by kernel_rfl
theorem en212 : entersB Tryz.prog 212 = true := by kernel_rfl
theorem en28 : entersB Tryz.prog 28 = true := by kernel_rfl
theorem en51 : entersB Tryz.prog 51 = true := by kernel_rfl
theorem en77 : entersB Tryz.prog 77 = true := by kernel_rfl
theorem en78 : entersB Tryz.prog 78 = true := by kernel_rfl
theorem en79 : entersB Tryz.prog 79 = true := by kernel_rfl
theorem en85 : entersB Tryz.prog 85 = true := by kernel_rfl
theorem fo133_0 : fOff Tryz.prog 133 0 = some 0 := by kernel_rfl
theorem fo133_1 : fOff Tryz.prog 133 1 = some 1 := by kernel_rfl
theorem fo167_0 : fOff Tryz.prog 167 0 = some 0 := by kernel_rfl
theorem fo167_1 : fOff Tryz.prog 167 1 = some 1 := by kernel_rfl
theorem fo169_0 : fOff Tryz.prog 169 0 = some 0 := by kernel_rfl
theorem fo169_1 : fOff Tryz.prog 169 1 = some 1 := by kernel_rfl
theorem fo171_0 : fOff Tryz.prog 171 0 = some 0 := by kernel_rfl
theorem fo171_1 : fOff Tryz.prog 171 1 = some 1 := by kernel_rfl
theorem fo171_2 : fOff Tryz.prog 171 2 = some 2 := by kernel_rfl
theorem fo171_3 : fOff Tryz.prog 171 3 = some 3 := by kernel_rfl
theorem fo27_0 : fOff Tryz.prog 27 0 = some 0 := by kernel_rfl
theorem fo27_1 : fOff Tryz.prog 27 1 = some 1 := by kernel_rfl
theorem fo27_2 : fOff Tryz.prog 27 2 = some 2 := by kernel_rfl
theorem fo27_3 : fOff Tryz.prog 27 3 = some 3 := by kernel_rfl
theorem fo27_4 : fOff Tryz.prog 27 4 = some 4 := by kernel_rfl
theorem fo27_5 : fOff Tryz.prog 27 5 = some 5 := by kernel_rfl
theorem fo27_6 : fOff Tryz.prog 27 6 = some 6 := by kernel_rfl
theorem fo49_0 : fOff Tryz.prog 49 0 = some 0 := by kernel_rfl
theorem fo49_1 : fOff Tryz.prog 49 1 = some 1 := by kernel_rfl
theorem fo49_2 : fOff Tryz.prog 49 2 = some 2 := by kernel_rfl
theorem fo49_3 : fOff Tryz.prog 49 3 = some 3 := by kernel_rfl
theorem fo49_4 : fOff Tryz.prog 49 4 = some 4 := by kernel_rfl
theorem fo49_5 : fOff Tryz.prog 49 5 = some 5 := by kernel_rfl
theorem fo61_0 : fOff Tryz.prog 61 0 = some 0 := by kernel_rfl
theorem fo61_1 : fOff Tryz.prog 61 1 = some 1 := by kernel_rfl
theorem fo61_2 : fOff Tryz.prog 61 2 = some 2 := by kernel_rfl
theorem fo63_0 : fOff Tryz.prog 63 0 = some 0 := by kernel_rfl
theorem fo63_1 : fOff Tryz.prog 63 1 = some 1 := by kernel_rfl
theorem fo63_2 : fOff Tryz.prog 63 2 = some 2 := by kernel_rfl
theorem fo63_3 : fOff Tryz.prog 63 3 = some 3 := by kernel_rfl
theorem sz117 : sizeB Tryz.prog 117 = some 1 := by kernel_rfl
theorem sz133 : sizeB Tryz.prog 133 = some 2 := by kernel_rfl
theorem sz167 : sizeB Tryz.prog 167 = some 2 := by kernel_rfl
theorem sz169 : sizeB Tryz.prog 169 = some 3 := by kernel_rfl
theorem sz171 : sizeB Tryz.prog 171 = some 4 := by kernel_rfl
theorem sz27 : sizeB Tryz.prog 27 = some 7 := by kernel_rfl
theorem sz3 : sizeB Tryz.prog 3 = some 1 := by kernel_rfl
theorem sz4 : sizeB Tryz.prog 4 = some 1 := by kernel_rfl
theorem sz49 : sizeB Tryz.prog 49 = some 6 := by kernel_rfl
theorem sz61 : sizeB Tryz.prog 61 = some 3 := by kernel_rfl
theorem sz63 : sizeB Tryz.prog 63 = some 4 := by kernel_rfl
theorem sz77 : sizeB Tryz.prog 77 = some 1 := by kernel_rfl
theorem sz87 : sizeB Tryz.prog 87 = some 1 := by kernel_rfl
theorem ze117 : zeroB Tryz.prog 117 = some [.nilFunc] := by kernel_rfl
theorem ze128 : zeroB Tryz.prog 128 = some [.int .i64 0, .nilIface] := by kernel_rfl
theorem ze133 : zeroB Tryz.prog 133 = some [.int .i64 0, .string ⟨#[]⟩] := by kernel_rfl
theorem ze167 : zeroB Tryz.prog 167 = some [.int .i64 0, .string ⟨#[]⟩] := by kernel_rfl
theorem ze169 : zeroB Tryz.prog 169 = some [.int .i64 0, .int .i64 0, .bool false] := by kernel_rfl
theorem ze171 : zeroB Tryz.prog 171 = some [.int .i64 0, .int .i64 0, .int .i64 0, .int .i64 0] := by kernel_rfl
theorem ze27 : zeroB Tryz.prog 27 = some [.int .i64 0, .bool false, .slice none 0 0, .slice none 0 0, .slice none 0 0, .int .i64 0, .slice none 0 0] := by kernel_rfl
theorem ze3 : zeroB Tryz.prog 3 = some [.int .i64 0] := by kernel_rfl
theorem ze49 : zeroB Tryz.prog 49 = some [.int .i64 0, .slice none 0 0, .slice none 0 0, .slice none 0 0, .slice none 0 0, .int .i64 0] := by kernel_rfl
theorem ze61 : zeroB Tryz.prog 61 = some [.int .i64 0, .int .i64 0, .int .i64 0] := by kernel_rfl
theorem ze63 : zeroB Tryz.prog 63 = some [.int .i64 0, .int .i64 0, .int .i64 0, .int .i64 0] := by kernel_rfl
theorem ze77 : zeroB Tryz.prog 77 = some [.nilFunc] := by kernel_rfl

theorem g_plan_at_w {w : World} {A : Nat → Addr} {a0 : Int} {v1 : Value} {a1 : ErrM} (h1 : IsE A w v1 a1) {r : ErrM} (hm : g_plan_at a0 a1 = some r) :
    Calls Tryz.prog 186 [.int .i64 a0, v1].toArray w (Ret fun u w' => ∃ h_0, u = h_0 ∧ St NB w w' [erQ A h_0 r]) := by
  have hS := St.begin NB w
  unfold g_plan_at at hm
  refine enter Tryz.func186 rfl rfl rfl ?_; intro a H; dsimp only [enumL, Nat.zero_add, Nat.reduceAdd] at H
  refine wp_seq (wp_region_lit (n_q H (q_assign rfl) rfl ?_)); clear H a; intro a H
  refine n_nil (then_normal (wp_seq (wp_region_lit (n_q H (q_move rfl) rfl (W_q (q_move rfl) rfl (W_q (q_build (cs := [.int .i64 a0, v1]) ze128 bd128 pl128 rfl ((fill1 rfl rfl (by simp)).trans ((fill1 (IsErr.ext h1 hS.x).one rfl (by simp)).trans rfl))) rfl ?_)))))); clear H a; intro a H
  refine n_box H rfl (cs := [.int .i64 a0, v1]) rfl rfl ?_
  clear H; intro b21 w22 hN hE23 hs; clear a; intro a H
  replace hS := hS.newBlk hN hE23 hs; clear hN hs
  replace hm := bindS hm; obtain ⟨r24, hr24, hm⟩ := hm
  have hIr24 := (IsErr.ext h1 hS.x)
  refine n_q H (q_makeInterface Tryz.underlying124 (by simp) rfl) rfl ?_; clear H a; intro a H
  replace hS := hS.dAtE hIr24 hr24
  refine n_q H (q_assign rfl) rfl ?_; clear H a; intro a H
  refine n_nil (then_normal (wp_ret ?_))
  obtain rfl := Option.some.inj hm
  refine ret1 H (.inr rfl) rfl rfl ?_
  exact ⟨_, rfl, hS⟩
theorem g_plan_checkPages_w {w : World} {A : Nat → Addr} {cs0 : List Value} {a0 : GPlan} (hG : EV A w) (h0 : RGPlan w cs0 a0) {r : ErrM} (hm : g_plan_checkPages a0 = some r) :
    Calls Tryz.prog 107 [.agg cs0.toArray].toArray w (Ret fun u w' => ∃ h_0, u = h_0 ∧ St NB w w' [erQ A h_0 r]) := by
  obtain ⟨vp0_0, vp0_1, vp0_2, vp0_3, rfl, hrp0_0, hrp0_1, hrp0_2, hrp0_3⟩ := h0
  have hS := St.begin NB w
  unfold g_plan_checkPages at hm
  refine enter Tryz.func107 rfl rfl rfl ?_; intro a H; dsimp only [enumL, Nat.zero_add, Nat.reduceAdd] at H
  refine wp_seq (wp_region_lit (n_box H rfl (cs := [.int .i64 a0.Id, .bool a0.Mobile, vp0_0, vp0_1, vp0_2, .int .i64 a0.Events, vp0_3]) rfl rfl ?_))
  clear H; intro b21 w22 hN hE23 hs; clear a; intro a H
  replace hS := hS.newBlk hN hE23 hs; clear hN hs
  refine n_q H (q_assign rfl) rfl ?_; clear H a; intro a H
  refine n_nil (then_normal (wp_seq (wp_seq (wp_region_lit (n_c H (fun HC => ?_)))))); clear H
  refine nc_q HC (q_fieldAddr0 rfl fo27_2) rfl (by kernel_rfl) (V_q (q_load rfl ((hS.blk 0 rfl).ld ag22 rfl)) rfl (by kernel_rfl) ?_); clear HC a; intro a HC
  obtain ⟨A24, c24, hv24, hl24, hm24⟩ := SlR.formV (hrp0_0.ext (Flat.mono _) hS.x)
  refine nc_q HC (q_lenV Tryz.underlying22 rfl hv24) rfl (by kernel_rfl) (V_q (q_lssN (i := a0.Pages.length) (j := 1) rfl rfl) rfl (by kernel_rfl) (V_q (q_move rfl) rfl (by kernel_rfl) (V_g (q_fieldAddr0 rfl fo27_2) (by kernel_rfl) (by kernel_rfl) (by kernel_rfl) (V_g (q_load rfl ((hS.blk 0 rfl).ld ag22 rfl)) (by kernel_rfl) (by kernel_rfl) (by kernel_rfl) (V_g (q_lenV Tryz.underlying22 rfl hv24) (by kernel_rfl) (by kernel_rfl) (by kernel_rfl) (V_g (q_gtrN (i := a0.Pages.length) (j := 32) rfl rfl) (by kernel_rfl) (by kernel_rfl) (by kernel_rfl) (V_or (j := 4) rfl rfl rfl (by kernel_rfl) (by kernel_rfl) ?_))))))); clear HC a; intro a HC
  have H := HC.has; clear HC
  refine n_nil (then_normal (c_cond H rfl (fun hc25 => ?_) (fun hc25 => ?_)))
  · replace hm := condT hm hc25
    refine wp_seq (wp_region_lit (n_q H (q_load rfl ((hG.ext hS.x).ld gSize (by decide) ag41)) rfl (W_q (q_assign rfl) rfl ?_))); clear H a; intro a H
    refine n_nil (then_normal (wp_ret (then_ret ?_)))
    obtain rfl := Option.some.inj hm
    replace hS := hS.dVar (A := A) (g := gSize) (by decide)
    replace hS := hS.tk1
    refine ret1 H (.inr rfl) rfl rfl ?_
    exact ⟨_, rfl, hS⟩
  · replace hm := condF hm hc25
    refine wp_skip (then_normal (wp_seq (wp_seq (wp_region_lit (n_q H (q_fieldAddr0 rfl fo27_2) rfl (W_q (q_load rfl ((hS.blk 0 rfl).ld ag22 rfl)) rfl (W_q (q_lenV Tryz.underlying22 rfl hv24) rfl (W_q (q_move rfl) rfl ?_)))))))); clear H a; intro a H
    refine n_nil (then_normal (wp_block ?_))
    replace hS := hS.tk0
    replace hm := bindS hm; obtain ⟨q27, hm, hm27⟩ := hm; replace hm := iter_some hm; obtain ⟨n27, hm⟩ := hm
    refine c_loop (σ := Nat × Nat) (fun (m, i28) => [(17, vp0_0), (18, .int .i64 ((a0.Pages.length : Nat) : Int)), (19, .int .i64 ((i28 : Nat) : Int))]) (fun (m, i28) wl => iterN (g_plan_checkPages_L1 a0) m i28 = some q27 ∧ St NB w wl []) (fun (m, i28) => m) (n27, 0) H ⟨rfl, rfl, rfl, trivial⟩ ⟨hm, hS⟩ ?_
    clear H hS hm a; intro xx a w29 H hR; obtain ⟨m, i28⟩ := xx; simp only [ent, List.map_cons, List.map_nil] at H; (try dsimp only at hR); obtain ⟨hm, hS⟩ := hR
    replace hm := iterN_step hm; obtain ⟨m27, o27, rfl, hm, hn27⟩ := hm; try dsimp only [g_plan_checkPages_L1] at hm
    refine wp_seq (wp_region_lit (n_q H (q_lssN (i := i28) (j := a0.Pages.length) rfl rfl) rfl ?_)); clear H a; intro a H
    refine n_nil (then_normal (wp_seq (c_cond H rfl (fun hc30 => ?_) (fun hc30 => ?_))))
    · replace hm := condT hm hc30
      have hlt31 : i28 < a0.Pages.length := of_decide_eq_true hc30
      refine wp_skip (then_normal (wp_seq (wp_block (wp_seq (wp_region_lit (n_q H (q_move rfl) rfl ?_)))))); clear H a; intro a H
      replace hm := bindS hm; obtain ⟨x32, hx32, hm⟩ := hm
      obtain ⟨adx32, hAx32⟩ := SlR.adV (hrp0_0.ext (Flat.mono _) hS.x) hv24 hx32
      refine n_q H (q_ixV (i := i28) Tryz.underlying22 sz167 rfl hv24 hAx32 rfl (natI hx32)) rfl (W_q (q_load rfl (SlR.ldAggV (hrp0_0.ext (Flat.mono _) hS.x) hv24 hAx32 ag167 sz167 hx32)) rfl ?_); clear H a; intro a H
      refine n_alloc H ze167 rfl ?_
      clear H; intro b33 w34 hN hE35 hs; clear a; intro a H
      replace hS := hS.newBlk hN hE35 hs; clear hN hs
      refine n_q H (q_assign rfl) rfl ?_; clear H a; intro a H
      refine n_storeAll H rfl rfl (vs := [.int .i64 x32.Rights, .string x32.Init]) rfl sz167 (hS.blk 0 rfl) rfl (by simp) ?_
      clear H; intro w36 hN hC37 hz; clear a; intro a H; replace hS := hS.setBlk hN hC37; clear hN hz
      refine n_nil (then_normal (wp_seq (wp_seq (wp_region_lit (n_c H (fun HC => ?_)))))); clear H
      refine nc_q HC (q_fieldAddr0 rfl fo167_0) rfl (by kernel_rfl) (V_q (q_load rfl ((hS.blk 0 rfl).ld ag3 rfl)) rfl (by kernel_rfl) (V_q (q_lss rfl rfl) rfl (by kernel_rfl) (V_q (q_move rfl) rfl (by kernel_rfl) (V_g (q_fieldAddr0 rfl fo167_0) (by kernel_rfl) (by kernel_rfl) (by kernel_rfl) (V_g (q_load rfl ((hS.blk 0 rfl).ld ag3 rfl)) (by kernel_rfl) (by kernel_rfl) (by kernel_rfl) (V_g (q_gtr rfl rfl) (by kernel_rfl) (by kernel_rfl) (by kernel_rfl) (V_or (j := 3) rfl rfl rfl (by kernel_rfl) (by kernel_rfl) ?_))))))); clear HC a; intro a HC
      have H := HC.has; clear HC
      refine n_nil (then_normal (c_cond H rfl (fun hc38 => ?_) (fun hc38 => ?_)))
      · replace hm := condT hm hc38
        refine wp_seq (wp_region_lit (n_q H (q_move rfl) rfl (W_q (q_load rfl ((hG.ext hS.x).ld gRange (by decide) ag41)) rfl ?_))); clear H a; intro a H
        replace hm := bindS hm; obtain ⟨r39, hr39, hm⟩ := hm
        refine n_call H rfl en186 (g_plan_at_w (A := A) (IsErr.var (by decide) : IsE A w36 _ (.v gRange)) hr39) rfl ?_
        clear H; intro u40 w42 hv; clear a; intro a H; obtain ⟨_, rfl, hE43⟩ := hv
        replace hS := hS.new hE43; simp only [List.cons_append, List.nil_append] at hS
        refine n_q H (q_assign rfl) rfl ?_; clear H a; intro a H
        refine n_nil (then_normal (wp_ret (then_ret (block_ret (then_ret (then_ret (block_ret (then_ret ?_))))))))
        obtain rfl := Option.some.inj hm; have hz : _ = q27 := hn27; subst hz; replace hm := hm27; try dsimp only at hm
        obtain rfl := Option.some.inj hm
        replace hS := hS.tk1
        refine ret1 H (.inr rfl) rfl rfl ?_
        exact ⟨_, rfl, hS⟩
      · replace hm := condF hm hc38
        refine wp_skip (then_normal (wp_seq (wp_region_lit (n_q H (q_fieldAddr0 rfl fo167_1) rfl (W_q (q_load rfl ((hS.blk 0 rfl).ld ag9 rfl)) rfl (W_q (q_lenS Tryz.underlying9 rfl) rfl (W_q (q_gtrN (i := x32.Init.size) (j := 64) rfl rfl) rfl ?_))))))); clear H a; intro a H
        refine n_nil (then_normal (c_cond H rfl (fun hc45 => ?_) (fun hc45 => ?_)))
        · replace hm := condT hm hc45
          refine wp_seq (wp_region_lit (n_q H (q_move rfl) rfl (W_q (q_load rfl ((hG.ext hS.x).ld gLength (by decide) ag41)) rfl ?_))); clear H a; intro a H
          replace hm := bindS hm; obtain ⟨r46, hr46, hm⟩ := hm
          refine n_call H rfl en186 (g_plan_at_w (A := A) (IsErr.var (by decide) : IsE A w36 _ (.v gLength)) hr46) rfl ?_
          clear H; intro u47 w49 hv; clear a; intro a H; obtain ⟨_, rfl, hE50⟩ := hv
          replace hS := hS.new hE50; simp only [List.cons_append, List.nil_append] at hS
          refine n_q H (q_assign rfl) rfl ?_; clear H a; intro a H
          refine n_nil (then_normal (wp_ret (block_ret (then_ret (then_ret (block_ret (then_ret ?_)))))))
          obtain rfl := Option.some.inj hm; have hz : _ = q27 := hn27; subst hz; replace hm := hm27; try dsimp only at hm
          obtain rfl := Option.some.inj hm
          replace hS := hS.tk1
          refine ret1 H (.inr rfl) rfl rfl ?_
          exact ⟨_, rfl, hS⟩
        · replace hm := condF hm hc45
          refine wp_skip (block_normal (then_normal (wp_region_lit (n_q H (q_incr (i := i28) (j := 1) rfl rfl (by omega)) rfl (W_q (q_move rfl) rfl ?_))))); clear H a; intro a H
          refine n_nil (then_normal ?_)
          obtain rfl := Option.some.inj hm
          replace hS := hS.tk0
          exact round (m27, i28 + 1) H ⟨rfl, rfl, rfl, trivial⟩ ⟨hn27, hS⟩ (Nat.lt_succ_self _)
    · replace hm := condF hm hc30
      refine wp_exit (then_exit (then_exit (block_exit ?_)))
      obtain rfl := Option.some.inj hm; have hz : _ = q27 := hn27; subst hz; replace hm := hm27; try dsimp only at hm
      refine then_normal (wp_seq (wp_region_lit (n_q H (q_assign rfl) rfl ?_))); clear H a; intro a H
      refine n_nil (then_normal (wp_ret ?_))
      obtain rfl := Option.some.inj hm
      replace hS := hS.dNil (A := A)
      refine ret1 H (.inr rfl) rfl rfl ?_
      exact ⟨_, rfl, hS⟩
theorem g_plan_checkProcs_w {w : World} {A : Nat → Addr} {cs0 : List Value} {a0 : GPlan} (hG : EV A w) (h0 : RGPlan w cs0 a0) {r : ErrM} (hm : g_plan_checkProcs a0 = some r) :
    Calls Tryz.prog 108 [.agg cs0.toArray].toArray w (Ret fun u w' => ∃ h_0, u = h_0 ∧ St NB w w' [erQ A h_0 r]) := by
  obtain ⟨vp0_0, vp0_1, vp0_2, vp0_3, rfl, hrp0_0, hrp0_1, hrp0_2, hrp0_3⟩ := h0
  have hS := St.begin NB w
  unfold g_plan_checkProcs at hm
  refine enter Tryz.func108 rfl rfl rfl ?_; intro a H; dsimp only [enumL, Nat.zero_add, Nat.reduceAdd] at H
  refine wp_seq (wp_region_lit (n_box H rfl (cs := [.int .i64 a0.Id, .bool a0.Mobile, vp0_0, vp0_1, vp0_2, .int .i64 a0.Events, vp0_3]) rfl rfl ?_))
  clear H; intro b21 w22 hN hE23 hs; clear a; intro a H
  replace hS := hS.newBlk hN hE23 hs; clear hN hs
  refine n_q H (q_assign rfl) rfl ?_; clear H a; intro a H
  refine n_nil (then_normal (wp_seq (wp_seq (wp_region_lit (n_c H (fun HC => ?_)))))); clear H
  refine nc_q HC (q_fieldAddr0 rfl fo27_3) rfl (by kernel_rfl) (V_q (q_load rfl ((hS.blk 0 rfl).ld ag23 rfl)) rfl (by kernel_rfl) ?_); clear HC a; intro a HC
  obtain ⟨A24, c24, hv24, hl24, hm24⟩ := SlR.formV (hrp0_1.ext (Flat.mono _) hS.x)
  refine nc_q HC (q_lenV Tryz.underlying23 rfl hv24) rfl (by kernel_rfl) (V_q (q_lssN (i := a0.Procs.length) (j := 1) rfl rfl) rfl (by kernel_rfl) (V_q (q_move rfl) rfl (by kernel_rfl) (V_g (q_fieldAddr0 rfl fo27_3) (by kernel_rfl) (by kernel_rfl) (by kernel_rfl) (V_g (q_load rfl ((hS.blk 0 rfl).ld ag23 rfl)) (by kernel_rfl) (by kernel_rfl) (by kernel_rfl) (V_g (q_lenV Tryz.underlying23 rfl hv24) (by kernel_rfl) (by kernel_rfl) (by kernel_rfl) (V_g (q_gtrN (i := a0.Procs.length) (j := 8) rfl rfl) (by kernel_rfl) (by kernel_rfl) (by kernel_rfl) (V_or (j := 4) rfl rfl rfl (by kernel_rfl) (by kernel_rfl) ?_))))))); clear HC a; intro a HC
  have H := HC.has; clear HC
  refine n_nil (then_normal (c_cond H rfl (fun hc25 => ?_) (fun hc25 => ?_)))
  · replace hm := condT hm hc25
    refine wp_seq (wp_region_lit (n_q H (q_load rfl ((hG.ext hS.x).ld gSize (by decide) ag41)) rfl (W_q (q_assign rfl) rfl ?_))); clear H a; intro a H
    refine n_nil (then_normal (wp_ret (then_ret ?_)))
    obtain rfl := Option.some.inj hm
    replace hS := hS.dVar (A := A) (g := gSize) (by decide)
    replace hS := hS.tk1
    refine ret1 H (.inr rfl) rfl rfl ?_
    exact ⟨_, rfl, hS⟩
  · replace hm := condF hm hc25
    refine wp_skip (then_normal (wp_seq (wp_seq (wp_region_lit (n_q H (q_fieldAddr0 rfl fo27_3) rfl (W_q (q_load rfl ((hS.blk 0 rfl).ld ag23 rfl)) rfl (W_q (q_lenV Tryz.underlying23 rfl hv24) rfl (W_q (q_move rfl) rfl ?_)))))))); clear H a; intro a H
    refine n_nil (then_normal (wp_block ?_))
    replace hm := bindS hm; obtain ⟨q27, hm, hm27⟩ := hm; replace hm := iter_some hm; obtain ⟨n27, hm⟩ := hm
    refine c_loop (σ := Nat × Nat) (fun (m, i28) => [(1, .pointer (some ⟨b21, 0, none⟩)), (17, vp0_1), (18, .int .i64 ((a0.Procs.length : Nat) : Int)), (19, .int .i64 ((i28 : Nat) : Int))]) (fun (m, i28) wl => iterN (g_plan_checkProcs_L7 a0) m i28 = some q27 ∧ St NB w wl [blkR b21 [.int .i64 a0.Id, .bool a0.Mobile, vp0_0, vp0_1, vp0_2, .int .i64 a0.Events, vp0_3] 27]) (fun (m, i28) => m) (n27, 0) H ⟨rfl, rfl, rfl, rfl, trivial⟩ ⟨hm, hS⟩ ?_
    clear H hS hm a; intro xx a w29 H hR; obtain ⟨m, i28⟩ := xx; simp only [ent, List.map_cons, List.map_nil] at H; (try dsimp only at hR); obtain ⟨hm, hS⟩ := hR
    replace hm := iterN_step hm; obtain ⟨m27, o27, rfl, hm, hn27⟩ := hm; try dsimp only [g_plan_checkProcs_L7] at hm
    refine wp_seq (wp_region_lit (n_q H (q_lssN (i := i28) (j := a0.Procs.length) rfl rfl) rfl ?_)); clear H a; intro a H
    refine n_nil (then_normal (wp_seq (c_cond H rfl (fun hc30 => ?_) (fun hc30 => ?_))))
    · replace hm := condT hm hc30
      have hlt31 : i28 < a0.Procs.length := of_decide_eq_true hc30
      refine wp_skip (then_normal (wp_seq (wp_block (wp_seq (wp_region_lit (n_q H (q_move rfl) rfl ?_)))))); clear H a; intro a H
      replace hm := bindS hm; obtain ⟨x32, hx32, hm⟩ := hm
      obtain ⟨adx32, hAx32⟩ := SlR.adV (hrp0_1.ext (Flat.mono _) hS.x) hv24 hx32
      refine n_q H (q_ixV (i := i28) Tryz.underlying23 sz169 rfl hv24 hAx32 rfl (natI hx32)) rfl (W_q (q_load rfl (SlR.ldAggV (hrp0_1.ext (Flat.mono _) hS.x) hv24 hAx32 ag169 sz169 hx32)) rfl ?_); clear H a; intro a H
      refine n_alloc H ze169 rfl ?_
      clear H; intro b33 w34 hN hE35 hs; clear a; intro a H
      replace hS := hS.newBlk hN hE35 hs; clear hN hs
      refine n_q H (q_assign rfl) rfl ?_; clear H a; intro a H
      refine n_storeAll H rfl rfl (vs := [.int .i64 x32.Entry, .int .i64 x32.Prio, .bool x32.Auto]) rfl sz169 (hS.blk 0 rfl) rfl (by simp) ?_
      clear H; intro w36 hN hC37 hz; clear a; intro a H; replace hS := hS.setBlk hN hC37; clear hN hz
      refine n_nil (then_normal ?_)
      replace hm := bindS hm; obtain ⟨j38, hm, hm38⟩ := hm
      refine c_join (σ := Bool) H (fun q539 => [(1, .pointer (some ⟨b21, 0, none⟩)), (3, .int .i64 ((i28 : Nat) : Int)), (17, vp0_1), (18, .int .i64 ((a0.Procs.length : Nat) : Int)), (19, .int .i64 ((i28 : Nat) : Int)), (51, .bool q539)]) (fun q539 wl => (g_plan_checkProcs_J6 i28) q539 = some o27 ∧ St NB w wl [blkR b21 [.int .i64 a0.Id, .bool a0.Mobile, vp0_0, vp0_1, vp0_2, .int .i64 a0.Events, vp0_3] 27]) ?_ ?_
      · skip
        refine wp_region_lit (n_q H (q_fieldAddr0 rfl fo169_0) rfl (W_q (q_load rfl ((hS.blk 0 rfl).ld ag3 rfl)) rfl (W_q (q_lss rfl rfl) rfl (W_q (q_move rfl) rfl ?_)))); clear H a; intro a H
        rcases Bool.eq_false_or_eq_true (decide (x32.Entry < 0)) with hg540 | hg540
        · replace H := H.know 27 rfl hg540
          replace hm := condT hm hg540
          refine n_no H rfl rfl (by decide) rfl (W_no rfl rfl (by decide) rfl (W_no rfl rfl (by decide) rfl (W_no rfl rfl (by decide) rfl (W_no rfl rfl (by decide) rfl (W_no rfl rfl (by decide) rfl (W_no rfl rfl (by decide) rfl (W_q (q_pickT rfl rfl) rfl (W_q (q_move rfl) rfl (W_no rfl rfl (by decide) rfl (W_no rfl rfl (by decide) rfl (W_no rfl rfl (by decide) rfl ?_))))))))))); clear H a; intro a H
          refine n_no H rfl rfl (by decide) rfl (W_q (q_pickT rfl rfl) rfl (W_q (q_move rfl) rfl (W_no rfl rfl (by decide) rfl (W_no rfl rfl (by decide) rfl (W_no rfl rfl (by decide) rfl (W_q (q_pickT rfl rfl) rfl (W_q (q_move rfl) rfl (W_no rfl rfl (by decide) rfl (W_no rfl rfl (by decide) rfl (W_no rfl rfl (by decide) rfl (W_q (q_pickT rfl rfl) rfl ?_))))))))))); clear H a; intro a H
          refine n_nil (then_normal ?_)
          obtain rfl := Option.some.inj hm; replace hm := hm38; try dsimp only at hm
          replace hS := hS.pk1
          replace hS := hS.tk1
          exact join true H ⟨rfl, rfl, rfl, rfl, rfl, rfl, trivial⟩ ⟨hm, hS⟩
        · replace H := H.know 27 rfl hg540
          replace hm := condF hm hg540
          refine n_yes H rfl rfl (n_q H (q_fieldAddr0 rfl fo169_0) rfl (W_yes rfl rfl (W_q (q_load rfl ((hS.blk 0 rfl).ld ag3 rfl)) rfl (W_yes rfl rfl (W_q (q_fieldAddr0 rfl fo27_2) rfl (W_yes rfl rfl (W_q (q_load rfl ((hS.blk 1 rfl).ld ag22 rfl)) rfl (W_yes rfl rfl ?_)))))))); clear H a; intro a H
          obtain ⟨A541, c541, hv541, hl541, hm541⟩ := SlR.formV (hrp0_0.ext (Flat.mono _) hS.x)
          refine n_q H (q_lenV Tryz.underlying22 rfl hv541) rfl (W_yes rfl rfl (W_q (q_mulW rfl rfl) rfl (W_yes rfl rfl (W_q (q_geq rfl rfl) rfl (W_q (q_pickF rfl rfl) rfl (W_q (q_move rfl) rfl ?_)))))); clear H a; intro a H
          rcases Bool.eq_false_or_eq_true (decide ((IntKind.i64.wrap (64 * ((a0.Pages.length : Nat) : Int))) ≤ x32.Entry)) with hg542 | hg542
          · replace H := H.know 36 rfl hg542
            replace hm := condT hm hg542
            refine n_no H rfl rfl (by decide) rfl (W_no rfl rfl (by decide) rfl (W_no rfl rfl (by decide) rfl (W_no rfl rfl (by decide) rfl (W_q (q_pickT rfl rfl) rfl (W_q (q_move rfl) rfl (W_no rfl rfl (by decide) rfl (W_no rfl rfl (by decide) rfl (W_no rfl rfl (by decide) rfl (W_q (q_pickT rfl rfl) rfl (W_q (q_move rfl) rfl (W_no rfl rfl (by decide) rfl ?_))))))))))); clear H a; intro a H
            refine n_no H rfl rfl (by decide) rfl (W_no rfl rfl (by decide) rfl (W_q (q_pickT rfl rfl) rfl ?_)); clear H a; intro a H
            refine n_nil (then_normal ?_)
            obtain rfl := Option.some.inj hm; replace hm := hm38; try dsimp only at hm
            replace hS := hS.pk1
            replace hS := hS.tk1
            exact join true H ⟨rfl, rfl, rfl, rfl, rfl, rfl, trivial⟩ ⟨hm, hS⟩
          · replace H := H.know 36 rfl hg542
            replace hm := condF hm hg542
            refine n_yes H rfl rfl (n_q H (q_fieldAddr0 rfl fo169_0) rfl (W_yes rfl rfl (W_q (q_load rfl ((hS.blk 0 rfl).ld ag3 rfl)) rfl (W_yes rfl rfl (W_q (q_remW rfl rfl (by decide)) rfl (W_yes rfl rfl (W_q (q_neqD rfl rfl) rfl (W_q (q_pickF rfl rfl) rfl (W_q (q_move rfl) rfl ?_))))))))); clear H a; intro a H
            rcases Bool.eq_false_or_eq_true (!decide ((Int.tmod x32.Entry 4) = 0)) with hg543 | hg543
            · replace H := H.know 42 rfl hg543
              replace hm := condT hm hg543
              refine n_no H rfl rfl (by decide) rfl (W_no rfl rfl (by decide) rfl (W_no rfl rfl (by decide) rfl (W_q (q_pickT rfl rfl) rfl (W_q (q_move rfl) rfl (W_no rfl rfl (by decide) rfl (W_no rfl rfl (by decide) rfl (W_no rfl rfl (by decide) rfl (W_q (q_pickT rfl rfl) rfl ?_)))))))); clear H a; intro a H
              refine n_nil (then_normal ?_)
              obtain rfl := Option.some.inj hm; replace hm := hm38; try dsimp only at hm
              replace hS := hS.pk1
              replace hS := hS.tk1
              exact join true H ⟨rfl, rfl, rfl, rfl, rfl, rfl, trivial⟩ ⟨hm, hS⟩
            · replace H := H.know 42 rfl hg543
              replace hm := condF hm hg543
              refine n_yes H rfl rfl (n_q H (q_fieldAddr0 rfl fo169_1) rfl (W_yes rfl rfl (W_q (q_load rfl ((hS.blk 0 rfl).ld ag3 rfl)) rfl (W_yes rfl rfl (W_q (q_lss rfl rfl) rfl (W_q (q_pickF rfl rfl) rfl (W_q (q_move rfl) rfl ?_))))))); clear H a; intro a H
              rcases Bool.eq_false_or_eq_true (decide (x32.Prio < 0)) with hg544 | hg544
              · replace H := H.know 47 rfl hg544
                replace hm := condT hm hg544
                refine n_no H rfl rfl (by decide) rfl (W_no rfl rfl (by decide) rfl (W_no rfl rfl (by decide) rfl (W_q (q_pickT rfl rfl) rfl ?_))); clear H a; intro a H
                refine n_nil (then_normal ?_)
                obtain rfl := Option.some.inj hm; replace hm := hm38; try dsimp only at hm
                replace hS := hS.pk1
                replace hS := hS.tk1
                exact join true H ⟨rfl, rfl, rfl, rfl, rfl, rfl, trivial⟩ ⟨hm, hS⟩
              · replace H := H.know 47 rfl hg544
                replace hm := condF hm hg544
                refine n_yes H rfl rfl (n_q H (q_fieldAddr0 rfl fo169_1) rfl (W_yes rfl rfl (W_q (q_load rfl ((hS.blk 0 rfl).ld ag3 rfl)) rfl (W_yes rfl rfl (W_q (q_gtr rfl rfl) rfl (W_q (q_pickF rfl rfl) rfl ?_)))))); clear H a; intro a H
                refine n_nil (then_normal ?_)
                obtain rfl := Option.some.inj hm; replace hm := hm38; try dsimp only at hm
                replace hS := hS.pk1
                replace hS := hS.tk1
                exact join (decide (255 < x32.Prio)) H ⟨rfl, rfl, rfl, rfl, rfl, rfl, trivial⟩ ⟨hm, hS⟩
      · clear H hS hm a; intro q539 a w545 H hR
        simp only [ent, List.map_cons, List.map_nil] at H; (try dsimp only at hR); obtain ⟨hm, hS⟩ := hR; try dsimp only [g_plan_checkProcs_J6] at hm
        refine c_cond H rfl (fun hc546 => ?_) (fun hc546 => ?_)
        · replace hm := condT hm hc546
          refine wp_seq (wp_region_lit (n_q H (q_move rfl) rfl (W_q (q_load rfl ((hG.ext hS.x).ld gRange (by decide) ag41)) rfl ?_))); clear H a; intro a H
          replace hm := bindS hm; obtain ⟨r547, hr547, hm⟩ := hm
          refine n_call H rfl en186 (g_plan_at_w (A := A) (IsErr.var (by decide) : IsE A w545 _ (.v gRange)) hr547) rfl ?_
          clear H; intro u548 w550 hv; clear a; intro a H; obtain ⟨_, rfl, hE551⟩ := hv
          replace hS := hS.new hE551; simp only [List.cons_append, List.nil_append] at hS
          refine n_q H (q_assign rfl) rfl ?_; clear H a; intro a H
          refine n_nil (then_normal (wp_ret (block_ret (then_ret (then_ret (block_ret (then_ret ?_)))))))
          obtain rfl := Option.some.inj hm; have hz : _ = q27 := hn27; subst hz; replace hm := hm27; try dsimp only at hm
          obtain rfl := Option.some.inj hm
          replace hS := hS.tk1
          refine ret1 H (.inr rfl) rfl rfl ?_
          exact ⟨_, rfl, hS⟩
        · replace hm := condF hm hc546
          refine wp_skip (block_normal (then_normal (wp_region_lit (n_q H (q_incr (i := i28) (j := 1) rfl rfl (by omega)) rfl (W_q (q_move rfl) rfl ?_))))); clear H a; intro a H
          refine n_nil (then_normal ?_)
          obtain rfl := Option.some.inj hm
          exact round (m27, i28 + 1) H ⟨rfl, rfl, rfl, rfl, trivial⟩ ⟨hn27, hS⟩ (Nat.lt_succ_self _)
    · replace hm := condF hm hc30
      refine wp_exit (then_exit (then_exit (block_exit ?_)))
      obtain rfl := Option.some.inj hm; have hz : _ = q27 := hn27; subst hz; replace hm := hm27; try dsimp only at hm
      refine then_normal (wp_seq (wp_region_lit (n_q H (q_assign rfl) rfl ?_))); clear H a; intro a H
      refine n_nil (then_normal (wp_ret ?_))
      obtain rfl := Option.some.inj hm
      replace hS := hS.dNil (A := A)
      replace hS := hS.tk1
      refine ret1 H (.inr rfl) rfl rfl ?_
      exact ⟨_, rfl, hS⟩
theorem g_port_isQueue_w {w : World} {A : Nat → Addr} {a0 : GPortPlan} {r : Bool} (hm : g_port_isQueue a0 = some r) :
    Calls Tryz.prog 208 [.agg (eGPortPlan a0).toArray].toArray w (Ret fun u w' => u = .bool r ∧ Ext w w') := by
  have hS := St.begin NB w
  unfold g_port_isQueue at hm
  refine enter Tryz.func208 rfl rfl rfl ?_; intro a H; dsimp only [enumL, Nat.zero_add, Nat.reduceAdd] at H
  refine wp_seq (wp_region_lit (n_box H rfl (cs := [.int .i64 a0.Kind, .int .i64 a0.Size, .int .i64 a0.Depth, .int .i64 a0.Refresh]) rfl rfl ?_))
  clear H; intro b21 w22 hN hE23 hs; clear a; intro a H
  replace hS := hS.newBlk hN hE23 hs; clear hN hs
  refine n_q H (q_assign rfl) rfl ?_; clear H a; intro a H
  refine n_nil (then_normal (wp_seq (wp_region_lit (n_c H (fun HC => ?_))))); clear H
  refine nc_q HC (q_fieldAddr0 rfl fo171_0) rfl (by kernel_rfl) (V_q (q_load rfl ((hS.blk 0 rfl).ld ag3 rfl)) rfl (by kernel_rfl) (V_q (q_eqlD rfl rfl) rfl (by kernel_rfl) (V_q (q_move rfl) rfl (by kernel_rfl) (V_g (q_fieldAddr0 rfl fo171_0) (by kernel_rfl) (by kernel_rfl) (by kernel_rfl) (V_g (q_load rfl ((hS.blk 0 rfl).ld ag3 rfl)) (by kernel_rfl) (by kernel_rfl) (by kernel_rfl) (V_g (q_eqlD rfl rfl) (by kernel_rfl) (by kernel_rfl) (by kernel_rfl) (V_or (j := 3) rfl rfl rfl (by kernel_rfl) (by kernel_rfl) (V_q (q_assign rfl) rfl (by kernel_rfl) ?_)))))))); clear HC a; intro a HC
  have H := HC.has; clear HC
  refine n_nil (then_normal (wp_ret ?_))
  obtain rfl := Option.some.inj hm
  replace hS := hS.tk0
  refine ret1 H (.inr rfl) rfl rfl ?_
  exact ⟨rfl, hS.x⟩
theorem g_port_isIn_w {w : World} {A : Nat → Addr} {a0 : GPortPlan} {r : Bool} (hm : g_port_isIn a0 = some r) :
    Calls Tryz.prog 209 [.agg (eGPortPlan a0).toArray].toArray w (Ret fun u w' => u = .bool r ∧ Ext w w') := by
  have hS := St.begin NB w
  unfold g_port_isIn at hm
  refine enter Tryz.func209 rfl rfl rfl ?_; intro a H; dsimp only [enumL, Nat.zero_add, Nat.reduceAdd] at H
  refine wp_seq (wp_region_lit (n_box H rfl (cs := [.int .i64 a0.Kind, .int .i64 a0.Size, .int .i64 a0.Depth, .int .i64 a0.Refresh]) rfl rfl ?_))
  clear H; intro b21 w22 hN hE23 hs; clear a; intro a H
  replace hS := hS.newBlk hN hE23 hs; clear hN hs
  refine n_q H (q_assign rfl) rfl ?_; clear H a; intro a H
  refine n_nil (then_normal (wp_seq (wp_region_lit (n_c H (fun HC => ?_))))); clear H
  refine nc_q HC (q_fieldAddr0 rfl fo171_0) rfl (by kernel_rfl) (V_q (q_load rfl ((hS.blk 0 rfl).ld ag3 rfl)) rfl (by kernel_rfl) (V_q (q_eqlD rfl rfl) rfl (by kernel_rfl) (V_q (q_move rfl) rfl (by kernel_rfl) (V_g (q_fieldAddr0 rfl fo171_0) (by kernel_rfl) (by kernel_rfl) (by kernel_rfl) (V_g (q_load rfl ((hS.blk 0 rfl).ld ag3 rfl)) (by kernel_rfl) (by kernel_rfl) (by kernel_rfl) (V_g (q_eqlD rfl rfl) (by kernel_rfl) (by kernel_rfl) (by kernel_rfl) (V_or (j := 3) rfl rfl rfl (by kernel_rfl) (by kernel_rfl) (V_q (q_assign rfl) rfl (by kernel_rfl) ?_)))))))); clear HC a; intro a HC
  have H := HC.has; clear HC
  refine n_nil (then_normal (wp_ret ?_))
  obtain rfl := Option.some.inj hm
  replace hS := hS.tk0
  refine ret1 H (.inr rfl) rfl rfl ?_
  exact ⟨rfl, hS.x⟩
theorem g_port_isOut_w {w : World} {A : Nat → Addr} {a0 : GPortPlan} {r : Bool} (hm : g_port_isOut a0 = some r) :
    Calls Tryz.prog 210 [.agg (eGPortPlan a0).toArray].toArray w (Ret fun u w' => u = .bool r ∧ Ext w w') := by
  have hS := St.begin NB w
  unfold g_port_isOut at hm
  refine enter Tryz.func210 rfl rfl rfl ?_; intro a H; dsimp only [enumL, Nat.zero_add, Nat.reduceAdd] at H
  refine wp_seq (wp_region_lit (n_box H rfl (cs := [.int .i64 a0.Kind, .int .i64 a0.Size, .int .i64 a0.Depth, .int .i64 a0.Refresh]) rfl rfl ?_))
  clear H; intro b21 w22 hN hE23 hs; clear a; intro a H
  replace hS := hS.newBlk hN hE23 hs; clear hN hs
  refine n_q H (q_assign rfl) rfl ?_; clear H a; intro a H
  refine n_nil (then_normal (wp_seq (wp_region_lit (n_c H (fun HC => ?_))))); clear H
  refine nc_q HC (q_fieldAddr0 rfl fo171_0) rfl (by kernel_rfl) (V_q (q_load rfl ((hS.blk 0 rfl).ld ag3 rfl)) rfl (by kernel_rfl) (V_q (q_eqlD rfl rfl) rfl (by kernel_rfl) (V_q (q_move rfl) rfl (by kernel_rfl) (V_g (q_fieldAddr0 rfl fo171_0) (by kernel_rfl) (by kernel_rfl) (by kernel_rfl) (V_g (q_load rfl ((hS.blk 0 rfl).ld ag3 rfl)) (by kernel_rfl) (by kernel_rfl) (by kernel_rfl) (V_g (q_eqlD rfl rfl) (by kernel_rfl) (by kernel_rfl) (by kernel_rfl) (V_or (j := 3) rfl rfl rfl (by kernel_rfl) (by kernel_rfl) (V_q (q_assign rfl) rfl (by kernel_rfl) ?_)))))))); clear HC a; intro a HC
  have H := HC.has; clear HC
  refine n_nil (then_normal (wp_ret ?_))
  obtain rfl := Option.some.inj hm
  replace hS := hS.tk0
  refine ret1 H (.inr rfl) rfl rfl ?_
  exact ⟨rfl, hS.x⟩
theorem g_port_CheckPlan_w {w : World} {A : Nat → Addr} {a0 : GPortPlan} (hG : EV A w) {r : ErrM} (hm : g_port_CheckPlan a0 = some r) :
    Calls Tryz.prog 187 [.agg (eGPortPlan a0).toArray].toArray w (Ret fun u w' => ∃ h_0, u = h_0 ∧ St NB w w' [erQ A h_0 r]) := by
  have hS := St.begin NB w
  unfold g_port_CheckPlan at hm
  refine enter Tryz.func187 rfl rfl rfl ?_; intro a H; dsimp only [enumL, Nat.zero_add, Nat.reduceAdd] at H
  refine wp_seq (wp_region_lit (n_box H rfl (cs := [.int .i64 a0.Kind, .int .i64 a0.Size, .int .i64 a0.Depth, .int .i64 a0.Refresh]) rfl rfl ?_))
  clear H; intro b21 w22 hN hE23 hs; clear a; intro a H
  replace hS := hS.newBlk hN hE23 hs; clear hN hs
  refine n_q H (q_assign rfl) rfl ?_; clear H a; intro a H
  refine n_nil (then_normal (wp_seq (wp_region_lit (n_q H (q_assign rfl) rfl (W_q (q_assign rfl) rfl ?_))))); clear H a; intro a H
  refine n_nil (then_normal ?_)
  replace hm := bindS hm; obtain ⟨j24, hm, hm24⟩ := hm
  refine c_join (σ := Nat) H (fun i525 => [(1, .pointer (some ⟨b21, 0, none⟩)), (3, .int .i64 ((i525 : Nat) : Int)), (4, .int .i64 0)]) (fun i525 wl => (g_port_CheckPlan_J3 a0) i525 = some r ∧ St NB w wl [blkR b21 [.int .i64 a0.Kind, .int .i64 a0.Size, .int .i64 a0.Depth, .int .i64 a0.Refresh] 171]) ?_ ?_
  · skip
    refine wp_seq (wp_region_lit (n_q H (q_load rfl ((hS.blk 0 rfl).ldAll ag171 sz171)) rfl ?_)); clear H a; intro a H
    replace hm := bindS hm; obtain ⟨r526, hr526, hm⟩ := hm
    refine n_call H rfl en208 (g_port_isQueue_w (A := A) hr526) rfl ?_
    clear H; intro x529 w527 hv; clear a; intro a H; obtain ⟨rfl, hE528⟩ := hv
    replace hS := hS.ext hE528
    refine n_nil (then_normal (c_cond H rfl (fun hc530 => ?_) (fun hc530 => ?_)))
    · replace hm := condT hm hc530
      refine wp_region_lit (n_q H (q_assign rfl) rfl ?_); clear H a; intro a H
      refine n_nil (then_normal ?_)
      obtain rfl := Option.some.inj hm; replace hm := hm24; try dsimp only at hm
      exact join 8 H ⟨rfl, rfl, rfl, trivial⟩ ⟨hm, hS⟩
    · replace hm := condF hm hc530
      refine wp_skip (then_normal ?_)
      obtain rfl := Option.some.inj hm; replace hm := hm24; try dsimp only at hm
      exact join 1 H ⟨rfl, rfl, rfl, trivial⟩ ⟨hm, hS⟩
  · clear H hS hm a; intro i525 a w531 H hR
    simp only [ent, List.map_cons, List.map_nil] at H; (try dsimp only at hR); obtain ⟨hm, hS⟩ := hR; try dsimp only [g_port_CheckPlan_J3] at hm
    replace hm := bindS hm; obtain ⟨j532, hm, hm532⟩ := hm
    refine c_join (σ := Nat) H (fun i1033 => [(1, .pointer (some ⟨b21, 0, none⟩)), (3, .int .i64 ((i525 : Nat) : Int)), (4, .int .i64 ((i1033 : Nat) : Int))]) (fun i1033 wl => (g_port_CheckPlan_J2 a0 i525) i1033 = some r ∧ St NB w wl [blkR b21 [.int .i64 a0.Kind, .int .i64 a0.Size, .int .i64 a0.Depth, .int .i64 a0.Refresh] 171]) ?_ ?_
    · skip
      refine wp_seq (wp_region_lit (n_q H (q_fieldAddr0 rfl fo171_0) rfl (W_q (q_load rfl ((hS.blk 0 rfl).ld ag3 rfl)) rfl (W_q (q_eqlD rfl rfl) rfl ?_)))); clear H a; intro a H
      refine n_nil (then_normal (c_cond H rfl (fun hc1034 => ?_) (fun hc1034 => ?_)))
      · replace hm := condT hm hc1034
        refine wp_region_lit (n_q H (q_assign rfl) rfl ?_); clear H a; intro a H
        refine n_nil (then_normal ?_)
        obtain rfl := Option.some.inj hm; replace hm := hm532; try dsimp only at hm
        exact join 255 H ⟨rfl, rfl, rfl, trivial⟩ ⟨hm, hS⟩
      · replace hm := condF hm hc1034
        refine wp_skip (then_normal ?_)
        obtain rfl := Option.some.inj hm; replace hm := hm532; try dsimp only at hm
        exact join 0 H ⟨rfl, rfl, rfl, trivial⟩ ⟨hm, hS⟩
    · clear H hS hm a; intro i1033 a w1035 H hR
      simp only [ent, List.map_cons, List.map_nil] at H; (try dsimp only at hR); obtain ⟨hm, hS⟩ := hR; try dsimp only [g_port_CheckPlan_J2] at hm
      refine wp_seq (wp_block ?_)
      replace hm := bindS hm; obtain ⟨j1036, hm, hm1036⟩ := hm
      refine c_join (σ := Bool) H (fun q1537 => [(1, .pointer (some ⟨b21, 0, none⟩)), (3, .int .i64 ((i525 : Nat) : Int)), (4, .int .i64 ((i1033 : Nat) : Int)), (10, .bool q1537)]) (fun q1537 wl => (g_port_CheckPlan_J1 a0 i525 i1033) q1537 = some r ∧ St NB w wl [blkR b21 [.int .i64 a0.Kind, .int .i64 a0.Size, .int .i64 a0.Depth, .int .i64 a0.Refresh] 171]) ?_ ?_
      · skip
        refine wp_region_lit (n_q H (q_load rfl ((hS.blk 0 rfl).ldAll ag171 sz171)) rfl ?_); clear H a; intro a H
        replace hm := bindS hm; obtain ⟨r1538, hr1538, hm⟩ := hm
        refine n_call H rfl en209 (g_port_isIn_w (A := A) hr1538) rfl ?_
        clear H; intro x1541 w1539 hv; clear a; intro a H; obtain ⟨rfl, hE1540⟩ := hv
        replace hS := hS.ext hE1540
        refine n_q H (q_not rfl) rfl (W_q (q_move rfl) rfl ?_); clear H a; intro a H
        rcases Bool.eq_false_or_eq_true (!r1538) with hg1542 | hg1542
        · replace H := H.know 14 rfl hg1542
          replace hm := condT hm hg1542
          refine n_yes H rfl rfl (n_q H (q_load rfl ((hS.blk 0 rfl).ldAll ag171 sz171)) rfl (W_yes rfl rfl ?_)); clear H a; intro a H
          replace hm := bindS hm; obtain ⟨r1543, hr1543, hm⟩ := hm
          refine n_call H rfl en210 (g_port_isOut_w (A := A) hr1543) rfl ?_
          clear H; intro x1546 w1544 hv; clear a; intro a H; obtain ⟨rfl, hE1545⟩ := hv
          replace hS := hS.ext hE1545
          refine n_yes H rfl rfl (n_q H (q_not rfl) rfl (W_q (q_pickT rfl rfl) rfl (W_q (q_assign rfl) rfl ?_))); clear H a; intro a H
          refine n_nil (then_normal ?_)
          obtain rfl := Option.some.inj hm; replace hm := hm1036; try dsimp only at hm
          exact join (!r1543) H ⟨rfl, rfl, rfl, rfl, trivial⟩ ⟨hm, hS⟩
        · replace H := H.know 14 rfl hg1542
          replace hm := condF hm hg1542
          refine n_no H rfl rfl (by decide) rfl (W_no rfl rfl (by decide) rfl (W_no rfl rfl (by decide) rfl (W_q (q_pickF rfl rfl) rfl (W_q (q_assign rfl) rfl ?_)))); clear H a; intro a H
          refine n_nil (then_normal ?_)
          obtain rfl := Option.some.inj hm; replace hm := hm1036; try dsimp only at hm
          exact join false H ⟨rfl, rfl, rfl, rfl, trivial⟩ ⟨hm, hS⟩
      · clear H hS hm a; intro q1537 a w1547 H hR
        simp only [ent, List.map_cons, List.map_nil] at H; (try dsimp only at hR); obtain ⟨hm, hS⟩ := hR; try dsimp only [g_port_CheckPlan_J1] at hm
        refine c_cond H rfl (fun hc1548 => ?_) (fun hc1548 => ?_)
        · replace hm := condT hm hc1548
          refine wp_seq (wp_region_lit (n_q H (q_load rfl ((hG.ext hS.x).ld gKind (by decide) ag41)) rfl (W_q (q_assign rfl) rfl ?_))); clear H a; intro a H
          refine n_nil (then_normal (wp_ret (block_ret (then_ret ?_))))
          obtain rfl := Option.some.inj hm
          replace hS := hS.dVar (A := A) (g := gKind) (by decide)
          replace hS := hS.tk1
          refine ret1 H (.inr rfl) rfl rfl ?_
          exact ⟨_, rfl, hS⟩
        · replace hm := condF hm hc1548
          refine wp_seq (wp_region_lit (n_c H (fun HC => ?_))); clear H
          refine nc_q HC (q_fieldAddr0 rfl fo171_1) rfl (by kernel_rfl) (V_q (q_load rfl ((hS.blk 0 rfl).ld ag3 rfl)) rfl (by kernel_rfl) (V_q (q_lss rfl rfl) rfl (by kernel_rfl) (V_q (q_move rfl) rfl (by kernel_rfl) (V_g (q_fieldAddr0 rfl fo171_1) (by kernel_rfl) (by kernel_rfl) (by kernel_rfl) (V_g (q_load rfl ((hS.blk 0 rfl).ld ag3 rfl)) (by kernel_rfl) (by kernel_rfl) (by kernel_rfl) (V_g (q_gtr rfl rfl) (by kernel_rfl) (by kernel_rfl) (by kernel_rfl) (V_or (j := 3) rfl rfl rfl (by kernel_rfl) (by kernel_rfl) (V_q (q_assign rfl) rfl (by kernel_rfl) ?_)))))))); clear HC a; intro a HC
          have H := HC.has; clear HC
          refine n_nil (then_normal (c_cond H rfl (fun hc1550 => ?_) (fun hc1550 => ?_)))
          · replace hm := condT hm hc1550
            refine wp_seq (wp_region_lit (n_q H (q_load rfl ((hG.ext hS.x).ld gSize (by decide) ag41)) rfl (W_q (q_assign rfl) rfl ?_))); clear H a; intro a H
            refine n_nil (then_normal (wp_ret (block_ret (then_ret ?_))))
            obtain rfl := Option.some.inj hm
            replace hS := hS.dVar (A := A) (g := gSize) (by decide)
            replace hS := hS.tk1
            refine ret1 H (.inr rfl) rfl rfl ?_
            exact ⟨_, rfl, hS⟩
          · replace hm := condF hm hc1550
            refine wp_seq (wp_region_lit (n_c H (fun HC => ?_))); clear H
            refine nc_q HC (q_fieldAddr0 rfl fo171_2) rfl (by kernel_rfl) (V_q (q_load rfl ((hS.blk 0 rfl).ld ag3 rfl)) rfl (by kernel_rfl) (V_q (q_lss rfl rfl) rfl (by kernel_rfl) (V_q (q_move rfl) rfl (by kernel_rfl) (V_g (q_fieldAddr0 rfl fo171_2) (by kernel_rfl) (by kernel_rfl) (by kernel_rfl) (V_g (q_load rfl ((hS.blk 0 rfl).ld ag3 rfl)) (by kernel_rfl) (by kernel_rfl) (by kernel_rfl) (V_g (q_move rfl) (by kernel_rfl) (by kernel_rfl) (by kernel_rfl) (V_g (q_gtr rfl rfl) (by kernel_rfl) (by kernel_rfl) (by kernel_rfl) (V_or (j := 3) rfl rfl rfl (by kernel_rfl) (by kernel_rfl) (V_q (q_move rfl) rfl (by kernel_rfl) (V_g (q_fieldAddr0 rfl fo171_3) (by kernel_rfl) (by kernel_rfl) (by kernel_rfl) (V_g (q_load rfl ((hS.blk 0 rfl).ld ag3 rfl)) (by kernel_rfl) (by kernel_rfl) (by kernel_rfl) ?_))))))))))); clear HC a; intro a HC
            refine nc_g HC (q_lss rfl rfl) (by kernel_rfl) (by kernel_rfl) (by kernel_rfl) (V_or (j := 9) rfl rfl rfl (by kernel_rfl) (by kernel_rfl) (V_q (q_move rfl) rfl (by kernel_rfl) (V_g (q_fieldAddr0 rfl fo171_3) (by kernel_rfl) (by kernel_rfl) (by kernel_rfl) (V_g (q_load rfl ((hS.blk 0 rfl).ld ag3 rfl)) (by kernel_rfl) (by kernel_rfl) (by kernel_rfl) (V_g (q_move rfl) (by kernel_rfl) (by kernel_rfl) (by kernel_rfl) (V_g (q_gtr rfl rfl) (by kernel_rfl) (by kernel_rfl) (by kernel_rfl) (V_or (j := 14) rfl rfl rfl (by kernel_rfl) (by kernel_rfl) (V_q (q_assign rfl) rfl (by kernel_rfl) ?_)))))))); clear HC a; intro a HC
            have H := HC.has; clear HC
            refine n_nil (then_normal (c_cond H rfl (fun hc1552 => ?_) (fun hc1552 => ?_)))
            · replace hm := condT hm hc1552
              refine wp_seq (wp_region_lit (n_q H (q_load rfl ((hG.ext hS.x).ld gRange (by decide) ag41)) rfl (W_q (q_assign rfl) rfl ?_))); clear H a; intro a H
              refine n_nil (then_normal (wp_ret (block_ret (then_ret ?_))))
              obtain rfl := Option.some.inj hm
              replace hS := hS.dVar (A := A) (g := gRange) (by decide)
              replace hS := hS.tk1
              refine ret1 H (.inr rfl) rfl rfl ?_
              exact ⟨_, rfl, hS⟩
            · replace hm := condF hm hc1552
              refine wp_skip (block_normal (then_normal (wp_seq (wp_region_lit (n_q H (q_assign rfl) rfl ?_))))); clear H a; intro a H
              refine n_nil (then_normal (wp_ret ?_))
              obtain rfl := Option.some.inj hm
              replace hS := hS.dNil (A := A)
              replace hS := hS.tk1
              refine ret1 H (.inr rfl) rfl rfl ?_
              exact ⟨_, rfl, hS⟩
theorem g_port_Most_w {w : World} {A : Nat → Addr} {a0 : GPortPlan} (hG : EV A w) {r : Int × ErrM} (hm : g_port_Most a0 = some r) :
    Calls Tryz.prog 211 [.agg (eGPortPlan a0).toArray].toArray w (Ret fun u w' => ∃ h_0, u = .tuple #[.int .i64 r.1, h_0] ∧ St NB w w' [erQ A h_0 r.2]) := by
  have hS := St.begin NB w
  unfold g_port_Most at hm
  refine enter Tryz.func211 rfl rfl rfl ?_; intro a H; dsimp only [enumL, Nat.zero_add, Nat.reduceAdd] at H
  refine wp_seq (wp_region_lit (n_box H rfl (cs := [.int .i64 a0.Kind, .int .i64 a0.Size, .int .i64 a0.Depth, .int .i64 a0.Refresh]) rfl rfl ?_))
  clear H; intro b21 w22 hN hE23 hs; clear a; intro a H
  replace hS := hS.newBlk hN hE23 hs; clear hN hs
  refine n_q H (q_assign rfl) rfl (W_q (q_assign rfl) rfl ?_); clear H a; intro a H
  refine n_nil (then_normal (wp_seq (wp_seq (wp_region_lit (n_q H (q_load rfl ((hS.blk 0 rfl).ldAll ag171 sz171)) rfl ?_))))); clear H a; intro a H
  replace hm := bindS hm; obtain ⟨r24, hr24, hm⟩ := hm
  refine n_call H rfl en187 (g_port_CheckPlan_w (A := A) (hG.ext hS.x) hr24) rfl ?_
  clear H; intro u25 w27 hv; clear a; intro a H; obtain ⟨_, rfl, hE28⟩ := hv
  replace hS := hS.new hE28; simp only [List.cons_append, List.nil_append] at hS
  refine n_q H (q_cast (q_nnilI Tryz.underlying41 rfl rfl (hS.any 0 rfl : IsE A w27 u25 r24).form) (show _ = Value.bool (!decide (r24 = .nil)) by rw [IsErr.isNil (hS.any 0 rfl : IsE A w27 u25 r24)])) rfl ?_; clear H a; intro a H
  refine n_nil (then_normal (c_cond H rfl (fun hc30 => ?_) (fun hc30 => ?_)))
  · replace hm := condT hm hc30
    refine wp_seq (c_quiet (by kernel_rfl) (by kernel_rfl) ?_)
    refine qq_q H (q_load rfl ((hG.ext hS.x).ld gPlan (by decide) ag41)) rfl ?_; clear H a; intro a H
    refine qq_q H (q_assign rfl) rfl ?_; clear H a; intro a H
    refine qq_q H (q_assign rfl) rfl ?_; clear H a; intro a H
    refine qq_nil ?_; intro w31 hE32
    replace hS := hS.ext hE32
    refine then_normal (wp_ret (then_ret ?_))
    obtain rfl := Option.some.inj hm
    replace hS := hS.dVar (A := A) (g := gPlan) (by decide)
    replace hS := hS.tk1
    refine ret2 H (.inr rfl) rfl rfl rfl ?_
    exact ⟨_, rfl, hS⟩
  · replace hm := condF hm hc30
    refine wp_skip (then_normal (wp_seq (wp_seq (wp_region_lit (n_q H (q_load rfl ((hS.blk 1 rfl).ldAll ag171 sz171)) rfl ?_))))); clear H a; intro a H
    replace hm := bindS hm; obtain ⟨r34, hr34, hm⟩ := hm
    refine n_call H rfl en210 (g_port_isOut_w (A := A) hr34) rfl ?_
    clear H; intro x37 w35 hv; clear a; intro a H; obtain ⟨rfl, hE36⟩ := hv
    replace hS := hS.ext hE36
    refine n_nil (then_normal (c_cond H rfl (fun hc38 => ?_) (fun hc38 => ?_)))
    · replace hm := condT hm hc38
      refine wp_seq (wp_region_lit (n_q H (q_assign rfl) rfl (W_q (q_assign rfl) rfl ?_))); clear H a; intro a H
      refine n_nil (then_normal (wp_ret (then_ret ?_)))
      obtain rfl := Option.some.inj hm
      replace hS := hS.dNil (A := A)
      replace hS := hS.tk1
      refine ret2 H (.inr rfl) rfl rfl rfl ?_
      exact ⟨_, rfl, hS⟩
    · replace hm := condF hm hc38
      refine wp_skip (then_normal (wp_seq (wp_region_lit (n_q H (q_fieldAddr0 rfl fo171_2) rfl (W_q (q_load rfl ((hS.blk 1 rfl).ld ag3 rfl)) rfl (W_q (q_fieldAddr0 rfl fo171_1) rfl (W_q (q_load rfl ((hS.blk 1 rfl).ld ag3 rfl)) rfl (W_q (q_addW rfl rfl) rfl (W_q (q_mulW rfl rfl) rfl (W_q (q_addW rfl rfl) rfl (W_q (q_assign rfl) rfl (W_q (q_assign rfl) rfl ?_)))))))))))); clear H a; intro a H
      refine n_nil (then_normal (wp_ret ?_))
      obtain rfl := Option.some.inj hm
      replace hS := hS.dNil (A := A)
      replace hS := hS.tk1
      refine ret2 H (.inr rfl) rfl rfl rfl ?_
      exact ⟨_, rfl, hS⟩
theorem g_plan_bound_w {w : World} {A : Nat → Addr} {cs0 : List Value} {a0 : GPlan} (hG : EV A w) (h0 : RGPlan w cs0 a0) {r : Int} (hm : g_plan_bound a0 = some r) :
    Calls Tryz.prog 188 [.agg cs0.toArray].toArray w (Ret fun u w' => u = .int .i64 r ∧ Ext w w') := by
  obtain ⟨vp0_0, vp0_1, vp0_2, vp0_3, rfl, hrp0_0, hrp0_1, hrp0_2, hrp0_3⟩ := h0
  have hS := St.begin NB w
  unfold g_plan_bound at hm
  refine enter Tryz.func188 rfl rfl rfl ?_; intro a H; dsimp only [enumL, Nat.zero_add, Nat.reduceAdd] at H
  refine wp_seq (wp_region_lit (n_box H rfl (cs := [.int .i64 a0.Id, .bool a0.Mobile, vp0_0, vp0_1, vp0_2, .int .i64 a0.Events, vp0_3]) rfl rfl ?_))
  clear H; intro b21 w22 hN hE23 hs; clear a; intro a H
  replace hS := hS.newBlk hN hE23 hs; clear hN hs
  refine n_q H (q_assign rfl) rfl ?_; clear H a; intro a H
  refine n_nil (then_normal (wp_seq (wp_region_lit (n_q H (q_fieldAddr0 rfl fo27_3) rfl (W_q (q_load rfl ((hS.blk 0 rfl).ld ag23 rfl)) rfl ?_))))); clear H a; intro a H
  obtain ⟨A24, c24, hv24, hl24, hm24⟩ := SlR.formV (hrp0_1.ext (Flat.mono _) hS.x)
  refine n_q H (q_lenV Tryz.underlying23 rfl hv24) rfl (W_q (q_mulW rfl rfl) rfl (W_q (q_addW rfl rfl) rfl (W_q (q_fieldAddr0 rfl fo27_2) rfl (W_q (q_load rfl ((hS.blk 0 rfl).ld ag22 rfl)) rfl ?_)))); clear H a; intro a H
  obtain ⟨A25, c25, hv25, hl25, hm25⟩ := SlR.formV (hrp0_0.ext (Flat.mono _) hS.x)
  refine n_q H (q_lenV Tryz.underlying22 rfl hv25) rfl (W_q (q_mulW rfl rfl) rfl (W_q (q_addW rfl rfl) rfl (W_q (q_fieldAddr0 rfl fo27_5) rfl (W_q (q_load rfl ((hS.blk 0 rfl).ld ag3 rfl)) rfl (W_q (q_addW rfl rfl) rfl (W_q (q_fieldAddr0 rfl fo27_6) rfl (W_q (q_load rfl ((hS.blk 0 rfl).ld ag25 rfl)) rfl ?_))))))); clear H a; intro a H
  obtain ⟨A26, c26, hv26, hl26, hm26⟩ := SlR.formV (hrp0_3.ext (Flat.mono _) hS.x)
  refine n_q H (q_lenV Tryz.underlying25 rfl hv26) rfl (W_q (q_addW rfl rfl) rfl (W_q (q_assign rfl) rfl ?_)); clear H a; intro a H
  refine n_nil (then_normal (wp_seq (wp_seq (wp_region_lit (n_q H (q_fieldAddr0 rfl fo27_4) rfl (W_q (q_load rfl ((hS.blk 0 rfl).ld ag24 rfl)) rfl ?_)))))); clear H a; intro a H
  obtain ⟨A27, c27, hv27, hl27, hm27⟩ := SlR.formV (hrp0_2.ext (Flat.mono _) hS.x)
  refine n_q H (q_lenV Tryz.underlying24 rfl hv27) rfl (W_q (q_move rfl) rfl ?_); clear H a; intro a H
  refine n_nil (then_normal (wp_block ?_))
  replace hS := hS.tk0
  replace hm := bindS hm; obtain ⟨q28, hm, hm28⟩ := hm; replace hm := iter_some hm; obtain ⟨n28, hm⟩ := hm
  refine c_loop (σ := Nat × Int × Nat) (fun (m, z29, i30) => [(3, .int .i64 z29), (26, vp0_2), (27, .int .i64 ((a0.Ports.length : Nat) : Int)), (28, .int .i64 ((i30 : Nat) : Int))]) (fun (m, z29, i30) wl => iterN (g_plan_bound_L1 a0) m (z29, i30) = some q28 ∧ St NB w wl []) (fun (m, z29, i30) => m) (n28, (IntKind.i64.wrap ((IntKind.i64.wrap ((IntKind.i64.wrap ((IntKind.i64.wrap (58 + (IntKind.i64.wrap (76 * ((a0.Procs.length : Nat) : Int))))) + (IntKind.i64.wrap (68 * ((a0.Pages.length : Nat) : Int))))) + a0.Events)) + ((a0.Sems.length : Nat) : Int))), 0) H ⟨rfl, rfl, rfl, rfl, trivial⟩ ⟨hm, hS⟩ ?_
  clear H hS hm a; intro xx a w31 H hR; obtain ⟨m, z29, i30⟩ := xx; simp only [ent, List.map_cons, List.map_nil] at H; (try dsimp only at hR); obtain ⟨hm, hS⟩ := hR
  replace hm := iterN_step hm; obtain ⟨m28, o28, rfl, hm, hn28⟩ := hm; try dsimp only [g_plan_bound_L1] at hm
  refine wp_seq (wp_region_lit (n_q H (q_lssN (i := i30) (j := a0.Ports.length) rfl rfl) rfl ?_)); clear H a; intro a H
  refine n_nil (then_normal (wp_seq (c_cond H rfl (fun hc32 => ?_) (fun hc32 => ?_))))
  · replace hm := condT hm hc32
    have hlt33 : i30 < a0.Ports.length := of_decide_eq_true hc32
    refine wp_skip (then_normal (wp_seq (wp_block (wp_seq (wp_region_lit ?_)))))
    replace hm := bindS hm; obtain ⟨x34, hx34, hm⟩ := hm
    obtain ⟨adx34, hAx34⟩ := SlR.adV (hrp0_2.ext (Flat.mono _) hS.x) hv27 hx34
    refine n_q H (q_ixV (i := i30) Tryz.underlying24 sz171 rfl hv27 hAx34 rfl (natI hx34)) rfl (W_q (q_load rfl (SlR.ldAggV (hrp0_2.ext (Flat.mono _) hS.x) hv27 hAx34 ag171 sz171 hx34)) rfl ?_); clear H a; intro a H
    refine n_alloc H ze171 rfl ?_
    clear H; intro b35 w36 hN hE37 hs; clear a; intro a H
    replace hS := hS.newBlk hN hE37 hs; clear hN hs
    refine n_storeAll H rfl rfl (vs := [.int .i64 x34.Kind, .int .i64 x34.Size, .int .i64 x34.Depth, .int .i64 x34.Refresh]) rfl sz171 (hS.blk 0 rfl) rfl (by simp) ?_
    clear H; intro w38 hN hC39 hz; clear a; intro a H; replace hS := hS.setBlk hN hC39; clear hN hz
    refine n_nil (then_normal (wp_seq (wp_region_lit (n_q H (q_load rfl ((hS.blk 0 rfl).ldAll ag171 sz171)) rfl ?_)))); clear H a; intro a H
    replace hm := bindS hm; obtain ⟨r40, hr40, hm⟩ := hm
    refine n_call H rfl en211 (g_port_Most_w (A := A) (hG.ext hS.x) hr40) rfl ?_
    clear H; intro x45 w43 hv; clear a; intro a H; obtain ⟨u41, rfl, hE44⟩ := hv
    replace hS := hS.new hE44; simp only [List.cons_append, List.nil_append] at hS
    refine n_q H (q_move rfl) rfl (W_q (q_extract rfl rfl) rfl (W_q (q_extract rfl rfl) rfl (W_q (q_assign rfl) rfl (W_q (q_assign rfl) rfl ?_)))); clear H a; intro a H
    refine n_nil (then_normal (wp_region_lit (n_q H (q_move rfl) rfl (W_q (q_move rfl) rfl (W_q (q_addW rfl rfl) rfl (W_q (q_addW rfl rfl) rfl (W_q (q_assign rfl) rfl ?_))))))); clear H a; intro a H
    refine n_nil (block_normal (then_normal (wp_region_lit (n_q H (q_incr (i := i30) (j := 1) rfl rfl (by omega)) rfl (W_q (q_move rfl) rfl ?_))))); clear H a; intro a H
    refine n_nil (then_normal ?_)
    obtain rfl := Option.some.inj hm
    replace hS := hS.tk0
    exact round (m28, (IntKind.i64.wrap (z29 + (IntKind.i64.wrap (3 + r40.1)))), i30 + 1) H ⟨rfl, rfl, rfl, rfl, trivial⟩ ⟨hn28, hS⟩ (Nat.lt_succ_self _)
  · replace hm := condF hm hc32
    refine wp_exit (then_exit (then_exit (block_exit ?_)))
    obtain rfl := Option.some.inj hm; have hz : _ = q28 := hn28; subst hz; replace hm := hm28; try dsimp only at hm
    refine then_normal (wp_seq (wp_region_lit (n_q H (q_move rfl) rfl (W_q (q_assign rfl) rfl ?_)))); clear H a; intro a H
    refine n_nil (then_normal (wp_ret ?_))
    obtain rfl := Option.some.inj hm
    refine ret1 H (.inr rfl) rfl rfl ?_
    exact ⟨rfl, hS.x⟩
theorem g_plan_checkRest_w {w : World} {A : Nat → Addr} {cs0 : List Value} {a0 : GPlan} (hG : EV A w) (h0 : RGPlan w cs0 a0) {r : ErrM} (hm : g_plan_checkRest a0 = some r) :
    Calls Tryz.prog 109 [.agg cs0.toArray].toArray w (Ret fun u w' => ∃ h_0, u = h_0 ∧ St NB w w' [erQ A h_0 r]) := by
  obtain ⟨vp0_0, vp0_1, vp0_2, vp0_3, rfl, hrp0_0, hrp0_1, hrp0_2, hrp0_3⟩ := h0
  have hS := St.begin NB w
  unfold g_plan_checkRest at hm
  refine enter Tryz.func109 rfl rfl rfl ?_; intro a H; dsimp only [enumL, Nat.zero_add, Nat.reduceAdd] at H
  refine wp_seq (wp_region_lit (n_box H rfl (cs := [.int .i64 a0.Id, .bool a0.Mobile, vp0_0, vp0_1, vp0_2, .int .i64 a0.Events, vp0_3]) rfl rfl ?_))
  clear H; intro b21 w22 hN hE23 hs; clear a; intro a H
  replace hS := hS.newBlk hN hE23 hs; clear hN hs
  refine n_q H (q_assign rfl) rfl ?_; clear H a; intro a H
  refine n_nil (then_normal (wp_seq (wp_seq (wp_region_lit (n_q H (q_fieldAddr0 rfl fo27_4) rfl (W_q (q_load rfl ((hS.blk 0 rfl).ld ag24 rfl)) rfl ?_)))))); clear H a; intro a H
  obtain ⟨A24, c24, hv24, hl24, hm24⟩ := SlR.formV (hrp0_2.ext (Flat.mono _) hS.x)
  refine n_q H (q_lenV Tryz.underlying24 rfl hv24) rfl (W_q (q_gtrN (i := a0.Ports.length) (j := 8) rfl rfl) rfl ?_); clear H a; intro a H
  refine n_nil (then_normal (c_cond H rfl (fun hc25 => ?_) (fun hc25 => ?_)))
  · replace hm := condT hm hc25
    refine wp_seq (wp_region_lit (n_q H (q_load rfl ((hG.ext hS.x).ld gSize (by decide) ag41)) rfl (W_q (q_assign rfl) rfl ?_))); clear H a; intro a H
    refine n_nil (then_normal (wp_ret (then_ret ?_)))
    obtain rfl := Option.some.inj hm
    replace hS := hS.dVar (A := A) (g := gSize) (by decide)
    replace hS := hS.tk1
    refine ret1 H (.inr rfl) rfl rfl ?_
    exact ⟨_, rfl, hS⟩
  · replace hm := condF hm hc25
    refine wp_skip (then_normal (wp_seq (wp_seq (wp_region_lit (n_q H (q_fieldAddr0 rfl fo27_4) rfl (W_q (q_load rfl ((hS.blk 0 rfl).ld ag24 rfl)) rfl (W_q (q_lenV Tryz.underlying24 rfl hv24) rfl (W_q (q_move rfl) rfl ?_)))))))); clear H a; intro a H
    refine n_nil (then_normal (wp_block ?_))
    replace hm := bindS hm; obtain ⟨q27, hm, hm27⟩ := hm; replace hm := iter_some hm; obtain ⟨n27, hm⟩ := hm
    refine c_loop (σ := Nat × Nat) (fun (m, i28) => [(1, .pointer (some ⟨b21, 0, none⟩)), (14, vp0_2), (15, .int .i64 ((a0.Ports.length : Nat) : Int)), (16, .int .i64 ((i28 : Nat) : Int))]) (fun (m, i28) wl => iterN (g_plan_checkRest_L2 a0) m i28 = some q27 ∧ St NB w wl [blkR b21 [.int .i64 a0.Id, .bool a0.Mobile, vp0_0, vp0_1, vp0_2, .int .i64 a0.Events, vp0_3] 27]) (fun (m, i28) => m) (n27, 0) H ⟨rfl, rfl, rfl, rfl, trivial⟩ ⟨hm, hS⟩ ?_
    clear H hS hm a; intro xx a w29 H hR; obtain ⟨m, i28⟩ := xx; simp only [ent, List.map_cons, List.map_nil] at H; (try dsimp only at hR); obtain ⟨hm, hS⟩ := hR
    replace hm := iterN_step hm; obtain ⟨m27, o27, rfl, hm, hn27⟩ := hm; try dsimp only [g_plan_checkRest_L2] at hm
    refine wp_seq (wp_region_lit (n_q H (q_lssN (i := i28) (j := a0.Ports.length) rfl rfl) rfl ?_)); clear H a; intro a H
    refine n_nil (then_normal (wp_seq (c_cond H rfl (fun hc30 => ?_) (fun hc30 => ?_))))
    · replace hm := condT hm hc30
      have hlt31 : i28 < a0.Ports.length := of_decide_eq_true hc30
      refine wp_skip (then_normal (wp_seq (wp_block (wp_seq (wp_region_lit (n_q H (q_move rfl) rfl ?_)))))); clear H a; intro a H
      replace hm := bindS hm; obtain ⟨x32, hx32, hm⟩ := hm
      obtain ⟨adx32, hAx32⟩ := SlR.adV (hrp0_2.ext (Flat.mono _) hS.x) hv24 hx32
      refine n_q H (q_ixV (i := i28) Tryz.underlying24 sz171 rfl hv24 hAx32 rfl (natI hx32)) rfl (W_q (q_load rfl (SlR.ldAggV (hrp0_2.ext (Flat.mono _) hS.x) hv24 hAx32 ag171 sz171 hx32)) rfl ?_); clear H a; intro a H
      refine n_alloc H ze171 rfl ?_
      clear H; intro b33 w34 hN hE35 hs; clear a; intro a H
      replace hS := hS.newBlk hN hE35 hs; clear hN hs
      refine n_q H (q_assign rfl) rfl ?_; clear H a; intro a H
      refine n_storeAll H rfl rfl (vs := [.int .i64 x32.Kind, .int .i64 x32.Size, .int .i64 x32.Depth, .int .i64 x32.Refresh]) rfl sz171 (hS.blk 0 rfl) rfl (by simp) ?_
      clear H; intro w36 hN hC37 hz; clear a; intro a H; replace hS := hS.setBlk hN hC37; clear hN hz
      refine n_nil (then_normal (wp_seq (wp_region_lit (n_q H (q_load rfl ((hS.blk 0 rfl).ldAll ag171 sz171)) rfl ?_)))); clear H a; intro a H
      replace hm := bindS hm; obtain ⟨r38, hr38, hm⟩ := hm
      refine n_call H rfl en187 (g_port_CheckPlan_w (A := A) (hG.ext hS.x) hr38) rfl ?_
      clear H; intro u39 w41 hv; clear a; intro a H; obtain ⟨_, rfl, hE42⟩ := hv
      replace hS := hS.new hE42; simp only [List.cons_append, List.nil_append] at hS
      refine n_q H (q_assign rfl) rfl ?_; clear H a; intro a H
      refine n_nil (then_normal (wp_seq (wp_region_lit (n_q H (q_move rfl) rfl (W_q (q_cast (q_nnilI Tryz.underlying41 rfl rfl (hS.any 0 rfl : IsE A w41 u39 r38).form) (show _ = Value.bool (!decide (r38 = .nil)) by rw [IsErr.isNil (hS.any 0 rfl : IsE A w41 u39 r38)])) rfl ?_))))); clear H a; intro a H
      refine n_nil (then_normal (c_cond H rfl (fun hc44 => ?_) (fun hc44 => ?_)))
      · replace hm := condT hm hc44
        refine wp_seq (wp_region_lit (n_q H (q_move rfl) rfl (W_q (q_move rfl) rfl ?_))); clear H a; intro a H
        replace hm := bindS hm; obtain ⟨r45, hr45, hm⟩ := hm
        refine n_call H rfl en186 (g_plan_at_w (A := A) (hS.any 0 rfl : IsE A w41 u39 r38) hr45) rfl ?_
        clear H; intro u46 w48 hv; clear a; intro a H; obtain ⟨_, rfl, hE49⟩ := hv
        replace hS := hS.new hE49; simp only [List.cons_append, List.nil_append] at hS
        refine n_q H (q_assign rfl) rfl ?_; clear H a; intro a H
        refine n_nil (then_normal (wp_ret (block_ret (then_ret (then_ret (block_ret (then_ret ?_)))))))
        obtain rfl := Option.some.inj hm; have hz : _ = q27 := hn27; subst hz; replace hm := hm27; try dsimp only at hm
        obtain rfl := Option.some.inj hm
        replace hS := hS.tk1
        refine ret1 H (.inr rfl) rfl rfl ?_
        exact ⟨_, rfl, hS⟩
      · replace hm := condF hm hc44
        refine wp_skip (block_normal (then_normal (wp_region_lit (n_q H (q_incr (i := i28) (j := 1) rfl rfl (by omega)) rfl (W_q (q_move rfl) rfl ?_))))); clear H a; intro a H
        refine n_nil (then_normal ?_)
        obtain rfl := Option.some.inj hm
        replace hS := hS.pk2
        replace hS := hS.tk1
        exact round (m27, i28 + 1) H ⟨rfl, rfl, rfl, rfl, trivial⟩ ⟨hn27, hS⟩ (Nat.lt_succ_self _)
    · replace hm := condF hm hc30
      refine wp_exit (then_exit (then_exit (block_exit ?_)))
      obtain rfl := Option.some.inj hm; have hz : _ = q27 := hn27; subst hz; replace hm := hm27; try dsimp only at hm
      refine then_normal (wp_seq (wp_seq (wp_region_lit (n_c H (fun HC => ?_))))); clear H
      refine nc_q HC (q_fieldAddr0 rfl fo27_5) rfl (by kernel_rfl) (V_q (q_load rfl ((hS.blk 0 rfl).ld ag3 rfl)) rfl (by kernel_rfl) (V_q (q_lss rfl rfl) rfl (by kernel_rfl) (V_q (q_move rfl) rfl (by kernel_rfl) (V_g (q_fieldAddr0 rfl fo27_5) (by kernel_rfl) (by kernel_rfl) (by kernel_rfl) (V_g (q_load rfl ((hS.blk 0 rfl).ld ag3 rfl)) (by kernel_rfl) (by kernel_rfl) (by kernel_rfl) (V_g (q_gtr rfl rfl) (by kernel_rfl) (by kernel_rfl) (by kernel_rfl) (V_or (j := 3) rfl rfl rfl (by kernel_rfl) (by kernel_rfl) ?_))))))); clear HC a; intro a HC
      have H := HC.has; clear HC
      refine n_nil (then_normal (c_cond H rfl (fun hc51 => ?_) (fun hc51 => ?_)))
      · replace hm := condT hm hc51
        refine wp_seq (wp_region_lit (n_q H (q_load rfl ((hG.ext hS.x).ld gRange (by decide) ag41)) rfl (W_q (q_assign rfl) rfl ?_))); clear H a; intro a H
        refine n_nil (then_normal (wp_ret (then_ret ?_)))
        obtain rfl := Option.some.inj hm
        replace hS := hS.dVar (A := A) (g := gRange) (by decide)
        replace hS := hS.tk1
        refine ret1 H (.inr rfl) rfl rfl ?_
        exact ⟨_, rfl, hS⟩
      · replace hm := condF hm hc51
        refine wp_skip (then_normal (wp_seq (wp_seq (wp_region_lit (n_q H (q_fieldAddr0 rfl fo27_6) rfl (W_q (q_load rfl ((hS.blk 0 rfl).ld ag25 rfl)) rfl ?_)))))); clear H a; intro a H
        obtain ⟨A53, c53, hv53, hl53, hm53⟩ := SlR.formV (hrp0_3.ext (Flat.mono _) hS.x)
        refine n_q H (q_lenV Tryz.underlying25 rfl hv53) rfl (W_q (q_gtrN (i := a0.Sems.length) (j := 8) rfl rfl) rfl ?_); clear H a; intro a H
        refine n_nil (then_normal (c_cond H rfl (fun hc54 => ?_) (fun hc54 => ?_)))
        · replace hm := condT hm hc54
          refine wp_seq (wp_region_lit (n_q H (q_load rfl ((hG.ext hS.x).ld gSize (by decide) ag41)) rfl (W_q (q_assign rfl) rfl ?_))); clear H a; intro a H
          refine n_nil (then_normal (wp_ret (then_ret ?_)))
          obtain rfl := Option.some.inj hm
          replace hS := hS.dVar (A := A) (g := gSize) (by decide)
          replace hS := hS.tk1
          refine ret1 H (.inr rfl) rfl rfl ?_
          exact ⟨_, rfl, hS⟩
        · replace hm := condF hm hc54
          refine wp_skip (then_normal (wp_seq (wp_seq (wp_region_lit (n_q H (q_fieldAddr0 rfl fo27_6) rfl (W_q (q_load rfl ((hS.blk 0 rfl).ld ag25 rfl)) rfl (W_q (q_lenV Tryz.underlying25 rfl hv53) rfl (W_q (q_move rfl) rfl ?_)))))))); clear H a; intro a H
          refine n_nil (then_normal (wp_block ?_))
          replace hm := bindS hm; obtain ⟨q56, hm, hm56⟩ := hm; replace hm := iter_some hm; obtain ⟨n56, hm⟩ := hm
          refine c_loop (σ := Nat × Nat) (fun (m, i57) => [(1, .pointer (some ⟨b21, 0, none⟩)), (44, vp0_3), (45, .int .i64 ((a0.Sems.length : Nat) : Int)), (46, .int .i64 ((i57 : Nat) : Int))]) (fun (m, i57) wl => iterN (g_plan_checkRest_L1 a0) m i57 = some q56 ∧ St NB w wl [blkR b21 [.int .i64 a0.Id, .bool a0.Mobile, vp0_0, vp0_1, vp0_2, .int .i64 a0.Events, vp0_3] 27]) (fun (m, i57) => m) (n56, 0) H ⟨rfl, rfl, rfl, rfl, trivial⟩ ⟨hm, hS⟩ ?_
          clear H hS hm a; intro xx a w58 H hR; obtain ⟨m, i57⟩ := xx; simp only [ent, List.map_cons, List.map_nil] at H; (try dsimp only at hR); obtain ⟨hm, hS⟩ := hR
          replace hm := iterN_step hm; obtain ⟨m56, o56, rfl, hm, hn56⟩ := hm; try dsimp only [g_plan_checkRest_L1] at hm
          refine wp_seq (wp_region_lit (n_q H (q_lssN (i := i57) (j := a0.Sems.length) rfl rfl) rfl ?_)); clear H a; intro a H
          refine n_nil (then_normal (wp_seq (c_cond H rfl (fun hc59 => ?_) (fun hc59 => ?_))))
          · replace hm := condT hm hc59
            have hlt60 : i57 < a0.Sems.length := of_decide_eq_true hc59
            refine wp_skip (then_normal (wp_seq (wp_block (wp_seq (wp_region_lit (n_q H (q_move rfl) rfl ?_)))))); clear H a; intro a H
            replace hm := bindS hm; obtain ⟨x61, hx61, hm⟩ := hm
            obtain ⟨adx61, hAx61⟩ := SlR.adV (hrp0_3.ext (Flat.mono _) hS.x) hv53 hx61
            refine n_q H (q_ixV (i := i57) Tryz.underlying25 sz3 rfl hv53 hAx61 rfl (natI hx61)) rfl (W_q (q_load rfl (SlR.ldOneV (hrp0_3.ext (Flat.mono _) hS.x) hv53 hAx61 ag3 hx61 rfl)) rfl (W_q (q_assign rfl) rfl (W_q (q_assign rfl) rfl ?_))); clear H a; intro a H
            refine n_nil (then_normal (wp_seq (wp_region_lit (n_c H (fun HC => ?_))))); clear H
            refine nc_q HC (q_move rfl) rfl (by kernel_rfl) (V_q (q_lss rfl rfl) rfl (by kernel_rfl) (V_q (q_move rfl) rfl (by kernel_rfl) (V_g (q_move rfl) (by kernel_rfl) (by kernel_rfl) (by kernel_rfl) (V_g (q_gtr rfl rfl) (by kernel_rfl) (by kernel_rfl) (by kernel_rfl) (V_or (j := 2) rfl rfl rfl (by kernel_rfl) (by kernel_rfl) ?_))))); clear HC a; intro a HC
            have H := HC.has; clear HC
            refine n_nil (then_normal (c_cond H rfl (fun hc62 => ?_) (fun hc62 => ?_)))
            · replace hm := condT hm hc62
              refine wp_seq (wp_region_lit (n_q H (q_move rfl) rfl (W_q (q_load rfl ((hG.ext hS.x).ld gRange (by decide) ag41)) rfl ?_))); clear H a; intro a H
              replace hm := bindS hm; obtain ⟨r63, hr63, hm⟩ := hm
              refine n_call H rfl en186 (g_plan_at_w (A := A) (IsErr.var (by decide) : IsE A w58 _ (.v gRange)) hr63) rfl ?_
              clear H; intro u64 w66 hv; clear a; intro a H; obtain ⟨_, rfl, hE67⟩ := hv
              replace hS := hS.new hE67; simp only [List.cons_append, List.nil_append] at hS
              refine n_q H (q_assign rfl) rfl ?_; clear H a; intro a H
              refine n_nil (then_normal (wp_ret (block_ret (then_ret (then_ret (block_ret (then_ret ?_)))))))
              obtain rfl := Option.some.inj hm; have hz : _ = q56 := hn56; subst hz; replace hm := hm56; try dsimp only at hm
              obtain rfl := Option.some.inj hm
              replace hS := hS.tk1
              refine ret1 H (.inr rfl) rfl rfl ?_
              exact ⟨_, rfl, hS⟩
            · replace hm := condF hm hc62
              refine wp_skip (block_normal (then_normal (wp_region_lit (n_q H (q_incr (i := i57) (j := 1) rfl rfl (by omega)) rfl (W_q (q_move rfl) rfl ?_))))); clear H a; intro a H
              refine n_nil (then_normal ?_)
              obtain rfl := Option.some.inj hm
              exact round (m56, i57 + 1) H ⟨rfl, rfl, rfl, rfl, trivial⟩ ⟨hn56, hS⟩ (Nat.lt_succ_self _)
          · replace hm := condF hm hc59
            refine wp_exit (then_exit (then_exit (block_exit ?_)))
            obtain rfl := Option.some.inj hm; have hz : _ = q56 := hn56; subst hz; replace hm := hm56; try dsimp only at hm
            refine then_normal (wp_seq (wp_seq (wp_region_lit (n_q H (q_load rfl ((hS.blk 0 rfl).ldAll ag27 sz27)) rfl ?_)))); clear H a; intro a H
            replace hm := bindS hm; obtain ⟨r69, hr69, hm⟩ := hm
            refine n_call H rfl en188 (g_plan_bound_w (A := A) (hG.ext hS.x) (⟨_, _, _, _, rfl, (hrp0_0.ext (Flat.mono _) hS.x), (hrp0_1.ext (Flat.mono _) hS.x), (hrp0_2.ext (Flat.mono _) hS.x), (hrp0_3.ext (Flat.mono _) hS.x)⟩ : RGPlan _ [.int .i64 a0.Id, .bool a0.Mobile, vp0_0, vp0_1, vp0_2, .int .i64 a0.Events, vp0_3] a0) hr69) rfl ?_
            clear H; intro x72 w70 hv; clear a; intro a H; obtain ⟨rfl, hE71⟩ := hv
            replace hS := hS.ext hE71
            refine n_q H (q_gtr rfl rfl) rfl ?_; clear H a; intro a H
            refine n_nil (then_normal (c_cond H rfl (fun hc73 => ?_) (fun hc73 => ?_)))
            · replace hm := condT hm hc73
              refine wp_seq (wp_region_lit (n_q H (q_load rfl ((hG.ext hS.x).ld gSize (by decide) ag41)) rfl (W_q (q_assign rfl) rfl ?_))); clear H a; intro a H
              refine n_nil (then_normal (wp_ret (then_ret ?_)))
              obtain rfl := Option.some.inj hm
              replace hS := hS.dVar (A := A) (g := gSize) (by decide)
              replace hS := hS.tk1
              refine ret1 H (.inr rfl) rfl rfl ?_
              exact ⟨_, rfl, hS⟩
            · replace hm := condF hm hc73
              refine wp_skip (then_normal (wp_seq (wp_region_lit (n_q H (q_assign rfl) rfl ?_)))); clear H a; intro a H
              refine n_nil (then_normal (wp_ret ?_))
              obtain rfl := Option.some.inj hm
              replace hS := hS.dNil (A := A)
              replace hS := hS.tk1
              refine ret1 H (.inr rfl) rfl rfl ?_
              exact ⟨_, rfl, hS⟩
theorem g_plan_Check_w {w : World} {A : Nat → Addr} {cs0 : List Value} {a0 : GPlan} (hG : EV A w) (h0 : RGPlan w cs0 a0) {r : ErrM} (hm : g_plan_Check a0 = some r) :
    Calls Tryz.prog 51 [.agg cs0.toArray].toArray w (Ret fun u w' => ∃ h_0, u = h_0 ∧ St NB w w' [erQ A h_0 r]) := by
  obtain ⟨vp0_0, vp0_1, vp0_2, vp0_3, rfl, hrp0_0, hrp0_1, hrp0_2, hrp0_3⟩ := h0
  have hS := St.begin NB w
  unfold g_plan_Check at hm
  refine enter Tryz.func51 rfl rfl rfl ?_; intro a H; dsimp only [enumL, Nat.zero_add, Nat.reduceAdd] at H
  refine wp_seq (wp_region_lit (n_box H rfl (cs := [.int .i64 a0.Id, .bool a0.Mobile, vp0_0, vp0_1, vp0_2, .int .i64 a0.Events, vp0_3]) rfl rfl ?_))
  clear H; intro b21 w22 hN hE23 hs; clear a; intro a H
  replace hS := hS.newBlk hN hE23 hs; clear hN hs
  refine n_q H (q_assign rfl) rfl ?_; clear H a; intro a H
  refine n_nil (then_normal (wp_seq (wp_seq (wp_region_lit (n_c H (fun HC => ?_)))))); clear H
  refine nc_q HC (q_fieldAddr0 rfl fo27_0) rfl (by kernel_rfl) (V_q (q_load rfl ((hS.blk 0 rfl).ld ag3 rfl)) rfl (by kernel_rfl) (V_q (q_lss rfl rfl) rfl (by kernel_rfl) (V_q (q_move rfl) rfl (by kernel_rfl) (V_g (q_fieldAddr0 rfl fo27_0) (by kernel_rfl) (by kernel_rfl) (by kernel_rfl) (V_g (q_load rfl ((hS.blk 0 rfl).ld ag3 rfl)) (by kernel_rfl) (by kernel_rfl) (by kernel_rfl) (V_g (q_gtr rfl rfl) (by kernel_rfl) (by kernel_rfl) (by kernel_rfl) (V_or (j := 3) rfl rfl rfl (by kernel_rfl) (by kernel_rfl) ?_))))))); clear HC a; intro a HC
  have H := HC.has; clear HC
  refine n_nil (then_normal (c_cond H rfl (fun hc24 => ?_) (fun hc24 => ?_)))
  · replace hm := condT hm hc24
    refine wp_seq (wp_region_lit (n_q H (q_load rfl ((hG.ext hS.x).ld gRange (by decide) ag41)) rfl (W_q (q_assign rfl) rfl ?_))); clear H a; intro a H
    refine n_nil (then_normal (wp_ret (then_ret ?_)))
    obtain rfl := Option.some.inj hm
    replace hS := hS.dVar (A := A) (g := gRange) (by decide)
    replace hS := hS.tk1
    refine ret1 H (.inr rfl) rfl rfl ?_
    exact ⟨_, rfl, hS⟩
  · replace hm := condF hm hc24
    refine wp_skip (then_normal (wp_seq (wp_seq (wp_region_lit (n_buildSlice H Tryz.underlying174 sz117 ze117 rfl rfl rfl (cs := [.func (.func 107) [].toArray [].toArray, .func (.func 108) [].toArray [].toArray, .func (.func 109) [].toArray [].toArray]) (by kernel_rfl) rfl ?_)))))
    clear H; intro b28 w26 hN hE27 hs; clear a; intro a H
    replace hS := hS.newBlk hN hE27 hs; clear hN hs
    refine n_q H (q_lenSl Tryz.underlying174 rfl) rfl (W_q (q_move rfl) rfl ?_); clear H a; intro a H
    refine n_nil (then_normal (wp_block (wp_loop_rounds 4 ?_)))
    refine Eq.mpr (rounds_succ (n := 3)) ?_
    refine wp_seq (wp_region_lit (n_q H (q_cast (q_lss rfl rfl) (show _ = Value.bool true from rfl)) rfl ?_)); clear H a; intro a H
    refine n_nil (then_normal (wp_seq (c_condKT H rfl ?_)))
    refine wp_skip (then_normal (wp_seq (wp_block (wp_seq (wp_region_lit (n_q H (q_cast (q_indexAddr Tryz.underlying174 sz117 rfl rfl (by decide) (by decide)) (show _ = Value.pointer (some ⟨b28, 0, none⟩) by simp [plain_add])) rfl (W_q (q_load rfl ((hS.blk 0 rfl).ld ag117 rfl)) rfl (W_q (q_assign rfl) rfl ?_)))))))); clear H a; intro a H
    refine n_nil (then_normal (wp_seq (wp_region_lit (n_q H (q_move rfl) rfl (W_q (q_load rfl ((hS.blk 1 rfl).ldAll ag27 sz27)) rfl ?_))))); clear H a; intro a H
    replace hm := bindS hm; obtain ⟨r30, hr30, hm⟩ := hm
    refine n_callv H rfl rfl en107 (g_plan_checkPages_w (A := A) (hG.ext hS.x) (⟨_, _, _, _, rfl, (hrp0_0.ext (Flat.mono _) hS.x), (hrp0_1.ext (Flat.mono _) hS.x), (hrp0_2.ext (Flat.mono _) hS.x), (hrp0_3.ext (Flat.mono _) hS.x)⟩ : RGPlan _ [.int .i64 a0.Id, .bool a0.Mobile, vp0_0, vp0_1, vp0_2, .int .i64 a0.Events, vp0_3] a0) hr30) rfl ?_
    clear H; intro u31 w33 hv; clear a; intro a H; obtain ⟨_, rfl, hE34⟩ := hv
    replace hS := hS.new hE34; simp only [List.cons_append, List.nil_append] at hS
    refine n_q H (q_assign rfl) rfl ?_; clear H a; intro a H
    refine n_nil (then_normal (wp_seq (wp_region_lit (n_q H (q_move rfl) rfl (W_q (q_cast (q_nnilI Tryz.underlying41 rfl rfl (hS.any 0 rfl : IsE A w33 u31 r30).form) (show _ = Value.bool (!decide (r30 = .nil)) by rw [IsErr.isNil (hS.any 0 rfl : IsE A w33 u31 r30)])) rfl ?_))))); clear H a; intro a H
    refine n_nil (then_normal (c_cond H rfl (fun hc36 => ?_) (fun hc36 => ?_)))
    · replace hm := condT hm hc36
      refine wp_seq (wp_region_lit (n_q H (q_move rfl) rfl (W_q (q_assign rfl) rfl ?_))); clear H a; intro a H
      refine n_nil (then_normal (wp_ret (block_ret (then_ret (then_ret (block_ret (then_ret ?_)))))))
      obtain rfl := Option.some.inj hm
      replace hS := hS.tk1
      refine ret1 H (.inr rfl) rfl rfl ?_
      exact ⟨_, rfl, hS⟩
    · replace hm := condF hm hc36
      refine wp_skip (block_normal (then_normal (wp_region_lit (n_q H (q_cast (q_addW rfl rfl) (show _ = Value.int .i64 1 from rfl)) rfl (W_q (q_move rfl) rfl ?_))))); clear H a; intro a H
      refine n_nil (then_normal (Eq.mpr (rounds_succ (n := 2)) ?_))
      refine wp_seq (wp_region_lit (n_q H (q_cast (q_lss rfl rfl) (show _ = Value.bool true from rfl)) rfl ?_)); clear H a; intro a H
      refine n_nil (then_normal (wp_seq (c_condKT H rfl ?_)))
      refine wp_skip (then_normal (wp_seq (wp_block (wp_seq (wp_region_lit (n_q H (q_cast (q_indexAddr Tryz.underlying174 sz117 rfl rfl (by decide) (by decide)) (show _ = Value.pointer (some ⟨b28, 1, none⟩) by simp [plain_add])) rfl (W_q (q_load rfl ((hS.blk 1 rfl).ld ag117 rfl)) rfl (W_q (q_assign rfl) rfl ?_)))))))); clear H a; intro a H
      refine n_nil (then_normal (wp_seq (wp_region_lit (n_q H (q_move rfl) rfl (W_q (q_load rfl ((hS.blk 2 rfl).ldAll ag27 sz27)) rfl ?_))))); clear H a; intro a H
      replace hm := bindS hm; obtain ⟨r38, hr38, hm⟩ := hm
      refine n_callv H rfl rfl en108 (g_plan_checkProcs_w (A := A) (hG.ext hS.x) (⟨_, _, _, _, rfl, (hrp0_0.ext (Flat.mono _) hS.x), (hrp0_1.ext (Flat.mono _) hS.x), (hrp0_2.ext (Flat.mono _) hS.x), (hrp0_3.ext (Flat.mono _) hS.x)⟩ : RGPlan _ [.int .i64 a0.Id, .bool a0.Mobile, vp0_0, vp0_1, vp0_2, .int .i64 a0.Events, vp0_3] a0) hr38) rfl ?_
      clear H; intro u39 w41 hv; clear a; intro a H; obtain ⟨_, rfl, hE42⟩ := hv
      replace hS := hS.new hE42; simp only [List.cons_append, List.nil_append] at hS
      refine n_q H (q_assign rfl) rfl ?_; clear H a; intro a H
      refine n_nil (then_normal (wp_seq (wp_region_lit (n_q H (q_move rfl) rfl (W_q (q_cast (q_nnilI Tryz.underlying41 rfl rfl (hS.any 0 rfl : IsE A w41 u39 r38).form) (show _ = Value.bool (!decide (r38 = .nil)) by rw [IsErr.isNil (hS.any 0 rfl : IsE A w41 u39 r38)])) rfl ?_))))); clear H a; intro a H
      refine n_nil (then_normal (c_cond H rfl (fun hc44 => ?_) (fun hc44 => ?_)))
      · replace hm := condT hm hc44
        refine wp_seq (wp_region_lit (n_q H (q_move rfl) rfl (W_q (q_assign rfl) rfl ?_))); clear H a; intro a H
        refine n_nil (then_normal (wp_ret (block_ret (then_ret (then_ret (block_ret (then_ret ?_)))))))
        obtain rfl := Option.some.inj hm
        replace hS := hS.tk1
        refine ret1 H (.inr rfl) rfl rfl ?_
        exact ⟨_, rfl, hS⟩
      · replace hm := condF hm hc44
        refine wp_skip (block_normal (then_normal (wp_region_lit (n_q H (q_cast (q_addW rfl rfl) (show _ = Value.int .i64 2 from rfl)) rfl (W_q (q_move rfl) rfl ?_))))); clear H a; intro a H
        refine n_nil (then_normal (Eq.mpr (rounds_succ (n := 1)) ?_))
        refine wp_seq (wp_region_lit (n_q H (q_cast (q_lss rfl rfl) (show _ = Value.bool true from rfl)) rfl ?_)); clear H a; intro a H
        refine n_nil (then_normal (wp_seq (c_condKT H rfl ?_)))
        refine wp_skip (then_normal (wp_seq (wp_block (wp_seq (wp_region_lit (n_q H (q_cast (q_indexAddr Tryz.underlying174 sz117 rfl rfl (by decide) (by decide)) (show _ = Value.pointer (some ⟨b28, 2, none⟩) by simp [plain_add])) rfl (W_q (q_load rfl ((hS.blk 2 rfl).ld ag117 rfl)) rfl (W_q (q_assign rfl) rfl ?_)))))))); clear H a; intro a H
        refine n_nil (then_normal (wp_seq (wp_region_lit (n_q H (q_move rfl) rfl (W_q (q_load rfl ((hS.blk 3 rfl).ldAll ag27 sz27)) rfl ?_))))); clear H a; intro a H
        replace hm := bindS hm; obtain ⟨r46, hr46, hm⟩ := hm
        refine n_callv H rfl rfl en109 (g_plan_checkRest_w (A := A) (hG.ext hS.x) (⟨_, _, _, _, rfl, (hrp0_0.ext (Flat.mono _) hS.x), (hrp0_1.ext (Flat.mono _) hS.x), (hrp0_2.ext (Flat.mono _) hS.x), (hrp0_3.ext (Flat.mono _) hS.x)⟩ : RGPlan _ [.int .i64 a0.Id, .bool a0.Mobile, vp0_0, vp0_1, vp0_2, .int .i64 a0.Events, vp0_3] a0) hr46) rfl ?_
        clear H; intro u47 w49 hv; clear a; intro a H; obtain ⟨_, rfl, hE50⟩ := hv
        replace hS := hS.new hE50; simp only [List.cons_append, List.nil_append] at hS
        refine n_q H (q_assign rfl) rfl ?_; clear H a; intro a H
        refine n_nil (then_normal (wp_seq (wp_region_lit (n_q H (q_move rfl) rfl (W_q (q_cast (q_nnilI Tryz.underlying41 rfl rfl (hS.any 0 rfl : IsE A w49 u47 r46).form) (show _ = Value.bool (!decide (r46 = .nil)) by rw [IsErr.isNil (hS.any 0 rfl : IsE A w49 u47 r46)])) rfl ?_))))); clear H a; intro a H
        refine n_nil (then_normal (c_cond H rfl (fun hc52 => ?_) (fun hc52 => ?_)))
        · replace hm := condT hm hc52
          refine wp_seq (wp_region_lit (n_q H (q_move rfl) rfl (W_q (q_assign rfl) rfl ?_))); clear H a; intro a H
          refine n_nil (then_normal (wp_ret (block_ret (then_ret (then_ret (block_ret (then_ret ?_)))))))
          obtain rfl := Option.some.inj hm
          replace hS := hS.tk1
          refine ret1 H (.inr rfl) rfl rfl ?_
          exact ⟨_, rfl, hS⟩
        · replace hm := condF hm hc52
          refine wp_skip (block_normal (then_normal (wp_region_lit (n_q H (q_cast (q_addW rfl rfl) (show _ = Value.int .i64 3 from rfl)) rfl (W_q (q_move rfl) rfl ?_))))); clear H a; intro a H
          refine n_nil (then_normal (Eq.mpr (rounds_succ (n := 0)) ?_))
          refine wp_seq (wp_region_lit (n_q H (q_cast (q_lss rfl rfl) (show _ = Value.bool false from rfl)) rfl ?_)); clear H a; intro a H
          refine n_nil (then_normal (wp_seq (c_condKF H rfl ?_)))
          refine wp_exit (then_exit (then_exit (block_exit (then_normal (wp_seq (wp_region_lit (n_q H (q_assign rfl) rfl ?_))))))); clear H a; intro a H
          refine n_nil (then_normal (wp_ret ?_))
          obtain rfl := Option.some.inj hm
          replace hS := hS.dNil (A := A)
          replace hS := hS.tk1
          refine ret1 H (.inr rfl) rfl rfl ?_
          exact ⟨_, rfl, hS⟩
theorem g_frame_at_w {w : World} {A : Nat → Addr} {a0 : Int} {v1 : Value} {a1 : ErrM} (h1 : IsE A w v1 a1) {r : ErrM} (hm : g_frame_at a0 a1 = some r) :
    Calls Tryz.prog 143 [.int .i64 a0, v1].toArray w (Ret fun u w' => ∃ h_0, u = h_0 ∧ St NB w w' [erQ A h_0 r]) := by
  have hS := St.begin NB w
  unfold g_frame_at at hm
  refine enter Tryz.func143 rfl rfl rfl ?_; intro a H; dsimp only [enumL, Nat.zero_add, Nat.reduceAdd] at H
  refine wp_seq (wp_region_lit (n_q H (q_assign rfl) rfl ?_)); clear H a; intro a H
  refine n_nil (then_normal (wp_seq (wp_region_lit (n_q H (q_move rfl) rfl (W_q (q_move rfl) rfl (W_q (q_build (cs := [.int .i64 a0, v1]) ze128 bd128 pl128 rfl ((fill1 rfl rfl (by simp)).trans ((fill1 (IsErr.ext h1 hS.x).one rfl (by simp)).trans rfl))) rfl ?_)))))); clear H a; intro a H
  refine n_box H rfl (cs := [.int .i64 a0, v1]) rfl rfl ?_
  clear H; intro b21 w22 hN hE23 hs; clear a; intro a H
  replace hS := hS.newBlk hN hE23 hs; clear hN hs
  replace hm := bindS hm; obtain ⟨r24, hr24, hm⟩ := hm
  have hIr24 := (IsErr.ext h1 hS.x)
  refine n_q H (q_makeInterface Tryz.underlying124 (by simp) rfl) rfl ?_; clear H a; intro a H
  replace hS := hS.dAtE hIr24 hr24
  refine n_q H (q_assign rfl) rfl ?_; clear H a; intro a H
  refine n_nil (then_normal (wp_ret ?_))
  obtain rfl := Option.some.inj hm
  refine ret1 H (.inr rfl) rfl rfl ?_
  exact ⟨_, rfl, hS⟩
theorem g_frame_checkParts_w {w : World} {A : Nat → Addr} {cs0 : List Value} {a0 : GConfig} (hG : EV A w) (h0 : RGConfig w cs0 a0) {r : ErrM} (hm : g_frame_checkParts a0 = some r) :
    Calls Tryz.prog 77 [.agg cs0.toArray].toArray w (Ret fun u w' => ∃ h_0, u = h_0 ∧ St NB w w' [erQ A h_0 r]) := by
  obtain ⟨vp0_0, vp0_1, vp0_2, vp0_3, rfl, hrp0_0, hrp0_1, hrp0_2, hrp0_3⟩ := h0
  have hS := St.begin NB w
  unfold g_frame_checkParts at hm
  refine enter Tryz.func77 rfl rfl rfl ?_; intro a H; dsimp only [enumL, Nat.zero_add, Nat.reduceAdd] at H
  refine wp_seq (wp_region_lit (n_box H rfl (cs := [.int .i64 a0.Ticks, vp0_0, vp0_1, vp0_2, vp0_3, .int .i64 a0.Tries]) rfl rfl ?_))
  clear H; intro b21 w22 hN hE23 hs; clear a; intro a H
  replace hS := hS.newBlk hN hE23 hs; clear hN hs
  refine n_q H (q_assign rfl) rfl ?_; clear H a; intro a H
  refine n_nil (then_normal (wp_seq (wp_seq (wp_region_lit (n_c H (fun HC => ?_)))))); clear H
  refine nc_q HC (q_fieldAddr0 rfl fo49_0) rfl (by kernel_rfl) (V_q (q_load rfl ((hS.blk 0 rfl).ld ag3 rfl)) rfl (by kernel_rfl) (V_q (q_lss rfl rfl) rfl (by kernel_rfl) (V_q (q_move rfl) rfl (by kernel_rfl) (V_g (q_fieldAddr0 rfl fo49_0) (by kernel_rfl) (by kernel_rfl) (by kernel_rfl) (V_g (q_load rfl ((hS.blk 0 rfl).ld ag3 rfl)) (by kernel_rfl) (by kernel_rfl) (by kernel_rfl) (V_g (q_gtr rfl rfl) (by kernel_rfl) (by kernel_rfl) (by kernel_rfl) (V_or (j := 3) rfl rfl rfl (by kernel_rfl) (by kernel_rfl) (V_q (q_move rfl) rfl (by kernel_rfl) (V_g (q_fieldAddr0 rfl fo49_5) (by kernel_rfl) (by kernel_rfl) (by kernel_rfl) (V_g (q_load rfl ((hS.blk 0 rfl).ld ag3 rfl)) (by kernel_rfl) (by kernel_rfl) (by kernel_rfl) (V_g (q_lss rfl rfl) (by kernel_rfl) (by kernel_rfl) (by kernel_rfl) ?_))))))))))); clear HC a; intro a HC
  refine nc_or (j := 8) HC rfl rfl rfl (by kernel_rfl) (by kernel_rfl) (V_q (q_move rfl) rfl (by kernel_rfl) (V_g (q_fieldAddr0 rfl fo49_5) (by kernel_rfl) (by kernel_rfl) (by kernel_rfl) (V_g (q_load rfl ((hS.blk 0 rfl).ld ag3 rfl)) (by kernel_rfl) (by kernel_rfl) (by kernel_rfl) (V_g (q_gtr rfl rfl) (by kernel_rfl) (by kernel_rfl) (by kernel_rfl) (V_or (j := 13) rfl rfl rfl (by kernel_rfl) (by kernel_rfl) ?_))))); clear HC a; intro a HC
  have H := HC.has; clear HC
  refine n_nil (then_normal (c_cond H rfl (fun hc24 => ?_) (fun hc24 => ?_)))
  · replace hm := condT hm hc24
    refine wp_seq (wp_region_lit (n_q H (q_load rfl ((hG.ext hS.x).ld gRange (by decide) ag41)) rfl (W_q (q_assign rfl) rfl ?_))); clear H a; intro a H
    refine n_nil (then_normal (wp_ret (then_ret ?_)))
    obtain rfl := Option.some.inj hm
    replace hS := hS.dVar (A := A) (g := gRange) (by decide)
    replace hS := hS.tk1
    refine ret1 H (.inr rfl) rfl rfl ?_
    exact ⟨_, rfl, hS⟩
  · replace hm := condF hm hc24
    refine wp_skip (then_normal (wp_seq (wp_seq (wp_region_lit (n_c H (fun HC => ?_)))))); clear H
    refine nc_q HC (q_fieldAddr0 rfl fo49_1) rfl (by kernel_rfl) (V_q (q_load rfl ((hS.blk 0 rfl).ld ag45 rfl)) rfl (by kernel_rfl) ?_); clear HC a; intro a HC
    obtain ⟨A26, c26, hv26, hl26, hm26⟩ := SlR.formV (hrp0_0.ext RGPlan.mono hS.x)
    refine nc_q HC (q_lenV Tryz.underlying45 rfl hv26) rfl (by kernel_rfl) (V_q (q_lssN (i := a0.Parts.length) (j := 1) rfl rfl) rfl (by kernel_rfl) (V_q (q_move rfl) rfl (by kernel_rfl) (V_g (q_fieldAddr0 rfl fo49_1) (by kernel_rfl) (by kernel_rfl) (by kernel_rfl) (V_g (q_load rfl ((hS.blk 0 rfl).ld ag45 rfl)) (by kernel_rfl) (by kernel_rfl) (by kernel_rfl) (V_g (q_lenV Tryz.underlying45 rfl hv26) (by kernel_rfl) (by kernel_rfl) (by kernel_rfl) (V_g (q_gtrN (i := a0.Parts.length) (j := 8) rfl rfl) (by kernel_rfl) (by kernel_rfl) (by kernel_rfl) (V_or (j := 4) rfl rfl rfl (by kernel_rfl) (by kernel_rfl) ?_))))))); clear HC a; intro a HC
    have H := HC.has; clear HC
    refine n_nil (then_normal (c_cond H rfl (fun hc27 => ?_) (fun hc27 => ?_)))
    · replace hm := condT hm hc27
      refine wp_seq (wp_region_lit (n_q H (q_load rfl ((hG.ext hS.x).ld gSize (by decide) ag41)) rfl (W_q (q_assign rfl) rfl ?_))); clear H a; intro a H
      refine n_nil (then_normal (wp_ret (then_ret ?_)))
      obtain rfl := Option.some.inj hm
      replace hS := hS.dVar (A := A) (g := gSize) (by decide)
      replace hS := hS.tk1
      refine ret1 H (.inr rfl) rfl rfl ?_
      exact ⟨_, rfl, hS⟩
    · replace hm := condF hm hc27
      refine wp_skip (then_normal (wp_seq (wp_seq (wp_region_lit (n_q H (q_fieldAddr0 rfl fo49_1) rfl (W_q (q_load rfl ((hS.blk 0 rfl).ld ag45 rfl)) rfl (W_q (q_lenV Tryz.underlying45 rfl hv26) rfl (W_q (q_move rfl) rfl ?_)))))))); clear H a; intro a H
      refine n_nil (then_normal (wp_block ?_))
      replace hm := bindS hm; obtain ⟨q29, hm, hm29⟩ := hm; replace hm := iter_some hm; obtain ⟨n29, hm⟩ := hm
      refine c_loop (σ := Nat × Nat) (fun (m, i30) => [(1, .pointer (some ⟨b21, 0, none⟩)), (38, vp0_0), (39, .int .i64 ((a0.Parts.length : Nat) : Int)), (40, .int .i64 ((i30 : Nat) : Int))]) (fun (m, i30) wl => iterN (g_frame_checkParts_L2 a0) m i30 = some q29 ∧ St NB w wl [blkR b21 [.int .i64 a0.Ticks, vp0_0, vp0_1, vp0_2, vp0_3, .int .i64 a0.Tries] 49]) (fun (m, i30) => m) (n29, 0) H ⟨rfl, rfl, rfl, rfl, trivial⟩ ⟨hm, hS⟩ ?_
      clear H hS hm a; intro xx a w31 H hR; obtain ⟨m, i30⟩ := xx; simp only [ent, List.map_cons, List.map_nil] at H; (try dsimp only at hR); obtain ⟨hm, hS⟩ := hR
      replace hm := iterN_step hm; obtain ⟨m29, o29, rfl, hm, hn29⟩ := hm; try dsimp only [g_frame_checkParts_L2] at hm
      refine wp_seq (wp_region_lit (n_q H (q_lssN (i := i30) (j := a0.Parts.length) rfl rfl) rfl ?_)); clear H a; intro a H
      refine n_nil (then_normal (wp_seq (c_cond H rfl (fun hc32 => ?_) (fun hc32 => ?_))))
      · replace hm := condT hm hc32
        have hlt33 : i30 < a0.Parts.length := of_decide_eq_true hc32
        refine wp_skip (then_normal (wp_seq (wp_block (wp_seq (wp_region_lit (n_q H (q_move rfl) rfl ?_)))))); clear H a; intro a H
        replace hm := bindS hm; obtain ⟨x34, hx34, hm⟩ := hm
        obtain ⟨adx34, hAx34⟩ := SlR.adV (hrp0_0.ext RGPlan.mono hS.x) hv26 hx34
        obtain ⟨csx34, hclx34, ⟨vx34_0, vx34_1, vx34_2, vx34_3, rfl, hrx34_0, hrx34_1, hrx34_2, hrx34_3⟩, hcx34⟩ := SlR.elV hrp0_0 hv26 hAx34 hx34
        refine n_q H (q_ixV (i := i30) Tryz.underlying45 sz27 rfl hv26 hAx34 rfl (natI hx34)) rfl (W_q (q_load rfl (LdX.ext (ldEl ag27 sz27 rfl hcx34) hS.x)) rfl ?_); clear H a; intro a H
        refine n_alloc H ze27 rfl ?_
        clear H; intro b35 w36 hN hE37 hs; clear a; intro a H
        replace hS := hS.newBlk hN hE37 hs; clear hN hs
        refine n_q H (q_assign rfl) rfl ?_; clear H a; intro a H
        refine n_storeAll H rfl rfl (vs := [.int .i64 x34.Id, .bool x34.Mobile, vx34_0, vx34_1, vx34_2, .int .i64 x34.Events, vx34_3]) rfl sz27 (hS.blk 0 rfl) rfl (by simp [((hrx34_0.ext (Flat.mono _) hS.x)).one, ((hrx34_1.ext (Flat.mono _) hS.x)).one, ((hrx34_2.ext (Flat.mono _) hS.x)).one, ((hrx34_3.ext (Flat.mono _) hS.x)).one]) ?_
        clear H; intro w38 hN hC39 hz; clear a; intro a H; replace hS := hS.setBlk hN hC39; clear hN hz
        refine n_nil (then_normal (wp_seq (wp_seq (wp_region_lit (n_q H (q_load rfl ((hS.blk 0 rfl).ldAll ag27 sz27)) rfl ?_))))); clear H a; intro a H
        replace hm := bindS hm; obtain ⟨r40, hr40, hm⟩ := hm
        refine n_call H rfl en51 (g_plan_Check_w (A := A) (hG.ext hS.x) (⟨_, _, _, _, rfl, (hrx34_0.ext (Flat.mono _) hS.x), (hrx34_1.ext (Flat.mono _) hS.x), (hrx34_2.ext (Flat.mono _) hS.x), (hrx34_3.ext (Flat.mono _) hS.x)⟩ : RGPlan _ [.int .i64 x34.Id, .bool x34.Mobile, vx34_0, vx34_1, vx34_2, .int .i64 x34.Events, vx34_3] x34) hr40) rfl ?_
        clear H; intro u41 w43 hv; clear a; intro a H; obtain ⟨_, rfl, hE44⟩ := hv
        replace hS := hS.new hE44; simp only [List.cons_append, List.nil_append] at hS
        refine n_q H (q_cast (q_nnilI Tryz.underlying41 rfl rfl (hS.any 0 rfl : IsE A w43 u41 r40).form) (show _ = Value.bool (!decide (r40 = .nil)) by rw [IsErr.isNil (hS.any 0 rfl : IsE A w43 u41 r40)])) rfl ?_; clear H a; intro a H
        refine n_nil (then_normal (c_cond H rfl (fun hc46 => ?_) (fun hc46 => ?_)))
        · replace hm := condT hm hc46
          refine wp_seq (wp_region_lit (n_q H (q_move rfl) rfl (W_q (q_load rfl ((hG.ext hS.x).ld gPlan (by decide) ag41)) rfl ?_))); clear H a; intro a H
          replace hm := bindS hm; obtain ⟨r47, hr47, hm⟩ := hm
          refine n_call H rfl en143 (g_frame_at_w (A := A) (IsErr.var (by decide) : IsE A w43 _ (.v gPlan)) hr47) rfl ?_
          clear H; intro u48 w50 hv; clear a; intro a H; obtain ⟨_, rfl, hE51⟩ := hv
          replace hS := hS.new hE51; simp only [List.cons_append, List.nil_append] at hS
          refine n_q H (q_assign rfl) rfl ?_; clear H a; intro a H
          refine n_nil (then_normal (wp_ret (then_ret (block_ret (then_ret (then_ret (block_ret (then_ret ?_))))))))
          obtain rfl := Option.some.inj hm; have hz : _ = q29 := hn29; subst hz; replace hm := hm29; try dsimp only at hm
          obtain rfl := Option.some.inj hm
          replace hS := hS.tk1
          refine ret1 H (.inr rfl) rfl rfl ?_
          exact ⟨_, rfl, hS⟩
        · replace hm := condF hm hc46
          refine wp_skip (then_normal (wp_seq (wp_region_lit (n_q H (q_fieldAddr0 rfl fo27_0) rfl (W_q (q_load rfl ((hS.blk 1 rfl).ld ag3 rfl)) rfl (W_q (q_move rfl) rfl (W_q (q_neqD rfl rfl) rfl ?_))))))); clear H a; intro a H
          refine n_nil (then_normal (c_cond H rfl (fun hc53 => ?_) (fun hc53 => ?_)))
          · replace hm := condT hm hc53
            refine wp_seq (wp_region_lit (n_q H (q_move rfl) rfl (W_q (q_load rfl ((hG.ext hS.x).ld gArg (by decide) ag41)) rfl ?_))); clear H a; intro a H
            replace hm := bindS hm; obtain ⟨r54, hr54, hm⟩ := hm
            refine n_call H rfl en143 (g_frame_at_w (A := A) (IsErr.var (by decide) : IsE A w43 _ (.v gArg)) hr54) rfl ?_
            clear H; intro u55 w57 hv; clear a; intro a H; obtain ⟨_, rfl, hE58⟩ := hv
            replace hS := hS.new hE58; simp only [List.cons_append, List.nil_append] at hS
            refine n_q H (q_assign rfl) rfl ?_; clear H a; intro a H
            refine n_nil (then_normal (wp_ret (block_ret (then_ret (then_ret (block_ret (then_ret ?_)))))))
            obtain rfl := Option.some.inj hm; have hz : _ = q29 := hn29; subst hz; replace hm := hm29; try dsimp only at hm
            obtain rfl := Option.some.inj hm
            replace hS := hS.tk1
            refine ret1 H (.inr rfl) rfl rfl ?_
            exact ⟨_, rfl, hS⟩
          · replace hm := condF hm hc53
            refine wp_skip (block_normal (then_normal (wp_region_lit (n_q H (q_incr (i := i30) (j := 1) rfl rfl (by omega)) rfl (W_q (q_move rfl) rfl ?_))))); clear H a; intro a H
            refine n_nil (then_normal ?_)
            obtain rfl := Option.some.inj hm
            replace hS := hS.pk2
            replace hS := hS.tk1
            exact round (m29, i30 + 1) H ⟨rfl, rfl, rfl, rfl, trivial⟩ ⟨hn29, hS⟩ (Nat.lt_succ_self _)
      · replace hm := condF hm hc32
        refine wp_exit (then_exit (then_exit (block_exit ?_)))
        obtain rfl := Option.some.inj hm; have hz : _ = q29 := hn29; subst hz; replace hm := hm29; try dsimp only at hm
        refine then_normal (wp_seq (wp_seq (wp_region_lit (n_q H (q_fieldAddr0 rfl fo49_2) rfl (W_q (q_load rfl ((hS.blk 0 rfl).ld ag25 rfl)) rfl ?_))))); clear H a; intro a H
        obtain ⟨A60, c60, hv60, hl60, hm60⟩ := SlR.formV (hrp0_1.ext (Flat.mono _) hS.x)
        refine n_q H (q_lenV Tryz.underlying25 rfl hv60) rfl (W_q (q_fieldAddr0 rfl fo49_1) rfl (W_q (q_load rfl ((hS.blk 0 rfl).ld ag45 rfl)) rfl (W_q (q_lenV Tryz.underlying45 rfl hv26) rfl (W_q (q_neqN (i := a0.Homes.length) (j := a0.Parts.length) rfl rfl) rfl ?_)))); clear H a; intro a H
        refine n_nil (then_normal (c_cond H rfl (fun hc61 => ?_) (fun hc61 => ?_)))
        · replace hm := condT hm hc61
          refine wp_seq (wp_region_lit (n_q H (q_load rfl ((hG.ext hS.x).ld gSize (by decide) ag41)) rfl (W_q (q_assign rfl) rfl ?_))); clear H a; intro a H
          refine n_nil (then_normal (wp_ret (then_ret ?_)))
          obtain rfl := Option.some.inj hm
          replace hS := hS.dVar (A := A) (g := gSize) (by decide)
          replace hS := hS.tk1
          refine ret1 H (.inr rfl) rfl rfl ?_
          exact ⟨_, rfl, hS⟩
        · replace hm := condF hm hc61
          refine wp_skip (then_normal (wp_seq (wp_seq (wp_region_lit (n_q H (q_fieldAddr0 rfl fo49_2) rfl (W_q (q_load rfl ((hS.blk 0 rfl).ld ag25 rfl)) rfl (W_q (q_lenV Tryz.underlying25 rfl hv60) rfl (W_q (q_move rfl) rfl ?_)))))))); clear H a; intro a H
          refine n_nil (then_normal (wp_block ?_))
          replace hS := hS.tk0
          replace hm := bindS hm; obtain ⟨q63, hm, hm63⟩ := hm; replace hm := iter_some hm; obtain ⟨n63, hm⟩ := hm
          refine c_loop (σ := Nat × Nat) (fun (m, i64) => [(68, vp0_1), (69, .int .i64 ((a0.Homes.length : Nat) : Int)), (70, .int .i64 ((i64 : Nat) : Int))]) (fun (m, i64) wl => iterN (g_frame_checkParts_L1 a0) m i64 = some q63 ∧ St NB w wl []) (fun (m, i64) => m) (n63, 0) H ⟨rfl, rfl, rfl, trivial⟩ ⟨hm, hS⟩ ?_
          clear H hS hm a; intro xx a w65 H hR; obtain ⟨m, i64⟩ := xx; simp only [ent, List.map_cons, List.map_nil] at H; (try dsimp only at hR); obtain ⟨hm, hS⟩ := hR
          replace hm := iterN_step hm; obtain ⟨m63, o63, rfl, hm, hn63⟩ := hm; try dsimp only [g_frame_checkParts_L1] at hm
          refine wp_seq (wp_region_lit (n_q H (q_lssN (i := i64) (j := a0.Homes.length) rfl rfl) rfl ?_)); clear H a; intro a H
          refine n_nil (then_normal (wp_seq (c_cond H rfl (fun hc66 => ?_) (fun hc66 => ?_))))
          · replace hm := condT hm hc66
            have hlt67 : i64 < a0.Homes.length := of_decide_eq_true hc66
            refine wp_skip (then_normal (wp_seq (wp_block (wp_seq (wp_region_lit (n_q H (q_move rfl) rfl ?_)))))); clear H a; intro a H
            replace hm := bindS hm; obtain ⟨x68, hx68, hm⟩ := hm
            obtain ⟨adx68, hAx68⟩ := SlR.adV (hrp0_1.ext (Flat.mono _) hS.x) hv60 hx68
            refine n_q H (q_ixV (i := i64) Tryz.underlying25 sz3 rfl hv60 hAx68 rfl (natI hx68)) rfl (W_q (q_load rfl (SlR.ldOneV (hrp0_1.ext (Flat.mono _) hS.x) hv60 hAx68 ag3 hx68 rfl)) rfl (W_q (q_assign rfl) rfl (W_q (q_assign rfl) rfl ?_))); clear H a; intro a H
            refine n_nil (then_normal (wp_seq (wp_region_lit (n_c H (fun HC => ?_))))); clear H
            refine nc_q HC (q_move rfl) rfl (by kernel_rfl) (V_q (q_neqD rfl rfl) rfl (by kernel_rfl) (V_q (q_move rfl) rfl (by kernel_rfl) (V_g (q_move rfl) (by kernel_rfl) (by kernel_rfl) (by kernel_rfl) (V_g (q_neqD rfl rfl) (by kernel_rfl) (by kernel_rfl) (by kernel_rfl) (V_and (j := 2) rfl rfl rfl (by kernel_rfl) (by kernel_rfl) ?_))))); clear HC a; intro a HC
            have H := HC.has; clear HC
            refine n_nil (then_normal (c_cond H rfl (fun hc69 => ?_) (fun hc69 => ?_)))
            · replace hm := condT hm hc69
              refine wp_seq (wp_region_lit (n_q H (q_move rfl) rfl (W_q (q_load rfl ((hG.ext hS.x).ld gRange (by decide) ag41)) rfl ?_))); clear H a; intro a H
              replace hm := bindS hm; obtain ⟨r70, hr70, hm⟩ := hm
              refine n_call H rfl en143 (g_frame_at_w (A := A) (IsErr.var (by decide) : IsE A w65 _ (.v gRange)) hr70) rfl ?_
              clear H; intro u71 w73 hv; clear a; intro a H; obtain ⟨_, rfl, hE74⟩ := hv
              replace hS := hS.new hE74; simp only [List.cons_append, List.nil_append] at hS
              refine n_q H (q_assign rfl) rfl ?_; clear H a; intro a H
              refine n_nil (then_normal (wp_ret (block_ret (then_ret (then_ret (block_ret (then_ret ?_)))))))
              obtain rfl := Option.some.inj hm; have hz : _ = q63 := hn63; subst hz; replace hm := hm63; try dsimp only at hm
              obtain rfl := Option.some.inj hm
              refine ret1 H (.inr rfl) rfl rfl ?_
              exact ⟨_, rfl, hS⟩
            · replace hm := condF hm hc69
              refine wp_skip (block_normal (then_normal (wp_region_lit (n_q H (q_incr (i := i64) (j := 1) rfl rfl (by omega)) rfl (W_q (q_move rfl) rfl ?_))))); clear H a; intro a H
              refine n_nil (then_normal ?_)
              obtain rfl := Option.some.inj hm
              exact round (m63, i64 + 1) H ⟨rfl, rfl, rfl, trivial⟩ ⟨hn63, hS⟩ (Nat.lt_succ_self _)
          · replace hm := condF hm hc66
            refine wp_exit (then_exit (then_exit (block_exit ?_)))
            obtain rfl := Option.some.inj hm; have hz : _ = q63 := hn63; subst hz; replace hm := hm63; try dsimp only at hm
            refine then_normal (wp_seq (wp_region_lit (n_q H (q_assign rfl) rfl ?_))); clear H a; intro a H
            refine n_nil (then_normal (wp_ret ?_))
            obtain rfl := Option.some.inj hm
            replace hS := hS.dNil (A := A)
            refine ret1 H (.inr rfl) rfl rfl ?_
            exact ⟨_, rfl, hS⟩
theorem g_frame_there_w {w : World} {A : Nat → Addr} {cs0 : List Value} {a0 : GConfig} {a1 : Int} (h0 : RGConfig w cs0 a0) {r : Bool} (hm : g_frame_there a0 a1 = some r) :
    Calls Tryz.prog 139 [.agg cs0.toArray, .int .i64 a1].toArray w (Ret fun u w' => u = .bool r ∧ Ext w w') := by
  obtain ⟨vp0_0, vp0_1, vp0_2, vp0_3, rfl, hrp0_0, hrp0_1, hrp0_2, hrp0_3⟩ := h0
  have hS := St.begin NB w
  unfold g_frame_there at hm
  refine enter Tryz.func139 rfl rfl rfl ?_; intro a H; dsimp only [enumL, Nat.zero_add, Nat.reduceAdd] at H
  refine wp_seq (wp_region_lit (n_box H rfl (cs := [.int .i64 a0.Ticks, vp0_0, vp0_1, vp0_2, vp0_3, .int .i64 a0.Tries]) rfl rfl ?_))
  clear H; intro b21 w22 hN hE23 hs; clear a; intro a H
  replace hS := hS.newBlk hN hE23 hs; clear hN hs
  refine n_q H (q_assign rfl) rfl ?_; clear H a; intro a H
  refine n_nil (then_normal (wp_seq (wp_region_lit (n_c H (fun HC => ?_))))); clear H
  refine nc_q HC (q_move rfl) rfl (by kernel_rfl) (V_q (q_geq rfl rfl) rfl (by kernel_rfl) (V_q (q_move rfl) rfl (by kernel_rfl) (V_g (q_move rfl) (by kernel_rfl) (by kernel_rfl) (by kernel_rfl) (V_g (q_fieldAddr0 rfl fo49_1) (by kernel_rfl) (by kernel_rfl) (by kernel_rfl) (V_g (q_load rfl ((hS.blk 0 rfl).ld ag45 rfl)) (by kernel_rfl) (by kernel_rfl) (by kernel_rfl) ?_))))); clear HC a; intro a HC
  obtain ⟨A24, c24, hv24, hl24, hm24⟩ := SlR.formV (hrp0_0.ext RGPlan.mono hS.x)
  refine nc_g HC (q_lenV Tryz.underlying45 rfl hv24) (by kernel_rfl) (by kernel_rfl) (by kernel_rfl) (V_g (q_lss rfl rfl) (by kernel_rfl) (by kernel_rfl) (by kernel_rfl) (V_and (j := 2) rfl rfl rfl (by kernel_rfl) (by kernel_rfl) (V_q (q_assign rfl) rfl (by kernel_rfl) ?_))); clear HC a; intro a HC
  have H := HC.has; clear HC
  refine n_nil (then_normal (wp_ret ?_))
  obtain rfl := Option.some.inj hm
  replace hS := hS.tk0
  refine ret1 H (.inr rfl) rfl rfl ?_
  exact ⟨rfl, hS.x⟩
theorem g_frame_owner_w {w : World} {A : Nat → Addr} {cs0 : List Value} {a0 : GConfig} {a1 : Int} (h0 : RGConfig w cs0 a0) {r : Bool} (hm : g_frame_owner a0 a1 = some r) :
    Calls Tryz.prog 85 [.agg cs0.toArray, .int .i64 a1].toArray w (Ret fun u w' => u = .bool r ∧ Ext w w') := by
  obtain ⟨vp0_0, vp0_1, vp0_2, vp0_3, rfl, hrp0_0, hrp0_1, hrp0_2, hrp0_3⟩ := h0
  have hS := St.begin NB w
  unfold g_frame_owner at hm
  refine enter Tryz.func85 rfl rfl rfl ?_; intro a H; dsimp only [enumL, Nat.zero_add, Nat.reduceAdd] at H
  refine wp_seq (wp_region_lit (n_box H rfl (cs := [.int .i64 a0.Ticks, vp0_0, vp0_1, vp0_2, vp0_3, .int .i64 a0.Tries]) rfl rfl ?_))
  clear H; intro b21 w22 hN hE23 hs; clear a; intro a H
  replace hS := hS.newBlk hN hE23 hs; clear hN hs
  refine n_q H (q_assign rfl) rfl ?_; clear H a; intro a H
  refine n_nil (then_normal (wp_seq (wp_region_lit (n_q H (q_move rfl) rfl (W_q (q_eqlD rfl rfl) rfl (W_q (q_move rfl) rfl ?_)))))); clear H a; intro a H
  rcases Bool.eq_false_or_eq_true (decide (a1 = (-1))) with hg24 | hg24
  · replace H := H.know 7 rfl hg24
    replace hm := condT hm hg24
    refine n_no H rfl rfl (by decide) rfl (W_no rfl rfl (by decide) rfl (W_no rfl rfl (by decide) rfl (W_q (q_pickT rfl rfl) rfl (W_q (q_assign rfl) rfl ?_)))); clear H a; intro a H
    refine n_nil (then_normal (wp_ret ?_))
    obtain rfl := Option.some.inj hm
    replace hS := hS.tk0
    refine ret1 H (.inr rfl) rfl rfl ?_
    exact ⟨rfl, hS.x⟩
  · replace H := H.know 7 rfl hg24
    replace hm := condF hm hg24
    refine n_yes H rfl rfl (n_q H (q_load rfl ((hS.blk 0 rfl).ldAll ag49 sz49)) rfl (W_yes rfl rfl (W_q (q_move rfl) rfl (W_yes rfl rfl ?_)))); clear H a; intro a H
    replace hm := bindS hm; obtain ⟨r25, hr25, hm⟩ := hm
    refine n_call H rfl en139 (g_frame_there_w (A := A) (⟨_, _, _, _, rfl, (hrp0_0.ext RGPlan.mono hS.x), (hrp0_1.ext (Flat.mono _) hS.x), (hrp0_2.ext (Flat.mono _) hS.x), (hrp0_3.ext (Flat.mono _) hS.x)⟩ : RGConfig _ [.int .i64 a0.Ticks, vp0_0, vp0_1, vp0_2, vp0_3, .int .i64 a0.Tries] a0) hr25) rfl ?_
    clear H; intro x28 w26 hv; clear a; intro a H; obtain ⟨rfl, hE27⟩ := hv
    replace hS := hS.ext hE27
    refine n_q H (q_pickF rfl rfl) rfl (W_q (q_assign rfl) rfl ?_); clear H a; intro a H
    refine n_nil (then_normal (wp_ret ?_))
    obtain rfl := Option.some.inj hm
    replace hS := hS.tk0
    refine ret1 H (.inr rfl) rfl rfl ?_
    exact ⟨rfl, hS.x⟩
theorem g_slices_IndexFunc_Window_w {w : World} {A : Nat → Addr} {v0 : Value} {a0 : List GWindow} {g1 : Nat} {fs1 : List Value} {cp1 : List Value} {a1 : GWindow → Option Bool} (h0 : SlR w 3 (Flat eGWindow) v0 a0) (he1 : entersB Tryz.prog g1 = true) (hf1 : ∀ w1, Ext w w1 → ∀ (x0 : GWindow) (r : Bool), a1 x0 = some r → Calls Tryz.prog g1 (fs1 ++ [Value.agg (eGWindow x0).toArray] ++ cp1).toArray w1 (Ret fun u w' => u = .bool r ∧ Ext w1 w')) {r : Int} (hm : g_slices_IndexFunc_Window a0 a1 = some r) :
    Calls Tryz.prog 212 [v0, .func (.func g1) fs1.toArray cp1.toArray].toArray w (Ret fun u w' => u = .int .i64 r ∧ Ext w w') := by
  have hS := St.begin NB w
  unfold g_slices_IndexFunc_Window at hm
  refine enter Tryz.func212 rfl rfl rfl ?_; intro a H; dsimp only [enumL, Nat.zero_add, Nat.reduceAdd] at H
  refine wp_seq (wp_region_lit (n_q H (q_assign rfl) rfl ?_)); clear H a; intro a H
  refine n_nil (then_normal (wp_seq (wp_seq (wp_region_lit (n_q H (q_move rfl) rfl ?_))))); clear H a; intro a H
  obtain ⟨A21, c21, hv21, hl21, hm21⟩ := SlR.formV (h0.ext (Flat.mono _) hS.x)
  refine n_q H (q_lenV Tryz.underlying46 rfl hv21) rfl (W_q (q_move rfl) rfl ?_); clear H a; intro a H
  refine n_nil (then_normal (wp_block ?_))
  replace hm := bindS hm; obtain ⟨q22, hm, hm22⟩ := hm; replace hm := iter_some hm; obtain ⟨n22, hm⟩ := hm
  refine c_loop (σ := Nat × Nat) (fun (m, i23) => [(0, v0), (1, .func (.func g1) fs1.toArray cp1.toArray), (7, .int .i64 ((a0.length : Nat) : Int)), (8, .int .i64 ((i23 : Nat) : Int))]) (fun (m, i23) wl => iterN (g_slices_IndexFunc_Window_L1 a0 a1) m i23 = some q22 ∧ St NB w wl []) (fun (m, i23) => m) (n22, 0) H ⟨rfl, rfl, rfl, rfl, trivial⟩ ⟨hm, hS⟩ ?_
  clear H hS hm a; intro xx a w24 H hR; obtain ⟨m, i23⟩ := xx; simp only [ent, List.map_cons, List.map_nil] at H; (try dsimp only at hR); obtain ⟨hm, hS⟩ := hR
  replace hm := iterN_step hm; obtain ⟨m22, o22, rfl, hm, hn22⟩ := hm; try dsimp only [g_slices_IndexFunc_Window_L1] at hm
  refine wp_seq (wp_region_lit (n_q H (q_lssN (i := i23) (j := a0.length) rfl rfl) rfl ?_)); clear H a; intro a H
  refine n_nil (then_normal (wp_seq (c_cond H rfl (fun hc25 => ?_) (fun hc25 => ?_))))
  · replace hm := condT hm hc25
    have hlt26 : i23 < a0.length := of_decide_eq_true hc25
    refine wp_skip (then_normal (wp_seq (wp_block (wp_seq (wp_region_lit (n_q H (q_move rfl) rfl (W_q (q_assign rfl) rfl ?_))))))); clear H a; intro a H
    refine n_nil (then_normal (wp_seq (wp_region_lit (n_q H (q_move rfl) rfl (W_q (q_move rfl) rfl (W_q (q_move rfl) rfl ?_)))))); clear H a; intro a H
    replace hm := bindS hm; obtain ⟨x27, hx27, hm⟩ := hm
    obtain ⟨adx27, hAx27⟩ := SlR.adV (h0.ext (Flat.mono _) hS.x) hv21 hx27
    refine n_q H (q_ixV (i := i23) Tryz.underlying46 sz61 rfl hv21 hAx27 rfl (natI hx27)) rfl (W_q (q_load rfl (SlR.ldAggV (h0.ext (Flat.mono _) hS.x) hv21 hAx27 ag61 sz61 hx27)) rfl ?_); clear H a; intro a H
    replace hm := bindS hm; obtain ⟨r28, hr28, hm⟩ := hm
    refine n_callv H rfl rfl he1 (hf1 _ hS.x x27 _ hr28) rfl ?_
    clear H; intro x31 w29 hv; clear a; intro a H; obtain ⟨rfl, hE30⟩ := hv
    replace hS := hS.ext hE30
    refine n_nil (then_normal (c_cond H rfl (fun hc32 => ?_) (fun hc32 => ?_)))
    · replace hm := condT hm hc32
      refine wp_seq (wp_region_lit (n_q H (q_move rfl) rfl (W_q (q_assign rfl) rfl ?_))); clear H a; intro a H
      refine n_nil (then_normal (wp_ret (block_ret (then_ret (then_ret (block_ret (then_ret ?_)))))))
      obtain rfl := Option.some.inj hm; have hz : _ = q22 := hn22; subst hz; replace hm := hm22; try dsimp only at hm
      obtain rfl := Option.some.inj hm
      refine ret1 H (.inr rfl) rfl rfl ?_
      exact ⟨rfl, hS.x⟩
    · replace hm := condF hm hc32
      refine wp_skip (block_normal (then_normal (wp_region_lit (n_q H (q_incr (i := i23) (j := 1) rfl rfl (by omega)) rfl (W_q (q_move rfl) rfl ?_))))); clear H a; intro a H
      refine n_nil (then_normal ?_)
      obtain rfl := Option.some.inj hm
      exact round (m22, i23 + 1) H ⟨rfl, rfl, rfl, rfl, trivial⟩ ⟨hn22, hS⟩ (Nat.lt_succ_self _)
  · replace hm := condF hm hc25
    refine wp_exit (then_exit (then_exit (block_exit ?_)))
    obtain rfl := Option.some.inj hm; have hz : _ = q22 := hn22; subst hz; replace hm := hm22; try dsimp only at hm
    refine then_normal (wp_seq (wp_region_lit (n_q H (q_assign rfl) rfl ?_))); clear H a; intro a H
    refine n_nil (then_normal (wp_ret ?_))
    obtain rfl := Option.some.inj hm
    refine ret1 H (.inr rfl) rfl rfl ?_
    exact ⟨rfl, hS.x⟩
theorem g_slices_ContainsFunc_Window_w {w : World} {A : Nat → Addr} {v0 : Value} {a0 : List GWindow} {g1 : Nat} {fs1 : List Value} {cp1 : List Value} {a1 : GWindow → Option Bool} (h0 : SlR w 3 (Flat eGWindow) v0 a0) (he1 : entersB Tryz.prog g1 = true) (hf1 : ∀ w1, Ext w w1 → ∀ (x0 : GWindow) (r : Bool), a1 x0 = some r → Calls Tryz.prog g1 (fs1 ++ [Value.agg (eGWindow x0).toArray] ++ cp1).toArray w1 (Ret fun u w' => u = .bool r ∧ Ext w1 w')) {r : Bool} (hm : g_slices_ContainsFunc_Window a0 a1 = some r) :
    Calls Tryz.prog 194 [v0, .func (.func g1) fs1.toArray cp1.toArray].toArray w (Ret fun u w' => u = .bool r ∧ Ext w w') := by
  have hS := St.begin NB w
  unfold g_slices_ContainsFunc_Window at hm
  refine enter Tryz.func194 rfl rfl rfl ?_; intro a H; dsimp only [enumL, Nat.zero_add, Nat.reduceAdd] at H
  refine wp_seq (wp_region_lit (n_q H (q_assign rfl) rfl ?_)); clear H a; intro a H
  refine n_nil (then_normal (wp_seq (wp_region_lit (n_q H (q_move rfl) rfl (W_q (q_move rfl) rfl ?_))))); clear H a; intro a H
  replace hm := bindS hm; obtain ⟨r21, hr21, hm⟩ := hm
  refine n_call H rfl en212 (g_slices_IndexFunc_Window_w (A := A) (h0.ext (Flat.mono _) hS.x) (g1 := g1) (fs1 := fs1) (cp1 := cp1) (a1 := a1) he1 (fun w1 e1 => hf1 w1 (Ext.trans' hS.x e1)) hr21) rfl ?_
  clear H; intro x24 w22 hv; clear a; intro a H; obtain ⟨rfl, hE23⟩ := hv
  replace hS := hS.ext hE23
  refine n_q H (q_geq rfl rfl) rfl (W_q (q_assign rfl) rfl ?_); clear H a; intro a H
  refine n_nil (then_normal (wp_ret ?_))
  obtain rfl := Option.some.inj hm
  refine ret1 H (.inr rfl) rfl rfl ?_
  exact ⟨rfl, hS.x⟩
theorem g_frame_has_1_w {w : World} {A : Nat → Addr} {a0 : GWindow} {b1 : Nat} {a1 : Int} (hb1 : Blk w b1 [.int .i64 a1] 3) {r : Bool} (hm : g_frame_has_1 a0 a1 = some r) :
    Calls Tryz.prog 195 [.agg (eGWindow a0).toArray, .pointer (some ⟨b1, 0, none⟩)].toArray w (Ret fun u w' => u = .bool r ∧ Ext w w') := by
  have hS := St.begin NB w
  unfold g_frame_has_1 at hm
  refine enter Tryz.func195 rfl rfl rfl ?_; intro a H; dsimp only [enumL, Nat.zero_add, Nat.reduceAdd] at H
  refine wp_seq (wp_region_lit (n_box H rfl (cs := [.int .i64 a0.Part, .int .i64 a0.Start, .int .i64 a0.Len]) rfl rfl ?_))
  clear H; intro b21 w22 hN hE23 hs; clear a; intro a H
  replace hS := hS.newBlk hN hE23 hs; clear hN hs
  refine n_q H (q_assign rfl) rfl ?_; clear H a; intro a H
  refine n_nil (then_normal (wp_seq (wp_region_lit (n_q H (q_fieldAddr0 rfl fo61_0) rfl (W_q (q_load rfl ((hS.blk 0 rfl).ld ag3 rfl)) rfl (W_q (q_load rfl ((hb1.ext hS.x).ld ag3 rfl)) rfl (W_q (q_eqlD rfl rfl) rfl (W_q (q_assign rfl) rfl ?_)))))))); clear H a; intro a H
  refine n_nil (then_normal (wp_ret ?_))
  obtain rfl := Option.some.inj hm
  replace hS := hS.tk0
  refine ret1 H (.inr rfl) rfl rfl ?_
  exact ⟨rfl, hS.x⟩
theorem g_frame_has_w {w : World} {A : Nat → Addr} {cs0 : List Value} {a0 : GConfig} {a1 : Int} (h0 : RGConfig w cs0 a0) {r : Bool} (hm : g_frame_has a0 a1 = some r) :
    Calls Tryz.prog 144 [.agg cs0.toArray, .int .i64 a1].toArray w (Ret fun u w' => u = .bool r ∧ Ext w w') := by
  obtain ⟨vp0_0, vp0_1, vp0_2, vp0_3, rfl, hrp0_0, hrp0_1, hrp0_2, hrp0_3⟩ := h0
  have hS := St.begin NB w
  unfold g_frame_has at hm
  refine enter Tryz.func144 rfl rfl rfl ?_; intro a H; dsimp only [enumL, Nat.zero_add, Nat.reduceAdd] at H
  refine wp_seq (wp_region_lit (n_box H rfl (cs := [.int .i64 a0.Ticks, vp0_0, vp0_1, vp0_2, vp0_3, .int .i64 a0.Tries]) rfl rfl ?_))
  clear H; intro b21 w22 hN hE23 hs; clear a; intro a H
  replace hS := hS.newBlk hN hE23 hs; clear hN hs
  refine n_box H rfl (cs := [.int .i64 a1]) rfl rfl ?_
  clear H; intro b24 w25 hN hE26 hs; clear a; intro a H
  replace hS := hS.newBlk hN hE26 hs; clear hN hs
  refine n_q H (q_assign rfl) rfl ?_; clear H a; intro a H
  refine n_nil (then_normal (wp_seq (wp_region_lit (n_q H (q_fieldAddr0 rfl fo49_3) rfl (W_q (q_load rfl ((hS.blk 1 rfl).ld ag46 rfl)) rfl (W_q (q_makeFunc (f := []) (c := [.pointer (some ⟨b24, 0, none⟩)]) rfl rfl) rfl ?_)))))); clear H a; intro a H
  replace hm := bindS hm; obtain ⟨r27, hr27, hm⟩ := hm
  refine n_call H rfl en194 (g_slices_ContainsFunc_Window_w (A := A) (hrp0_2.ext (Flat.mono _) hS.x) (g1 := 195) (fs1 := []) (cp1 := [.pointer (some ⟨b24, 0, none⟩)]) (a1 := (fun x0 => g_frame_has_1 x0 a1)) en195 (fun w1 e1 x0 r hr => g_frame_has_1_w (A := A) ((hS.blk 0 rfl).ext e1) hr) hr27) rfl ?_
  clear H; intro x30 w28 hv; clear a; intro a H; obtain ⟨rfl, hE29⟩ := hv
  replace hS := hS.ext hE29
  refine n_q H (q_assign rfl) rfl ?_; clear H a; intro a H
  refine n_nil (then_normal (wp_ret ?_))
  obtain rfl := Option.some.inj hm
  replace hS := hS.tk0
  refine ret1 H (.inr rfl) rfl rfl ?_
  exact ⟨rfl, hS.x⟩
theorem g_frame_checkWindows_w {w : World} {A : Nat → Addr} {cs0 : List Value} {a0 : GConfig} (hG : EV A w) (h0 : RGConfig w cs0 a0) {r : ErrM} (hm : g_frame_checkWindows a0 = some r) :
    Calls Tryz.prog 78 [.agg cs0.toArray].toArray w (Ret fun u w' => ∃ h_0, u = h_0 ∧ St NB w w' [erQ A h_0 r]) := by
  obtain ⟨vp0_0, vp0_1, vp0_2, vp0_3, rfl, hrp0_0, hrp0_1, hrp0_2, hrp0_3⟩ := h0
  have hS := St.begin NB w
  unfold g_frame_checkWindows at hm
  refine enter Tryz.func78 rfl rfl rfl ?_; intro a H; dsimp only [enumL, Nat.zero_add, Nat.reduceAdd] at H
  refine wp_seq (wp_region_lit (n_box H rfl (cs := [.int .i64 a0.Ticks, vp0_0, vp0_1, vp0_2, vp0_3, .int .i64 a0.Tries]) rfl rfl ?_))
  clear H; intro b21 w22 hN hE23 hs; clear a; intro a H
  replace hS := hS.newBlk hN hE23 hs; clear hN hs
  refine n_q H (q_assign rfl) rfl ?_; clear H a; intro a H
  refine n_nil (then_normal (wp_seq (wp_seq (wp_region_lit (n_q H (q_fieldAddr0 rfl fo49_3) rfl (W_q (q_load rfl ((hS.blk 0 rfl).ld ag46 rfl)) rfl ?_)))))); clear H a; intro a H
  obtain ⟨A24, c24, hv24, hl24, hm24⟩ := SlR.formV (hrp0_2.ext (Flat.mono _) hS.x)
  refine n_q H (q_lenV Tryz.underlying46 rfl hv24) rfl (W_q (q_gtrN (i := a0.Windows.length) (j := 32) rfl rfl) rfl ?_); clear H a; intro a H
  refine n_nil (then_normal (c_cond H rfl (fun hc25 => ?_) (fun hc25 => ?_)))
  · replace hm := condT hm hc25
    refine wp_seq (wp_region_lit (n_q H (q_load rfl ((hG.ext hS.x).ld gSize (by decide) ag41)) rfl (W_q (q_assign rfl) rfl ?_))); clear H a; intro a H
    refine n_nil (then_normal (wp_ret (then_ret ?_)))
    obtain rfl := Option.some.inj hm
    replace hS := hS.dVar (A := A) (g := gSize) (by decide)
    replace hS := hS.tk1
    refine ret1 H (.inr rfl) rfl rfl ?_
    exact ⟨_, rfl, hS⟩
  · replace hm := condF hm hc25
    refine wp_skip (then_normal (wp_seq (wp_region_lit (n_q H (q_assign rfl) rfl ?_)))); clear H a; intro a H
    refine n_nil (then_normal (wp_seq (wp_seq (wp_region_lit (n_q H (q_fieldAddr0 rfl fo49_3) rfl (W_q (q_load rfl ((hS.blk 0 rfl).ld ag46 rfl)) rfl (W_q (q_lenV Tryz.underlying46 rfl hv24) rfl (W_q (q_move rfl) rfl ?_)))))))); clear H a; intro a H
    refine n_nil (then_normal (wp_block ?_))
    replace hm := bindS hm; obtain ⟨q27, hm, hm27⟩ := hm; replace hm := iter_some hm; obtain ⟨n27, hm⟩ := hm
    refine c_loop (σ := Nat × Int × Nat) (fun (m, z30, i29) => [(1, .pointer (some ⟨b21, 0, none⟩)), (3, .int .i64 z30), (13, vp0_2), (14, .int .i64 ((a0.Windows.length : Nat) : Int)), (15, .int .i64 ((i29 : Nat) : Int))]) (fun (m, z30, i29) wl => iterN (g_frame_checkWindows_L2 a0) m (z30, i29) = some q27 ∧ St NB w wl [blkR b21 [.int .i64 a0.Ticks, vp0_0, vp0_1, vp0_2, vp0_3, .int .i64 a0.Tries] 49]) (fun (m, z30, i29) => m) (n27, 0, 0) H ⟨rfl, rfl, rfl, rfl, rfl, trivial⟩ ⟨hm, hS⟩ ?_
    clear H hS hm a; intro xx a w31 H hR; obtain ⟨m, z30, i29⟩ := xx; simp only [ent, List.map_cons, List.map_nil] at H; (try dsimp only at hR); obtain ⟨hm, hS⟩ := hR
    replace hm := iterN_step hm; obtain ⟨m27, o27, rfl, hm, hn27⟩ := hm; try dsimp only [g_frame_checkWindows_L2] at hm
    refine wp_seq (wp_region_lit (n_q H (q_lssN (i := i29) (j := a0.Windows.length) rfl rfl) rfl ?_)); clear H a; intro a H
    refine n_nil (then_normal (wp_seq (c_cond H rfl (fun hc32 => ?_) (fun hc32 => ?_))))
    · replace hm := condT hm hc32
      have hlt33 : i29 < a0.Windows.length := of_decide_eq_true hc32
      refine wp_skip (then_normal (wp_seq (wp_block (wp_seq (wp_region_lit (n_q H (q_move rfl) rfl ?_)))))); clear H a; intro a H
      replace hm := bindS hm; obtain ⟨x34, hx34, hm⟩ := hm
      obtain ⟨adx34, hAx34⟩ := SlR.adV (hrp0_2.ext (Flat.mono _) hS.x) hv24 hx34
      refine n_q H (q_ixV (i := i29) Tryz.underlying46 sz61 rfl hv24 hAx34 rfl (natI hx34)) rfl (W_q (q_load rfl (SlR.ldAggV (hrp0_2.ext (Flat.mono _) hS.x) hv24 hAx34 ag61 sz61 hx34)) rfl ?_); clear H a; intro a H
      refine n_alloc H ze61 rfl ?_
      clear H; intro b35 w36 hN hE37 hs; clear a; intro a H
      replace hS := hS.newBlk hN hE37 hs; clear hN hs
      refine n_q H (q_assign rfl) rfl ?_; clear H a; intro a H
      refine n_storeAll H rfl rfl (vs := [.int .i64 x34.Part, .int .i64 x34.Start, .int .i64 x34.Len]) rfl sz61 (hS.blk 0 rfl) rfl (by simp) ?_
      clear H; intro w38 hN hC39 hz; clear a; intro a H; replace hS := hS.setBlk hN hC39; clear hN hz
      refine n_nil (then_normal (wp_seq (wp_block (wp_seq (wp_region_lit (n_q H (q_load rfl ((hS.blk 1 rfl).ldAll ag49 sz49)) rfl (W_q (q_fieldAddr0 rfl fo61_0) rfl (W_q (q_load rfl ((hS.blk 0 rfl).ld ag3 rfl)) rfl ?_)))))))); clear H a; intro a H
      replace hm := bindS hm; obtain ⟨r40, hr40, hm⟩ := hm
      refine n_call H rfl en85 (g_frame_owner_w (A := A) (⟨_, _, _, _, rfl, (hrp0_0.ext RGPlan.mono hS.x), (hrp0_1.ext (Flat.mono _) hS.x), (hrp0_2.ext (Flat.mono _) hS.x), (hrp0_3.ext (Flat.mono _) hS.x)⟩ : RGConfig _ [.int .i64 a0.Ticks, vp0_0, vp0_1, vp0_2, vp0_3, .int .i64 a0.Tries] a0) hr40) rfl ?_
      clear H; intro x43 w41 hv; clear a; intro a H; obtain ⟨rfl, hE42⟩ := hv
      replace hS := hS.ext hE42
      refine n_q H (q_not rfl) rfl (W_q (q_assign rfl) rfl ?_); clear H a; intro a H
      refine n_nil (then_normal (c_cond H rfl (fun hc44 => ?_) (fun hc44 => ?_)))
      · replace hm := condT hm hc44
        refine wp_seq (wp_region_lit (n_q H (q_move rfl) rfl (W_q (q_load rfl ((hG.ext hS.x).ld gArg (by decide) ag41)) rfl ?_))); clear H a; intro a H
        replace hm := bindS hm; obtain ⟨r45, hr45, hm⟩ := hm
        refine n_call H rfl en143 (g_frame_at_w (A := A) (IsErr.var (by decide) : IsE A w41 _ (.v gArg)) hr45) rfl ?_
        clear H; intro u46 w48 hv; clear a; intro a H; obtain ⟨_, rfl, hE49⟩ := hv
        replace hS := hS.new hE49; simp only [List.cons_append, List.nil_append] at hS
        refine n_q H (q_assign rfl) rfl ?_; clear H a; intro a H
        refine n_nil (then_normal (wp_ret (block_ret (then_ret (block_ret (then_ret (then_ret (block_ret (then_ret ?_)))))))))
        obtain rfl := Option.some.inj hm; have hz : _ = q27 := hn27; subst hz; replace hm := hm27; try dsimp only at hm
        obtain rfl := Option.some.inj hm
        replace hS := hS.tk1
        refine ret1 H (.inr rfl) rfl rfl ?_
        exact ⟨_, rfl, hS⟩
      · replace hm := condF hm hc44
        refine wp_seq (wp_region_lit (n_c H (fun HC => ?_))); clear H
        refine nc_q HC (q_fieldAddr0 rfl fo61_1) rfl (by kernel_rfl) (V_q (q_load rfl ((hS.blk 0 rfl).ld ag3 rfl)) rfl (by kernel_rfl) (V_q (q_lss rfl rfl) rfl (by kernel_rfl) (V_q (q_move rfl) rfl (by kernel_rfl) (V_g (q_fieldAddr0 rfl fo61_2) (by kernel_rfl) (by kernel_rfl) (by kernel_rfl) (V_g (q_load rfl ((hS.blk 0 rfl).ld ag3 rfl)) (by kernel_rfl) (by kernel_rfl) (by kernel_rfl) (V_g (q_lss rfl rfl) (by kernel_rfl) (by kernel_rfl) (by kernel_rfl) (V_or (j := 3) rfl rfl rfl (by kernel_rfl) (by kernel_rfl) (V_q (q_move rfl) rfl (by kernel_rfl) (V_g (q_fieldAddr0 rfl fo61_1) (by kernel_rfl) (by kernel_rfl) (by kernel_rfl) (V_g (q_load rfl ((hS.blk 0 rfl).ld ag3 rfl)) (by kernel_rfl) (by kernel_rfl) (by kernel_rfl) (V_g (q_fieldAddr0 rfl fo49_0) (by kernel_rfl) (by kernel_rfl) (by kernel_rfl) ?_))))))))))); clear HC a; intro a HC
        refine nc_g HC (q_load rfl ((hS.blk 1 rfl).ld ag3 rfl)) (by kernel_rfl) (by kernel_rfl) (by kernel_rfl) (V_g (q_geq rfl rfl) (by kernel_rfl) (by kernel_rfl) (by kernel_rfl) (V_or (j := 8) rfl rfl rfl (by kernel_rfl) (by kernel_rfl) (V_q (q_move rfl) rfl (by kernel_rfl) (V_g (q_fieldAddr0 rfl fo61_2) (by kernel_rfl) (by kernel_rfl) (by kernel_rfl) (V_g (q_load rfl ((hS.blk 0 rfl).ld ag3 rfl)) (by kernel_rfl) (by kernel_rfl) (by kernel_rfl) (V_g (q_fieldAddr0 rfl fo49_0) (by kernel_rfl) (by kernel_rfl) (by kernel_rfl) (V_g (q_load rfl ((hS.blk 1 rfl).ld ag3 rfl)) (by kernel_rfl) (by kernel_rfl) (by kernel_rfl) (V_g (q_fieldAddr0 rfl fo61_1) (by kernel_rfl) (by kernel_rfl) (by kernel_rfl) (V_g (q_load rfl ((hS.blk 0 rfl).ld ag3 rfl)) (by kernel_rfl) (by kernel_rfl) (by kernel_rfl) (V_g (q_subW rfl rfl) (by kernel_rfl) (by kernel_rfl) (by kernel_rfl) (V_g (q_gtr rfl rfl) (by kernel_rfl) (by kernel_rfl) (by kernel_rfl) ?_))))))))))); clear HC a; intro a HC
        refine nc_or (j := 15) HC rfl rfl rfl (by kernel_rfl) (by kernel_rfl) (V_q (q_assign rfl) rfl (by kernel_rfl) ?_); clear HC a; intro a HC
        have H := HC.has; clear HC
        refine n_nil (then_normal (c_cond H rfl (fun hc51 => ?_) (fun hc51 => ?_)))
        · replace hm := condT hm hc51
          refine wp_seq (wp_region_lit (n_q H (q_move rfl) rfl (W_q (q_load rfl ((hG.ext hS.x).ld gRange (by decide) ag41)) rfl ?_))); clear H a; intro a H
          replace hm := bindS hm; obtain ⟨r52, hr52, hm⟩ := hm
          refine n_call H rfl en143 (g_frame_at_w (A := A) (IsErr.var (by decide) : IsE A w41 _ (.v gRange)) hr52) rfl ?_
          clear H; intro u53 w55 hv; clear a; intro a H; obtain ⟨_, rfl, hE56⟩ := hv
          replace hS := hS.new hE56; simp only [List.cons_append, List.nil_append] at hS
          refine n_q H (q_assign rfl) rfl ?_; clear H a; intro a H
          refine n_nil (then_normal (wp_ret (block_ret (then_ret (block_ret (then_ret (then_ret (block_ret (then_ret ?_)))))))))
          obtain rfl := Option.some.inj hm; have hz : _ = q27 := hn27; subst hz; replace hm := hm27; try dsimp only at hm
          obtain rfl := Option.some.inj hm
          replace hS := hS.tk1
          refine ret1 H (.inr rfl) rfl rfl ?_
          exact ⟨_, rfl, hS⟩
        · replace hm := condF hm hc51
          refine wp_seq (wp_region_lit (n_q H (q_fieldAddr0 rfl fo61_1) rfl (W_q (q_load rfl ((hS.blk 0 rfl).ld ag3 rfl)) rfl (W_q (q_move rfl) rfl (W_q (q_lss rfl rfl) rfl (W_q (q_assign rfl) rfl ?_)))))); clear H a; intro a H
          refine n_nil (then_normal (c_cond H rfl (fun hc58 => ?_) (fun hc58 => ?_)))
          · replace hm := condT hm hc58
            refine wp_seq (wp_region_lit (n_q H (q_move rfl) rfl (W_q (q_load rfl ((hG.ext hS.x).ld gBusy (by decide) ag41)) rfl ?_))); clear H a; intro a H
            replace hm := bindS hm; obtain ⟨r59, hr59, hm⟩ := hm
            refine n_call H rfl en143 (g_frame_at_w (A := A) (IsErr.var (by decide) : IsE A w41 _ (.v gBusy)) hr59) rfl ?_
            clear H; intro u60 w62 hv; clear a; intro a H; obtain ⟨_, rfl, hE63⟩ := hv
            replace hS := hS.new hE63; simp only [List.cons_append, List.nil_append] at hS
            refine n_q H (q_assign rfl) rfl ?_; clear H a; intro a H
            refine n_nil (then_normal (wp_ret (block_ret (then_ret (block_ret (then_ret (then_ret (block_ret (then_ret ?_)))))))))
            obtain rfl := Option.some.inj hm; have hz : _ = q27 := hn27; subst hz; replace hm := hm27; try dsimp only at hm
            obtain rfl := Option.some.inj hm
            replace hS := hS.tk1
            refine ret1 H (.inr rfl) rfl rfl ?_
            exact ⟨_, rfl, hS⟩
          · replace hm := condF hm hc58
            refine wp_skip (block_normal (then_normal (wp_region_lit (n_q H (q_fieldAddr0 rfl fo61_1) rfl (W_q (q_load rfl ((hS.blk 0 rfl).ld ag3 rfl)) rfl (W_q (q_fieldAddr0 rfl fo61_2) rfl (W_q (q_load rfl ((hS.blk 0 rfl).ld ag3 rfl)) rfl (W_q (q_addW rfl rfl) rfl (W_q (q_assign rfl) rfl ?_))))))))); clear H a; intro a H
            refine n_nil (block_normal (then_normal (wp_region_lit (n_q H (q_incr (i := i29) (j := 1) rfl rfl (by omega)) rfl (W_q (q_move rfl) rfl ?_))))); clear H a; intro a H
            refine n_nil (then_normal ?_)
            obtain rfl := Option.some.inj hm
            replace hS := hS.pk1
            replace hS := hS.tk1
            exact round (m27, (IntKind.i64.wrap (x34.Start + x34.Len)), i29 + 1) H ⟨rfl, rfl, rfl, rfl, rfl, trivial⟩ ⟨hn27, hS⟩ (Nat.lt_succ_self _)
    · replace hm := condF hm hc32
      refine wp_exit (then_exit (then_exit (block_exit ?_)))
      obtain rfl := Option.some.inj hm; have hz : _ = q27 := hn27; subst hz; replace hm := hm27; try dsimp only at hm
      refine then_normal (wp_seq (wp_seq (wp_region_lit (n_q H (q_fieldAddr0 rfl fo49_1) rfl (W_q (q_load rfl ((hS.blk 0 rfl).ld ag45 rfl)) rfl ?_))))); clear H a; intro a H
      obtain ⟨A65, c65, hv65, hl65, hm65⟩ := SlR.formV (hrp0_0.ext RGPlan.mono hS.x)
      refine n_q H (q_lenV Tryz.underlying45 rfl hv65) rfl (W_q (q_move rfl) rfl ?_); clear H a; intro a H
      refine n_nil (then_normal (wp_block ?_))
      replace hm := bindS hm; obtain ⟨q66, hm, hm66⟩ := hm; replace hm := iter_some hm; obtain ⟨n66, hm⟩ := hm
      refine c_loop (σ := Nat × Nat) (fun (m, i67) => [(1, .pointer (some ⟨b21, 0, none⟩)), (74, .int .i64 ((a0.Parts.length : Nat) : Int)), (75, .int .i64 ((i67 : Nat) : Int))]) (fun (m, i67) wl => iterN (g_frame_checkWindows_L1 a0) m i67 = some q66 ∧ St NB w wl [blkR b21 [.int .i64 a0.Ticks, vp0_0, vp0_1, vp0_2, vp0_3, .int .i64 a0.Tries] 49]) (fun (m, i67) => m) (n66, 0) H ⟨rfl, rfl, rfl, trivial⟩ ⟨hm, hS⟩ ?_
      clear H hS hm a; intro xx a w68 H hR; obtain ⟨m, i67⟩ := xx; simp only [ent, List.map_cons, List.map_nil] at H; (try dsimp only at hR); obtain ⟨hm, hS⟩ := hR
      replace hm := iterN_step hm; obtain ⟨m66, o66, rfl, hm, hn66⟩ := hm; try dsimp only [g_frame_checkWindows_L1] at hm
      refine wp_seq (wp_region_lit (n_q H (q_lssN (i := i67) (j := a0.Parts.length) rfl rfl) rfl ?_)); clear H a; intro a H
      refine n_nil (then_normal (wp_seq (c_cond H rfl (fun hc69 => ?_) (fun hc69 => ?_))))
      · replace hm := condT hm hc69
        have hlt70 : i67 < a0.Parts.length := of_decide_eq_true hc69
        refine wp_skip (then_normal (wp_seq (wp_block (wp_seq (wp_region_lit (n_q H (q_move rfl) rfl (W_q (q_assign rfl) rfl ?_))))))); clear H a; intro a H
        refine n_nil (then_normal (wp_seq (wp_region_lit (n_q H (q_load rfl ((hS.blk 0 rfl).ldAll ag49 sz49)) rfl (W_q (q_move rfl) rfl ?_))))); clear H a; intro a H
        replace hm := bindS hm; obtain ⟨r71, hr71, hm⟩ := hm
        refine n_call H rfl en144 (g_frame_has_w (A := A) (⟨_, _, _, _, rfl, (hrp0_0.ext RGPlan.mono hS.x), (hrp0_1.ext (Flat.mono _) hS.x), (hrp0_2.ext (Flat.mono _) hS.x), (hrp0_3.ext (Flat.mono _) hS.x)⟩ : RGConfig _ [.int .i64 a0.Ticks, vp0_0, vp0_1, vp0_2, vp0_3, .int .i64 a0.Tries] a0) hr71) rfl ?_
        clear H; intro x74 w72 hv; clear a; intro a H; obtain ⟨rfl, hE73⟩ := hv
        replace hS := hS.ext hE73
        refine n_q H (q_not rfl) rfl ?_; clear H a; intro a H
        refine n_nil (then_normal (c_cond H rfl (fun hc75 => ?_) (fun hc75 => ?_)))
        · replace hm := condT hm hc75
          refine wp_seq (wp_region_lit (n_q H (q_move rfl) rfl (W_q (q_load rfl ((hG.ext hS.x).ld gNone (by decide) ag41)) rfl ?_))); clear H a; intro a H
          replace hm := bindS hm; obtain ⟨r76, hr76, hm⟩ := hm
          refine n_call H rfl en143 (g_frame_at_w (A := A) (IsErr.var (by decide) : IsE A w72 _ (.v gNone)) hr76) rfl ?_
          clear H; intro u77 w79 hv; clear a; intro a H; obtain ⟨_, rfl, hE80⟩ := hv
          replace hS := hS.new hE80; simp only [List.cons_append, List.nil_append] at hS
          refine n_q H (q_assign rfl) rfl ?_; clear H a; intro a H
          refine n_nil (then_normal (wp_ret (block_ret (then_ret (then_ret (block_ret (then_ret ?_)))))))
          obtain rfl := Option.some.inj hm; have hz : _ = q66 := hn66; subst hz; replace hm := hm66; try dsimp only at hm
          obtain rfl := Option.some.inj hm
          replace hS := hS.tk1
          refine ret1 H (.inr rfl) rfl rfl ?_
          exact ⟨_, rfl, hS⟩
        · replace hm := condF hm hc75
          refine wp_skip (block_normal (then_normal (wp_region_lit (n_q H (q_incr (i := i67) (j := 1) rfl rfl (by omega)) rfl (W_q (q_move rfl) rfl ?_))))); clear H a; intro a H
          refine n_nil (then_normal ?_)
          obtain rfl := Option.some.inj hm
          exact round (m66, i67 + 1) H ⟨rfl, rfl, rfl, trivial⟩ ⟨hn66, hS⟩ (Nat.lt_succ_self _)
      · replace hm := condF hm hc69
        refine wp_exit (then_exit (then_exit (block_exit ?_)))
        obtain rfl := Option.some.inj hm; have hz : _ = q66 := hn66; subst hz; replace hm := hm66; try dsimp only at hm
        refine then_normal (wp_seq (wp_region_lit (n_q H (q_assign rfl) rfl ?_))); clear H a; intro a H
        refine n_nil (then_normal (wp_ret ?_))
        obtain rfl := Option.some.inj hm
        replace hS := hS.dNil (A := A)
        replace hS := hS.tk1
        refine ret1 H (.inr rfl) rfl rfl ?_
        exact ⟨_, rfl, hS⟩
theorem g_frame_isPort_w {w : World} {A : Nat → Addr} {cs0 : List Value} {a0 : GPlan} {a1 : Int} {a2 : Int} {a3 : Int} (h0 : RGPlan w cs0 a0) {r : Bool} (hm : g_frame_isPort a0 a1 a2 a3 = some r) :
    Calls Tryz.prog 145 [.agg cs0.toArray, .int .i64 a1, .int .i64 a2, .int .i64 a3].toArray w (Ret fun u w' => u = .bool r ∧ Ext w w') := by
  obtain ⟨vp0_0, vp0_1, vp0_2, vp0_3, rfl, hrp0_0, hrp0_1, hrp0_2, hrp0_3⟩ := h0
  have hS := St.begin NB w
  unfold g_frame_isPort at hm
  refine enter Tryz.func145 rfl rfl rfl ?_; intro a H; dsimp only [enumL, Nat.zero_add, Nat.reduceAdd] at H
  refine wp_seq (wp_region_lit (n_box H rfl (cs := [.int .i64 a0.Id, .bool a0.Mobile, vp0_0, vp0_1, vp0_2, .int .i64 a0.Events, vp0_3]) rfl rfl ?_))
  clear H; intro b21 w22 hN hE23 hs; clear a; intro a H
  replace hS := hS.newBlk hN hE23 hs; clear hN hs
  refine n_q H (q_assign rfl) rfl ?_; clear H a; intro a H
  refine n_nil (then_normal (wp_seq (wp_region_lit (n_q H (q_move rfl) rfl (W_q (q_geq rfl rfl) rfl (W_q (q_move rfl) rfl ?_)))))); clear H a; intro a H
  rcases Bool.eq_false_or_eq_true (decide (0 ≤ a1)) with hg24 | hg24
  · replace H := H.know 11 rfl hg24
    replace hm := condT hm hg24
    refine n_yes H rfl rfl (n_q H (q_move rfl) rfl (W_yes rfl rfl (W_q (q_fieldAddr0 rfl fo27_4) rfl (W_yes rfl rfl (W_q (q_load rfl ((hS.blk 0 rfl).ld ag24 rfl)) rfl (W_yes rfl rfl ?_)))))); clear H a; intro a H
    obtain ⟨A25, c25, hv25, hl25, hm25⟩ := SlR.formV (hrp0_2.ext (Flat.mono _) hS.x)
    refine n_q H (q_lenV Tryz.underlying24 rfl hv25) rfl (W_yes rfl rfl (W_q (q_lss rfl rfl) rfl (W_q (q_pickT rfl rfl) rfl (W_q (q_move rfl) rfl ?_)))); clear H a; intro a H
    rcases Bool.eq_false_or_eq_true (decide (a1 < ((a0.Ports.length : Nat) : Int))) with hg26 | hg26
    · replace H := H.know 18 rfl hg26
      replace hm := condT hm hg26
      refine n_yes H rfl rfl (n_q H (q_fieldAddr0 rfl fo27_4) rfl (W_yes rfl rfl (W_q (q_load rfl ((hS.blk 0 rfl).ld ag24 rfl)) rfl (W_yes rfl rfl (W_q (q_move rfl) rfl (W_yes rfl rfl ?_)))))); clear H a; intro a H
      replace hm := bindS hm; obtain ⟨x27, hx27, hm⟩ := hm
      obtain ⟨h0x27, h1x27, hxx27⟩ := rdI_some hx27
      obtain ⟨adx27, hAx27⟩ := SlR.adV (hrp0_2.ext (Flat.mono _) hS.x) hv25 hxx27
      refine n_q H (q_ixVI Tryz.underlying24 sz171 rfl hv25 hAx27 rfl h0x27 h1x27) rfl (W_yes rfl rfl (W_q (q_fieldAddr rfl fo171_0) rfl (W_yes rfl rfl (W_q (q_load rfl (SlR.ldCellV (j := 0) (hrp0_2.ext (Flat.mono _) hS.x) hv25 hAx27 ag3 hxx27 rfl)) rfl (W_yes rfl rfl (W_q (q_move rfl) rfl (W_yes rfl rfl (W_q (q_eqlD rfl rfl) rfl (W_yes rfl rfl (W_q (q_move rfl) rfl ?_)))))))))); clear H a; intro a H
      rcases Bool.eq_false_or_eq_true (decide (x27.Kind = a2)) with hg28 | hg28
      · replace H := H.know 27 rfl hg28
        replace hm := condT hm hg28
        refine n_no H rfl rfl (by decide) rfl (W_no rfl rfl (by decide) rfl (W_no rfl rfl (by decide) rfl (W_no rfl rfl (by decide) rfl (W_no rfl rfl (by decide) rfl (W_no rfl rfl (by decide) rfl (W_no rfl rfl (by decide) rfl (W_no rfl rfl (by decide) rfl (W_yes rfl rfl (W_q (q_pickT rfl rfl) rfl (W_q (q_pickT rfl rfl) rfl (W_q (q_assign rfl) rfl ?_))))))))))); clear H a; intro a H
        refine n_nil (then_normal (wp_ret ?_))
        obtain rfl := Option.some.inj hm
        replace hS := hS.tk0
        refine ret1 H (.inr rfl) rfl rfl ?_
        exact ⟨rfl, hS.x⟩
      · replace H := H.know 27 rfl hg28
        replace hm := condF hm hg28
        refine n_yes H rfl rfl (n_q H (q_fieldAddr0 rfl fo27_4) rfl (W_yes rfl rfl (W_q (q_load rfl ((hS.blk 0 rfl).ld ag24 rfl)) rfl (W_yes rfl rfl (W_q (q_move rfl) rfl (W_yes rfl rfl ?_)))))); clear H a; intro a H
        replace hm := bindS hm; obtain ⟨x29, hx29, hm⟩ := hm
        obtain ⟨h0x29, h1x29, hxx29⟩ := rdI_some hx29
        obtain ⟨adx29, hAx29⟩ := SlR.adV (hrp0_2.ext (Flat.mono _) hS.x) hv25 hxx29
        refine n_q H (q_ixVI Tryz.underlying24 sz171 rfl hv25 hAx29 rfl h0x29 h1x29) rfl (W_yes rfl rfl (W_q (q_fieldAddr rfl fo171_0) rfl (W_yes rfl rfl (W_q (q_load rfl (SlR.ldCellV (j := 0) (hrp0_2.ext (Flat.mono _) hS.x) hv25 hAx29 ag3 hxx29 rfl)) rfl (W_yes rfl rfl (W_q (q_move rfl) rfl (W_yes rfl rfl (W_q (q_eqlD rfl rfl) rfl (W_yes rfl rfl (W_q (q_pickF rfl rfl) rfl (W_q (q_pickT rfl rfl) rfl ?_))))))))))); clear H a; intro a H
        refine n_q H (q_assign rfl) rfl ?_; clear H a; intro a H
        refine n_nil (then_normal (wp_ret ?_))
        obtain rfl := Option.some.inj hm
        replace hS := hS.tk0
        refine ret1 H (.inr rfl) rfl rfl ?_
        exact ⟨rfl, hS.x⟩
    · replace H := H.know 18 rfl hg26
      replace hm := condF hm hg26
      refine n_no H rfl rfl (by decide) rfl (W_no rfl rfl (by decide) rfl (W_no rfl rfl (by decide) rfl (W_no rfl rfl (by decide) rfl (W_no rfl rfl (by decide) rfl (W_no rfl rfl (by decide) rfl (W_no rfl rfl (by decide) rfl (W_no rfl rfl (by decide) rfl (W_no rfl rfl (by decide) rfl (W_noU rfl rfl rfl (W_noU rfl rfl rfl (W_noU rfl rfl rfl ?_))))))))))); clear H a; intro a H
      refine n_noU H rfl rfl rfl (W_noU rfl rfl rfl (W_noU rfl rfl rfl (W_noU rfl rfl rfl (W_noU rfl rfl rfl (W_no rfl rfl (by decide) rfl (W_q (q_pickF rfl rfl) rfl (W_q (q_assign rfl) rfl ?_))))))); clear H a; intro a H
      refine n_nil (then_normal (wp_ret ?_))
      obtain rfl := Option.some.inj hm
      replace hS := hS.tk0
      refine ret1 H (.inr rfl) rfl rfl ?_
      exact ⟨rfl, hS.x⟩
  · replace H := H.know 11 rfl hg24
    replace hm := condF hm hg24
    refine n_no H rfl rfl (by decide) rfl (W_no rfl rfl (by decide) rfl (W_no rfl rfl (by decide) rfl (W_no rfl rfl (by decide) rfl (W_no rfl rfl (by decide) rfl (W_q (q_pickF rfl rfl) rfl (W_q (q_move rfl) rfl (W_no rfl rfl (by decide) rfl (W_no rfl rfl (by decide) rfl (W_no rfl rfl (by decide) rfl (W_no rfl rfl (by decide) rfl (W_no rfl rfl (by decide) rfl ?_))))))))))); clear H a; intro a H
    refine n_no H rfl rfl (by decide) rfl (W_no rfl rfl (by decide) rfl (W_no rfl rfl (by decide) rfl (W_no rfl rfl (by decide) rfl (W_noU rfl rfl rfl (W_noU rfl rfl rfl (W_noU rfl rfl rfl (W_noU rfl rfl rfl (W_noU rfl rfl rfl (W_noU rfl rfl rfl (W_noU rfl rfl rfl (W_noU rfl rfl rfl ?_))))))))))); clear H a; intro a H
    refine n_no H rfl rfl (by decide) rfl (W_q (q_pickF rfl rfl) rfl (W_q (q_assign rfl) rfl ?_)); clear H a; intro a H
    refine n_nil (then_normal (wp_ret ?_))
    obtain rfl := Option.some.inj hm
    replace hS := hS.tk0
    refine ret1 H (.inr rfl) rfl rfl ?_
    exact ⟨rfl, hS.x⟩
theorem g_slices_IndexFunc_Plan_w {w : World} {A : Nat → Addr} {v0 : Value} {a0 : List GPlan} {g1 : Nat} {fs1 : List Value} {cp1 : List Value} {a1 : GPlan → Option Bool} (h0 : SlR w 7 RGPlan v0 a0) (he1 : entersB Tryz.prog g1 = true) (hf1 : ∀ w1, Ext w w1 → ∀ (ds0 : List Value) (x0 : GPlan) (r : Bool), RGPlan w1 ds0 x0 → a1 x0 = some r → Calls Tryz.prog g1 (fs1 ++ [Value.agg ds0.toArray] ++ cp1).toArray w1 (Ret fun u w' => u = .bool r ∧ Ext w1 w')) {r : Int} (hm : g_slices_IndexFunc_Plan a0 a1 = some r) :
    Calls Tryz.prog 196 [v0, .func (.func g1) fs1.toArray cp1.toArray].toArray w (Ret fun u w' => u = .int .i64 r ∧ Ext w w') := by
  have hS := St.begin NB w
  unfold g_slices_IndexFunc_Plan at hm
  refine enter Tryz.func196 rfl rfl rfl ?_; intro a H; dsimp only [enumL, Nat.zero_add, Nat.reduceAdd] at H
  refine wp_seq (wp_region_lit (n_q H (q_assign rfl) rfl ?_)); clear H a; intro a H
  refine n_nil (then_normal (wp_seq (wp_seq (wp_region_lit (n_q H (q_move rfl) rfl ?_))))); clear H a; intro a H
  obtain ⟨A21, c21, hv21, hl21, hm21⟩ := SlR.formV (h0.ext RGPlan.mono hS.x)
  refine n_q H (q_lenV Tryz.underlying45 rfl hv21) rfl (W_q (q_move rfl) rfl ?_); clear H a; intro a H
  refine n_nil (then_normal (wp_block ?_))
  replace hm := bindS hm; obtain ⟨q22, hm, hm22⟩ := hm; replace hm := iter_some hm; obtain ⟨n22, hm⟩ := hm
  refine c_loop (σ := Nat × Nat) (fun (m, i23) => [(0, v0), (1, .func (.func g1) fs1.toArray cp1.toArray), (7, .int .i64 ((a0.length : Nat) : Int)), (8, .int .i64 ((i23 : Nat) : Int))]) (fun (m, i23) wl => iterN (g_slices_IndexFunc_Plan_L1 a0 a1) m i23 = some q22 ∧ St NB w wl []) (fun (m, i23) => m) (n22, 0) H ⟨rfl, rfl, rfl, rfl, trivial⟩ ⟨hm, hS⟩ ?_
  clear H hS hm a; intro xx a w24 H hR; obtain ⟨m, i23⟩ := xx; simp only [ent, List.map_cons, List.map_nil] at H; (try dsimp only at hR); obtain ⟨hm, hS⟩ := hR
  replace hm := iterN_step hm; obtain ⟨m22, o22, rfl, hm, hn22⟩ := hm; try dsimp only [g_slices_IndexFunc_Plan_L1] at hm
  refine wp_seq (wp_region_lit (n_q H (q_lssN (i := i23) (j := a0.length) rfl rfl) rfl ?_)); clear H a; intro a H
  refine n_nil (then_normal (wp_seq (c_cond H rfl (fun hc25 => ?_) (fun hc25 => ?_))))
  · replace hm := condT hm hc25
    have hlt26 : i23 < a0.length := of_decide_eq_true hc25
    refine wp_skip (then_normal (wp_seq (wp_block (wp_seq (wp_region_lit (n_q H (q_move rfl) rfl (W_q (q_assign rfl) rfl ?_))))))); clear H a; intro a H
    refine n_nil (then_normal (wp_seq (wp_region_lit (n_q H (q_move rfl) rfl (W_q (q_move rfl) rfl (W_q (q_move rfl) rfl ?_)))))); clear H a; intro a H
    replace hm := bindS hm; obtain ⟨x27, hx27, hm⟩ := hm
    obtain ⟨adx27, hAx27⟩ := SlR.adV (h0.ext RGPlan.mono hS.x) hv21 hx27
    obtain ⟨csx27, hclx27, ⟨vx27_0, vx27_1, vx27_2, vx27_3, rfl, hrx27_0, hrx27_1, hrx27_2, hrx27_3⟩, hcx27⟩ := SlR.elV h0 hv21 hAx27 hx27
    refine n_q H (q_ixV (i := i23) Tryz.underlying45 sz27 rfl hv21 hAx27 rfl (natI hx27)) rfl (W_q (q_load rfl (LdX.ext (ldEl ag27 sz27 rfl hcx27) hS.x)) rfl ?_); clear H a; intro a H
    replace hm := bindS hm; obtain ⟨r28, hr28, hm⟩ := hm
    refine n_callv H rfl rfl he1 (hf1 _ hS.x [.int .i64 x27.Id, .bool x27.Mobile, vx27_0, vx27_1, vx27_2, .int .i64 x27.Events, vx27_3] x27 _ (⟨_, _, _, _, rfl, (hrx27_0.ext (Flat.mono _) hS.x), (hrx27_1.ext (Flat.mono _) hS.x), (hrx27_2.ext (Flat.mono _) hS.x), (hrx27_3.ext (Flat.mono _) hS.x)⟩ : RGPlan _ [.int .i64 x27.Id, .bool x27.Mobile, vx27_0, vx27_1, vx27_2, .int .i64 x27.Events, vx27_3] x27) hr28) rfl ?_
    clear H; intro x31 w29 hv; clear a; intro a H; obtain ⟨rfl, hE30⟩ := hv
    replace hS := hS.ext hE30
    refine n_nil (then_normal (c_cond H rfl (fun hc32 => ?_) (fun hc32 => ?_)))
    · replace hm := condT hm hc32
      refine wp_seq (wp_region_lit (n_q H (q_move rfl) rfl (W_q (q_assign rfl) rfl ?_))); clear H a; intro a H
      refine n_nil (then_normal (wp_ret (block_ret (then_ret (then_ret (block_ret (then_ret ?_)))))))
      obtain rfl := Option.some.inj hm; have hz : _ = q22 := hn22; subst hz; replace hm := hm22; try dsimp only at hm
      obtain rfl := Option.some.inj hm
      refine ret1 H (.inr rfl) rfl rfl ?_
      exact ⟨rfl, hS.x⟩
    · replace hm := condF hm hc32
      refine wp_skip (block_normal (then_normal (wp_region_lit (n_q H (q_incr (i := i23) (j := 1) rfl rfl (by omega)) rfl (W_q (q_move rfl) rfl ?_))))); clear H a; intro a H
      refine n_nil (then_normal ?_)
      obtain rfl := Option.some.inj hm
      exact round (m22, i23 + 1) H ⟨rfl, rfl, rfl, rfl, trivial⟩ ⟨hn22, hS⟩ (Nat.lt_succ_self _)
  · replace hm := condF hm hc25
    refine wp_exit (then_exit (then_exit (block_exit ?_)))
    obtain rfl := Option.some.inj hm; have hz : _ = q22 := hn22; subst hz; replace hm := hm22; try dsimp only at hm
    refine then_normal (wp_seq (wp_region_lit (n_q H (q_assign rfl) rfl ?_))); clear H a; intro a H
    refine n_nil (then_normal (wp_ret ?_))
    obtain rfl := Option.some.inj hm
    refine ret1 H (.inr rfl) rfl rfl ?_
    exact ⟨rfl, hS.x⟩
theorem g_slices_ContainsFunc_Plan_w {w : World} {A : Nat → Addr} {v0 : Value} {a0 : List GPlan} {g1 : Nat} {fs1 : List Value} {cp1 : List Value} {a1 : GPlan → Option Bool} (h0 : SlR w 7 RGPlan v0 a0) (he1 : entersB Tryz.prog g1 = true) (hf1 : ∀ w1, Ext w w1 → ∀ (ds0 : List Value) (x0 : GPlan) (r : Bool), RGPlan w1 ds0 x0 → a1 x0 = some r → Calls Tryz.prog g1 (fs1 ++ [Value.agg ds0.toArray] ++ cp1).toArray w1 (Ret fun u w' => u = .bool r ∧ Ext w1 w')) {r : Bool} (hm : g_slices_ContainsFunc_Plan a0 a1 = some r) :
    Calls Tryz.prog 146 [v0, .func (.func g1) fs1.toArray cp1.toArray].toArray w (Ret fun u w' => u = .bool r ∧ Ext w w') := by
  have hS := St.begin NB w
  unfold g_slices_ContainsFunc_Plan at hm
  refine enter Tryz.func146 rfl rfl rfl ?_; intro a H; dsimp only [enumL, Nat.zero_add, Nat.reduceAdd] at H
  refine wp_seq (wp_region_lit (n_q H (q_assign rfl) rfl ?_)); clear H a; intro a H
  refine n_nil (then_normal (wp_seq (wp_region_lit (n_q H (q_move rfl) rfl (W_q (q_move rfl) rfl ?_))))); clear H a; intro a H
  replace hm := bindS hm; obtain ⟨r21, hr21, hm⟩ := hm
  refine n_call H rfl en196 (g_slices_IndexFunc_Plan_w (A := A) (h0.ext RGPlan.mono hS.x) (g1 := g1) (fs1 := fs1) (cp1 := cp1) (a1 := a1) he1 (fun w1 e1 => hf1 w1 (Ext.trans' hS.x e1)) hr21) rfl ?_
  clear H; intro x24 w22 hv; clear a; intro a H; obtain ⟨rfl, hE23⟩ := hv
  replace hS := hS.ext hE23
  refine n_q H (q_geq rfl rfl) rfl (W_q (q_assign rfl) rfl ?_); clear H a; intro a H
  refine n_nil (then_normal (wp_ret ?_))
  obtain rfl := Option.some.inj hm
  refine ret1 H (.inr rfl) rfl rfl ?_
  exact ⟨rfl, hS.x⟩
theorem g_frame_checkLinks_1_w {w : World} {A : Nat → Addr} {cs0 : List Value} {a0 : GPlan} (h0 : RGPlan w cs0 a0) {r : Bool} (hm : g_frame_checkLinks_1 a0 = some r) :
    Calls Tryz.prog 147 [.agg cs0.toArray].toArray w (Ret fun u w' => u = .bool r ∧ Ext w w') := by
  obtain ⟨vp0_0, vp0_1, vp0_2, vp0_3, rfl, hrp0_0, hrp0_1, hrp0_2, hrp0_3⟩ := h0
  have hS := St.begin NB w
  unfold g_frame_checkLinks_1 at hm
  refine enter Tryz.func147 rfl rfl rfl ?_; intro a H; dsimp only [enumL, Nat.zero_add, Nat.reduceAdd] at H
  refine wp_seq (wp_region_lit (n_box H rfl (cs := [.int .i64 a0.Id, .bool a0.Mobile, vp0_0, vp0_1, vp0_2, .int .i64 a0.Events, vp0_3]) rfl rfl ?_))
  clear H; intro b21 w22 hN hE23 hs; clear a; intro a H
  replace hS := hS.newBlk hN hE23 hs; clear hN hs
  refine n_q H (q_assign rfl) rfl ?_; clear H a; intro a H
  refine n_nil (then_normal (wp_seq (wp_region_lit (n_q H (q_fieldAddr0 rfl fo27_1) rfl (W_q (q_load rfl ((hS.blk 0 rfl).ld ag4 rfl)) rfl (W_q (q_assign rfl) rfl ?_)))))); clear H a; intro a H
  refine n_nil (then_normal (wp_ret ?_))
  obtain rfl := Option.some.inj hm
  replace hS := hS.tk0
  refine ret1 H (.inr rfl) rfl rfl ?_
  exact ⟨rfl, hS.x⟩
theorem g_frame_checkLinks_w {w : World} {A : Nat → Addr} {cs0 : List Value} {a0 : GConfig} (hG : EV A w) (h0 : RGConfig w cs0 a0) {r : ErrM} (hm : g_frame_checkLinks a0 = some r) :
    Calls Tryz.prog 79 [.agg cs0.toArray].toArray w (Ret fun u w' => ∃ h_0, u = h_0 ∧ St NB w w' [erQ A h_0 r]) := by
  obtain ⟨vp0_0, vp0_1, vp0_2, vp0_3, rfl, hrp0_0, hrp0_1, hrp0_2, hrp0_3⟩ := h0
  have hS := St.begin NB w
  unfold g_frame_checkLinks at hm
  refine enter Tryz.func79 rfl rfl rfl ?_; intro a H; dsimp only [enumL, Nat.zero_add, Nat.reduceAdd] at H
  refine wp_seq (wp_region_lit (n_box H rfl (cs := [.int .i64 a0.Ticks, vp0_0, vp0_1, vp0_2, vp0_3, .int .i64 a0.Tries]) rfl rfl ?_))
  clear H; intro b21 w22 hN hE23 hs; clear a; intro a H
  replace hS := hS.newBlk hN hE23 hs; clear hN hs
  refine n_q H (q_assign rfl) rfl ?_; clear H a; intro a H
  refine n_nil (then_normal (wp_seq (wp_seq (wp_region_lit (n_q H (q_fieldAddr0 rfl fo49_4) rfl (W_q (q_load rfl ((hS.blk 0 rfl).ld ag47 rfl)) rfl ?_)))))); clear H a; intro a H
  obtain ⟨A24, c24, hv24, hl24, hm24⟩ := SlR.formV (hrp0_3.ext (Flat.mono _) hS.x)
  refine n_q H (q_lenV Tryz.underlying47 rfl hv24) rfl (W_q (q_gtrN (i := a0.Links.length) (j := 16) rfl rfl) rfl ?_); clear H a; intro a H
  refine n_nil (then_normal (c_cond H rfl (fun hc25 => ?_) (fun hc25 => ?_)))
  · replace hm := condT hm hc25
    refine wp_seq (wp_region_lit (n_q H (q_load rfl ((hG.ext hS.x).ld gSize (by decide) ag41)) rfl (W_q (q_assign rfl) rfl ?_))); clear H a; intro a H
    refine n_nil (then_normal (wp_ret (then_ret ?_)))
    obtain rfl := Option.some.inj hm
    replace hS := hS.dVar (A := A) (g := gSize) (by decide)
    replace hS := hS.tk1
    refine ret1 H (.inr rfl) rfl rfl ?_
    exact ⟨_, rfl, hS⟩
  · replace hm := condF hm hc25
    refine wp_skip (then_normal (wp_seq (wp_seq (wp_region_lit (n_q H (q_fieldAddr0 rfl fo49_4) rfl (W_q (q_load rfl ((hS.blk 0 rfl).ld ag47 rfl)) rfl (W_q (q_lenV Tryz.underlying47 rfl hv24) rfl (W_q (q_move rfl) rfl ?_)))))))); clear H a; intro a H
    refine n_nil (then_normal (wp_block ?_))
    replace hm := bindS hm; obtain ⟨q27, hm, hm27⟩ := hm; replace hm := iter_some hm; obtain ⟨n27, hm⟩ := hm
    refine c_loop (σ := Nat × Nat) (fun (m, i28) => [(1, .pointer (some ⟨b21, 0, none⟩)), (12, vp0_3), (13, .int .i64 ((a0.Links.length : Nat) : Int)), (14, .int .i64 ((i28 : Nat) : Int))]) (fun (m, i28) wl => iterN (g_frame_checkLinks_L20 a0) m i28 = some q27 ∧ St NB w wl [blkR b21 [.int .i64 a0.Ticks, vp0_0, vp0_1, vp0_2, vp0_3, .int .i64 a0.Tries] 49]) (fun (m, i28) => m) (n27, 0) H ⟨rfl, rfl, rfl, rfl, trivial⟩ ⟨hm, hS⟩ ?_
    clear H hS hm a; intro xx a w29 H hR; obtain ⟨m, i28⟩ := xx; simp only [ent, List.map_cons, List.map_nil] at H; (try dsimp only at hR); obtain ⟨hm, hS⟩ := hR
    replace hm := iterN_step hm; obtain ⟨m27, o27, rfl, hm, hn27⟩ := hm; try dsimp only [g_frame_checkLinks_L20] at hm
    refine wp_seq (wp_region_lit (n_q H (q_lssN (i := i28) (j := a0.Links.length) rfl rfl) rfl ?_)); clear H a; intro a H
    refine n_nil (then_normal (wp_seq (c_cond H rfl (fun hc30 => ?_) (fun hc30 => ?_))))
    · replace hm := condT hm hc30
      have hlt31 : i28 < a0.Links.length := of_decide_eq_true hc30
      refine wp_skip (then_normal (wp_seq (wp_block (wp_seq (wp_region_lit (n_q H (q_move rfl) rfl ?_)))))); clear H a; intro a H
      replace hm := bindS hm; obtain ⟨x32, hx32, hm⟩ := hm
      obtain ⟨adx32, hAx32⟩ := SlR.adV (hrp0_3.ext (Flat.mono _) hS.x) hv24 hx32
      refine n_q H (q_ixV (i := i28) Tryz.underlying47 sz63 rfl hv24 hAx32 rfl (natI hx32)) rfl (W_q (q_load rfl (SlR.ldAggV (hrp0_3.ext (Flat.mono _) hS.x) hv24 hAx32 ag63 sz63 hx32)) rfl ?_); clear H a; intro a H
      refine n_alloc H ze63 rfl ?_
      clear H; intro b33 w34 hN hE35 hs; clear a; intro a H
      replace hS := hS.newBlk hN hE35 hs; clear hN hs
      refine n_q H (q_assign rfl) rfl ?_; clear H a; intro a H
      refine n_storeAll H rfl rfl (vs := [.int .i64 x32.From, .int .i64 x32.Out, .int .i64 x32.To, .int .i64 x32.In]) rfl sz63 (hS.blk 0 rfl) rfl (by simp) ?_
      clear H; intro w36 hN hC37 hz; clear a; intro a H; replace hS := hS.setBlk hN hC37; clear hN hz
      refine n_nil (then_normal (wp_block ?_))
      replace hm := bindS hm; obtain ⟨j38, hm, hm38⟩ := hm
      refine c_join (σ := Bool) H (fun q539 => [(1, .pointer (some ⟨b21, 0, none⟩)), (3, .int .i64 ((i28 : Nat) : Int)), (4, .pointer (some ⟨b33, 0, none⟩)), (12, vp0_3), (13, .int .i64 ((a0.Links.length : Nat) : Int)), (14, .int .i64 ((i28 : Nat) : Int)), (19, .bool q539)]) (fun q539 wl => (g_frame_checkLinks_J18 a0 i28 x32) q539 = some o27 ∧ St NB w wl [blkR b21 [.int .i64 a0.Ticks, vp0_0, vp0_1, vp0_2, vp0_3, .int .i64 a0.Tries] 49, blkR b33 [.int .i64 x32.From, .int .i64 x32.Out, .int .i64 x32.To, .int .i64 x32.In] 63]) ?_ ?_
      · skip
        refine wp_region_lit (n_q H (q_load rfl ((hS.blk 1 rfl).ldAll ag49 sz49)) rfl (W_q (q_fieldAddr0 rfl fo63_0) rfl (W_q (q_load rfl ((hS.blk 0 rfl).ld ag3 rfl)) rfl ?_))); clear H a; intro a H
        replace hm := bindS hm; obtain ⟨r540, hr540, hm⟩ := hm
        refine n_call H rfl en139 (g_frame_there_w (A := A) (⟨_, _, _, _, rfl, (hrp0_0.ext RGPlan.mono hS.x), (hrp0_1.ext (Flat.mono _) hS.x), (hrp0_2.ext (Flat.mono _) hS.x), (hrp0_3.ext (Flat.mono _) hS.x)⟩ : RGConfig _ [.int .i64 a0.Ticks, vp0_0, vp0_1, vp0_2, vp0_3, .int .i64 a0.Tries] a0) hr540) rfl ?_
        clear H; intro x543 w541 hv; clear a; intro a H; obtain ⟨rfl, hE542⟩ := hv
        replace hS := hS.ext hE542
        refine n_q H (q_not rfl) rfl (W_q (q_move rfl) rfl ?_); clear H a; intro a H
        rcases Bool.eq_false_or_eq_true (!r540) with hg544 | hg544
        · replace H := H.know 25 rfl hg544
          replace hm := condT hm hg544
          refine n_no H rfl rfl (by decide) rfl (W_no rfl rfl (by decide) rfl (W_no rfl rfl (by decide) rfl (W_no rfl rfl (by decide) rfl (W_no rfl rfl (by decide) rfl (W_q (q_pickT rfl rfl) rfl (W_q (q_move rfl) rfl (W_no rfl rfl (by decide) rfl (W_no rfl rfl (by decide) rfl (W_no rfl rfl (by decide) rfl (W_no rfl rfl (by decide) rfl (W_no rfl rfl (by decide) rfl ?_))))))))))); clear H a; intro a H
          refine n_q H (q_pickT rfl rfl) rfl (W_q (q_assign rfl) rfl ?_); clear H a; intro a H
          refine n_nil (then_normal ?_)
          obtain rfl := Option.some.inj hm; replace hm := hm38; try dsimp only at hm
          replace hS := hS.pk1
          exact join true H ⟨rfl, rfl, rfl, rfl, rfl, rfl, rfl, trivial⟩ ⟨hm, hS⟩
        · replace H := H.know 25 rfl hg544
          replace hm := condF hm hg544
          refine n_yes H rfl rfl (n_q H (q_load rfl ((hS.blk 1 rfl).ldAll ag49 sz49)) rfl (W_yes rfl rfl (W_q (q_fieldAddr0 rfl fo63_2) rfl (W_yes rfl rfl (W_q (q_load rfl ((hS.blk 0 rfl).ld ag3 rfl)) rfl (W_yes rfl rfl ?_)))))); clear H a; intro a H
          replace hm := bindS hm; obtain ⟨r545, hr545, hm⟩ := hm
          refine n_call H rfl en139 (g_frame_there_w (A := A) (⟨_, _, _, _, rfl, (hrp0_0.ext RGPlan.mono hS.x), (hrp0_1.ext (Flat.mono _) hS.x), (hrp0_2.ext (Flat.mono _) hS.x), (hrp0_3.ext (Flat.mono _) hS.x)⟩ : RGConfig _ [.int .i64 a0.Ticks, vp0_0, vp0_1, vp0_2, vp0_3, .int .i64 a0.Tries] a0) hr545) rfl ?_
          clear H; intro x548 w546 hv; clear a; intro a H; obtain ⟨rfl, hE547⟩ := hv
          replace hS := hS.ext hE547
          refine n_yes H rfl rfl (n_q H (q_not rfl) rfl (W_q (q_pickF rfl rfl) rfl (W_q (q_move rfl) rfl ?_))); clear H a; intro a H
          rcases Bool.eq_false_or_eq_true (!r545) with hg549 | hg549
          · replace H := H.know 32 rfl hg549
            replace hm := condT hm hg549
            refine n_no H rfl rfl (by decide) rfl (W_no rfl rfl (by decide) rfl (W_no rfl rfl (by decide) rfl (W_no rfl rfl (by decide) rfl (W_no rfl rfl (by decide) rfl (W_q (q_pickT rfl rfl) rfl (W_q (q_assign rfl) rfl ?_)))))); clear H a; intro a H
            refine n_nil (then_normal ?_)
            obtain rfl := Option.some.inj hm; replace hm := hm38; try dsimp only at hm
            replace hS := hS.pk1
            exact join true H ⟨rfl, rfl, rfl, rfl, rfl, rfl, rfl, trivial⟩ ⟨hm, hS⟩
          · replace H := H.know 32 rfl hg549
            replace hm := condF hm hg549
            refine n_yes H rfl rfl (n_q H (q_fieldAddr0 rfl fo63_0) rfl (W_yes rfl rfl (W_q (q_load rfl ((hS.blk 0 rfl).ld ag3 rfl)) rfl (W_yes rfl rfl (W_q (q_fieldAddr0 rfl fo63_2) rfl (W_yes rfl rfl (W_q (q_load rfl ((hS.blk 0 rfl).ld ag3 rfl)) rfl (W_yes rfl rfl (W_q (q_eqlD rfl rfl) rfl (W_q (q_pickF rfl rfl) rfl (W_q (q_assign rfl) rfl ?_))))))))))); clear H a; intro a H
            refine n_nil (then_normal ?_)
            obtain rfl := Option.some.inj hm; replace hm := hm38; try dsimp only at hm
            replace hS := hS.pk1
            exact join (decide (x32.From = x32.To)) H ⟨rfl, rfl, rfl, rfl, rfl, rfl, rfl, trivial⟩ ⟨hm, hS⟩
      · clear H hS hm a; intro q539 a w550 H hR
        simp only [ent, List.map_cons, List.map_nil] at H; (try dsimp only at hR); obtain ⟨hm, hS⟩ := hR; try dsimp only [g_frame_checkLinks_J18] at hm
        refine c_cond H rfl (fun hc551 => ?_) (fun hc551 => ?_)
        · replace hm := condT hm hc551
          refine wp_seq (wp_region_lit (n_q H (q_move rfl) rfl (W_q (q_load rfl ((hG.ext hS.x).ld gArg (by decide) ag41)) rfl ?_))); clear H a; intro a H
          replace hm := bindS hm; obtain ⟨r552, hr552, hm⟩ := hm
          refine n_call H rfl en143 (g_frame_at_w (A := A) (IsErr.var (by decide) : IsE A w550 _ (.v gArg)) hr552) rfl ?_
          clear H; intro u553 w555 hv; clear a; intro a H; obtain ⟨_, rfl, hE556⟩ := hv
          replace hS := hS.new hE556; simp only [List.cons_append, List.nil_append] at hS
          refine n_q H (q_assign rfl) rfl ?_; clear H a; intro a H
          refine n_nil (then_normal (wp_ret (block_ret (block_ret (then_ret (then_ret (block_ret (then_ret ?_))))))))
          obtain rfl := Option.some.inj hm; have hz : _ = q27 := hn27; subst hz; replace hm := hm27; try dsimp only at hm
          obtain rfl := Option.some.inj hm
          replace hS := hS.tk1
          refine ret1 H (.inr rfl) rfl rfl ?_
          exact ⟨_, rfl, hS⟩
        · replace hm := condF hm hc551
          replace hm := bindS hm; obtain ⟨j558, hm, hm558⟩ := hm
          refine c_join (σ := Bool) H (fun q1059 => [(1, .pointer (some ⟨b21, 0, none⟩)), (3, .int .i64 ((i28 : Nat) : Int)), (4, .pointer (some ⟨b33, 0, none⟩)), (12, vp0_3), (13, .int .i64 ((a0.Links.length : Nat) : Int)), (14, .int .i64 ((i28 : Nat) : Int)), (42, .bool q1059)]) (fun q1059 wl => (g_frame_checkLinks_J17 a0 i28 x32) q1059 = some o27 ∧ St NB w wl [blkR b21 [.int .i64 a0.Ticks, vp0_0, vp0_1, vp0_2, vp0_3, .int .i64 a0.Tries] 49, blkR b33 [.int .i64 x32.From, .int .i64 x32.Out, .int .i64 x32.To, .int .i64 x32.In] 63]) ?_ ?_
          · skip
            refine wp_region_lit (n_q H (q_fieldAddr0 rfl fo49_1) rfl (W_q (q_load rfl ((hS.blk 0 rfl).ld ag45 rfl)) rfl (W_q (q_fieldAddr0 rfl fo63_0) rfl (W_q (q_load rfl ((hS.blk 1 rfl).ld ag3 rfl)) rfl ?_)))); clear H a; intro a H
            obtain ⟨A1060, c1060, hv1060, hl1060, hm1060⟩ := SlR.formV (hrp0_0.ext RGPlan.mono hS.x)
            replace hm := bindS hm; obtain ⟨x1061, hx1061, hm⟩ := hm
            obtain ⟨h0x1061, h1x1061, hxx1061⟩ := rdI_some hx1061
            obtain ⟨adx1061, hAx1061⟩ := SlR.adV (hrp0_0.ext RGPlan.mono hS.x) hv1060 hxx1061
            obtain ⟨csx1061, hclx1061, ⟨vx1061_0, vx1061_1, vx1061_2, vx1061_3, rfl, hrx1061_0, hrx1061_1, hrx1061_2, hrx1061_3⟩, hcx1061⟩ := SlR.elV hrp0_0 hv1060 hAx1061 hxx1061
            refine n_q H (q_ixVI Tryz.underlying45 sz27 rfl hv1060 hAx1061 rfl h0x1061 h1x1061) rfl (W_q (q_fieldAddr rfl fo27_1) rfl (W_q (q_load rfl (LdX.ext (ldElC (j := 1) ag4 hcx1061 rfl) hS.x)) rfl (W_q (q_move rfl) rfl ?_))); clear H a; intro a H
            rcases Bool.eq_false_or_eq_true x1061.Mobile with hg1062 | hg1062
            · replace H := H.know 50 rfl hg1062
              replace hm := condT hm hg1062
              refine n_no H rfl rfl (by decide) rfl (W_no rfl rfl (by decide) rfl (W_no rfl rfl (by decide) rfl (W_no rfl rfl (by decide) rfl (W_no rfl rfl (by decide) rfl (W_no rfl rfl (by decide) rfl (W_no rfl rfl (by decide) rfl (W_q (q_pickT rfl rfl) rfl (W_q (q_assign rfl) rfl ?_)))))))); clear H a; intro a H
              refine n_nil (then_normal ?_)
              obtain rfl := Option.some.inj hm; replace hm := hm558; try dsimp only at hm
              exact join true H ⟨rfl, rfl, rfl, rfl, rfl, rfl, rfl, trivial⟩ ⟨hm, hS⟩
            · replace H := H.know 50 rfl hg1062
              replace hm := condF hm hg1062
              refine n_yes H rfl rfl (n_q H (q_fieldAddr0 rfl fo49_1) rfl (W_yes rfl rfl (W_q (q_load rfl ((hS.blk 0 rfl).ld ag45 rfl)) rfl (W_yes rfl rfl (W_q (q_fieldAddr0 rfl fo63_2) rfl (W_yes rfl rfl (W_q (q_load rfl ((hS.blk 1 rfl).ld ag3 rfl)) rfl (W_yes rfl rfl ?_)))))))); clear H a; intro a H
              replace hm := bindS hm; obtain ⟨x1063, hx1063, hm⟩ := hm
              obtain ⟨h0x1063, h1x1063, hxx1063⟩ := rdI_some hx1063
              obtain ⟨adx1063, hAx1063⟩ := SlR.adV (hrp0_0.ext RGPlan.mono hS.x) hv1060 hxx1063
              obtain ⟨csx1063, hclx1063, ⟨vx1063_0, vx1063_1, vx1063_2, vx1063_3, rfl, hrx1063_0, hrx1063_1, hrx1063_2, hrx1063_3⟩, hcx1063⟩ := SlR.elV hrp0_0 hv1060 hAx1063 hxx1063
              refine n_q H (q_ixVI Tryz.underlying45 sz27 rfl hv1060 hAx1063 rfl h0x1063 h1x1063) rfl (W_yes rfl rfl (W_q (q_fieldAddr rfl fo27_1) rfl (W_yes rfl rfl (W_q (q_load rfl (LdX.ext (ldElC (j := 1) ag4 hcx1063 rfl) hS.x)) rfl (W_q (q_pickF rfl rfl) rfl (W_q (q_assign rfl) rfl ?_)))))); clear H a; intro a H
              refine n_nil (then_normal ?_)
              obtain rfl := Option.some.inj hm; replace hm := hm558; try dsimp only at hm
              exact join x1063.Mobile H ⟨rfl, rfl, rfl, rfl, rfl, rfl, rfl, trivial⟩ ⟨hm, hS⟩
          · clear H hS hm a; intro q1059 a w1064 H hR
            simp only [ent, List.map_cons, List.map_nil] at H; (try dsimp only at hR); obtain ⟨hm, hS⟩ := hR; try dsimp only [g_frame_checkLinks_J17] at hm
            refine c_cond H rfl (fun hc1065 => ?_) (fun hc1065 => ?_)
            · replace hm := condT hm hc1065
              refine wp_seq (wp_region_lit (n_q H (q_move rfl) rfl (W_q (q_load rfl ((hG.ext hS.x).ld gPlan (by decide) ag41)) rfl ?_))); clear H a; intro a H
              replace hm := bindS hm; obtain ⟨r1066, hr1066, hm⟩ := hm
              refine n_call H rfl en143 (g_frame_at_w (A := A) (IsErr.var (by decide) : IsE A w1064 _ (.v gPlan)) hr1066) rfl ?_
              clear H; intro u1067 w1069 hv; clear a; intro a H; obtain ⟨_, rfl, hE1070⟩ := hv
              replace hS := hS.new hE1070; simp only [List.cons_append, List.nil_append] at hS
              refine n_q H (q_assign rfl) rfl ?_; clear H a; intro a H
              refine n_nil (then_normal (wp_ret (block_ret (block_ret (then_ret (then_ret (block_ret (then_ret ?_))))))))
              obtain rfl := Option.some.inj hm; have hz : _ = q27 := hn27; subst hz; replace hm := hm27; try dsimp only at hm
              obtain rfl := Option.some.inj hm
              replace hS := hS.tk1
              refine ret1 H (.inr rfl) rfl rfl ?_
              exact ⟨_, rfl, hS⟩
            · replace hm := condF hm hc1065
              replace hm := bindS hm; obtain ⟨j1072, hm, hm1072⟩ := hm
              refine c_join (σ := Bool) H (fun q1573 => [(1, .pointer (some ⟨b21, 0, none⟩)), (3, .int .i64 ((i28 : Nat) : Int)), (12, vp0_3), (13, .int .i64 ((a0.Links.length : Nat) : Int)), (14, .int .i64 ((i28 : Nat) : Int)), (62, .bool q1573)]) (fun q1573 wl => (g_frame_checkLinks_J16 i28) q1573 = some o27 ∧ St NB w wl [blkR b21 [.int .i64 a0.Ticks, vp0_0, vp0_1, vp0_2, vp0_3, .int .i64 a0.Tries] 49]) ?_ ?_
              · skip
                refine c_quiet (by kernel_rfl) (by kernel_rfl) ?_
                refine qq_q H (q_fieldAddr0 rfl fo49_1) rfl ?_; clear H a; intro a H
                refine qq_q H (q_load rfl ((hS.blk 0 rfl).ld ag45 rfl)) rfl ?_; clear H a; intro a H
                refine qq_q H (q_fieldAddr0 rfl fo63_0) rfl ?_; clear H a; intro a H
                refine qq_q H (q_load rfl ((hS.blk 1 rfl).ld ag3 rfl)) rfl ?_; clear H a; intro a H
                obtain ⟨A1574, c1574, hv1574, hl1574, hm1574⟩ := SlR.formV (hrp0_0.ext RGPlan.mono hS.x)
                replace hm := bindS hm; obtain ⟨x1575, hx1575, hm⟩ := hm
                obtain ⟨h0x1575, h1x1575, hxx1575⟩ := rdI_some hx1575
                obtain ⟨adx1575, hAx1575⟩ := SlR.adV (hrp0_0.ext RGPlan.mono hS.x) hv1574 hxx1575
                obtain ⟨csx1575, hclx1575, ⟨vx1575_0, vx1575_1, vx1575_2, vx1575_3, rfl, hrx1575_0, hrx1575_1, hrx1575_2, hrx1575_3⟩, hcx1575⟩ := SlR.elV hrp0_0 hv1574 hAx1575 hxx1575
                refine qq_q H (q_ixVI Tryz.underlying45 sz27 rfl hv1574 hAx1575 rfl h0x1575 h1x1575) rfl ?_; clear H a; intro a H
                refine qq_q H (q_load rfl (LdX.ext (ldEl ag27 sz27 rfl hcx1575) hS.x)) rfl ?_; clear H a; intro a H
                refine qq_q H (q_fieldAddr0 rfl fo63_1) rfl ?_; clear H a; intro a H
                refine qq_q H (q_load rfl ((hS.blk 1 rfl).ld ag3 rfl)) rfl ?_; clear H a; intro a H
                replace hm := bindS hm; obtain ⟨r1576, hr1576, hm⟩ := hm
                refine qq_call H rfl en145 (fun w' hw => g_frame_isPort_w (A := A) (⟨_, _, _, _, rfl, ((hrx1575_0.ext (Flat.mono _) hS.x).ext (Flat.mono _) hw), ((hrx1575_1.ext (Flat.mono _) hS.x).ext (Flat.mono _) hw), ((hrx1575_2.ext (Flat.mono _) hS.x).ext (Flat.mono _) hw), ((hrx1575_3.ext (Flat.mono _) hS.x).ext (Flat.mono _) hw)⟩ : RGPlan _ [.int .i64 x1575.Id, .bool x1575.Mobile, vx1575_0, vx1575_1, vx1575_2, .int .i64 x1575.Events, vx1575_3] x1575) hr1576) rfl ?_; clear H a; intro a H
                refine qq_q H (q_not rfl) rfl ?_; clear H a; intro a H
                refine qq_q H (q_move rfl) rfl ?_; clear H a; intro a H
                rcases Bool.eq_false_or_eq_true (!r1576) with hg1577 | hg1577
                · replace H := H.know 73 rfl hg1577
                  replace hm := condT hm hg1577
                  refine qq_no H rfl rfl (by decide) rfl ?_; clear H a; intro a H
                  refine qq_no H rfl rfl (by decide) rfl ?_; clear H a; intro a H
                  refine qq_no H rfl rfl (by decide) rfl ?_; clear H a; intro a H
                  refine qq_no H rfl rfl (by decide) rfl ?_; clear H a; intro a H
                  refine qq_no H rfl rfl (by decide) rfl ?_; clear H a; intro a H
                  refine qq_no H rfl rfl (by decide) rfl ?_; clear H a; intro a H
                  refine qq_no H rfl rfl (by decide) rfl ?_; clear H a; intro a H
                  refine qq_no H rfl rfl (by decide) rfl ?_; clear H a; intro a H
                  refine qq_no H rfl rfl (by decide) rfl ?_; clear H a; intro a H
                  refine qq_no H rfl rfl (by decide) rfl ?_; clear H a; intro a H
                  refine qq_q H (q_pickT rfl rfl) rfl ?_; clear H a; intro a H
                  refine qq_q H (q_assign rfl) rfl ?_; clear H a; intro a H
                  refine qq_nil ?_; intro w1578 hE1579
                  replace hS := hS.ext hE1579
                  refine then_normal ?_
                  obtain rfl := Option.some.inj hm; replace hm := hm1072; try dsimp only at hm
                  replace hS := hS.tk1
                  exact join true H ⟨rfl, rfl, rfl, rfl, rfl, rfl, trivial⟩ ⟨hm, hS⟩
                · replace H := H.know 73 rfl hg1577
                  replace hm := condF hm hg1577
                  refine qq_yes H rfl rfl ?_
                  refine qq_q H (q_fieldAddr0 rfl fo49_1) rfl ?_; clear H a; intro a H
                  refine qq_yes H rfl rfl ?_
                  refine qq_q H (q_load rfl ((hS.blk 0 rfl).ld ag45 rfl)) rfl ?_; clear H a; intro a H
                  refine qq_yes H rfl rfl ?_
                  refine qq_q H (q_fieldAddr0 rfl fo63_2) rfl ?_; clear H a; intro a H
                  refine qq_yes H rfl rfl ?_
                  refine qq_q H (q_load rfl ((hS.blk 1 rfl).ld ag3 rfl)) rfl ?_; clear H a; intro a H
                  refine qq_yes H rfl rfl ?_
                  replace hm := bindS hm; obtain ⟨x1580, hx1580, hm⟩ := hm
                  obtain ⟨h0x1580, h1x1580, hxx1580⟩ := rdI_some hx1580
                  obtain ⟨adx1580, hAx1580⟩ := SlR.adV (hrp0_0.ext RGPlan.mono hS.x) hv1574 hxx1580
                  obtain ⟨csx1580, hclx1580, ⟨vx1580_0, vx1580_1, vx1580_2, vx1580_3, rfl, hrx1580_0, hrx1580_1, hrx1580_2, hrx1580_3⟩, hcx1580⟩ := SlR.elV hrp0_0 hv1574 hAx1580 hxx1580
                  refine qq_q H (q_ixVI Tryz.underlying45 sz27 rfl hv1574 hAx1580 rfl h0x1580 h1x1580) rfl ?_; clear H a; intro a H
                  refine qq_yes H rfl rfl ?_
                  refine qq_q H (q_load rfl (LdX.ext (ldEl ag27 sz27 rfl hcx1580) hS.x)) rfl ?_; clear H a; intro a H
                  refine qq_yes H rfl rfl ?_
                  refine qq_q H (q_fieldAddr0 rfl fo63_3) rfl ?_; clear H a; intro a H
                  refine qq_yes H rfl rfl ?_
                  refine qq_q H (q_load rfl ((hS.blk 1 rfl).ld ag3 rfl)) rfl ?_; clear H a; intro a H
                  refine qq_yes H rfl rfl ?_
                  replace hm := bindS hm; obtain ⟨r1581, hr1581, hm⟩ := hm
                  refine qq_call H rfl en145 (fun w' hw => g_frame_isPort_w (A := A) (⟨_, _, _, _, rfl, ((hrx1580_0.ext (Flat.mono _) hS.x).ext (Flat.mono _) hw), ((hrx1580_1.ext (Flat.mono _) hS.x).ext (Flat.mono _) hw), ((hrx1580_2.ext (Flat.mono _) hS.x).ext (Flat.mono _) hw), ((hrx1580_3.ext (Flat.mono _) hS.x).ext (Flat.mono _) hw)⟩ : RGPlan _ [.int .i64 x1580.Id, .bool x1580.Mobile, vx1580_0, vx1580_1, vx1580_2, .int .i64 x1580.Events, vx1580_3] x1580) hr1581) rfl ?_; clear H a; intro a H
                  refine qq_yes H rfl rfl ?_
                  refine qq_q H (q_not rfl) rfl ?_; clear H a; intro a H
                  refine qq_q H (q_pickF rfl rfl) rfl ?_; clear H a; intro a H
                  refine qq_q H (q_assign rfl) rfl ?_; clear H a; intro a H
                  refine qq_nil ?_; intro w1582 hE1583
                  replace hS := hS.ext hE1583
                  refine then_normal ?_
                  obtain rfl := Option.some.inj hm; replace hm := hm1072; try dsimp only at hm
                  replace hS := hS.tk1
                  exact join (!r1581) H ⟨rfl, rfl, rfl, rfl, rfl, rfl, trivial⟩ ⟨hm, hS⟩
              · clear H hS hm a; intro q1573 a w1584 H hR
                simp only [ent, List.map_cons, List.map_nil] at H; (try dsimp only at hR); obtain ⟨hm, hS⟩ := hR; try dsimp only [g_frame_checkLinks_J16] at hm
                refine c_cond H rfl (fun hc1585 => ?_) (fun hc1585 => ?_)
                · replace hm := condT hm hc1585
                  refine wp_seq (wp_region_lit (n_q H (q_move rfl) rfl (W_q (q_load rfl ((hG.ext hS.x).ld gKind (by decide) ag41)) rfl ?_))); clear H a; intro a H
                  replace hm := bindS hm; obtain ⟨r1586, hr1586, hm⟩ := hm
                  refine n_call H rfl en143 (g_frame_at_w (A := A) (IsErr.var (by decide) : IsE A w1584 _ (.v gKind)) hr1586) rfl ?_
                  clear H; intro u1587 w1589 hv; clear a; intro a H; obtain ⟨_, rfl, hE1590⟩ := hv
                  replace hS := hS.new hE1590; simp only [List.cons_append, List.nil_append] at hS
                  refine n_q H (q_assign rfl) rfl ?_; clear H a; intro a H
                  refine n_nil (then_normal (wp_ret (block_ret (block_ret (then_ret (then_ret (block_ret (then_ret ?_))))))))
                  obtain rfl := Option.some.inj hm; have hz : _ = q27 := hn27; subst hz; replace hm := hm27; try dsimp only at hm
                  obtain rfl := Option.some.inj hm
                  replace hS := hS.tk1
                  refine ret1 H (.inr rfl) rfl rfl ?_
                  exact ⟨_, rfl, hS⟩
                · replace hm := condF hm hc1585
                  refine wp_skip (block_normal (block_normal (then_normal (wp_region_lit (n_q H (q_incr (i := i28) (j := 1) rfl rfl (by omega)) rfl (W_q (q_move rfl) rfl ?_)))))); clear H a; intro a H
                  refine n_nil (then_normal ?_)
                  obtain rfl := Option.some.inj hm
                  exact round (m27, i28 + 1) H ⟨rfl, rfl, rfl, rfl, trivial⟩ ⟨hn27, hS⟩ (Nat.lt_succ_self _)
    · replace hm := condF hm hc30
      refine wp_exit (then_exit (then_exit (block_exit ?_)))
      obtain rfl := Option.some.inj hm; have hz : _ = q27 := hn27; subst hz; replace hm := hm27; try dsimp only at hm
      refine then_normal (wp_seq (wp_region_lit (n_q H (q_fieldAddr0 rfl fo49_1) rfl (W_q (q_load rfl ((hS.blk 0 rfl).ld ag45 rfl)) rfl ?_)))); clear H a; intro a H
      replace hm := bindS hm; obtain ⟨r1592, hr1592, hm⟩ := hm
      refine n_call H rfl en146 (g_slices_ContainsFunc_Plan_w (A := A) (hrp0_0.ext RGPlan.mono hS.x) (g1 := 147) (fs1 := []) (cp1 := []) (a1 := (fun x0 => g_frame_checkLinks_1 x0)) en147 (fun w1 e1 ds0 x0 r hd0 hr => g_frame_checkLinks_1_w (A := A) hd0 hr) hr1592) rfl ?_
      clear H; intro x1595 w1593 hv; clear a; intro a H; obtain ⟨rfl, hE1594⟩ := hv
      replace hS := hS.ext hE1594
      refine n_q H (q_assign rfl) rfl ?_; clear H a; intro a H
      refine n_nil (then_normal (wp_seq ?_))
      replace hm := bindS hm; obtain ⟨j1596, hm, hm1596⟩ := hm
      refine c_join (σ := Bool) H (fun q2097 => [(97, .bool q2097)]) (fun q2097 wl => g_frame_checkLinks_J19 q2097 = some r ∧ St NB w wl []) ?_ ?_
      · skip
        refine wp_region_lit (n_q H (q_move rfl) rfl (W_q (q_move rfl) rfl ?_)); clear H a; intro a H
        rcases Bool.eq_false_or_eq_true r1592 with hg2098 | hg2098
        · replace H := H.know 93 rfl hg2098
          replace hm := condT hm hg2098
          refine n_yes H rfl rfl (n_q H (q_load rfl ((hS.blk 0 rfl).ldAll ag49 sz49)) rfl (W_yes rfl rfl ?_)); clear H a; intro a H
          replace hm := bindS hm; obtain ⟨r2099, hr2099, hm⟩ := hm
          refine n_call H rfl en144 (g_frame_has_w (A := A) (⟨_, _, _, _, rfl, (hrp0_0.ext RGPlan.mono hS.x), (hrp0_1.ext (Flat.mono _) hS.x), (hrp0_2.ext (Flat.mono _) hS.x), (hrp0_3.ext (Flat.mono _) hS.x)⟩ : RGConfig _ [.int .i64 a0.Ticks, vp0_0, vp0_1, vp0_2, vp0_3, .int .i64 a0.Tries] a0) hr2099) rfl ?_
          clear H; intro x2102 w2100 hv; clear a; intro a H; obtain ⟨rfl, hE2101⟩ := hv
          replace hS := hS.ext hE2101
          refine n_yes H rfl rfl (n_q H (q_not rfl) rfl (W_q (q_pickT rfl rfl) rfl ?_)); clear H a; intro a H
          refine n_nil (then_normal ?_)
          obtain rfl := Option.some.inj hm; replace hm := hm1596; try dsimp only at hm
          replace hS := hS.tk0
          exact join (!r2099) H ⟨rfl, trivial⟩ ⟨hm, hS⟩
        · replace H := H.know 93 rfl hg2098
          replace hm := condF hm hg2098
          refine n_no H rfl rfl (by decide) rfl (W_no rfl rfl (by decide) rfl (W_no rfl rfl (by decide) rfl (W_q (q_pickF rfl rfl) rfl ?_))); clear H a; intro a H
          refine n_nil (then_normal ?_)
          obtain rfl := Option.some.inj hm; replace hm := hm1596; try dsimp only at hm
          replace hS := hS.tk0
          exact join false H ⟨rfl, trivial⟩ ⟨hm, hS⟩
      · clear H hS hm a; intro q2097 a w2103 H hR
        simp only [ent, List.map_cons, List.map_nil] at H; (try dsimp only at hR); obtain ⟨hm, hS⟩ := hR; try dsimp only [g_frame_checkLinks_J19] at hm
        refine c_cond H rfl (fun hc2104 => ?_) (fun hc2104 => ?_)
        · replace hm := condT hm hc2104
          refine wp_seq (wp_region_lit (n_q H (q_load rfl ((hG.ext hS.x).ld gNone (by decide) ag41)) rfl (W_q (q_assign rfl) rfl ?_))); clear H a; intro a H
          refine n_nil (then_normal (wp_ret (then_ret ?_)))
          obtain rfl := Option.some.inj hm
          replace hS := hS.dVar (A := A) (g := gNone) (by decide)
          refine ret1 H (.inr rfl) rfl rfl ?_
          exact ⟨_, rfl, hS⟩
        · replace hm := condF hm hc2104
          refine wp_skip (then_normal (wp_seq (wp_region_lit (n_q H (q_assign rfl) rfl ?_)))); clear H a; intro a H
          refine n_nil (then_normal (wp_ret ?_))
          obtain rfl := Option.some.inj hm
          replace hS := hS.dNil (A := A)
          refine ret1 H (.inr rfl) rfl rfl ?_
          exact ⟨_, rfl, hS⟩
theorem g_frame_Check_w {w : World} {A : Nat → Addr} {cs0 : List Value} {a0 : GConfig} (hG : EV A w) (h0 : RGConfig w cs0 a0) {r : ErrM} (hm : g_frame_Check a0 = some r) :
    Calls Tryz.prog 28 [.agg cs0.toArray].toArray w (Ret fun u w' => ∃ h_0, u = h_0 ∧ St NB w w' [erQ A h_0 r]) := by
  obtain ⟨vp0_0, vp0_1, vp0_2, vp0_3, rfl, hrp0_0, hrp0_1, hrp0_2, hrp0_3⟩ := h0
  have hS := St.begin NB w
  unfold g_frame_Check at hm
  refine enter Tryz.func28 rfl rfl rfl ?_; intro a H; dsimp only [enumL, Nat.zero_add, Nat.reduceAdd] at H
  refine wp_seq (wp_region_lit (n_box H rfl (cs := [.int .i64 a0.Ticks, vp0_0, vp0_1, vp0_2, vp0_3, .int .i64 a0.Tries]) rfl rfl ?_))
  clear H; intro b21 w22 hN hE23 hs; clear a; intro a H
  replace hS := hS.newBlk hN hE23 hs; clear hN hs
  refine n_q H (q_assign rfl) rfl ?_; clear H a; intro a H
  refine n_nil (then_normal (wp_seq (wp_seq (wp_region_lit (n_buildSlice H Tryz.underlying147 sz77 ze77 rfl rfl rfl (cs := [.func (.func 77) [].toArray [].toArray, .func (.func 78) [].toArray [].toArray, .func (.func 79) [].toArray [].toArray]) (by kernel_rfl) rfl ?_)))))
  clear H; intro b26 w24 hN hE25 hs; clear a; intro a H
  replace hS := hS.newBlk hN hE25 hs; clear hN hs
  refine n_q H (q_lenSl Tryz.underlying147 rfl) rfl (W_q (q_move rfl) rfl ?_); clear H a; intro a H
  refine n_nil (then_normal (wp_block (wp_loop_rounds 4 ?_)))
  refine Eq.mpr (rounds_succ (n := 3)) ?_
  refine wp_seq (wp_region_lit (n_q H (q_cast (q_lss rfl rfl) (show _ = Value.bool true from rfl)) rfl ?_)); clear H a; intro a H
  refine n_nil (then_normal (wp_seq (c_condKT H rfl ?_)))
  refine wp_skip (then_normal (wp_seq (wp_block (wp_seq (wp_region_lit (n_q H (q_cast (q_indexAddr Tryz.underlying147 sz77 rfl rfl (by decide) (by decide)) (show _ = Value.pointer (some ⟨b26, 0, none⟩) by simp [plain_add])) rfl (W_q (q_load rfl ((hS.blk 0 rfl).ld ag77 rfl)) rfl (W_q (q_assign rfl) rfl ?_)))))))); clear H a; intro a H
  refine n_nil (then_normal (wp_seq (wp_region_lit (n_q H (q_move rfl) rfl (W_q (q_load rfl ((hS.blk 1 rfl).ldAll ag49 sz49)) rfl ?_))))); clear H a; intro a H
  replace hm := bindS hm; obtain ⟨r28, hr28, hm⟩ := hm
  refine n_callv H rfl rfl en77 (g_frame_checkParts_w (A := A) (hG.ext hS.x) (⟨_, _, _, _, rfl, (hrp0_0.ext RGPlan.mono hS.x), (hrp0_1.ext (Flat.mono _) hS.x), (hrp0_2.ext (Flat.mono _) hS.x), (hrp0_3.ext (Flat.mono _) hS.x)⟩ : RGConfig _ [.int .i64 a0.Ticks, vp0_0, vp0_1, vp0_2, vp0_3, .int .i64 a0.Tries] a0) hr28) rfl ?_
  clear H; intro u29 w31 hv; clear a; intro a H; obtain ⟨_, rfl, hE32⟩ := hv
  replace hS := hS.new hE32; simp only [List.cons_append, List.nil_append] at hS
  refine n_q H (q_assign rfl) rfl ?_; clear H a; intro a H
  refine n_nil (then_normal (wp_seq (wp_region_lit (n_q H (q_move rfl) rfl (W_q (q_cast (q_nnilI Tryz.underlying41 rfl rfl (hS.any 0 rfl : IsE A w31 u29 r28).form) (show _ = Value.bool (!decide (r28 = .nil)) by rw [IsErr.isNil (hS.any 0 rfl : IsE A w31 u29 r28)])) rfl ?_))))); clear H a; intro a H
  refine n_nil (then_normal (c_cond H rfl (fun hc34 => ?_) (fun hc34 => ?_)))
  · replace hm := condT hm hc34
    refine wp_seq (wp_region_lit (n_q H (q_move rfl) rfl (W_q (q_assign rfl) rfl ?_))); clear H a; intro a H
    refine n_nil (then_normal (wp_ret (block_ret (then_ret (then_ret (block_ret (then_ret ?_)))))))
    obtain rfl := Option.some.inj hm
    replace hS := hS.tk1
    refine ret1 H (.inr rfl) rfl rfl ?_
    exact ⟨_, rfl, hS⟩
  · replace hm := condF hm hc34
    refine wp_skip (block_normal (then_normal (wp_region_lit (n_q H (q_cast (q_addW rfl rfl) (show _ = Value.int .i64 1 from rfl)) rfl (W_q (q_move rfl) rfl ?_))))); clear H a; intro a H
    refine n_nil (then_normal (Eq.mpr (rounds_succ (n := 2)) ?_))
    refine wp_seq (wp_region_lit (n_q H (q_cast (q_lss rfl rfl) (show _ = Value.bool true from rfl)) rfl ?_)); clear H a; intro a H
    refine n_nil (then_normal (wp_seq (c_condKT H rfl ?_)))
    refine wp_skip (then_normal (wp_seq (wp_block (wp_seq (wp_region_lit (n_q H (q_cast (q_indexAddr Tryz.underlying147 sz77 rfl rfl (by decide) (by decide)) (show _ = Value.pointer (some ⟨b26, 1, none⟩) by simp [plain_add])) rfl (W_q (q_load rfl ((hS.blk 1 rfl).ld ag77 rfl)) rfl (W_q (q_assign rfl) rfl ?_)))))))); clear H a; intro a H
    refine n_nil (then_normal (wp_seq (wp_region_lit (n_q H (q_move rfl) rfl (W_q (q_load rfl ((hS.blk 2 rfl).ldAll ag49 sz49)) rfl ?_))))); clear H a; intro a H
    replace hm := bindS hm; obtain ⟨r36, hr36, hm⟩ := hm
    refine n_callv H rfl rfl en78 (g_frame_checkWindows_w (A := A) (hG.ext hS.x) (⟨_, _, _, _, rfl, (hrp0_0.ext RGPlan.mono hS.x), (hrp0_1.ext (Flat.mono _) hS.x), (hrp0_2.ext (Flat.mono _) hS.x), (hrp0_3.ext (Flat.mono _) hS.x)⟩ : RGConfig _ [.int .i64 a0.Ticks, vp0_0, vp0_1, vp0_2, vp0_3, .int .i64 a0.Tries] a0) hr36) rfl ?_
    clear H; intro u37 w39 hv; clear a; intro a H; obtain ⟨_, rfl, hE40⟩ := hv
    replace hS := hS.new hE40; simp only [List.cons_append, List.nil_append] at hS
    refine n_q H (q_assign rfl) rfl ?_; clear H a; intro a H
    refine n_nil (then_normal (wp_seq (wp_region_lit (n_q H (q_move rfl) rfl (W_q (q_cast (q_nnilI Tryz.underlying41 rfl rfl (hS.any 0 rfl : IsE A w39 u37 r36).form) (show _ = Value.bool (!decide (r36 = .nil)) by rw [IsErr.isNil (hS.any 0 rfl : IsE A w39 u37 r36)])) rfl ?_))))); clear H a; intro a H
    refine n_nil (then_normal (c_cond H rfl (fun hc42 => ?_) (fun hc42 => ?_)))
    · replace hm := condT hm hc42
      refine wp_seq (wp_region_lit (n_q H (q_move rfl) rfl (W_q (q_assign rfl) rfl ?_))); clear H a; intro a H
      refine n_nil (then_normal (wp_ret (block_ret (then_ret (then_ret (block_ret (then_ret ?_)))))))
      obtain rfl := Option.some.inj hm
      replace hS := hS.tk1
      refine ret1 H (.inr rfl) rfl rfl ?_
      exact ⟨_, rfl, hS⟩
    · replace hm := condF hm hc42
      refine wp_skip (block_normal (then_normal (wp_region_lit (n_q H (q_cast (q_addW rfl rfl) (show _ = Value.int .i64 2 from rfl)) rfl (W_q (q_move rfl) rfl ?_))))); clear H a; intro a H
      refine n_nil (then_normal (Eq.mpr (rounds_succ (n := 1)) ?_))
      refine wp_seq (wp_region_lit (n_q H (q_cast (q_lss rfl rfl) (show _ = Value.bool true from rfl)) rfl ?_)); clear H a; intro a H
      refine n_nil (then_normal (wp_seq (c_condKT H rfl ?_)))
      refine wp_skip (then_normal (wp_seq (wp_block (wp_seq (wp_region_lit (n_q H (q_cast (q_indexAddr Tryz.underlying147 sz77 rfl rfl (by decide) (by decide)) (show _ = Value.pointer (some ⟨b26, 2, none⟩) by simp [plain_add])) rfl (W_q (q_load rfl ((hS.blk 2 rfl).ld ag77 rfl)) rfl (W_q (q_assign rfl) rfl ?_)))))))); clear H a; intro a H
      refine n_nil (then_normal (wp_seq (wp_region_lit (n_q H (q_move rfl) rfl (W_q (q_load rfl ((hS.blk 3 rfl).ldAll ag49 sz49)) rfl ?_))))); clear H a; intro a H
      replace hm := bindS hm; obtain ⟨r44, hr44, hm⟩ := hm
      refine n_callv H rfl rfl en79 (g_frame_checkLinks_w (A := A) (hG.ext hS.x) (⟨_, _, _, _, rfl, (hrp0_0.ext RGPlan.mono hS.x), (hrp0_1.ext (Flat.mono _) hS.x), (hrp0_2.ext (Flat.mono _) hS.x), (hrp0_3.ext (Flat.mono _) hS.x)⟩ : RGConfig _ [.int .i64 a0.Ticks, vp0_0, vp0_1, vp0_2, vp0_3, .int .i64 a0.Tries] a0) hr44) rfl ?_
      clear H; intro u45 w47 hv; clear a; intro a H; obtain ⟨_, rfl, hE48⟩ := hv
      replace hS := hS.new hE48; simp only [List.cons_append, List.nil_append] at hS
      refine n_q H (q_assign rfl) rfl ?_; clear H a; intro a H
      refine n_nil (then_normal (wp_seq (wp_region_lit (n_q H (q_move rfl) rfl (W_q (q_cast (q_nnilI Tryz.underlying41 rfl rfl (hS.any 0 rfl : IsE A w47 u45 r44).form) (show _ = Value.bool (!decide (r44 = .nil)) by rw [IsErr.isNil (hS.any 0 rfl : IsE A w47 u45 r44)])) rfl ?_))))); clear H a; intro a H
      refine n_nil (then_normal (c_cond H rfl (fun hc50 => ?_) (fun hc50 => ?_)))
      · replace hm := condT hm hc50
        refine wp_seq (wp_region_lit (n_q H (q_move rfl) rfl (W_q (q_assign rfl) rfl ?_))); clear H a; intro a H
        refine n_nil (then_normal (wp_ret (block_ret (then_ret (then_ret (block_ret (then_ret ?_)))))))
        obtain rfl := Option.some.inj hm
        replace hS := hS.tk1
        refine ret1 H (.inr rfl) rfl rfl ?_
        exact ⟨_, rfl, hS⟩
      · replace hm := condF hm hc50
        refine wp_skip (block_normal (then_normal (wp_region_lit (n_q H (q_cast (q_addW rfl rfl) (show _ = Value.int .i64 3 from rfl)) rfl (W_q (q_move rfl) rfl ?_))))); clear H a; intro a H
        refine n_nil (then_normal (Eq.mpr (rounds_succ (n := 0)) ?_))
        refine wp_seq (wp_region_lit (n_q H (q_cast (q_lss rfl rfl) (show _ = Value.bool false from rfl)) rfl ?_)); clear H a; intro a H
        refine n_nil (then_normal (wp_seq (c_condKF H rfl ?_)))
        refine wp_exit (then_exit (then_exit (block_exit (then_normal (wp_seq (wp_region_lit (n_q H (q_assign rfl) rfl ?_))))))); clear H a; intro a H
        refine n_nil (then_normal (wp_ret ?_))
        obtain rfl := Option.some.inj hm
        replace hS := hS.dNil (A := A)
        replace hS := hS.tk1
        refine ret1 H (.inr rfl) rfl rfl ?_
        exact ⟨_, rfl, hS⟩
theorem g_frame_Carry_w {w : World} {A : Nat → Addr} {cs0 : List Value} {a0 : GConfig} {v1 : Value} {a1 : List Bool} {v2 : Value} {a2 : List (List GMsg)} (hG : EV A w) (h0 : RGConfig w cs0 a0) (h1 : SlR w 1 (Flat eF) v1 a1) (h2 : SlR w 1 (RSl 2 eGMsg) v2 a2) {r : List (List GMsg) × ErrM} (hm : g_frame_Carry a0 a1 a2 = some r) :
    Calls Tryz.prog 30 [.agg cs0.toArray, v1, v2].toArray w (Ret fun u w' => ∃ h_0 h_1, u = .tuple #[h_0, h_1] ∧ St NB w w' [nestR 87 1 (rowR 133 2 eGMsg) h_0 r.1, erQ A h_1 r.2]) := by
  obtain ⟨vp0_0, vp0_1, vp0_2, vp0_3, rfl, hrp0_0, hrp0_1, hrp0_2, hrp0_3⟩ := h0
  have hS := St.begin NB w
  unfold g_frame_Carry at hm
  refine enter Tryz.func30 rfl rfl rfl ?_; intro a H; dsimp only [enumL, Nat.zero_add, Nat.reduceAdd] at H
  refine wp_seq (wp_region_lit (n_box H rfl (cs := [.int .i64 a0.Ticks, vp0_0, vp0_1, vp0_2, vp0_3, .int .i64 a0.Tries]) rfl rfl ?_))
  clear H; intro b21 w22 hN hE23 hs; clear a; intro a H
  replace hS := hS.newBlk hN hE23 hs; clear hN hs
  refine n_q H (q_assign rfl) rfl (W_q (q_assign rfl) rfl ?_); clear H a; intro a H
  refine n_nil (then_normal (wp_seq (wp_seq (wp_region_lit (n_q H (q_load rfl ((hS.blk 0 rfl).ldAll ag49 sz49)) rfl ?_))))); clear H a; intro a H
  replace hm := bindS hm; obtain ⟨r24, hr24, hm⟩ := hm
  refine n_call H rfl en28 (g_frame_Check_w (A := A) (hG.ext hS.x) (⟨_, _, _, _, rfl, (hrp0_0.ext RGPlan.mono hS.x), (hrp0_1.ext (Flat.mono _) hS.x), (hrp0_2.ext (Flat.mono _) hS.x), (hrp0_3.ext (Flat.mono _) hS.x)⟩ : RGConfig _ [.int .i64 a0.Ticks, vp0_0, vp0_1, vp0_2, vp0_3, .int .i64 a0.Tries] a0) hr24) rfl ?_
  clear H; intro u25 w27 hv; clear a; intro a H; obtain ⟨_, rfl, hE28⟩ := hv
  replace hS := hS.new hE28; simp only [List.cons_append, List.nil_append] at hS
  refine n_q H (q_cast (q_nnilI Tryz.underlying41 rfl rfl (hS.any 0 rfl : IsE A w27 u25 r24).form) (show _ = Value.bool (!decide (r24 = .nil)) by rw [IsErr.isNil (hS.any 0 rfl : IsE A w27 u25 r24)])) rfl ?_; clear H a; intro a H
  refine n_nil (then_normal (c_cond H rfl (fun hc30 => ?_) (fun hc30 => ?_)))
  · replace hm := condT hm hc30
    refine wp_seq (c_quiet (by kernel_rfl) (by kernel_rfl) ?_)
    refine qq_q H (q_load rfl ((hG.ext hS.x).ld gPlan (by decide) ag41)) rfl ?_; clear H a; intro a H
    refine qq_q H (q_assign rfl) rfl ?_; clear H a; intro a H
    refine qq_q H (q_assign rfl) rfl ?_; clear H a; intro a H
    refine qq_nil ?_; intro w31 hE32
    replace hS := hS.ext hE32
    refine then_normal (wp_ret (then_ret ?_))
    obtain rfl := Option.some.inj hm
    replace hS := hS.nestNil 87 1 (rowR 133 2 eGMsg)
    replace hS := hS.dVar (A := A) (g := gPlan) (by decide)
    replace hS := hS.pk1
    replace hS := hS.tk2
    refine ret2 H (.inr rfl) rfl rfl rfl ?_
    exact ⟨_, _, rfl, hS⟩
  · replace hm := condF hm hc30
    refine wp_skip (then_normal (wp_seq (wp_seq (wp_region_lit (n_c H (fun HC => ?_)))))); clear H
    refine nc_q HC (q_move rfl) rfl (by kernel_rfl) ?_; clear HC a; intro a HC
    obtain ⟨A35, c35, hv35, hl35, hm35⟩ := SlR.formV (h1.ext (Flat.mono _) hS.x)
    refine nc_q HC (q_lenV Tryz.underlying30 rfl hv35) rfl (by kernel_rfl) (V_q (q_fieldAddr0 rfl fo49_1) rfl (by kernel_rfl) (V_q (q_load rfl ((hS.blk 1 rfl).ld ag45 rfl)) rfl (by kernel_rfl) ?_)); clear HC a; intro a HC
    obtain ⟨A36, c36, hv36, hl36, hm36⟩ := SlR.formV (hrp0_0.ext RGPlan.mono hS.x)
    refine nc_q HC (q_lenV Tryz.underlying45 rfl hv36) rfl (by kernel_rfl) (V_q (q_neqN (i := a1.length) (j := a0.Parts.length) rfl rfl) rfl (by kernel_rfl) (V_q (q_move rfl) rfl (by kernel_rfl) (V_g (q_move rfl) (by kernel_rfl) (by kernel_rfl) (by kernel_rfl) ?_))); clear HC a; intro a HC
    obtain ⟨A37, c37, hv37, hl37, hm37⟩ := SlR.formV (h2.ext (RSl.mono _ _) hS.x)
    refine nc_g HC (q_lenV Tryz.underlying50 rfl hv37) (by kernel_rfl) (by kernel_rfl) (by kernel_rfl) (V_g (q_fieldAddr0 rfl fo49_1) (by kernel_rfl) (by kernel_rfl) (by kernel_rfl) (V_g (q_load rfl ((hS.blk 1 rfl).ld ag45 rfl)) (by kernel_rfl) (by kernel_rfl) (by kernel_rfl) (V_g (q_lenV Tryz.underlying45 rfl hv36) (by kernel_rfl) (by kernel_rfl) (by kernel_rfl) (V_g (q_neqN (i := a2.length) (j := a0.Parts.length) rfl rfl) (by kernel_rfl) (by kernel_rfl) (by kernel_rfl) (V_or (j := 6) rfl rfl rfl (by kernel_rfl) (by kernel_rfl) ?_))))); clear HC a; intro a HC
    have H := HC.has; clear HC
    refine n_nil (then_normal (c_cond H rfl (fun hc38 => ?_) (fun hc38 => ?_)))
    · replace hm := condT hm hc38
      refine wp_seq (c_quiet (by kernel_rfl) (by kernel_rfl) ?_)
      refine qq_q H (q_load rfl ((hG.ext hS.x).ld gArg (by decide) ag41)) rfl ?_; clear H a; intro a H
      refine qq_q H (q_assign rfl) rfl ?_; clear H a; intro a H
      refine qq_q H (q_assign rfl) rfl ?_; clear H a; intro a H
      refine qq_nil ?_; intro w39 hE40
      replace hS := hS.ext hE40
      refine then_normal (wp_ret (then_ret ?_))
      obtain rfl := Option.some.inj hm
      replace hS := hS.nestNil 87 1 (rowR 133 2 eGMsg)
      replace hS := hS.dVar (A := A) (g := gArg) (by decide)
      replace hS := hS.pk1
      replace hS := hS.tk2
      refine ret2 H (.inr rfl) rfl rfl rfl ?_
      exact ⟨_, _, rfl, hS⟩
    · replace hm := condF hm hc38
      refine wp_skip (then_normal (wp_seq (wp_region_lit (n_q H (q_fieldAddr0 rfl fo49_1) rfl (W_q (q_load rfl ((hS.blk 1 rfl).ld ag45 rfl)) rfl (W_q (q_lenV Tryz.underlying45 rfl hv36) rfl ?_)))))); clear H a; intro a H
      replace hm := chkS hm; obtain ⟨hk43, hm⟩ := hm
      refine n_make (L := a0.Parts.length) (C := a0.Parts.length) H Tryz.underlying50 el87 rfl rfl (Nat.le_refl _) hk43 (by simp only [maxLen]; omega) rfl ?_
      clear H; intro b44 w45 hN hE46 hs; clear a; intro a H; replace hS := hS.newOwn hN hE46 (by simp [blks]; omega); clear hN
      replace hS := St.mkNest0 (El := (rowR 133 2 eGMsg)) (z0 := []) (n := a0.Parts.length) rfl (by simp) (fun h => h.row0) hS
      refine n_q H (q_assign rfl) rfl ?_; clear H a; intro a H
      refine n_nil (then_normal (wp_seq (wp_seq (wp_region_lit (n_q H (q_fieldAddr0 rfl fo49_4) rfl (W_q (q_load rfl ((hS.blk 2 rfl).ld ag47 rfl)) rfl ?_)))))); clear H a; intro a H
      obtain ⟨A48, c48, hv48, hl48, hm48⟩ := SlR.formV (hrp0_3.ext (Flat.mono _) hS.x)
      refine n_q H (q_lenV Tryz.underlying47 rfl hv48) rfl (W_q (q_move rfl) rfl ?_); clear H a; intro a H
      refine n_nil (then_normal (wp_block ?_))
      replace hS := hS.tk1
      replace hm := bindS hm; obtain ⟨q49, hm, hm49⟩ := hm; replace hm := iter_some hm; obtain ⟨n49, hm⟩ := hm
      refine c_loop (σ := Nat × (List (List GMsg)) × Nat) (fun (m, l50, i53) => [(1, v1), (2, v2), (8, .slice (some ⟨b44, 0, none⟩) a0.Parts.length a0.Parts.length), (37, vp0_3), (38, .int .i64 ((a0.Links.length : Nat) : Int)), (39, .int .i64 ((i53 : Nat) : Int))]) (fun (m, l50, i53) wl => iterN (g_frame_Carry_L58 a0 a1 a2) m (l50, i53) = some q49 ∧ St NB w wl [nestR 87 1 (rowR 133 2 eGMsg) (.slice (some ⟨b44, 0, none⟩) a0.Parts.length a0.Parts.length) l50]) (fun (m, l50, i53) => m) (n49, (List.replicate a0.Parts.length ([] : List GMsg)), 0) H ⟨rfl, rfl, rfl, rfl, rfl, rfl, trivial⟩ ⟨hm, hS⟩ ?_
      clear H hS hm a; intro xx a w54 H hR; obtain ⟨m, l50, i53⟩ := xx; simp only [ent, List.map_cons, List.map_nil] at H; (try dsimp only at hR); obtain ⟨hm, hS⟩ := hR
      replace hm := iterN_step hm; obtain ⟨m49, o49, rfl, hm, hn49⟩ := hm; try dsimp only [g_frame_Carry_L58] at hm
      refine wp_seq (wp_region_lit (n_q H (q_lssN (i := i53) (j := a0.Links.length) rfl rfl) rfl ?_)); clear H a; intro a H
      refine n_nil (then_normal (wp_seq (c_cond H rfl (fun hc55 => ?_) (fun hc55 => ?_))))
      · replace hm := condT hm hc55
        have hlt56 : i53 < a0.Links.length := of_decide_eq_true hc55
        refine wp_skip (then_normal ?_)
        replace hm := bindS hm; obtain ⟨j57, hm, hm57⟩ := hm
        refine c_join (σ := (List (List GMsg))) H (fun l558 => [(1, v1), (2, v2), (8, .slice (some ⟨b44, 0, none⟩) a0.Parts.length a0.Parts.length), (37, vp0_3), (38, .int .i64 ((a0.Links.length : Nat) : Int)), (39, .int .i64 ((i53 : Nat) : Int))]) (fun l558 wl => (g_frame_Carry_J57 i53) l558 = some o49 ∧ St NB w wl [nestR 87 1 (rowR 133 2 eGMsg) (.slice (some ⟨b44, 0, none⟩) a0.Parts.length a0.Parts.length) l558]) ?_ ?_
        · skip
          refine wp_block (wp_seq (wp_region_lit ?_))
          replace hm := bindS hm; obtain ⟨x561, hx561, hm⟩ := hm
          obtain ⟨adx561, hAx561⟩ := SlR.adV (hrp0_3.ext (Flat.mono _) hS.x) hv48 hx561
          refine n_q H (q_ixV (i := i53) Tryz.underlying47 sz63 rfl hv48 hAx561 rfl (natI hx561)) rfl (W_q (q_load rfl (SlR.ldAggV (hrp0_3.ext (Flat.mono _) hS.x) hv48 hAx561 ag63 sz63 hx561)) rfl ?_); clear H a; intro a H
          refine n_alloc H ze63 rfl ?_
          clear H; intro b562 w563 hN hE564 hs; clear a; intro a H
          replace hS := hS.newBlk hN hE564 hs; clear hN hs
          refine n_storeAll H rfl rfl (vs := [.int .i64 x561.From, .int .i64 x561.Out, .int .i64 x561.To, .int .i64 x561.In]) rfl sz63 (hS.blk 0 rfl) rfl (by simp) ?_
          clear H; intro w565 hN hC566 hz; clear a; intro a H; replace hS := hS.setBlk hN hC566; clear hN hz
          refine n_nil (then_normal (wp_seq ?_))
          replace hm := bindS hm; obtain ⟨j567, hm, hm567⟩ := hm
          refine c_join (σ := Bool) H (fun q1068 => [(1, v1), (2, v2), (8, .slice (some ⟨b44, 0, none⟩) a0.Parts.length a0.Parts.length), (10, .pointer (some ⟨b562, 0, none⟩)), (37, vp0_3), (38, .int .i64 ((a0.Links.length : Nat) : Int)), (39, .int .i64 ((i53 : Nat) : Int)), (56, .bool q1068)]) (fun q1068 wl => (g_frame_Carry_J56 a2 l50 x561) q1068 = some j57 ∧ St NB w wl [nestR 87 1 (rowR 133 2 eGMsg) (.slice (some ⟨b44, 0, none⟩) a0.Parts.length a0.Parts.length) l50, blkR b562 [.int .i64 x561.From, .int .i64 x561.Out, .int .i64 x561.To, .int .i64 x561.In] 63]) ?_ ?_
          · skip
            refine wp_region_lit (n_q H (q_move rfl) rfl (W_q (q_fieldAddr0 rfl fo63_0) rfl (W_q (q_load rfl ((hS.blk 0 rfl).ld ag3 rfl)) rfl ?_))); clear H a; intro a H
            replace hm := bindS hm; obtain ⟨x1069, hx1069, hm⟩ := hm
            obtain ⟨h0x1069, h1x1069, hxx1069⟩ := rdI_some hx1069
            obtain ⟨adx1069, hAx1069⟩ := SlR.adV (h1.ext (Flat.mono _) hS.x) hv35 hxx1069
            refine n_q H (q_ixVI Tryz.underlying30 sz4 rfl hv35 hAx1069 rfl h0x1069 h1x1069) rfl (W_q (q_load rfl (SlR.ldOneV (h1.ext (Flat.mono _) hS.x) hv35 hAx1069 ag4 hxx1069 rfl)) rfl (W_q (q_not rfl) rfl (W_q (q_move rfl) rfl ?_))); clear H a; intro a H
            rcases Bool.eq_false_or_eq_true (!x1069) with hg1070 | hg1070
            · replace H := H.know 49 rfl hg1070
              replace hm := condT hm hg1070
              refine n_no H rfl rfl (by decide) rfl (W_no rfl rfl (by decide) rfl (W_no rfl rfl (by decide) rfl (W_no rfl rfl (by decide) rfl (W_no rfl rfl (by decide) rfl (W_no rfl rfl (by decide) rfl (W_q (q_pickT rfl rfl) rfl ?_)))))); clear H a; intro a H
              refine n_nil (then_normal ?_)
              obtain rfl := Option.some.inj hm; replace hm := hm567; try dsimp only at hm
              replace hS := hS.pk1
              exact join true H ⟨rfl, rfl, rfl, rfl, rfl, rfl, rfl, rfl, trivial⟩ ⟨hm, hS⟩
            · replace H := H.know 49 rfl hg1070
              replace hm := condF hm hg1070
              refine n_yes H rfl rfl (n_q H (q_move rfl) rfl (W_yes rfl rfl (W_q (q_fieldAddr0 rfl fo63_2) rfl (W_yes rfl rfl (W_q (q_load rfl ((hS.blk 0 rfl).ld ag3 rfl)) rfl (W_yes rfl rfl ?_)))))); clear H a; intro a H
              replace hm := bindS hm; obtain ⟨x1071, hx1071, hm⟩ := hm
              obtain ⟨h0x1071, h1x1071, hxx1071⟩ := rdI_some hx1071
              obtain ⟨adx1071, hAx1071⟩ := SlR.adV (h1.ext (Flat.mono _) hS.x) hv35 hxx1071
              refine n_q H (q_ixVI Tryz.underlying30 sz4 rfl hv35 hAx1071 rfl h0x1071 h1x1071) rfl (W_yes rfl rfl (W_q (q_load rfl (SlR.ldOneV (h1.ext (Flat.mono _) hS.x) hv35 hAx1071 ag4 hxx1071 rfl)) rfl (W_yes rfl rfl (W_q (q_not rfl) rfl (W_q (q_pickF rfl rfl) rfl ?_))))); clear H a; intro a H
              refine n_nil (then_normal ?_)
              obtain rfl := Option.some.inj hm; replace hm := hm567; try dsimp only at hm
              replace hS := hS.pk1
              exact join (!x1071) H ⟨rfl, rfl, rfl, rfl, rfl, rfl, rfl, rfl, trivial⟩ ⟨hm, hS⟩
          · clear H hS hm a; intro q1068 a w1072 H hR
            simp only [ent, List.map_cons, List.map_nil] at H; (try dsimp only at hR); obtain ⟨hm, hS⟩ := hR; try dsimp only [g_frame_Carry_J56] at hm
            refine c_cond H rfl (fun hc1073 => ?_) (fun hc1073 => ?_)
            · replace hm := condT hm hc1073
              refine wp_exit (then_exit (block_exit (then_normal ?_)))
              obtain rfl := Option.some.inj hm; replace hm := hm57; try dsimp only at hm
              replace hS := hS.tk1
              exact join l50 H ⟨rfl, rfl, rfl, rfl, rfl, rfl, trivial⟩ ⟨hm, hS⟩
            · replace hm := condF hm hc1073
              refine wp_skip (then_normal (wp_seq (wp_region_lit (n_q H (q_move rfl) rfl (W_q (q_fieldAddr0 rfl fo63_0) rfl (W_q (q_load rfl ((hS.blk 1 rfl).ld ag3 rfl)) rfl ?_)))))); clear H a; intro a H
              replace hm := bindS hm; obtain ⟨x1074, hx1074, hm⟩ := hm
              obtain ⟨h0x1074, h1x1074, hxx1074⟩ := rdI_some hx1074
              obtain ⟨adx1074, hAx1074⟩ := SlR.adV (h2.ext (RSl.mono _ _) hS.x) hv37 hxx1074
              obtain ⟨csx1074, hclx1074, ⟨vx1074, rfl, hrx1074⟩, hcx1074⟩ := SlR.elV h2 hv37 hAx1074 hxx1074
              refine n_q H (q_ixVI Tryz.underlying50 sz87 rfl hv37 hAx1074 rfl h0x1074 h1x1074) rfl (W_q (q_load rfl (LdX.ext (ldElH ag87 hcx1074) hS.x)) rfl ?_); clear H a; intro a H
              obtain ⟨A1075, c1075, hv1075, hl1075, hm1075⟩ := SlR.formV (hrx1074.ext (Flat.mono _) hS.x)
              refine n_q H (q_lenV Tryz.underlying87 rfl hv1075) rfl (W_q (q_move rfl) rfl ?_); clear H a; intro a H
              refine n_nil (then_normal (wp_block ?_))
              replace hm := bindS hm; obtain ⟨q1076, hm, hm1076⟩ := hm; replace hm := iter_some hm; obtain ⟨n1076, hm⟩ := hm
              refine c_loop (σ := Nat × (List (List GMsg)) × Nat) (fun (m, l1077, i1080) => [(1, v1), (2, v2), (8, .slice (some ⟨b44, 0, none⟩) a0.Parts.length a0.Parts.length), (10, .pointer (some ⟨b562, 0, none⟩)), (37, vp0_3), (38, .int .i64 ((a0.Links.length : Nat) : Int)), (39, .int .i64 ((i53 : Nat) : Int)), (61, vx1074), (62, .int .i64 ((x1074.length : Nat) : Int)), (63, .int .i64 ((i1080 : Nat) : Int))]) (fun (m, l1077, i1080) wl => iterN (g_frame_Carry_L55 x561 x1074) m (l1077, i1080) = some q1076 ∧ St NB w wl [nestR 87 1 (rowR 133 2 eGMsg) (.slice (some ⟨b44, 0, none⟩) a0.Parts.length a0.Parts.length) l1077, blkR b562 [.int .i64 x561.From, .int .i64 x561.Out, .int .i64 x561.To, .int .i64 x561.In] 63]) (fun (m, l1077, i1080) => m) (n1076, l50, 0) H ⟨rfl, rfl, rfl, rfl, rfl, rfl, rfl, rfl, rfl, rfl, trivial⟩ ⟨hm, hS⟩ ?_
              clear H hS hm a; intro xx a w1081 H hR; obtain ⟨m, l1077, i1080⟩ := xx; simp only [ent, List.map_cons, List.map_nil] at H; (try dsimp only at hR); obtain ⟨hm, hS⟩ := hR
              replace hm := iterN_step hm; obtain ⟨m1076, o1076, rfl, hm, hn1076⟩ := hm; try dsimp only [g_frame_Carry_L55] at hm
              refine wp_seq (wp_region_lit (n_q H (q_lssN (i := i1080) (j := x1074.length) rfl rfl) rfl ?_)); clear H a; intro a H
              refine n_nil (then_normal (wp_seq (c_cond H rfl (fun hc1082 => ?_) (fun hc1082 => ?_))))
              · replace hm := condT hm hc1082
                have hlt1083 : i1080 < x1074.length := of_decide_eq_true hc1082
                refine wp_skip (then_normal ?_)
                replace hm := bindS hm; obtain ⟨j1084, hm, hm1084⟩ := hm
                refine c_join (σ := (List (List GMsg))) H (fun l1585 => [(1, v1), (2, v2), (8, .slice (some ⟨b44, 0, none⟩) a0.Parts.length a0.Parts.length), (10, .pointer (some ⟨b562, 0, none⟩)), (37, vp0_3), (38, .int .i64 ((a0.Links.length : Nat) : Int)), (39, .int .i64 ((i53 : Nat) : Int)), (61, vx1074), (62, .int .i64 ((x1074.length : Nat) : Int)), (63, .int .i64 ((i1080 : Nat) : Int))]) (fun l1585 wl => (g_frame_Carry_J54 i1080) l1585 = some o1076 ∧ St NB w wl [nestR 87 1 (rowR 133 2 eGMsg) (.slice (some ⟨b44, 0, none⟩) a0.Parts.length a0.Parts.length) l1585, blkR b562 [.int .i64 x561.From, .int .i64 x561.Out, .int .i64 x561.To, .int .i64 x561.In] 63]) ?_ ?_
                · skip
                  refine wp_block (wp_seq (wp_region_lit ?_))
                  replace hm := bindS hm; obtain ⟨x1588, hx1588, hm⟩ := hm
                  obtain ⟨adx1588, hAx1588⟩ := SlR.adV (hrx1074.ext (Flat.mono _) hS.x) hv1075 hx1588
                  refine n_q H (q_ixV (i := i1080) Tryz.underlying87 sz133 rfl hv1075 hAx1588 rfl (natI hx1588)) rfl (W_q (q_load rfl (SlR.ldAggV (hrx1074.ext (Flat.mono _) hS.x) hv1075 hAx1588 ag133 sz133 hx1588)) rfl ?_); clear H a; intro a H
                  refine n_alloc H ze133 rfl ?_
                  clear H; intro b1589 w1590 hN hE1591 hs; clear a; intro a H
                  replace hS := hS.newBlk hN hE1591 hs; clear hN hs
                  refine n_storeAll H rfl rfl (vs := [.int .i64 x1588.Port, .string x1588.Data]) rfl sz133 (hS.blk 0 rfl) rfl (by simp) ?_
                  clear H; intro w1592 hN hC1593 hz; clear a; intro a H; replace hS := hS.setBlk hN hC1593; clear hN hz
                  refine n_nil (then_normal (wp_seq (wp_region_lit (n_q H (q_fieldAddr0 rfl fo133_0) rfl (W_q (q_load rfl ((hS.blk 0 rfl).ld ag3 rfl)) rfl (W_q (q_fieldAddr0 rfl fo63_1) rfl (W_q (q_load rfl ((hS.blk 2 rfl).ld ag3 rfl)) rfl (W_q (q_eqlD rfl rfl) rfl ?_)))))))); clear H a; intro a H
                  refine n_nil (then_normal (c_cond H rfl (fun hc1594 => ?_) (fun hc1594 => ?_)))
                  · replace hm := condT hm hc1594
                    refine c_ord (kB w.heap.size (b1589 :: (b562 :: (blks (.slice (some ⟨b44, 0, none⟩) a0.Parts.length a0.Parts.length) ++ []))) w1592.drew.heap.size) 16 (by kernel_rfl) ?_
                    obtain ⟨w1595, hw1595⟩ : ∃ x, x = w1592.drew := ⟨_, rfl⟩; rw [← hw1595]; have hE1596 : Ext w1592 w1595 := by rw [hw1595]; exact Ext.drew' _
                    clear hw1595
                    replace hS := hS.ext hE1596
                    have hh_b1589 := (hS.blk 0 rfl).lt
                    have hh_b562 := (hS.blk 2 rfl).lt
                    have hh_o1079 := hS.nestLt 1 rfl
                    have hh1597 := hS.x.size
                    have hW := Nat.le_refl w1595.heap.size
                    refine k_takeT 0 H rfl (q_move rfl) rfl (by kernel_rfl) (by kernel_rfl) (by kernel_rfl) (by kernel_rfl) (fun _ _ _ h => h) ?_; clear H a; intro a H
                    refine k_takeT 1 H rfl (q_fieldAddr0 rfl fo63_2) rfl (by kernel_rfl) (by kernel_rfl) (by kernel_rfl) (by kernel_rfl) (fun _ _ _ h => h) ?_; clear H a; intro a H
                    refine k_take 2 H rfl (q_load rfl ((hS.blk 2 rfl).ldB hh_b562 (kB_not (by simp)) ag3 rfl)) rfl (by kernel_rfl) (by kernel_rfl) (by kernel_rfl) (by kernel_rfl) (fun _ _ _ h => h) ?_; clear H a; intro a H
                    refine k_takeT 3 H rfl (q_move rfl) rfl (by kernel_rfl) (by kernel_rfl) (by kernel_rfl) (by kernel_rfl) (fun _ _ _ h => h) ?_; clear H a; intro a H
                    refine k_takeT 4 H rfl (q_fieldAddr0 rfl fo63_2) rfl (by kernel_rfl) (by kernel_rfl) (by kernel_rfl) (by kernel_rfl) (fun _ _ _ h => h) ?_; clear H a; intro a H
                    refine k_take 5 H rfl (q_load rfl ((hS.blk 2 rfl).ldB hh_b562 (kB_not (by simp)) ag3 rfl)) rfl (by kernel_rfl) (by kernel_rfl) (by kernel_rfl) (by kernel_rfl) (fun _ _ _ h => h) ?_; clear H a; intro a H
                    obtain ⟨A1598, c1598, hv1598, hl1598, hm1598⟩ := SlR.formV (hS.nestSl 1 rfl (rowR_R (E := 133) (k := 2) (e := eGMsg) (fun _ _ => rfl)))
                    replace hm := bindS hm; obtain ⟨x1599, hx1599, hm⟩ := hm
                    obtain ⟨h0x1599, h1x1599, hxx1599⟩ := rdI_some hx1599
                    obtain ⟨adx1599, hAx1599⟩ := SlR.adV (hS.nestSl 1 rfl (rowR_R (E := 133) (k := 2) (e := eGMsg) (fun _ _ => rfl))) hv1598 hxx1599
                    obtain ⟨csx1599, hclx1599, ⟨vx1599, rfl, hrx1599⟩, hcx1599⟩ := SlR.elV (hS.nestSl 1 rfl (rowR_R (E := 133) (k := 2) (e := eGMsg) (fun _ _ => rfl))) hv1598 hAx1599 hxx1599
                    refine k_takeT 6 H rfl (q_ixVI Tryz.underlying50 sz87 rfl hv1598 hAx1599 rfl h0x1599 h1x1599) rfl (by kernel_rfl) (by kernel_rfl) (by kernel_rfl) (by kernel_rfl) (fun _ _ _ h => h) ?_; clear H a; intro a H
                    refine k_take 7 H rfl (q_load rfl (LdC.cellB ag87 (cell_ext (hcx1599 0 _ rfl) Ext.rfl') (hh_o1079 _ (blk_of hv1598 hAx1599)) (kB_not (by simp [(blk_of hv1598 hAx1599)])))) rfl (by kernel_rfl) (by kernel_rfl) (by kernel_rfl) (by kernel_rfl) (fun _ _ _ h => h) ?_; clear H a; intro a H
                    refine k_takeT 8 H rfl (q_fieldAddr0 rfl fo63_3) rfl (by kernel_rfl) (by kernel_rfl) (by kernel_rfl) (by kernel_rfl) (fun _ _ _ h => h) ?_; clear H a; intro a H
                    refine k_take 9 H rfl (q_load rfl ((hS.blk 2 rfl).ldB hh_b562 (kB_not (by simp)) ag3 rfl)) rfl (by kernel_rfl) (by kernel_rfl) (by kernel_rfl) (by kernel_rfl) (fun _ _ _ h => h) ?_; clear H a; intro a H
                    refine k_takeT 10 H rfl (q_fieldAddr0 rfl fo133_1) rfl (by kernel_rfl) (by kernel_rfl) (by kernel_rfl) (by kernel_rfl) (fun _ _ _ h => h) ?_; clear H a; intro a H
                    refine k_take 11 H rfl (q_load rfl ((hS.blk 0 rfl).ldB hh_b1589 (kB_not (by simp)) ag9 rfl)) rfl (by kernel_rfl) (by kernel_rfl) (by kernel_rfl) (by kernel_rfl) (fun _ _ _ h => h) ?_; clear H a; intro a H
                    refine k_takeT 12 H rfl (q_build (cs := [.int .i64 x561.In, .string x1588.Data]) ze133 bd133 pl133 rfl (by kernel_rfl)) rfl (by kernel_rfl) (by kernel_rfl) (by kernel_rfl) (by kernel_rfl) (fun _ _ _ h => h) ?_; clear H a; intro a H
                    refine k_buildSlice 13 H rfl Tryz.underlying87 sz133 ze133 rfl rfl rfl (cs := [.int .i64 x561.In, .string x1588.Data]) (by kernel_rfl) rfl (by kernel_rfl) ?_
                    clear H; intro b1602 w1600 hN hE1601 hs; clear a; intro a H
                    have hge_b1602 : w1595.heap.size ≤ b1602 := hs ▸ hW
                    replace hS := hS.newBlk hN hE1601 hs; clear hN hs
                    replace hW := Nat.le_trans hW hE1601.size
                    replace hS := hS.blkOwnL (e := eGMsg) (k := 2) [(⟨x561.In, x1588.Data⟩ : GMsg)] rfl rfl (by simp [maxLen])
                    replace hS := hS.pk2
                    obtain ⟨css1604, hok1604, hS⟩ := hS.rowAt hxx1599 hv1598 hAx1599 (cell_ext (hcx1599 0 _ rfl) hE1601)
                    replace hm := chkS hm; obtain ⟨hk1605, hm⟩ := hm
                    refine k_app (e := eGMsg) 14 H rfl rfl rfl Tryz.underlying87 Tryz.underlying87 (by simp) el133 (hS.own 0 rfl) (((hS.own 3 rfl).slr rfl (fun _ _ => rfl)).src (fun _ _ => rfl)) eGMsg_one hk1605 (by simp only [maxLen]; omega) rfl (by kernel_rfl) (.inl (fun c hc hlt => mem_kB hlt (hS.geOwn 0 rfl c hc) (notin_cons (hS.neOwn' 0 4 (by decide) rfl rfl c hc) (notin_cons (hS.neOwn' 0 5 (by decide) rfl rfl c hc) (notin_app (hS.disjOwn 0 1 (by decide) rfl rfl c hc) notin_nil))))) ?_
                    clear H; intro v1608 w1606 hN hC1607 hb; clear a; intro a H; replace hS := hS.setOwn hN hC1607 hb; clear hN hb
                    replace hW := Nat.le_trans hW hC1607.size
                    refine k_takeT 15 H rfl (q_ixVI Tryz.underlying50 sz87 rfl hv1598 hAx1599 rfl h0x1599 h1x1599) rfl (by kernel_rfl) (by kernel_rfl) (by kernel_rfl) (by kernel_rfl) (fun _ _ _ h => h) ?_; clear H a; intro a H
                    replace hS := hS.pk1
                    refine k_storeR 16 H rfl rfl rfl sz87 (hS.own 0 rfl) hv1598 hAx1599 (natI hxx1599) (((hS.own 1 rfl).slr rfl (fun _ _ => rfl))).one (by kernel_rfl) (by kernel_rfl) ?_
                    clear H; intro w1610 hN hC1611; clear a; intro a H; replace hS := hS.setOwn hN hC1611 (.inl rfl); clear hN
                    replace hS := hS.pk2
                    replace hS := hS.pk2
                    replace hS := hS.pk2
                    replace hS := St.rowSet hok1604 (natI hxx1599) (((hS.own 1 rfl).slr rfl (fun _ _ => rfl))).one hS
                    refine k_done (by kernel_rfl) ?_
                    refine block_normal (then_normal ?_)
                    obtain rfl := Option.some.inj hm; replace hm := hm1084; try dsimp only at hm
                    replace hS := hS.pk3
                    replace hS := hS.pk1
                    replace hS := hS.tk2
                    exact join (l1077.set x561.To.toNat (x1599 ++ [(⟨x561.In, x1588.Data⟩ : GMsg)])) H ⟨rfl, rfl, rfl, rfl, rfl, rfl, rfl, rfl, rfl, rfl, trivial⟩ ⟨hm, hS⟩
                  · replace hm := condF hm hc1594
                    refine wp_skip (block_normal (then_normal ?_))
                    obtain rfl := Option.some.inj hm; replace hm := hm1084; try dsimp only at hm
                    replace hS := hS.pk2
                    replace hS := hS.pk2
                    replace hS := hS.tk2
                    exact join l1077 H ⟨rfl, rfl, rfl, rfl, rfl, rfl, rfl, rfl, rfl, rfl, trivial⟩ ⟨hm, hS⟩
                · clear H hS hm a; intro l1585 a w1612 H hR
                  simp only [ent, List.map_cons, List.map_nil] at H; (try dsimp only at hR); obtain ⟨hm, hS⟩ := hR; try dsimp only [g_frame_Carry_J54] at hm
                  refine wp_region_lit (n_q H (q_incr (i := i1080) (j := 1) rfl rfl (by omega)) rfl (W_q (q_move rfl) rfl ?_)); clear H a; intro a H
                  refine n_nil (then_normal ?_)
                  obtain rfl := Option.some.inj hm
                  exact round (m1076, l1585, i1080 + 1) H ⟨rfl, rfl, rfl, rfl, rfl, rfl, rfl, rfl, rfl, rfl, trivial⟩ ⟨hn1076, hS⟩ (Nat.lt_succ_self _)
              · replace hm := condF hm hc1082
                refine wp_exit (then_exit (then_exit (block_exit ?_)))
                obtain rfl := Option.some.inj hm; have hz : _ = q1076 := hn1076; subst hz; replace hm := hm1076; try dsimp only at hm
                refine block_normal (then_normal ?_)
                obtain rfl := Option.some.inj hm; replace hm := hm57; try dsimp only at hm
                replace hS := hS.tk1
                exact join l1077 H ⟨rfl, rfl, rfl, rfl, rfl, rfl, trivial⟩ ⟨hm, hS⟩
        · clear H hS hm a; intro l558 a w1613 H hR
          simp only [ent, List.map_cons, List.map_nil] at H; (try dsimp only at hR); obtain ⟨hm, hS⟩ := hR; try dsimp only [g_frame_Carry_J57] at hm
          refine wp_region_lit (n_q H (q_incr (i := i53) (j := 1) rfl rfl (by omega)) rfl (W_q (q_move rfl) rfl ?_)); clear H a; intro a H
          refine n_nil (then_normal ?_)
          obtain rfl := Option.some.inj hm
          exact round (m49, l558, i53 + 1) H ⟨rfl, rfl, rfl, rfl, rfl, rfl, trivial⟩ ⟨hn49, hS⟩ (Nat.lt_succ_self _)
      · replace hm := condF hm hc55
        refine wp_exit (then_exit (then_exit (block_exit ?_)))
        obtain rfl := Option.some.inj hm; have hz : _ = q49 := hn49; subst hz; replace hm := hm49; try dsimp only at hm
        refine then_normal (wp_seq (wp_region_lit (n_q H (q_move rfl) rfl (W_q (q_assign rfl) rfl (W_q (q_assign rfl) rfl ?_))))); clear H a; intro a H
        refine n_nil (then_normal (wp_ret ?_))
        obtain rfl := Option.some.inj hm
        replace hS := hS.dNil (A := A)
        replace hS := hS.pk1
        refine ret2 H (.inr rfl) rfl rfl rfl ?_
        exact ⟨_, _, rfl, hS⟩
theorem g_law14_small_w {w : World} {A : Nat → Addr} {r : GConfig} (hm : g_law14_small = some r) :
    Calls Tryz.prog 57 [].toArray w (Ret fun u w' => ∃ h_0 h_1 h_2 h_3, u = .agg #[.int .i64 r.Ticks, h_0, h_1, h_2, h_3, .int .i64 r.Tries] ∧ St NB w w' [deepR 27 7 RGPlan h_0 r.Parts, ownR 3 1 h_1 r.Homes.length (r.Homes.flatMap eI), ownR 61 3 h_2 r.Windows.length (r.Windows.flatMap eGWindow), ownR 63 4 h_3 r.Links.length (r.Links.flatMap eGLink)]) := by
  have hS := St.begin NB w
  unfold g_law14_small at hm
  refine enter Tryz.func57 rfl rfl rfl ?_; intro a H; dsimp only [enumL, Nat.zero_add, Nat.reduceAdd] at H
  refine wp_seq (wp_region_lit (n_alloc H ze49 rfl ?_))
  clear H; intro b21 w22 hN hE23 hs; clear a; intro a H
  replace hS := hS.newBlk hN hE23 hs; clear hN hs
  refine n_nil (then_normal (wp_seq (wp_region_lit (n_q H (q_build (cs := [.int .i64 5, .string ⟨#[]⟩]) ze167 bd167 pl167 rfl (by kernel_rfl)) rfl ?_)))); clear H a; intro a H
  refine n_buildSlice H Tryz.underlying22 sz167 ze167 rfl rfl rfl (cs := [.int .i64 5, .string ⟨#[]⟩]) (by kernel_rfl) rfl ?_
  clear H; intro b26 w24 hN hE25 hs; clear a; intro a H
  replace hS := hS.newBlk hN hE25 hs; clear hN hs
  replace hS := hS.blkOwnL (e := eGPagePlan) (k := 2) [(⟨5, ⟨#[]⟩⟩ : GPagePlan)] rfl rfl (by simp [maxLen])
  refine n_q H (q_build (cs := [.int .i64 0, .int .i64 0, .bool false]) ze169 bd169 pl169 rfl (by kernel_rfl)) rfl ?_; clear H a; intro a H
  refine n_buildSlice H Tryz.underlying23 sz169 ze169 rfl rfl rfl (cs := [.int .i64 0, .int .i64 0, .bool false]) (by kernel_rfl) rfl ?_
  clear H; intro b30 w28 hN hE29 hs; clear a; intro a H
  replace hS := hS.newBlk hN hE29 hs; clear hN hs
  replace hS := hS.blkOwnL (e := eGProcPlan) (k := 3) [(⟨0, 0, false⟩ : GProcPlan)] rfl rfl (by simp [maxLen])
  refine n_q H (q_build (cs := [.int .i64 4, .int .i64 4, .int .i64 2, .int .i64 0]) ze171 bd171 pl171 rfl (by kernel_rfl)) rfl ?_; clear H a; intro a H
  refine n_buildSlice H Tryz.underlying24 sz171 ze171 rfl rfl rfl (cs := [.int .i64 4, .int .i64 4, .int .i64 2, .int .i64 0]) (by kernel_rfl) rfl ?_
  clear H; intro b34 w32 hN hE33 hs; clear a; intro a H
  replace hS := hS.newBlk hN hE33 hs; clear hN hs
  replace hS := hS.blkOwnL (e := eGPortPlan) (k := 4) [(⟨4, 4, 2, 0⟩ : GPortPlan)] rfl rfl (by simp [maxLen])
  refine n_q H (q_build (cs := [.int .i64 0, .bool false, .slice (some ⟨b26, 0, none⟩) 1 1, .slice (some ⟨b30, 0, none⟩) 1 1, .slice (some ⟨b34, 0, none⟩) 1 1, .int .i64 0, .slice none 0 0]) ze27 bd27 pl27 rfl ((fill1 (((hS.own 2 rfl).slr rfl (fun _ _ => rfl))).one rfl (by simp)).trans ((fill1 (((hS.own 1 rfl).slr rfl (fun _ _ => rfl))).one rfl (by simp)).trans ((fill1 (((hS.own 0 rfl).slr rfl (fun _ _ => rfl))).one rfl (by simp)).trans rfl)))) rfl ?_; clear H a; intro a H
  refine n_alloc H ze27 rfl ?_
  clear H; intro b36 w37 hN hE38 hs; clear a; intro a H
  replace hS := hS.newBlk hN hE38 hs; clear hN hs
  refine n_storeAll H rfl rfl (vs := [.int .i64 0, .bool false, .slice (some ⟨b26, 0, none⟩) 1 1, .slice (some ⟨b30, 0, none⟩) 1 1, .slice (some ⟨b34, 0, none⟩) 1 1, .int .i64 0, .slice none 0 0]) rfl sz27 (hS.blk 0 rfl) rfl (by simp [(((hS.own 3 rfl).slr rfl (fun _ _ => rfl))).one, (((hS.own 2 rfl).slr rfl (fun _ _ => rfl))).one, (((hS.own 1 rfl).slr rfl (fun _ _ => rfl))).one]) ?_
  clear H; intro w39 hN hC40 hz; clear a; intro a H; replace hS := hS.setBlk hN hC40; clear hN hz
  refine n_nil (then_normal (wp_seq (wp_region_lit (n_q H (q_build (cs := [.int .i64 5, .string ⟨#[]⟩]) ze167 bd167 pl167 rfl (by kernel_rfl)) rfl ?_)))); clear H a; intro a H
  refine n_buildSlice H Tryz.underlying22 sz167 ze167 rfl rfl rfl (cs := [.int .i64 5, .string ⟨#[]⟩]) (by kernel_rfl) rfl ?_
  clear H; intro b43 w41 hN hE42 hs; clear a; intro a H
  replace hS := hS.newBlk hN hE42 hs; clear hN hs
  replace hS := hS.blkOwnL (e := eGPagePlan) (k := 2) [(⟨5, ⟨#[]⟩⟩ : GPagePlan)] rfl rfl (by simp [maxLen])
  refine n_q H (q_build (cs := [.int .i64 0, .int .i64 0, .bool false]) ze169 bd169 pl169 rfl (by kernel_rfl)) rfl ?_; clear H a; intro a H
  refine n_buildSlice H Tryz.underlying23 sz169 ze169 rfl rfl rfl (cs := [.int .i64 0, .int .i64 0, .bool false]) (by kernel_rfl) rfl ?_
  clear H; intro b47 w45 hN hE46 hs; clear a; intro a H
  replace hS := hS.newBlk hN hE46 hs; clear hN hs
  replace hS := hS.blkOwnL (e := eGProcPlan) (k := 3) [(⟨0, 0, false⟩ : GProcPlan)] rfl rfl (by simp [maxLen])
  refine n_q H (q_build (cs := [.int .i64 3, .int .i64 4, .int .i64 2, .int .i64 0]) ze171 bd171 pl171 rfl (by kernel_rfl)) rfl ?_; clear H a; intro a H
  refine n_buildSlice H Tryz.underlying24 sz171 ze171 rfl rfl rfl (cs := [.int .i64 3, .int .i64 4, .int .i64 2, .int .i64 0]) (by kernel_rfl) rfl ?_
  clear H; intro b51 w49 hN hE50 hs; clear a; intro a H
  replace hS := hS.newBlk hN hE50 hs; clear hN hs
  replace hS := hS.blkOwnL (e := eGPortPlan) (k := 4) [(⟨3, 4, 2, 0⟩ : GPortPlan)] rfl rfl (by simp [maxLen])
  refine n_q H (q_build (cs := [.int .i64 1, .bool false, .slice (some ⟨b43, 0, none⟩) 1 1, .slice (some ⟨b47, 0, none⟩) 1 1, .slice (some ⟨b51, 0, none⟩) 1 1, .int .i64 0, .slice none 0 0]) ze27 bd27 pl27 rfl ((fill1 rfl rfl (by simp)).trans ((fill1 (((hS.own 2 rfl).slr rfl (fun _ _ => rfl))).one rfl (by simp)).trans ((fill1 (((hS.own 1 rfl).slr rfl (fun _ _ => rfl))).one rfl (by simp)).trans ((fill1 (((hS.own 0 rfl).slr rfl (fun _ _ => rfl))).one rfl (by simp)).trans rfl))))) rfl ?_; clear H a; intro a H
  refine n_alloc H ze27 rfl ?_
  clear H; intro b53 w54 hN hE55 hs; clear a; intro a H
  replace hS := hS.newBlk hN hE55 hs; clear hN hs
  refine n_storeAll H rfl rfl (vs := [.int .i64 1, .bool false, .slice (some ⟨b43, 0, none⟩) 1 1, .slice (some ⟨b47, 0, none⟩) 1 1, .slice (some ⟨b51, 0, none⟩) 1 1, .int .i64 0, .slice none 0 0]) rfl sz27 (hS.blk 0 rfl) rfl (by simp [(((hS.own 3 rfl).slr rfl (fun _ _ => rfl))).one, (((hS.own 2 rfl).slr rfl (fun _ _ => rfl))).one, (((hS.own 1 rfl).slr rfl (fun _ _ => rfl))).one]) ?_
  clear H; intro w56 hN hC57 hz; clear a; intro a H; replace hS := hS.setBlk hN hC57; clear hN hz
  refine n_nil (then_normal (wp_seq (wp_region_lit (n_q H (q_load rfl ((hS.blk 4 rfl).ldAll ag27 sz27)) rfl (W_q (q_load rfl ((hS.blk 0 rfl).ldAll ag27 sz27)) rfl ?_))))); clear H a; intro a H
  refine n_buildSlice H Tryz.underlying45 sz27 ze27 rfl rfl rfl (cs := [.int .i64 0, .bool false, .slice (some ⟨b26, 0, none⟩) 1 1, .slice (some ⟨b30, 0, none⟩) 1 1, .slice (some ⟨b34, 0, none⟩) 1 1, .int .i64 0, .slice none 0 0, .int .i64 1, .bool false, .slice (some ⟨b43, 0, none⟩) 1 1, .slice (some ⟨b47, 0, none⟩) 1 1, .slice (some ⟨b51, 0, none⟩) 1 1, .int .i64 0, .slice none 0 0]) ((fillA (ds := [.int .i64 0, .bool false, .slice (some ⟨b26, 0, none⟩) 1 1, .slice (some ⟨b30, 0, none⟩) 1 1, .slice (some ⟨b34, 0, none⟩) 1 1, .int .i64 0, .slice none 0 0]) rfl rfl rfl (by simp)).trans ((fillA (ds := [.int .i64 1, .bool false, .slice (some ⟨b43, 0, none⟩) 1 1, .slice (some ⟨b47, 0, none⟩) 1 1, .slice (some ⟨b51, 0, none⟩) 1 1, .int .i64 0, .slice none 0 0]) rfl rfl rfl (by simp)).trans rfl)) rfl ?_
  clear H; intro b60 w58 hN hE59 hs; clear a; intro a H
  replace hS := hS.newBlk hN hE59 hs; clear hN hs
  refine n_buildSlice H Tryz.underlying25 sz3 ze3 rfl rfl rfl (cs := [.int .i64 0, .int .i64 0]) (by kernel_rfl) rfl ?_
  clear H; intro b63 w61 hN hE62 hs; clear a; intro a H
  replace hS := hS.newBlk hN hE62 hs; clear hN hs
  replace hS := hS.blkOwnL (e := eI) (k := 1) [0, 0] rfl rfl (by simp [maxLen])
  refine n_q H (q_build (cs := [.int .i64 0, .int .i64 0, .int .i64 40]) ze61 bd61 pl61 rfl (by kernel_rfl)) rfl (W_q (q_build (cs := [.int .i64 (-1), .int .i64 50, .int .i64 10]) ze61 bd61 pl61 rfl (by kernel_rfl)) rfl (W_q (q_build (cs := [.int .i64 1, .int .i64 60, .int .i64 20]) ze61 bd61 pl61 rfl (by kernel_rfl)) rfl (W_q (q_build (cs := [.int .i64 0, .int .i64 80, .int .i64 20]) ze61 bd61 pl61 rfl (by kernel_rfl)) rfl ?_))); clear H a; intro a H
  refine n_buildSlice H Tryz.underlying46 sz61 ze61 rfl rfl rfl (cs := [.int .i64 0, .int .i64 0, .int .i64 40, .int .i64 (-1), .int .i64 50, .int .i64 10, .int .i64 1, .int .i64 60, .int .i64 20, .int .i64 0, .int .i64 80, .int .i64 20]) (by kernel_rfl) rfl ?_
  clear H; intro b67 w65 hN hE66 hs; clear a; intro a H
  replace hS := hS.newBlk hN hE66 hs; clear hN hs
  replace hS := hS.blkOwnL (e := eGWindow) (k := 3) [(⟨0, 0, 40⟩ : GWindow), (⟨(-1), 50, 10⟩ : GWindow), (⟨1, 60, 20⟩ : GWindow), (⟨0, 80, 20⟩ : GWindow)] rfl rfl (by simp [maxLen])
  refine n_q H (q_build (cs := [.int .i64 0, .int .i64 0, .int .i64 1, .int .i64 0]) ze63 bd63 pl63 rfl (by kernel_rfl)) rfl ?_; clear H a; intro a H
  refine n_buildSlice H Tryz.underlying47 sz63 ze63 rfl rfl rfl (cs := [.int .i64 0, .int .i64 0, .int .i64 1, .int .i64 0]) (by kernel_rfl) rfl ?_
  clear H; intro b71 w69 hN hE70 hs; clear a; intro a H
  replace hS := hS.newBlk hN hE70 hs; clear hN hs
  replace hS := hS.blkOwnL (e := eGLink) (k := 4) [(⟨0, 0, 1, 0⟩ : GLink)] rfl rfl (by simp [maxLen])
  refine n_q H (q_build (cs := [.int .i64 100, .slice (some ⟨b60, 0, none⟩) 2 2, .slice (some ⟨b63, 0, none⟩) 2 2, .slice (some ⟨b67, 0, none⟩) 4 4, .slice (some ⟨b71, 0, none⟩) 1 1, .int .i64 5]) ze49 bd49 pl49 rfl ((fill1 rfl rfl (by simp)).trans ((fill1 rfl rfl (by simp)).trans ((fill1 ((SlR.ofBlk (k := 7) (R := RGPlan) [[.int .i64 0, .bool false, .slice (some ⟨b26, 0, none⟩) 1 1, .slice (some ⟨b30, 0, none⟩) 1 1, .slice (some ⟨b34, 0, none⟩) 1 1, .int .i64 0, .slice none 0 0], [.int .i64 1, .bool false, .slice (some ⟨b43, 0, none⟩) 1 1, .slice (some ⟨b47, 0, none⟩) 1 1, .slice (some ⟨b51, 0, none⟩) 1 1, .int .i64 0, .slice none 0 0]] [(⟨0, false, [(⟨5, ⟨#[]⟩⟩ : GPagePlan)], [(⟨0, 0, false⟩ : GProcPlan)], [(⟨4, 4, 2, 0⟩ : GPortPlan)], 0, ([] : List Int)⟩ : GPlan), (⟨1, false, [(⟨5, ⟨#[]⟩⟩ : GPagePlan)], [(⟨0, 0, false⟩ : GProcPlan)], [(⟨3, 4, 2, 0⟩ : GPortPlan)], 0, ([] : List Int)⟩ : GPlan)] (hS.blk 3 rfl) (DIn.cons rfl (by simp [(((hS.own 11 rfl).slr rfl (fun _ _ => rfl))).one, (((hS.own 10 rfl).slr rfl (fun _ _ => rfl))).one, (((hS.own 9 rfl).slr rfl (fun _ _ => rfl))).one]) (⟨_, _, _, _, rfl, ((hS.own 11 rfl).slr rfl (fun _ _ => rfl)), ((hS.own 10 rfl).slr rfl (fun _ _ => rfl)), ((hS.own 9 rfl).slr rfl (fun _ _ => rfl)), (SlR.nil _ 1 (Flat eI))⟩ : RGPlan _ [.int .i64 0, .bool false, .slice (some ⟨b26, 0, none⟩) 1 1, .slice (some ⟨b30, 0, none⟩) 1 1, .slice (some ⟨b34, 0, none⟩) 1 1, .int .i64 0, .slice none 0 0] (⟨0, false, [(⟨5, ⟨#[]⟩⟩ : GPagePlan)], [(⟨0, 0, false⟩ : GProcPlan)], [(⟨4, 4, 2, 0⟩ : GPortPlan)], 0, ([] : List Int)⟩ : GPlan)) (DIn.cons rfl (by simp [(((hS.own 7 rfl).slr rfl (fun _ _ => rfl))).one, (((hS.own 6 rfl).slr rfl (fun _ _ => rfl))).one, (((hS.own 5 rfl).slr rfl (fun _ _ => rfl))).one]) (⟨_, _, _, _, rfl, ((hS.own 7 rfl).slr rfl (fun _ _ => rfl)), ((hS.own 6 rfl).slr rfl (fun _ _ => rfl)), ((hS.own 5 rfl).slr rfl (fun _ _ => rfl)), (SlR.nil _ 1 (Flat eI))⟩ : RGPlan _ [.int .i64 1, .bool false, .slice (some ⟨b43, 0, none⟩) 1 1, .slice (some ⟨b47, 0, none⟩) 1 1, .slice (some ⟨b51, 0, none⟩) 1 1, .int .i64 0, .slice none 0 0] (⟨1, false, [(⟨5, ⟨#[]⟩⟩ : GPagePlan)], [(⟨0, 0, false⟩ : GProcPlan)], [(⟨3, 4, 2, 0⟩ : GPortPlan)], 0, ([] : List Int)⟩ : GPlan)) trivial)) rfl (by simp [maxLen]))).one rfl (by simp)).trans ((fill1 (((hS.own 2 rfl).slr rfl (fun _ _ => rfl))).one rfl (by simp)).trans ((fill1 (((hS.own 1 rfl).slr rfl (fun _ _ => rfl))).one rfl (by simp)).trans ((fill1 (((hS.own 0 rfl).slr rfl (fun _ _ => rfl))).one rfl (by simp)).trans rfl))))))) rfl ?_; clear H a; intro a H
  replace hS := hS.pick 12 rfl; dsimp only [List.eraseIdx] at hS
  refine n_storeAll H rfl rfl (vs := [.int .i64 100, .slice (some ⟨b60, 0, none⟩) 2 2, .slice (some ⟨b63, 0, none⟩) 2 2, .slice (some ⟨b67, 0, none⟩) 4 4, .slice (some ⟨b71, 0, none⟩) 1 1, .int .i64 5]) rfl sz49 (hS.blk 0 rfl) rfl (by simp [((SlR.ofBlk (k := 7) (R := RGPlan) [[.int .i64 0, .bool false, .slice (some ⟨b26, 0, none⟩) 1 1, .slice (some ⟨b30, 0, none⟩) 1 1, .slice (some ⟨b34, 0, none⟩) 1 1, .int .i64 0, .slice none 0 0], [.int .i64 1, .bool false, .slice (some ⟨b43, 0, none⟩) 1 1, .slice (some ⟨b47, 0, none⟩) 1 1, .slice (some ⟨b51, 0, none⟩) 1 1, .int .i64 0, .slice none 0 0]] [(⟨0, false, [(⟨5, ⟨#[]⟩⟩ : GPagePlan)], [(⟨0, 0, false⟩ : GProcPlan)], [(⟨4, 4, 2, 0⟩ : GPortPlan)], 0, ([] : List Int)⟩ : GPlan), (⟨1, false, [(⟨5, ⟨#[]⟩⟩ : GPagePlan)], [(⟨0, 0, false⟩ : GProcPlan)], [(⟨3, 4, 2, 0⟩ : GPortPlan)], 0, ([] : List Int)⟩ : GPlan)] (hS.blk 4 rfl) (DIn.cons rfl (by simp [(((hS.own 12 rfl).slr rfl (fun _ _ => rfl))).one, (((hS.own 11 rfl).slr rfl (fun _ _ => rfl))).one, (((hS.own 10 rfl).slr rfl (fun _ _ => rfl))).one]) (⟨_, _, _, _, rfl, ((hS.own 12 rfl).slr rfl (fun _ _ => rfl)), ((hS.own 11 rfl).slr rfl (fun _ _ => rfl)), ((hS.own 10 rfl).slr rfl (fun _ _ => rfl)), (SlR.nil _ 1 (Flat eI))⟩ : RGPlan _ [.int .i64 0, .bool false, .slice (some ⟨b26, 0, none⟩) 1 1, .slice (some ⟨b30, 0, none⟩) 1 1, .slice (some ⟨b34, 0, none⟩) 1 1, .int .i64 0, .slice none 0 0] (⟨0, false, [(⟨5, ⟨#[]⟩⟩ : GPagePlan)], [(⟨0, 0, false⟩ : GProcPlan)], [(⟨4, 4, 2, 0⟩ : GPortPlan)], 0, ([] : List Int)⟩ : GPlan)) (DIn.cons rfl (by simp [(((hS.own 8 rfl).slr rfl (fun _ _ => rfl))).one, (((hS.own 7 rfl).slr rfl (fun _ _ => rfl))).one, (((hS.own 6 rfl).slr rfl (fun _ _ => rfl))).one]) (⟨_, _, _, _, rfl, ((hS.own 8 rfl).slr rfl (fun _ _ => rfl)), ((hS.own 7 rfl).slr rfl (fun _ _ => rfl)), ((hS.own 6 rfl).slr rfl (fun _ _ => rfl)), (SlR.nil _ 1 (Flat eI))⟩ : RGPlan _ [.int .i64 1, .bool false, .slice (some ⟨b43, 0, none⟩) 1 1, .slice (some ⟨b47, 0, none⟩) 1 1, .slice (some ⟨b51, 0, none⟩) 1 1, .int .i64 0, .slice none 0 0] (⟨1, false, [(⟨5, ⟨#[]⟩⟩ : GPagePlan)], [(⟨0, 0, false⟩ : GProcPlan)], [(⟨3, 4, 2, 0⟩ : GPortPlan)], 0, ([] : List Int)⟩ : GPlan)) trivial)) rfl (by simp [maxLen]))).one, (((hS.own 3 rfl).slr rfl (fun _ _ => rfl))).one, (((hS.own 2 rfl).slr rfl (fun _ _ => rfl))).one, (((hS.own 1 rfl).slr rfl (fun _ _ => rfl))).one]) ?_
  clear H; intro w73 hN hC74 hz; clear a; intro a H; replace hS := hS.setBlk hN hC74; clear hN hz
  refine n_nil (then_normal (wp_ret ?_))
  obtain rfl := Option.some.inj hm
  replace hS := hS.pick 12 rfl; dsimp only [List.eraseIdx] at hS
  replace hS := hS.ownAny (F := (fun w' => SlR w' 2 (Flat eGPagePlan) (.slice (some ⟨b26, 0, none⟩) 1 1) [(⟨5, ⟨#[]⟩⟩ : GPagePlan)])) (fun w' hO => hO.slr rfl (fun _ _ => rfl))
  replace hS := hS.pick 12 rfl; dsimp only [List.eraseIdx] at hS
  replace hS := hS.ownAny (F := (fun w' => SlR w' 3 (Flat eGProcPlan) (.slice (some ⟨b30, 0, none⟩) 1 1) [(⟨0, 0, false⟩ : GProcPlan)])) (fun w' hO => hO.slr rfl (fun _ _ => rfl))
  replace hS := hS.pick 12 rfl; dsimp only [List.eraseIdx] at hS
  replace hS := hS.ownAny (F := (fun w' => SlR w' 4 (Flat eGPortPlan) (.slice (some ⟨b34, 0, none⟩) 1 1) [(⟨4, 4, 2, 0⟩ : GPortPlan)])) (fun w' hO => hO.slr rfl (fun _ _ => rfl))
  replace hS := hS.pick 11 rfl; dsimp only [List.eraseIdx] at hS
  replace hS := hS.ownAny (F := (fun w' => SlR w' 2 (Flat eGPagePlan) (.slice (some ⟨b43, 0, none⟩) 1 1) [(⟨5, ⟨#[]⟩⟩ : GPagePlan)])) (fun w' hO => hO.slr rfl (fun _ _ => rfl))
  replace hS := hS.pick 11 rfl; dsimp only [List.eraseIdx] at hS
  replace hS := hS.ownAny (F := (fun w' => SlR w' 3 (Flat eGProcPlan) (.slice (some ⟨b47, 0, none⟩) 1 1) [(⟨0, 0, false⟩ : GProcPlan)])) (fun w' hO => hO.slr rfl (fun _ _ => rfl))
  replace hS := hS.pick 11 rfl; dsimp only [List.eraseIdx] at hS
  replace hS := hS.ownAny (F := (fun w' => SlR w' 4 (Flat eGPortPlan) (.slice (some ⟨b51, 0, none⟩) 1 1) [(⟨3, 4, 2, 0⟩ : GPortPlan)])) (fun w' hO => hO.slr rfl (fun _ _ => rfl))
  replace hS := hS.pk1
  replace hS := hS.pk2
  replace hS := hS.pk3
  replace hS := hS.pk4
  replace hS := hS.pk5
  replace hS := hS.anyAnd
  replace hS := hS.anyAnd
  replace hS := hS.anyAnd
  replace hS := hS.anyAnd
  replace hS := hS.anyAnd
  replace hS := hS.anyMono (G := DIn 7 RGPlan [[.int .i64 0, .bool false, .slice (some ⟨b26, 0, none⟩) 1 1, .slice (some ⟨b30, 0, none⟩) 1 1, .slice (some ⟨b34, 0, none⟩) 1 1, .int .i64 0, .slice none 0 0], [.int .i64 1, .bool false, .slice (some ⟨b43, 0, none⟩) 1 1, .slice (some ⟨b47, 0, none⟩) 1 1, .slice (some ⟨b51, 0, none⟩) 1 1, .int .i64 0, .slice none 0 0]] [(⟨0, false, [(⟨5, ⟨#[]⟩⟩ : GPagePlan)], [(⟨0, 0, false⟩ : GProcPlan)], [(⟨4, 4, 2, 0⟩ : GPortPlan)], 0, ([] : List Int)⟩ : GPlan), (⟨1, false, [(⟨5, ⟨#[]⟩⟩ : GPagePlan)], [(⟨0, 0, false⟩ : GProcPlan)], [(⟨3, 4, 2, 0⟩ : GPortPlan)], 0, ([] : List Int)⟩ : GPlan)]) (fun w' hw => (DIn.cons rfl (by simp [hw.1.1.1.1.1.one, hw.1.1.1.1.2.one, hw.1.1.1.2.one]) ⟨_, _, _, _, rfl, hw.1.1.1.1.1, hw.1.1.1.1.2, hw.1.1.1.2, (SlR.nil _ _ _)⟩ (DIn.cons rfl (by simp [hw.1.1.2.one, hw.1.2.one, hw.2.one]) ⟨_, _, _, _, rfl, hw.1.1.2, hw.1.2, hw.2, (SlR.nil _ _ _)⟩ trivial)))
  replace hS := hS.pk5
  replace hS := hS.litDeep (n := 2) [[.int .i64 0, .bool false, .slice (some ⟨b26, 0, none⟩) 1 1, .slice (some ⟨b30, 0, none⟩) 1 1, .slice (some ⟨b34, 0, none⟩) 1 1, .int .i64 0, .slice none 0 0], [.int .i64 1, .bool false, .slice (some ⟨b43, 0, none⟩) 1 1, .slice (some ⟨b47, 0, none⟩) 1 1, .slice (some ⟨b51, 0, none⟩) 1 1, .int .i64 0, .slice none 0 0]] [(⟨0, false, [(⟨5, ⟨#[]⟩⟩ : GPagePlan)], [(⟨0, 0, false⟩ : GProcPlan)], [(⟨4, 4, 2, 0⟩ : GPortPlan)], 0, ([] : List Int)⟩ : GPlan), (⟨1, false, [(⟨5, ⟨#[]⟩⟩ : GPagePlan)], [(⟨0, 0, false⟩ : GProcPlan)], [(⟨3, 4, 2, 0⟩ : GPortPlan)], 0, ([] : List Int)⟩ : GPlan)] rfl (by simp [maxLen]) rfl
  replace hS := hS.pk1
  replace hS := hS.pk2
  replace hS := hS.pk3
  replace hS := hS.pk4
  replace hS := hS.pk4
  replace hS := hS.tk5
  refine retL H (.inr rfl) rfl (vs := [.agg #[.int .i64 100, .slice (some ⟨b60, 0, none⟩) 2 2, .slice (some ⟨b63, 0, none⟩) 2 2, .slice (some ⟨b67, 0, none⟩) 4 4, .slice (some ⟨b71, 0, none⟩) 1 1, .int .i64 5]]) (resCell rfl ((hS.blk 4 rfl).ldAll ag49 sz49) resNil) ?_
  replace hS := hS.tk4
  exact ⟨_, _, _, _, rfl, hS⟩
theorem g_frame_Windows_w {w : World} {A : Nat → Addr} {cs0 : List Value} {a0 : GConfig} {a1 : Int} (hG : EV A w) (h0 : RGConfig w cs0 a0) {r : List GWindow × ErrM} (hm : g_frame_Windows a0 a1 = some r) :
    Calls Tryz.prog 32 [.agg cs0.toArray, .int .i64 a1].toArray w (Ret fun u w' => ∃ h_0 h_1, u = .tuple #[h_0, h_1] ∧ St NB w w' [ownR 61 3 h_0 r.1.length (r.1.flatMap eGWindow), erQ A h_1 r.2]) := by
  obtain ⟨vp0_0, vp0_1, vp0_2, vp0_3, rfl, hrp0_0, hrp0_1, hrp0_2, hrp0_3⟩ := h0
  have hS := St.begin NB w
  unfold g_frame_Windows at hm
  refine enter Tryz.func32 rfl rfl rfl ?_; intro a H; dsimp only [enumL, Nat.zero_add, Nat.reduceAdd] at H
  refine wp_seq (wp_region_lit (n_box H rfl (cs := [.int .i64 a0.Ticks, vp0_0, vp0_1, vp0_2, vp0_3, .int .i64 a0.Tries]) rfl rfl ?_))
  clear H; intro b21 w22 hN hE23 hs; clear a; intro a H
  replace hS := hS.newBlk hN hE23 hs; clear hN hs
  refine n_q H (q_assign rfl) rfl (W_q (q_assign rfl) rfl ?_); clear H a; intro a H
  refine n_nil (then_normal (wp_seq (wp_seq (wp_region_lit (n_q H (q_load rfl ((hS.blk 0 rfl).ldAll ag49 sz49)) rfl ?_))))); clear H a; intro a H
  replace hm := bindS hm; obtain ⟨r24, hr24, hm⟩ := hm
  refine n_call H rfl en28 (g_frame_Check_w (A := A) (hG.ext hS.x) (⟨_, _, _, _, rfl, (hrp0_0.ext RGPlan.mono hS.x), (hrp0_1.ext (Flat.mono _) hS.x), (hrp0_2.ext (Flat.mono _) hS.x), (hrp0_3.ext (Flat.mono _) hS.x)⟩ : RGConfig _ [.int .i64 a0.Ticks, vp0_0, vp0_1, vp0_2, vp0_3, .int .i64 a0.Tries] a0) hr24) rfl ?_
  clear H; intro u25 w27 hv; clear a; intro a H; obtain ⟨_, rfl, hE28⟩ := hv
  replace hS := hS.new hE28; simp only [List.cons_append, List.nil_append] at hS
  refine n_q H (q_cast (q_nnilI Tryz.underlying41 rfl rfl (hS.any 0 rfl : IsE A w27 u25 r24).form) (show _ = Value.bool (!decide (r24 = .nil)) by rw [IsErr.isNil (hS.any 0 rfl : IsE A w27 u25 r24)])) rfl ?_; clear H a; intro a H
  refine n_nil (then_normal (c_cond H rfl (fun hc30 => ?_) (fun hc30 => ?_)))
  · replace hm := condT hm hc30
    refine wp_seq (c_quiet (by kernel_rfl) (by kernel_rfl) ?_)
    refine qq_q H (q_load rfl ((hG.ext hS.x).ld gPlan (by decide) ag41)) rfl ?_; clear H a; intro a H
    refine qq_q H (q_assign rfl) rfl ?_; clear H a; intro a H
    refine qq_q H (q_assign rfl) rfl ?_; clear H a; intro a H
    refine qq_nil ?_; intro w31 hE32
    replace hS := hS.ext hE32
    refine then_normal (wp_ret (then_ret ?_))
    obtain rfl := Option.some.inj hm
    replace hS := hS.nilOwn 61 3
    replace hS := hS.dVar (A := A) (g := gPlan) (by decide)
    replace hS := hS.pk1
    replace hS := hS.tk2
    refine ret2 H (.inr rfl) rfl rfl rfl ?_
    exact ⟨_, _, rfl, hS⟩
  · replace hm := condF hm hc30
    refine wp_skip (then_normal (wp_seq (wp_seq (wp_region_lit (n_q H (q_load rfl ((hS.blk 1 rfl).ldAll ag49 sz49)) rfl (W_q (q_move rfl) rfl ?_)))))); clear H a; intro a H
    replace hm := bindS hm; obtain ⟨r35, hr35, hm⟩ := hm
    refine n_call H rfl en85 (g_frame_owner_w (A := A) (⟨_, _, _, _, rfl, (hrp0_0.ext RGPlan.mono hS.x), (hrp0_1.ext (Flat.mono _) hS.x), (hrp0_2.ext (Flat.mono _) hS.x), (hrp0_3.ext (Flat.mono _) hS.x)⟩ : RGConfig _ [.int .i64 a0.Ticks, vp0_0, vp0_1, vp0_2, vp0_3, .int .i64 a0.Tries] a0) hr35) rfl ?_
    clear H; intro x38 w36 hv; clear a; intro a H; obtain ⟨rfl, hE37⟩ := hv
    replace hS := hS.ext hE37
    refine n_q H (q_not rfl) rfl ?_; clear H a; intro a H
    refine n_nil (then_normal (c_cond H rfl (fun hc39 => ?_) (fun hc39 => ?_)))
    · replace hm := condT hm hc39
      refine wp_seq (c_quiet (by kernel_rfl) (by kernel_rfl) ?_)
      refine qq_q H (q_load rfl ((hG.ext hS.x).ld gArg (by decide) ag41)) rfl ?_; clear H a; intro a H
      refine qq_q H (q_assign rfl) rfl ?_; clear H a; intro a H
      refine qq_q H (q_assign rfl) rfl ?_; clear H a; intro a H
      refine qq_nil ?_; intro w40 hE41
      replace hS := hS.ext hE41
      refine then_normal (wp_ret (then_ret ?_))
      obtain rfl := Option.some.inj hm
      replace hS := hS.nilOwn 61 3
      replace hS := hS.dVar (A := A) (g := gArg) (by decide)
      replace hS := hS.pk1
      replace hS := hS.tk2
      refine ret2 H (.inr rfl) rfl rfl rfl ?_
      exact ⟨_, _, rfl, hS⟩
    · replace hm := condF hm hc39
      refine wp_skip (then_normal (wp_seq (wp_region_lit (n_q H (q_assign rfl) rfl ?_)))); clear H a; intro a H
      refine n_nil (then_normal (wp_seq (wp_seq (wp_region_lit (n_q H (q_fieldAddr0 rfl fo49_3) rfl (W_q (q_load rfl ((hS.blk 1 rfl).ld ag46 rfl)) rfl ?_)))))); clear H a; intro a H
      obtain ⟨A44, c44, hv44, hl44, hm44⟩ := SlR.formV (hrp0_2.ext (Flat.mono _) hS.x)
      refine n_q H (q_lenV Tryz.underlying46 rfl hv44) rfl (W_q (q_move rfl) rfl ?_); clear H a; intro a H
      refine n_nil (then_normal (wp_block ?_))
      replace hS := hS.nilOwn 61 3
      replace hS := hS.tk1
      replace hm := bindS hm; obtain ⟨q45, hm, hm45⟩ := hm; replace hm := iter_some hm; obtain ⟨n45, hm⟩ := hm
      refine c_loop (σ := Nat × (List GWindow) × Nat × Value) (fun (m, l46, i49, v47) => [(1, .int .i64 a1), (6, v47), (19, vp0_2), (20, .int .i64 ((a0.Windows.length : Nat) : Int)), (21, .int .i64 ((i49 : Nat) : Int))]) (fun (m, l46, i49, v47) wl => iterN (g_frame_Windows_L4 a0 a1) m (l46, i49) = some q45 ∧ St NB w wl [ownR 61 3 v47 l46.length (l46.flatMap eGWindow)]) (fun (m, l46, i49, v47) => m) (n45, ([] : List GWindow), 0, .slice none 0 0) H ⟨rfl, rfl, rfl, rfl, rfl, trivial⟩ ⟨hm, hS⟩ ?_
      clear H hS hm a; intro xx a w51 H hR; obtain ⟨m, l46, i49, v47⟩ := xx; simp only [ent, List.map_cons, List.map_nil] at H; (try dsimp only at hR); obtain ⟨hm, hS⟩ := hR
      replace hm := iterN_step hm; obtain ⟨m45, o45, rfl, hm, hn45⟩ := hm; try dsimp only [g_frame_Windows_L4] at hm
      refine wp_seq (wp_region_lit (n_q H (q_lssN (i := i49) (j := a0.Windows.length) rfl rfl) rfl ?_)); clear H a; intro a H
      refine n_nil (then_normal (wp_seq (c_cond H rfl (fun hc52 => ?_) (fun hc52 => ?_))))
      · replace hm := condT hm hc52
        have hlt53 : i49 < a0.Windows.length := of_decide_eq_true hc52
        refine wp_skip (then_normal ?_)
        replace hm := bindS hm; obtain ⟨j54, hm, hm54⟩ := hm
        refine c_join (σ := (List GWindow) × Value) H (fun (l555, v556) => [(1, .int .i64 a1), (6, v556), (19, vp0_2), (20, .int .i64 ((a0.Windows.length : Nat) : Int)), (21, .int .i64 ((i49 : Nat) : Int))]) (fun (l555, v556) wl => (g_frame_Windows_J3 i49) l555 = some o45 ∧ St NB w wl [ownR 61 3 v556 l555.length (l555.flatMap eGWindow)]) ?_ ?_
        · skip
          refine wp_block (wp_seq (wp_region_lit ?_))
          replace hm := bindS hm; obtain ⟨x558, hx558, hm⟩ := hm
          obtain ⟨adx558, hAx558⟩ := SlR.adV (hrp0_2.ext (Flat.mono _) hS.x) hv44 hx558
          refine n_q H (q_ixV (i := i49) Tryz.underlying46 sz61 rfl hv44 hAx558 rfl (natI hx558)) rfl (W_q (q_load rfl (SlR.ldAggV (hrp0_2.ext (Flat.mono _) hS.x) hv44 hAx558 ag61 sz61 hx558)) rfl ?_); clear H a; intro a H
          refine n_alloc H ze61 rfl ?_
          clear H; intro b559 w560 hN hE561 hs; clear a; intro a H
          replace hS := hS.newBlk hN hE561 hs; clear hN hs
          refine n_storeAll H rfl rfl (vs := [.int .i64 x558.Part, .int .i64 x558.Start, .int .i64 x558.Len]) rfl sz61 (hS.blk 0 rfl) rfl (by simp) ?_
          clear H; intro w562 hN hC563 hz; clear a; intro a H; replace hS := hS.setBlk hN hC563; clear hN hz
          refine n_nil (then_normal (wp_seq (wp_region_lit (n_q H (q_fieldAddr0 rfl fo61_0) rfl (W_q (q_load rfl ((hS.blk 0 rfl).ld ag3 rfl)) rfl (W_q (q_move rfl) rfl (W_q (q_eqlD rfl rfl) rfl ?_))))))); clear H a; intro a H
          refine n_nil (then_normal (c_cond H rfl (fun hc564 => ?_) (fun hc564 => ?_)))
          · replace hm := condT hm hc564
            refine wp_region_lit (n_q H (q_move rfl) rfl (W_q (q_load rfl ((hS.blk 0 rfl).ldAll ag61 sz61)) rfl ?_)); clear H a; intro a H
            refine n_buildSlice H Tryz.underlying46 sz61 ze61 rfl rfl rfl (cs := [.int .i64 x558.Part, .int .i64 x558.Start, .int .i64 x558.Len]) (by kernel_rfl) rfl ?_
            clear H; intro b567 w565 hN hE566 hs; clear a; intro a H
            replace hS := hS.newBlk hN hE566 hs; clear hN hs
            replace hS := hS.blkOwnL (e := eGWindow) (k := 3) [x558] rfl rfl (by simp [maxLen])
            replace hS := hS.pk2
            replace hm := chkS hm; obtain ⟨hk569, hm⟩ := hm
            refine n_app (e := eGWindow) H rfl rfl Tryz.underlying46 Tryz.underlying46 (by simp) el61 (hS.own 0 rfl) (((hS.own 1 rfl).slr rfl (fun _ _ => rfl)).src (fun _ _ => rfl)) eGWindow_one hk569 (by simp only [maxLen]; omega) rfl ?_
            clear H; intro v572 w570 hN hC571 hb; clear a; intro a H; replace hS := hS.setOwn hN hC571 hb; clear hN hb
            refine n_q H (q_assign rfl) rfl ?_; clear H a; intro a H
            refine n_nil (block_normal (then_normal ?_))
            obtain rfl := Option.some.inj hm; replace hm := hm54; try dsimp only at hm
            replace hS := hS.tk1
            exact join ((l46 ++ [x558]), v572) H ⟨rfl, rfl, rfl, rfl, rfl, trivial⟩ ⟨hm, hS⟩
          · replace hm := condF hm hc564
            refine wp_skip (block_normal (then_normal ?_))
            obtain rfl := Option.some.inj hm; replace hm := hm54; try dsimp only at hm
            replace hS := hS.pk1
            replace hS := hS.tk1
            exact join (l46, v47) H ⟨rfl, rfl, rfl, rfl, rfl, trivial⟩ ⟨hm, hS⟩
        · clear H hS hm a; intro xx a w574 H hR
          obtain ⟨l555, v556⟩ := xx
          simp only [ent, List.map_cons, List.map_nil] at H; (try dsimp only at hR); obtain ⟨hm, hS⟩ := hR; try dsimp only [g_frame_Windows_J3] at hm
          refine wp_region_lit (n_q H (q_incr (i := i49) (j := 1) rfl rfl (by omega)) rfl (W_q (q_move rfl) rfl ?_)); clear H a; intro a H
          refine n_nil (then_normal ?_)
          obtain rfl := Option.some.inj hm
          exact round (m45, l555, i49 + 1, v556) H ⟨rfl, rfl, rfl, rfl, rfl, trivial⟩ ⟨hn45, hS⟩ (Nat.lt_succ_self _)
      · replace hm := condF hm hc52
        refine wp_exit (then_exit (then_exit (block_exit ?_)))
        obtain rfl := Option.some.inj hm; have hz : _ = q45 := hn45; subst hz; replace hm := hm45; try dsimp only at hm
        refine then_normal (wp_seq (wp_region_lit (n_q H (q_move rfl) rfl (W_q (q_assign rfl) rfl (W_q (q_assign rfl) rfl ?_))))); clear H a; intro a H
        refine n_nil (then_normal (wp_ret ?_))
        obtain rfl := Option.some.inj hm
        replace hS := hS.dNil (A := A)
        replace hS := hS.pk1
        refine ret2 H (.inr rfl) rfl rfl rfl ?_
        exact ⟨_, _, rfl, hS⟩
theorem g_frame_sum_w {w : World} {A : Nat → Addr} {v0 : Value} {a0 : List GWindow} (h0 : SlR w 3 (Flat eGWindow) v0 a0) {r : Int} (hm : g_frame_sum a0 = some r) :
    Calls Tryz.prog 62 [v0].toArray w (Ret fun u w' => u = .int .i64 r ∧ Ext w w') := by
  have hS := St.begin NB w
  unfold g_frame_sum at hm
  refine enter Tryz.func62 rfl rfl rfl ?_; intro a H; dsimp only [enumL, Nat.zero_add, Nat.reduceAdd] at H
  refine wp_seq (wp_region_lit (n_q H (q_assign rfl) rfl ?_)); clear H a; intro a H
  refine n_nil (then_normal (wp_seq (wp_region_lit (n_q H (q_assign rfl) rfl ?_)))); clear H a; intro a H
  refine n_nil (then_normal (wp_seq (wp_seq (wp_region_lit (n_q H (q_move rfl) rfl ?_))))); clear H a; intro a H
  obtain ⟨A21, c21, hv21, hl21, hm21⟩ := SlR.formV (h0.ext (Flat.mono _) hS.x)
  refine n_q H (q_lenV Tryz.underlying46 rfl hv21) rfl (W_q (q_move rfl) rfl ?_); clear H a; intro a H
  refine n_nil (then_normal (wp_block ?_))
  replace hm := bindS hm; obtain ⟨q22, hm, hm22⟩ := hm; replace hm := iter_some hm; obtain ⟨n22, hm⟩ := hm
  refine c_loop (σ := Nat × Int × Nat) (fun (m, z25, i24) => [(3, .int .i64 z25), (6, v0), (7, .int .i64 ((a0.length : Nat) : Int)), (8, .int .i64 ((i24 : Nat) : Int))]) (fun (m, z25, i24) wl => iterN (g_frame_sum_L1 a0) m (z25, i24) = some q22 ∧ St NB w wl []) (fun (m, z25, i24) => m) (n22, 0, 0) H ⟨rfl, rfl, rfl, rfl, trivial⟩ ⟨hm, hS⟩ ?_
  clear H hS hm a; intro xx a w26 H hR; obtain ⟨m, z25, i24⟩ := xx; simp only [ent, List.map_cons, List.map_nil] at H; (try dsimp only at hR); obtain ⟨hm, hS⟩ := hR
  replace hm := iterN_step hm; obtain ⟨m22, o22, rfl, hm, hn22⟩ := hm; try dsimp only [g_frame_sum_L1] at hm
  refine wp_seq (wp_region_lit (n_q H (q_lssN (i := i24) (j := a0.length) rfl rfl) rfl ?_)); clear H a; intro a H
  refine n_nil (then_normal (wp_seq (c_cond H rfl (fun hc27 => ?_) (fun hc27 => ?_))))
  · replace hm := condT hm hc27
    have hlt28 : i24 < a0.length := of_decide_eq_true hc27
    refine wp_skip (then_normal (wp_seq (wp_block (wp_seq (wp_region_lit ?_)))))
    replace hm := bindS hm; obtain ⟨x29, hx29, hm⟩ := hm
    obtain ⟨adx29, hAx29⟩ := SlR.adV (h0.ext (Flat.mono _) hS.x) hv21 hx29
    refine n_q H (q_ixV (i := i24) Tryz.underlying46 sz61 rfl hv21 hAx29 rfl (natI hx29)) rfl (W_q (q_load rfl (SlR.ldAggV (h0.ext (Flat.mono _) hS.x) hv21 hAx29 ag61 sz61 hx29)) rfl ?_); clear H a; intro a H
    refine n_alloc H ze61 rfl ?_
    clear H; intro b30 w31 hN hE32 hs; clear a; intro a H
    replace hS := hS.newBlk hN hE32 hs; clear hN hs
    refine n_storeAll H rfl rfl (vs := [.int .i64 x29.Part, .int .i64 x29.Start, .int .i64 x29.Len]) rfl sz61 (hS.blk 0 rfl) rfl (by simp) ?_
    clear H; intro w33 hN hC34 hz; clear a; intro a H; replace hS := hS.setBlk hN hC34; clear hN hz
    refine n_nil (then_normal (wp_region_lit (n_q H (q_move rfl) rfl (W_q (q_fieldAddr0 rfl fo61_2) rfl (W_q (q_load rfl ((hS.blk 0 rfl).ld ag3 rfl)) rfl (W_q (q_addW rfl rfl) rfl (W_q (q_assign rfl) rfl ?_))))))); clear H a; intro a H
    refine n_nil (block_normal (then_normal (wp_region_lit (n_q H (q_incr (i := i24) (j := 1) rfl rfl (by omega)) rfl (W_q (q_move rfl) rfl ?_))))); clear H a; intro a H
    refine n_nil (then_normal ?_)
    obtain rfl := Option.some.inj hm
    replace hS := hS.tk0
    exact round (m22, (IntKind.i64.wrap (z25 + x29.Len)), i24 + 1) H ⟨rfl, rfl, rfl, rfl, trivial⟩ ⟨hn22, hS⟩ (Nat.lt_succ_self _)
  · replace hm := condF hm hc27
    refine wp_exit (then_exit (then_exit (block_exit ?_)))
    obtain rfl := Option.some.inj hm; have hz : _ = q22 := hn22; subst hz; replace hm := hm22; try dsimp only at hm
    refine then_normal (wp_seq (wp_region_lit (n_q H (q_move rfl) rfl (W_q (q_assign rfl) rfl ?_)))); clear H a; intro a H
    refine n_nil (then_normal (wp_ret ?_))
    obtain rfl := Option.some.inj hm
    refine ret1 H (.inr rfl) rfl rfl ?_
    exact ⟨rfl, hS.x⟩
end Go.Proofs.YtjoihegnjjjdaaaGreatDoor
