/- Fy (written by wip/tools) -/
import Derived.Test.YtjoihegnjjjdaaaDoorFyB
set_option linter.unusedVariables false
set_option linter.unusedSimpArgs false
set_option maxRecDepth 10000
namespace Go.Proofs.YtjoihegnjjjdaaaDoor
open Go Go.RowKit
theorem el167 : ElemOk Tryd.prog 167 3 24 [.int .i64 0, .int .i64 0, .bool false] := ⟨by kernel_rfl, by kernel_rfl, by kernel_rfl, rfl, by decide⟩
theorem el169 : ElemOk Tryd.prog 169 4 32 [.int .i64 0, .int .i64 0, .int .i64 0, .int .i64 0] := ⟨by kernel_rfl, by kernel_rfl, by kernel_rfl, rfl, by decide⟩
theorem el3 : ElemOk Tryd.prog 3 1 8 [.int .i64 0] := ⟨by kernel_rfl, by kernel_rfl, by kernel_rfl, rfl, by decide⟩
theorem el47 : ElemOk Tryd.prog 47 4 32 [.int .i64 0, .int .i64 0, .int .i64 0, .int .i64 0] := ⟨by kernel_rfl, by kernel_rfl, by kernel_rfl, rfl, by decide⟩
theorem el68 : ElemOk Tryd.prog 68 7 120 [.int .i64 0, .bool false, .slice none 0 0, .slice none 0 0, .slice none 0 0, .int .i64 0, .slice none 0 0] := ⟨by kernel_rfl, by kernel_rfl, by kernel_rfl, rfl, by decide⟩
theorem el87 : ElemOk Tryd.prog 87 2 24 [.int .i64 0, .string ⟨#[]⟩] := ⟨by kernel_rfl, by kernel_rfl, by kernel_rfl, rfl, by decide⟩
theorem en42 : entersB Tryd.prog 42 = true := by kernel_rfl
theorem en50 : entersB Tryd.prog 50 = true := by kernel_rfl
theorem fd110_0 : fdB Tryd.prog 110 0 = some (false, 0, 1) := by kernel_rfl
theorem sz22 : sizeB Tryd.prog 22 = some 1 := by kernel_rfl
theorem sz23 : sizeB Tryd.prog 23 = some 1 := by kernel_rfl
theorem sz24 : sizeB Tryd.prog 24 = some 1 := by kernel_rfl
theorem sz25 : sizeB Tryd.prog 25 = some 1 := by kernel_rfl
theorem sz64 : sizeB Tryd.prog 64 = some 1 := by kernel_rfl
theorem sz65 : sizeB Tryd.prog 65 = some 1 := by kernel_rfl
theorem sz66 : sizeB Tryd.prog 66 = some 1 := by kernel_rfl

theorem g_r14_Good_w {w : World} {A : Nat → Addr} {cs0 : List Value} {a0 : GConfig} (h0 : RGConfig w cs0 a0) {r : Bool} (hm : g_r14_Good a0 = some r) :
    Calls Tryd.prog 18 [.agg cs0.toArray].toArray w (Ret fun u w' => u = .bool r ∧ Ext w w') := by
  obtain ⟨vp0_0, vp0_1, vp0_2, vp0_3, rfl, hrp0_0, hrp0_1, hrp0_2, hrp0_3⟩ := h0
  have hS := St.begin NB w
  unfold g_r14_Good at hm
  refine enter Tryd.func18 rfl rfl rfl ?_; intro a H; dsimp only [enumL, Nat.zero_add, Nat.reduceAdd] at H
  refine wp_seq (wp_region_lit (n_box H rfl (cs := [.int .i64 a0.Ticks, vp0_0, vp0_1, vp0_2, vp0_3, .int .i64 a0.Tries]) rfl rfl ?_))
  clear H; intro b21 w22 hN hE23 hs; clear a; intro a H
  replace hS := hS.newBlk hN hE23 hs; clear hN hs
  refine n_q H (q_assign rfl) rfl ?_; clear H a; intro a H
  refine n_nil (then_normal (wp_seq (wp_region_lit (n_q H (q_load rfl ((hS.blk 0 rfl).ldAll ag27 sz27)) rfl ?_)))); clear H a; intro a H
  replace hm := bindS hm; obtain ⟨r24, hr24, hm⟩ := hm
  refine n_call H rfl en42 (g_r14_Check_w (A := A) (⟨_, _, _, _, rfl, (hrp0_0.ext RGPlan.mono hS.x), (hrp0_1.ext (Flat.mono _) hS.x), (hrp0_2.ext (Flat.mono _) hS.x), (hrp0_3.ext (Flat.mono _) hS.x)⟩ : RGConfig _ [.int .i64 a0.Ticks, vp0_0, vp0_1, vp0_2, vp0_3, .int .i64 a0.Tries] a0) hr24) rfl ?_
  clear H; intro x27 w25 hv; clear a; intro a H; obtain ⟨rfl, hE26⟩ := hv
  replace hS := hS.ext hE26
  refine n_q H (q_fieldV fd110_0 rfl rfl) rfl (W_q (q_eqlD rfl rfl) rfl (W_q (q_assign rfl) rfl ?_)); clear H a; intro a H
  refine n_nil (then_normal (wp_ret ?_))
  obtain rfl := Option.some.inj hm
  replace hS := hS.take 0; simp only [List.take_succ_cons, List.take_zero] at hS
  refine ret1 H (.inr rfl) rfl rfl ?_
  exact ⟨rfl, hS.x⟩
theorem g_r10_Copy_w {w : World} {A : Nat → Addr} {cs0 : List Value} {a0 : GPlan} (h0 : RGPlan w cs0 a0) {r : GPlan} (hm : g_r10_Copy a0 = some r) :
    Calls Tryd.prog 50 [.agg cs0.toArray].toArray w (Ret fun u w' => ∃ h_0 h_1 h_2 h_3, u = .agg #[.int .i64 r.Id, .bool r.Mobile, h_0, h_1, h_2, .int .i64 r.Events, h_3] ∧ St NB w w' [ownR 87 2 h_0 r.Pages.length (r.Pages.flatMap eGPagePlan), ownR 167 3 h_1 r.Procs.length (r.Procs.flatMap eGProcPlan), ownR 169 4 h_2 r.Ports.length (r.Ports.flatMap eGPortPlan), ownR 3 1 h_3 r.Sems.length (r.Sems.flatMap eI)]) := by
  obtain ⟨vp0_0, vp0_1, vp0_2, vp0_3, rfl, hrp0_0, hrp0_1, hrp0_2, hrp0_3⟩ := h0
  have hS := St.begin NB w
  unfold g_r10_Copy at hm
  refine enter Tryd.func50 rfl rfl rfl ?_; intro a H; dsimp only [enumL, Nat.zero_add, Nat.reduceAdd] at H
  refine wp_seq (wp_region_lit (n_box H rfl (cs := [.int .i64 a0.Id, .bool a0.Mobile, vp0_0, vp0_1, vp0_2, .int .i64 a0.Events, vp0_3]) rfl rfl ?_))
  clear H; intro b21 w22 hN hE23 hs; clear a; intro a H
  replace hS := hS.newBlk hN hE23 hs; clear hN hs
  refine n_alloc H ze68 rfl ?_
  clear H; intro b24 w25 hN hE26 hs; clear a; intro a H
  replace hS := hS.newBlk hN hE26 hs; clear hN hs
  refine n_nil (then_normal (wp_seq (wp_region_lit (n_buildSlice H Tryd.underlying64 sz87 ze87 rfl rfl rfl (cs := []) rfl rfl ?_))))
  clear H; intro b29 w27 hN hE28 hs; clear a; intro a H
  replace hS := hS.newBlk hN hE28 hs; clear hN hs
  replace hS := hS.blkOwnL (e := eGPagePlan) (k := 2) ([] : List GPagePlan) rfl rfl (by simp [maxLen])
  refine n_q H (q_fieldAddr0 rfl fo68_2) rfl (W_q (q_load rfl ((hS.blk 2 rfl).ld ag64 rfl)) rfl ?_); clear H a; intro a H
  replace hm := chkS hm; obtain ⟨hk31, hm⟩ := hm
  refine n_app (e := eGPagePlan) H rfl rfl Tryd.underlying64 Tryd.underlying64 (by simp) el87 (hS.own 0 rfl) ((hrp0_0.ext (Flat.mono _) hS.x).src (fun _ _ => rfl)) eGPagePlan_one hk31 (by simp only [maxLen]; omega) rfl ?_
  clear H; intro v34 w32 hN hC33 hb; clear a; intro a H; replace hS := hS.setOwn hN hC33 hb; clear hN hb
  refine n_q H (q_fieldAddr0 rfl fo68_2) rfl ?_; clear H a; intro a H
  replace hS := hS.pick 2 rfl; dsimp only [List.eraseIdx] at hS
  refine n_store1 H rfl rfl sz64 (hS.blk 0 rfl) (by simp) (((hS.own 1 rfl).slr rfl (fun _ _ => rfl))).one ?_
  clear H; intro w36 hN hC37 hz; clear a; intro a H; replace hS := hS.setBlk hN hC37; clear hN hz
  try simp only [List.set_cons_succ, List.set_cons_zero] at hS
  refine n_nil (then_normal (wp_seq (wp_region_lit (n_buildSlice H Tryd.underlying65 sz167 ze167 rfl rfl rfl (cs := []) rfl rfl ?_))))
  clear H; intro b40 w38 hN hE39 hs; clear a; intro a H
  replace hS := hS.newBlk hN hE39 hs; clear hN hs
  replace hS := hS.blkOwnL (e := eGProcPlan) (k := 3) ([] : List GProcPlan) rfl rfl (by simp [maxLen])
  refine n_q H (q_fieldAddr0 rfl fo68_3) rfl (W_q (q_load rfl ((hS.blk 1 rfl).ld ag65 rfl)) rfl ?_); clear H a; intro a H
  replace hm := chkS hm; obtain ⟨hk42, hm⟩ := hm
  refine n_app (e := eGProcPlan) H rfl rfl Tryd.underlying65 Tryd.underlying65 (by simp) el167 (hS.own 0 rfl) ((hrp0_1.ext (Flat.mono _) hS.x).src (fun _ _ => rfl)) eGProcPlan_one hk42 (by simp only [maxLen]; omega) rfl ?_
  clear H; intro v45 w43 hN hC44 hb; clear a; intro a H; replace hS := hS.setOwn hN hC44 hb; clear hN hb
  refine n_q H (q_fieldAddr0 rfl fo68_3) rfl ?_; clear H a; intro a H
  replace hS := hS.pick 1 rfl; dsimp only [List.eraseIdx] at hS
  refine n_store1 H rfl rfl sz65 (hS.blk 0 rfl) (by simp) (((hS.own 1 rfl).slr rfl (fun _ _ => rfl))).one ?_
  clear H; intro w47 hN hC48 hz; clear a; intro a H; replace hS := hS.setBlk hN hC48; clear hN hz
  try simp only [List.set_cons_succ, List.set_cons_zero] at hS
  refine n_nil (then_normal (wp_seq (wp_region_lit (n_buildSlice H Tryd.underlying66 sz169 ze169 rfl rfl rfl (cs := []) rfl rfl ?_))))
  clear H; intro b51 w49 hN hE50 hs; clear a; intro a H
  replace hS := hS.newBlk hN hE50 hs; clear hN hs
  replace hS := hS.blkOwnL (e := eGPortPlan) (k := 4) ([] : List GPortPlan) rfl rfl (by simp [maxLen])
  refine n_q H (q_fieldAddr0 rfl fo68_4) rfl (W_q (q_load rfl ((hS.blk 1 rfl).ld ag66 rfl)) rfl ?_); clear H a; intro a H
  replace hm := chkS hm; obtain ⟨hk53, hm⟩ := hm
  refine n_app (e := eGPortPlan) H rfl rfl Tryd.underlying66 Tryd.underlying66 (by simp) el169 (hS.own 0 rfl) ((hrp0_2.ext (Flat.mono _) hS.x).src (fun _ _ => rfl)) eGPortPlan_one hk53 (by simp only [maxLen]; omega) rfl ?_
  clear H; intro v56 w54 hN hC55 hb; clear a; intro a H; replace hS := hS.setOwn hN hC55 hb; clear hN hb
  refine n_q H (q_fieldAddr0 rfl fo68_4) rfl ?_; clear H a; intro a H
  replace hS := hS.pick 1 rfl; dsimp only [List.eraseIdx] at hS
  refine n_store1 H rfl rfl sz66 (hS.blk 0 rfl) (by simp) (((hS.own 1 rfl).slr rfl (fun _ _ => rfl))).one ?_
  clear H; intro w58 hN hC59 hz; clear a; intro a H; replace hS := hS.setBlk hN hC59; clear hN hz
  try simp only [List.set_cons_succ, List.set_cons_zero] at hS
  refine n_nil (then_normal (wp_seq (wp_region_lit (n_buildSlice H Tryd.underlying23 sz3 ze3 rfl rfl rfl (cs := []) rfl rfl ?_))))
  clear H; intro b62 w60 hN hE61 hs; clear a; intro a H
  replace hS := hS.newBlk hN hE61 hs; clear hN hs
  replace hS := hS.blkOwnL (e := eI) (k := 1) ([] : List Int) rfl rfl (by simp [maxLen])
  refine n_q H (q_fieldAddr0 rfl fo68_6) rfl (W_q (q_load rfl ((hS.blk 1 rfl).ld ag23 rfl)) rfl ?_); clear H a; intro a H
  replace hm := chkS hm; obtain ⟨hk64, hm⟩ := hm
  refine n_app (e := eI) H rfl rfl Tryd.underlying23 Tryd.underlying23 (by simp) el3 (hS.own 0 rfl) ((hrp0_3.ext (Flat.mono _) hS.x).src (fun _ _ => rfl)) eI_one hk64 (by simp only [maxLen]; omega) rfl ?_
  clear H; intro v67 w65 hN hC66 hb; clear a; intro a H; replace hS := hS.setOwn hN hC66 hb; clear hN hb
  refine n_q H (q_fieldAddr0 rfl fo68_6) rfl ?_; clear H a; intro a H
  replace hS := hS.pick 1 rfl; dsimp only [List.eraseIdx] at hS
  refine n_store1 H rfl rfl sz23 (hS.blk 0 rfl) (by simp) (((hS.own 1 rfl).slr rfl (fun _ _ => rfl))).one ?_
  clear H; intro w69 hN hC70 hz; clear a; intro a H; replace hS := hS.setBlk hN hC70; clear hN hz
  try simp only [List.set_cons_succ, List.set_cons_zero] at hS
  refine n_nil (then_normal (wp_seq (wp_region_lit (n_q H (q_load rfl ((hS.blk 0 rfl).ldAll ag68 sz68)) rfl ?_)))); clear H a; intro a H
  replace hS := hS.pick 5 rfl; dsimp only [List.eraseIdx] at hS
  refine n_storeAll H rfl rfl (vs := [.int .i64 a0.Id, .bool a0.Mobile, v34, v45, v56, .int .i64 a0.Events, v67]) rfl sz68 (hS.blk 0 rfl) rfl (by simp [(((hS.own 5 rfl).slr rfl (fun _ _ => rfl))).one, (((hS.own 4 rfl).slr rfl (fun _ _ => rfl))).one, (((hS.own 3 rfl).slr rfl (fun _ _ => rfl))).one, (((hS.own 2 rfl).slr rfl (fun _ _ => rfl))).one]) ?_
  clear H; intro w71 hN hC72 hz; clear a; intro a H; replace hS := hS.setBlk hN hC72; clear hN hz
  refine n_nil (then_normal (wp_ret ?_))
  obtain rfl := Option.some.inj hm
  replace hS := hS.pick 2 rfl; dsimp only [List.eraseIdx] at hS
  replace hS := hS.pick 3 rfl; dsimp only [List.eraseIdx] at hS
  replace hS := hS.pick 4 rfl; dsimp only [List.eraseIdx] at hS
  replace hS := hS.pick 5 rfl; dsimp only [List.eraseIdx] at hS
  replace hS := hS.take 5; simp only [List.take_succ_cons, List.take_zero] at hS
  refine retL H (.inr rfl) rfl (vs := [.agg #[.int .i64 a0.Id, .bool a0.Mobile, v34, v45, v56, .int .i64 a0.Events, v67]]) (resCell rfl ((hS.blk 4 rfl).ldAll ag68 sz68) resNil) ?_
  replace hS := hS.take 4; simp only [List.take_succ_cons, List.take_zero] at hS
  exact ⟨_, _, _, _, rfl, hS⟩
theorem g_r14_Copy_w {w : World} {A : Nat → Addr} {cs0 : List Value} {a0 : GConfig} (h0 : RGConfig w cs0 a0) {r : GConfig} (hm : g_r14_Copy a0 = some r) :
    Calls Tryd.prog 14 [.agg cs0.toArray].toArray w (Ret fun u w' => ∃ h_0 h_1 h_2 h_3, u = .agg #[.int .i64 r.Ticks, h_0, h_1, h_2, h_3, .int .i64 r.Tries] ∧ St NB w w' [deepR 68 7 RGPlan h_0 r.Parts, ownR 3 1 h_1 r.Homes.length (r.Homes.flatMap eI), ownR 105 3 h_2 r.Windows.length (r.Windows.flatMap eGWindow), ownR 47 4 h_3 r.Links.length (r.Links.flatMap eGLink)]) := by
  obtain ⟨vp0_0, vp0_1, vp0_2, vp0_3, rfl, hrp0_0, hrp0_1, hrp0_2, hrp0_3⟩ := h0
  have hS := St.begin NB w
  unfold g_r14_Copy at hm
  refine enter Tryd.func14 rfl rfl rfl ?_; intro a H; dsimp only [enumL, Nat.zero_add, Nat.reduceAdd] at H
  refine wp_seq (wp_region_lit (n_box H rfl (cs := [.int .i64 a0.Ticks, vp0_0, vp0_1, vp0_2, vp0_3, .int .i64 a0.Tries]) rfl rfl ?_))
  clear H; intro b21 w22 hN hE23 hs; clear a; intro a H
  replace hS := hS.newBlk hN hE23 hs; clear hN hs
  refine n_alloc H ze27 rfl ?_
  clear H; intro b24 w25 hN hE26 hs; clear a; intro a H
  replace hS := hS.newBlk hN hE26 hs; clear hN hs
  refine n_nil (then_normal (wp_seq (wp_region_lit (n_q H (q_assign rfl) rfl ?_)))); clear H a; intro a H
  refine n_nil (then_normal (wp_seq (wp_seq (wp_region_lit (n_q H (q_assign rfl) rfl ?_))))); clear H a; intro a H
  refine n_nil (then_normal (wp_block ?_))
  replace hS := hS.deepNil 68 7 RGPlan
  replace hS := hS.pick 1 rfl; dsimp only [List.eraseIdx] at hS
  replace hS := hS.pick 2 rfl; dsimp only [List.eraseIdx] at hS
  replace hS := hS.pick 2 rfl; dsimp only [List.eraseIdx] at hS
  replace hm := bindS hm; obtain ⟨q27, hm, hm27⟩ := hm; replace hm := iter_some hm; obtain ⟨n27, hm⟩ := hm
  refine c_loop (σ := Nat × (List GPlan) × Nat × Value) (fun (m, l28, i31, v29) => [(1, .pointer (some ⟨b21, 0, none⟩)), (2, .pointer (some ⟨b24, 0, none⟩)), (3, v29), (4, .int .i64 ((i31 : Nat) : Int))]) (fun (m, l28, i31, v29) wl => iterN (g_r14_Copy_L1 a0) m (l28, i31) = some q27 ∧ St NB w wl [deepR 68 7 RGPlan v29 l28, blkR b21 [.int .i64 a0.Ticks, vp0_0, vp0_1, vp0_2, vp0_3, .int .i64 a0.Tries] 27, blkR b24 [.int .i64 0, .slice none 0 0, .slice none 0 0, .slice none 0 0, .slice none 0 0, .int .i64 0] 27]) (fun (m, l28, i31, v29) => m) (n27, ([] : List GPlan), 0, .slice none 0 0) H ⟨rfl, rfl, rfl, rfl, trivial⟩ ⟨hm, hS⟩ ?_
  clear H hS hm a; intro xx a w33 H hR; obtain ⟨m, l28, i31, v29⟩ := xx; simp only [ent, List.map_cons, List.map_nil] at H; (try dsimp only at hR); obtain ⟨hm, hS⟩ := hR
  replace hm := iterN_step hm; obtain ⟨m27, o27, rfl, hm, hn27⟩ := hm; try dsimp only [g_r14_Copy_L1] at hm
  refine wp_seq (wp_seq (wp_region_lit (n_q H (q_move rfl) rfl (W_q (q_fieldAddr0 rfl fo27_1) rfl (W_q (q_load rfl ((hS.blk 1 rfl).ld ag22 rfl)) rfl ?_))))); clear H a; intro a H
  obtain ⟨A34, c34, hv34, hl34, hm34⟩ := SlR.formV (hrp0_0.ext RGPlan.mono hS.x)
  refine n_q H (q_lenV Tryd.underlying22 rfl hv34) rfl (W_q (q_lssN (i := i31) (j := a0.Parts.length) rfl rfl) rfl ?_); clear H a; intro a H
  refine n_nil (then_normal (c_cond H rfl (fun hc35 => ?_) (fun hc35 => ?_)))
  · replace hm := condT hm hc35
    have hlt36 : i31 < a0.Parts.length := of_decide_eq_true hc35
    refine wp_skip (then_normal (wp_seq (wp_block (wp_region_lit (n_q H (q_move rfl) rfl (W_q (q_fieldAddr0 rfl fo27_1) rfl (W_q (q_load rfl ((hS.blk 1 rfl).ld ag22 rfl)) rfl (W_q (q_move rfl) rfl ?_)))))))); clear H a; intro a H
    replace hm := bindS hm; obtain ⟨x37, hx37, hm⟩ := hm
    obtain ⟨adx37, hAx37⟩ := SlR.adV (hrp0_0.ext RGPlan.mono hS.x) hv34 hx37
    obtain ⟨csx37, hclx37, ⟨vx37_0, vx37_1, vx37_2, vx37_3, rfl, hrx37_0, hrx37_1, hrx37_2, hrx37_3⟩, hcx37⟩ := SlR.elV hrp0_0 hv34 hAx37 hx37
    refine n_q H (q_ixV (i := i31) Tryd.underlying22 sz68 rfl hv34 hAx37 rfl (natI hx37)) rfl (W_q (q_load rfl (LdX.ext (ldEl ag68 sz68 rfl hcx37) hS.x)) rfl ?_); clear H a; intro a H
    replace hm := bindS hm; obtain ⟨r38, hr38, hm⟩ := hm
    refine n_call H rfl en50 (g_r10_Copy_w (A := A) (⟨_, _, _, _, rfl, (hrx37_0.ext (Flat.mono _) hS.x), (hrx37_1.ext (Flat.mono _) hS.x), (hrx37_2.ext (Flat.mono _) hS.x), (hrx37_3.ext (Flat.mono _) hS.x)⟩ : RGPlan _ [.int .i64 x37.Id, .bool x37.Mobile, vx37_0, vx37_1, vx37_2, .int .i64 x37.Events, vx37_3] x37) hr38) rfl ?_
    clear H; intro x49 w47 hv; clear a; intro a H; obtain ⟨u39, u40, u41, u42, rfl, hE48⟩ := hv
    replace hS := hS.new hE48; simp only [List.cons_append, List.nil_append] at hS
    refine n_buildSlice H Tryd.underlying22 sz68 ze68 rfl rfl rfl (cs := [.int .i64 r38.Id, .bool r38.Mobile, u39, u40, u41, .int .i64 r38.Events, u42]) ((fillA (ds := [.int .i64 r38.Id, .bool r38.Mobile, u39, u40, u41, .int .i64 r38.Events, u42]) rfl rfl rfl (by simp)).trans rfl) rfl ?_
    clear H; intro b52 w50 hN hE51 hs; clear a; intro a H
    replace hS := hS.newBlk hN hE51 hs; clear hN hs
    replace hS := hS.pick 1 rfl; dsimp only [List.eraseIdx] at hS
    replace hS := hS.ownAny (F := (fun w' => SlR w' 2 (Flat eGPagePlan) u39 r38.Pages)) (fun w' hO => hO.slr rfl (fun _ _ => rfl))
    replace hS := hS.pick 2 rfl; dsimp only [List.eraseIdx] at hS
    replace hS := hS.ownAny (F := (fun w' => SlR w' 3 (Flat eGProcPlan) u40 r38.Procs)) (fun w' hO => hO.slr rfl (fun _ _ => rfl))
    replace hS := hS.pick 3 rfl; dsimp only [List.eraseIdx] at hS
    replace hS := hS.ownAny (F := (fun w' => SlR w' 4 (Flat eGPortPlan) u41 r38.Ports)) (fun w' hO => hO.slr rfl (fun _ _ => rfl))
    replace hS := hS.pick 4 rfl; dsimp only [List.eraseIdx] at hS
    replace hS := hS.ownAny (F := (fun w' => SlR w' 1 (Flat eI) u42 r38.Sems)) (fun w' hO => hO.slr rfl (fun _ _ => rfl))
    replace hS := hS.pick 1 rfl; dsimp only [List.eraseIdx] at hS
    replace hS := hS.pick 2 rfl; dsimp only [List.eraseIdx] at hS
    replace hS := hS.pick 3 rfl; dsimp only [List.eraseIdx] at hS
    replace hS := hS.anyAnd
    replace hS := hS.anyAnd
    replace hS := hS.anyAnd
    replace hS := hS.anyMono (G := DIn 7 RGPlan [[.int .i64 r38.Id, .bool r38.Mobile, u39, u40, u41, .int .i64 r38.Events, u42]] [r38]) (fun w' hw => (DIn.cons rfl (by simp [hw.1.1.1.one, hw.1.1.2.one, hw.1.2.one, hw.2.one]) ⟨_, _, _, _, rfl, hw.1.1.1, hw.1.1.2, hw.1.2, hw.2⟩ trivial))
    replace hm := chkS hm; obtain ⟨hk58, hm⟩ := hm
    replace hS := hS.pick 2 rfl; dsimp only [List.eraseIdx] at hS
    refine n_appD (css := [[.int .i64 r38.Id, .bool r38.Mobile, u39, u40, u41, .int .i64 r38.Events, u42]]) hS H rfl rfl Tryd.underlying22 Tryd.underlying22 (by simp) el68 (Src.blk (k := 7) (hS.blk 2 rfl) rfl) hk58 (by simp only [maxLen, List.length_cons, List.length_nil]; omega) rfl ?_
    clear H hS; intro v60 w59 hS; clear a; intro a H
    refine n_q H (q_assign rfl) rfl ?_; clear H a; intro a H
    refine n_nil (block_normal (then_normal (wp_region_lit (n_q H (q_move rfl) rfl (W_q (q_incr (i := i31) (j := 1) rfl rfl (by omega)) rfl (W_q (q_assign rfl) rfl ?_)))))); clear H a; intro a H
    refine n_nil (then_normal ?_)
    obtain rfl := Option.some.inj hm
    replace hS := hS.pick 3 rfl; dsimp only [List.eraseIdx] at hS
    replace hS := hS.pick 3 rfl; dsimp only [List.eraseIdx] at hS
    replace hS := hS.pick 2 rfl; dsimp only [List.eraseIdx] at hS
    replace hS := hS.take 3; simp only [List.take_succ_cons, List.take_zero] at hS
    exact round (m27, (l28 ++ [r38]), i31 + 1, v60) H ⟨rfl, rfl, rfl, rfl, trivial⟩ ⟨hn27, hS⟩ (Nat.lt_succ_self _)
  · replace hm := condF hm hc35
    refine wp_exit (then_exit (then_exit (block_exit ?_)))
    obtain rfl := Option.some.inj hm; have hz : _ = q27 := hn27; subst hz; replace hm := hm27; try dsimp only at hm
    refine then_normal (wp_seq (wp_region_lit (n_q H (q_move rfl) rfl (W_q (q_fieldAddr0 rfl fo27_1) rfl ?_)))); clear H a; intro a H
    replace hS := hS.pick 1 rfl; dsimp only [List.eraseIdx] at hS
    refine n_store1 H rfl rfl sz22 (hS.blk 0 rfl) (by simp) ((hS.deepSl 1 rfl)).one ?_
    clear H; intro w62 hN hC63 hz; clear a; intro a H; replace hS := hS.setBlk hN hC63; clear hN hz
    try simp only [List.set_cons_succ, List.set_cons_zero] at hS
    refine n_nil (then_normal (wp_seq (wp_region_lit (n_buildSlice H Tryd.underlying23 sz3 ze3 rfl rfl rfl (cs := []) rfl rfl ?_))))
    clear H; intro b66 w64 hN hE65 hs; clear a; intro a H
    replace hS := hS.newBlk hN hE65 hs; clear hN hs
    replace hS := hS.blkOwnL (e := eI) (k := 1) ([] : List Int) rfl rfl (by simp [maxLen])
    refine n_q H (q_fieldAddr0 rfl fo27_2) rfl (W_q (q_load rfl ((hS.blk 1 rfl).ld ag23 rfl)) rfl ?_); clear H a; intro a H
    replace hm := chkS hm; obtain ⟨hk68, hm⟩ := hm
    refine n_app (e := eI) H rfl rfl Tryd.underlying23 Tryd.underlying23 (by simp) el3 (hS.own 0 rfl) ((hrp0_1.ext (Flat.mono _) hS.x).src (fun _ _ => rfl)) eI_one hk68 (by simp only [maxLen]; omega) rfl ?_
    clear H; intro v71 w69 hN hC70 hb; clear a; intro a H; replace hS := hS.setOwn hN hC70 hb; clear hN hb
    refine n_q H (q_fieldAddr0 rfl fo27_2) rfl ?_; clear H a; intro a H
    replace hS := hS.pick 1 rfl; dsimp only [List.eraseIdx] at hS
    refine n_store1 H rfl rfl sz23 (hS.blk 0 rfl) (by simp) (((hS.own 1 rfl).slr rfl (fun _ _ => rfl))).one ?_
    clear H; intro w73 hN hC74 hz; clear a; intro a H; replace hS := hS.setBlk hN hC74; clear hN hz
    try simp only [List.set_cons_succ, List.set_cons_zero] at hS
    refine n_nil (then_normal (wp_seq (wp_region_lit (n_buildSlice H Tryd.underlying24 sz105 ze105 rfl rfl rfl (cs := []) rfl rfl ?_))))
    clear H; intro b77 w75 hN hE76 hs; clear a; intro a H
    replace hS := hS.newBlk hN hE76 hs; clear hN hs
    replace hS := hS.blkOwnL (e := eGWindow) (k := 3) ([] : List GWindow) rfl rfl (by simp [maxLen])
    refine n_q H (q_fieldAddr0 rfl fo27_3) rfl (W_q (q_load rfl ((hS.blk 1 rfl).ld ag24 rfl)) rfl ?_); clear H a; intro a H
    replace hm := chkS hm; obtain ⟨hk79, hm⟩ := hm
    refine n_app (e := eGWindow) H rfl rfl Tryd.underlying24 Tryd.underlying24 (by simp) el105 (hS.own 0 rfl) ((hrp0_2.ext (Flat.mono _) hS.x).src (fun _ _ => rfl)) eGWindow_one hk79 (by simp only [maxLen]; omega) rfl ?_
    clear H; intro v82 w80 hN hC81 hb; clear a; intro a H; replace hS := hS.setOwn hN hC81 hb; clear hN hb
    refine n_q H (q_fieldAddr0 rfl fo27_3) rfl ?_; clear H a; intro a H
    replace hS := hS.pick 1 rfl; dsimp only [List.eraseIdx] at hS
    refine n_store1 H rfl rfl sz24 (hS.blk 0 rfl) (by simp) (((hS.own 1 rfl).slr rfl (fun _ _ => rfl))).one ?_
    clear H; intro w84 hN hC85 hz; clear a; intro a H; replace hS := hS.setBlk hN hC85; clear hN hz
    try simp only [List.set_cons_succ, List.set_cons_zero] at hS
    refine n_nil (then_normal (wp_seq (wp_region_lit (n_buildSlice H Tryd.underlying25 sz47 ze47 rfl rfl rfl (cs := []) rfl rfl ?_))))
    clear H; intro b88 w86 hN hE87 hs; clear a; intro a H
    replace hS := hS.newBlk hN hE87 hs; clear hN hs
    replace hS := hS.blkOwnL (e := eGLink) (k := 4) ([] : List GLink) rfl rfl (by simp [maxLen])
    refine n_q H (q_fieldAddr0 rfl fo27_4) rfl (W_q (q_load rfl ((hS.blk 1 rfl).ld ag25 rfl)) rfl ?_); clear H a; intro a H
    replace hm := chkS hm; obtain ⟨hk90, hm⟩ := hm
    refine n_app (e := eGLink) H rfl rfl Tryd.underlying25 Tryd.underlying25 (by simp) el47 (hS.own 0 rfl) ((hrp0_3.ext (Flat.mono _) hS.x).src (fun _ _ => rfl)) eGLink_one hk90 (by simp only [maxLen]; omega) rfl ?_
    clear H; intro v93 w91 hN hC92 hb; clear a; intro a H; replace hS := hS.setOwn hN hC92 hb; clear hN hb
    refine n_q H (q_fieldAddr0 rfl fo27_4) rfl ?_; clear H a; intro a H
    replace hS := hS.pick 1 rfl; dsimp only [List.eraseIdx] at hS
    refine n_store1 H rfl rfl sz25 (hS.blk 0 rfl) (by simp) (((hS.own 1 rfl).slr rfl (fun _ _ => rfl))).one ?_
    clear H; intro w95 hN hC96 hz; clear a; intro a H; replace hS := hS.setBlk hN hC96; clear hN hz
    try simp only [List.set_cons_succ, List.set_cons_zero] at hS
    refine n_nil (then_normal (wp_seq (wp_region_lit (n_q H (q_load rfl ((hS.blk 0 rfl).ldAll ag27 sz27)) rfl ?_)))); clear H a; intro a H
    replace hS := hS.pick 5 rfl; dsimp only [List.eraseIdx] at hS
    refine n_storeAll H rfl rfl (vs := [.int .i64 a0.Ticks, v29, v71, v82, v93, .int .i64 a0.Tries]) rfl sz27 (hS.blk 0 rfl) rfl (by simp [((hS.deepSl 5 rfl)).one, (((hS.own 4 rfl).slr rfl (fun _ _ => rfl))).one, (((hS.own 3 rfl).slr rfl (fun _ _ => rfl))).one, (((hS.own 2 rfl).slr rfl (fun _ _ => rfl))).one]) ?_
    clear H; intro w97 hN hC98 hz; clear a; intro a H; replace hS := hS.setBlk hN hC98; clear hN hz
    refine n_nil (then_normal (wp_ret ?_))
    obtain rfl := Option.some.inj hm
    replace hS := hS.pick 2 rfl; dsimp only [List.eraseIdx] at hS
    replace hS := hS.pick 3 rfl; dsimp only [List.eraseIdx] at hS
    replace hS := hS.pick 4 rfl; dsimp only [List.eraseIdx] at hS
    replace hS := hS.pick 5 rfl; dsimp only [List.eraseIdx] at hS
    replace hS := hS.take 5; simp only [List.take_succ_cons, List.take_zero] at hS
    refine retL H (.inr rfl) rfl (vs := [.agg #[.int .i64 a0.Ticks, v29, v71, v82, v93, .int .i64 a0.Tries]]) (resCell rfl ((hS.blk 4 rfl).ldAll ag27 sz27) resNil) ?_
    replace hS := hS.take 4; simp only [List.take_succ_cons, List.take_zero] at hS
    exact ⟨_, _, _, _, rfl, hS⟩
end Go.Proofs.YtjoihegnjjjdaaaDoor
