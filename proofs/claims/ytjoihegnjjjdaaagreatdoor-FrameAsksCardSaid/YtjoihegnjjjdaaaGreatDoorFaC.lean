/- Fa (written by wip/tools) -/
import Derived.Test.YtjoihegnjjjdaaaGreatDoorFaB
set_option linter.unusedVariables false
set_option linter.unusedSimpArgs false
set_option maxRecDepth 10000
namespace Go.Proofs.YtjoihegnjjjdaaaGreatDoor
open Go Go.RowKit
theorem el167 : ElemOk Tryz.prog 167 2 24 [.int .i64 0, .string ⟨#[]⟩] := ⟨by kernel_rfl, by kernel_rfl, by kernel_rfl, rfl, by decide⟩
theorem el169 : ElemOk Tryz.prog 169 3 24 [.int .i64 0, .int .i64 0, .bool false] := ⟨by kernel_rfl, by kernel_rfl, by kernel_rfl, rfl, by decide⟩
theorem el171 : ElemOk Tryz.prog 171 4 32 [.int .i64 0, .int .i64 0, .int .i64 0, .int .i64 0] := ⟨by kernel_rfl, by kernel_rfl, by kernel_rfl, rfl, by decide⟩
theorem el27 : ElemOk Tryz.prog 27 7 120 [.int .i64 0, .bool false, .slice none 0 0, .slice none 0 0, .slice none 0 0, .int .i64 0, .slice none 0 0] := ⟨by kernel_rfl, by kernel_rfl, by kernel_rfl, rfl, by decide⟩
theorem el63 : ElemOk Tryz.prog 63 4 32 [.int .i64 0, .int .i64 0, .int .i64 0, .int .i64 0] := ⟨by kernel_rfl, by kernel_rfl, by kernel_rfl, rfl, by decide⟩
theorem en140 : entersB Tryz.prog 140 = true := by kernel_rfl
theorem en141 : entersB Tryz.prog 141 = true := by kernel_rfl
theorem en17 : entersB Tryz.prog 17 = true := by kernel_rfl
theorem en18 : entersB Tryz.prog 18 = true := by kernel_rfl
theorem en19 : entersB Tryz.prog 19 = true := by kernel_rfl
theorem en193 : entersB Tryz.prog 193 = true := by kernel_rfl
theorem en20 : entersB Tryz.prog 20 = true := by kernel_rfl
theorem en21 : entersB Tryz.prog 21 = true := by kernel_rfl
theorem en22 : entersB Tryz.prog 22 = true := by kernel_rfl
theorem en26 : entersB Tryz.prog 26 = true := by kernel_rfl
theorem en27 : entersB Tryz.prog 27 = true := by kernel_rfl
theorem en31 : entersB Tryz.prog 31 = true := by kernel_rfl
theorem en33 : entersB Tryz.prog 33 = true := by kernel_rfl
theorem en34 : entersB Tryz.prog 34 = true := by kernel_rfl
theorem en60 : entersB Tryz.prog 60 = true := by kernel_rfl
theorem en61 : entersB Tryz.prog 61 = true := by kernel_rfl
theorem en63 : entersB Tryz.prog 63 = true := by kernel_rfl
theorem en64 : entersB Tryz.prog 64 = true := by kernel_rfl
theorem en65 : entersB Tryz.prog 65 = true := by kernel_rfl
theorem en66 : entersB Tryz.prog 66 = true := by kernel_rfl
theorem en67 : entersB Tryz.prog 67 = true := by kernel_rfl
theorem en68 : entersB Tryz.prog 68 = true := by kernel_rfl
theorem en69 : entersB Tryz.prog 69 = true := by kernel_rfl
theorem fo52_0 : fOff Tryz.prog 52 0 = some 0 := by kernel_rfl
theorem fo52_2 : fOff Tryz.prog 52 2 = some 12 := by kernel_rfl
theorem sz22 : sizeB Tryz.prog 22 = some 1 := by kernel_rfl
theorem sz23 : sizeB Tryz.prog 23 = some 1 := by kernel_rfl
theorem sz24 : sizeB Tryz.prog 24 = some 1 := by kernel_rfl
theorem sz25 : sizeB Tryz.prog 25 = some 1 := by kernel_rfl
theorem sz45 : sizeB Tryz.prog 45 = some 1 := by kernel_rfl
theorem sz46 : sizeB Tryz.prog 46 = some 1 := by kernel_rfl
theorem sz47 : sizeB Tryz.prog 47 = some 1 := by kernel_rfl

theorem g_r14_Idle_w {w : World} {A : Nat → Addr} {cs0 : List Value} {a0 : GConfig} (h0 : RGConfig w cs0 a0) {r : Int × Int} (hm : g_r14_Idle a0 = some r) :
    Calls Tryz.prog 18 [.agg cs0.toArray].toArray w (Ret fun u w' => u = .tuple #[.int .i64 r.1, .int .i64 r.2] ∧ Ext w w') := by
  obtain ⟨vp0_0, vp0_1, vp0_2, vp0_3, rfl, hrp0_0, hrp0_1, hrp0_2, hrp0_3⟩ := h0
  have hS := St.begin NB w
  unfold g_r14_Idle at hm
  refine enter Tryz.func18 rfl rfl rfl ?_; intro a H; dsimp only [enumL, Nat.zero_add, Nat.reduceAdd] at H
  refine wp_seq (wp_region_lit (n_box H rfl (cs := [.int .i64 a0.Ticks, vp0_0, vp0_1, vp0_2, vp0_3, .int .i64 a0.Tries]) rfl rfl ?_))
  clear H; intro b21 w22 hN hE23 hs; clear a; intro a H
  replace hS := hS.newBlk hN hE23 hs; clear hN hs
  refine n_q H (q_assign rfl) rfl (W_q (q_assign rfl) rfl ?_); clear H a; intro a H
  refine n_nil (then_normal (wp_seq (wp_seq (wp_region_lit (n_q H (q_load rfl ((hS.blk 0 rfl).ldAll ag49 sz49)) rfl ?_))))); clear H a; intro a H
  replace hm := bindS hm; obtain ⟨r24, hr24, hm⟩ := hm
  refine n_call H rfl en60 (g_r14_Good_w (A := A) (⟨_, _, _, _, rfl, (hrp0_0.ext RGPlan.mono hS.x), (hrp0_1.ext (Flat.mono _) hS.x), (hrp0_2.ext (Flat.mono _) hS.x), (hrp0_3.ext (Flat.mono _) hS.x)⟩ : RGConfig _ [.int .i64 a0.Ticks, vp0_0, vp0_1, vp0_2, vp0_3, .int .i64 a0.Tries] a0) hr24) rfl ?_
  clear H; intro x27 w25 hv; clear a; intro a H; obtain ⟨rfl, hE26⟩ := hv
  replace hS := hS.ext hE26
  refine n_q H (q_not rfl) rfl ?_; clear H a; intro a H
  refine n_nil (then_normal (c_cond H rfl (fun hc28 => ?_) (fun hc28 => ?_)))
  · replace hm := condT hm hc28
    refine wp_seq (wp_region_lit (n_q H (q_assign rfl) rfl (W_q (q_assign rfl) rfl ?_))); clear H a; intro a H
    refine n_nil (then_normal (wp_ret (then_ret ?_)))
    obtain rfl := Option.some.inj hm
    replace hS := hS.tk0
    refine ret2 H (.inr rfl) rfl rfl rfl ?_
    exact ⟨rfl, hS.x⟩
  · replace hm := condF hm hc28
    refine wp_skip (then_normal (wp_seq (wp_region_lit (n_q H (q_load rfl ((hS.blk 0 rfl).ldAll ag49 sz49)) rfl ?_)))); clear H a; intro a H
    replace hm := bindS hm; obtain ⟨r29, hr29, hm⟩ := hm
    refine n_call H rfl en61 (g_r14_ticks_w (A := A) (⟨_, _, _, _, rfl, (hrp0_0.ext RGPlan.mono hS.x), (hrp0_1.ext (Flat.mono _) hS.x), (hrp0_2.ext (Flat.mono _) hS.x), (hrp0_3.ext (Flat.mono _) hS.x)⟩ : RGConfig _ [.int .i64 a0.Ticks, vp0_0, vp0_1, vp0_2, vp0_3, .int .i64 a0.Tries] a0) hr29) rfl ?_
    clear H; intro x32 w30 hv; clear a; intro a H; obtain ⟨rfl, hE31⟩ := hv
    replace hS := hS.ext hE31
    refine n_q H (q_assign rfl) rfl (W_q (q_assign rfl) rfl ?_); clear H a; intro a H
    refine n_nil (then_normal (wp_ret ?_))
    obtain rfl := Option.some.inj hm
    replace hS := hS.tk0
    refine ret2 H (.inr rfl) rfl rfl rfl ?_
    exact ⟨rfl, hS.x⟩
theorem g_frame_Idle_w {w : World} {A : Nat → Addr} {cs0 : List Value} {a0 : GConfig} (hG : EV A w) (h0 : RGConfig w cs0 a0) {r : Int × ErrM} (hm : g_frame_Idle a0 = some r) :
    Calls Tryz.prog 19 [.agg cs0.toArray].toArray w (Ret fun u w' => ∃ h_0, u = .tuple #[.int .i64 r.1, h_0] ∧ St NB w w' [erQ A h_0 r.2]) := by
  obtain ⟨vp0_0, vp0_1, vp0_2, vp0_3, rfl, hrp0_0, hrp0_1, hrp0_2, hrp0_3⟩ := h0
  have hS := St.begin NB w
  unfold g_frame_Idle at hm
  refine enter Tryz.func19 rfl rfl rfl ?_; intro a H; dsimp only [enumL, Nat.zero_add, Nat.reduceAdd] at H
  refine wp_seq (wp_region_lit (n_box H rfl (cs := [.int .i64 a0.Ticks, vp0_0, vp0_1, vp0_2, vp0_3, .int .i64 a0.Tries]) rfl rfl ?_))
  clear H; intro b21 w22 hN hE23 hs; clear a; intro a H
  replace hS := hS.newBlk hN hE23 hs; clear hN hs
  refine n_q H (q_assign rfl) rfl (W_q (q_assign rfl) rfl ?_); clear H a; intro a H
  refine n_nil (then_normal (wp_seq (wp_seq (wp_region_lit (n_q H (q_load rfl ((hS.blk 0 rfl).ldAll ag49 sz49)) rfl ?_))))); clear H a; intro a H
  replace hm := bindS hm; obtain ⟨r24, hr24, hm⟩ := hm
  refine n_call H rfl en28 (g_frame_Check_w (A := A) (hG.ext hS.x) (⟨_, _, _, _, rfl, (hrp0_0.ext RGPlan.mono hS.x), (hrp0_1.ext (Flat.mono _) hS.x), (hrp0_2.ext (Flat.mono _) hS.x), (hrp0_3.ext (Flat.mono _) hS.x)⟩ : RGConfig _ [.int .i64 a0.Ticks, vp0_0, vp0_1, vp0_2, vp0_3, .int .i64 a0.Tries] a0) hr24) rfl ?_
  clear H; intro u25 w27 hv; clear a; intro a H; obtain ⟨_, rfl, hE28⟩ := hv
  replace hS := hS.new hE28; simp only [List.cons_append, List.nil_append] at hS
  refine n_q H (q_cast (q_nnilI Tryz.underlying41 rfl rfl (hS.any 0 rfl : IsE A w27 u25 r24).form) (show _ = Value.bool (!decide (r24 = .nil)) by rw [IsErr.isNil (hS.any 0 rfl : IsE A w27 u25 r24)])) rfl ?_; clear H a; intro a H
  refine n_nil (then_normal (c_cond H rfl (fun hc30 => ?_) (fun hc30 => ?_)))
  · replace hm := condT hm hc30
    refine wp_seq (c_quiet (by kernel_rfl) (by kernel_rfl) ?_)
    refine qq_q H (q_load rfl ((hG.ext hS.x).ld gPlan (by decide) ag41)) rfl ?_; clear H a; intro a H
    refine qq_q H (q_assign rfl) rfl ?_; clear H a; intro a H
    refine qq_q H (q_assign rfl) rfl ?_; clear H a; intro a H
    refine qq_nil ?_; intro w31 hE32
    replace hS := hS.ext hE32
    refine then_normal (wp_ret (then_ret ?_))
    obtain rfl := Option.some.inj hm
    replace hS := hS.dVar (A := A) (g := gPlan) (by decide)
    replace hS := hS.tk1
    refine ret2 H (.inr rfl) rfl rfl rfl ?_
    exact ⟨_, rfl, hS⟩
  · replace hm := condF hm hc30
    refine wp_skip (then_normal (wp_seq (c_quiet (by kernel_rfl) (by kernel_rfl) ?_)))
    refine qq_q H (q_fieldAddr0 rfl fo49_0) rfl ?_; clear H a; intro a H
    refine qq_q H (q_load rfl ((hS.blk 1 rfl).ld ag3 rfl)) rfl ?_; clear H a; intro a H
    refine qq_q H (q_fieldAddr0 rfl fo49_3) rfl ?_; clear H a; intro a H
    refine qq_q H (q_load rfl ((hS.blk 1 rfl).ld ag46 rfl)) rfl ?_; clear H a; intro a H
    replace hm := bindS hm; obtain ⟨r34, hr34, hm⟩ := hm
    refine qq_call H rfl en62 (fun w' hw => g_frame_sum_w (A := A) ((hrp0_2.ext (Flat.mono _) hS.x).ext (Flat.mono _) hw) hr34) rfl ?_; clear H a; intro a H
    refine qq_q H (q_subW rfl rfl) rfl ?_; clear H a; intro a H
    refine qq_q H (q_assign rfl) rfl ?_; clear H a; intro a H
    refine qq_q H (q_assign rfl) rfl ?_; clear H a; intro a H
    refine qq_nil ?_; intro w35 hE36
    replace hS := hS.ext hE36
    refine then_normal (wp_ret ?_)
    obtain rfl := Option.some.inj hm
    replace hS := hS.dNil (A := A)
    replace hS := hS.tk1
    refine ret2 H (.inr rfl) rfl rfl rfl ?_
    exact ⟨_, rfl, hS⟩
theorem g_r10_Copy_w {w : World} {A : Nat → Addr} {cs0 : List Value} {a0 : GPlan} (h0 : RGPlan w cs0 a0) {r : GPlan} (hm : g_r10_Copy a0 = some r) :
    Calls Tryz.prog 63 [.agg cs0.toArray].toArray w (Ret fun u w' => ∃ h_0 h_1 h_2 h_3, u = .agg #[.int .i64 r.Id, .bool r.Mobile, h_0, h_1, h_2, .int .i64 r.Events, h_3] ∧ St NB w w' [ownR 167 2 h_0 r.Pages.length (r.Pages.flatMap eGPagePlan), ownR 169 3 h_1 r.Procs.length (r.Procs.flatMap eGProcPlan), ownR 171 4 h_2 r.Ports.length (r.Ports.flatMap eGPortPlan), ownR 3 1 h_3 r.Sems.length (r.Sems.flatMap eI)]) := by
  obtain ⟨vp0_0, vp0_1, vp0_2, vp0_3, rfl, hrp0_0, hrp0_1, hrp0_2, hrp0_3⟩ := h0
  have hS := St.begin NB w
  unfold g_r10_Copy at hm
  refine enter Tryz.func63 rfl rfl rfl ?_; intro a H; dsimp only [enumL, Nat.zero_add, Nat.reduceAdd] at H
  refine wp_seq (wp_region_lit (n_box H rfl (cs := [.int .i64 a0.Id, .bool a0.Mobile, vp0_0, vp0_1, vp0_2, .int .i64 a0.Events, vp0_3]) rfl rfl ?_))
  clear H; intro b21 w22 hN hE23 hs; clear a; intro a H
  replace hS := hS.newBlk hN hE23 hs; clear hN hs
  refine n_alloc H ze27 rfl ?_
  clear H; intro b24 w25 hN hE26 hs; clear a; intro a H
  replace hS := hS.newBlk hN hE26 hs; clear hN hs
  refine n_nil (then_normal (wp_seq (wp_region_lit (n_buildSlice H Tryz.underlying22 sz167 ze167 rfl rfl rfl (cs := []) rfl rfl ?_))))
  clear H; intro b29 w27 hN hE28 hs; clear a; intro a H
  replace hS := hS.newBlk hN hE28 hs; clear hN hs
  replace hS := hS.blkOwnL (e := eGPagePlan) (k := 2) ([] : List GPagePlan) rfl rfl (by simp [maxLen])
  refine n_q H (q_fieldAddr0 rfl fo27_2) rfl (W_q (q_load rfl ((hS.blk 2 rfl).ld ag22 rfl)) rfl ?_); clear H a; intro a H
  replace hm := chkS hm; obtain ⟨hk31, hm⟩ := hm
  refine n_app (e := eGPagePlan) H rfl rfl Tryz.underlying22 Tryz.underlying22 (by simp) el167 (hS.own 0 rfl) ((hrp0_0.ext (Flat.mono _) hS.x).src (fun _ _ => rfl)) eGPagePlan_one hk31 (by simp only [maxLen]; omega) rfl ?_
  clear H; intro v34 w32 hN hC33 hb; clear a; intro a H; replace hS := hS.setOwn hN hC33 hb; clear hN hb
  refine n_q H (q_fieldAddr0 rfl fo27_2) rfl ?_; clear H a; intro a H
  replace hS := hS.pk2
  refine n_store1 H rfl rfl sz22 (hS.blk 0 rfl) (by simp) (((hS.own 1 rfl).slr rfl (fun _ _ => rfl))).one ?_
  clear H; intro w36 hN hC37 hz; clear a; intro a H; replace hS := hS.setBlk hN hC37; clear hN hz
  try simp only [List.set_cons_succ, List.set_cons_zero] at hS
  refine n_nil (then_normal (wp_seq (wp_region_lit (n_buildSlice H Tryz.underlying23 sz169 ze169 rfl rfl rfl (cs := []) rfl rfl ?_))))
  clear H; intro b40 w38 hN hE39 hs; clear a; intro a H
  replace hS := hS.newBlk hN hE39 hs; clear hN hs
  replace hS := hS.blkOwnL (e := eGProcPlan) (k := 3) ([] : List GProcPlan) rfl rfl (by simp [maxLen])
  refine n_q H (q_fieldAddr0 rfl fo27_3) rfl (W_q (q_load rfl ((hS.blk 1 rfl).ld ag23 rfl)) rfl ?_); clear H a; intro a H
  replace hm := chkS hm; obtain ⟨hk42, hm⟩ := hm
  refine n_app (e := eGProcPlan) H rfl rfl Tryz.underlying23 Tryz.underlying23 (by simp) el169 (hS.own 0 rfl) ((hrp0_1.ext (Flat.mono _) hS.x).src (fun _ _ => rfl)) eGProcPlan_one hk42 (by simp only [maxLen]; omega) rfl ?_
  clear H; intro v45 w43 hN hC44 hb; clear a; intro a H; replace hS := hS.setOwn hN hC44 hb; clear hN hb
  refine n_q H (q_fieldAddr0 rfl fo27_3) rfl ?_; clear H a; intro a H
  replace hS := hS.pk1
  refine n_store1 H rfl rfl sz23 (hS.blk 0 rfl) (by simp) (((hS.own 1 rfl).slr rfl (fun _ _ => rfl))).one ?_
  clear H; intro w47 hN hC48 hz; clear a; intro a H; replace hS := hS.setBlk hN hC48; clear hN hz
  try simp only [List.set_cons_succ, List.set_cons_zero] at hS
  refine n_nil (then_normal (wp_seq (wp_region_lit (n_buildSlice H Tryz.underlying24 sz171 ze171 rfl rfl rfl (cs := []) rfl rfl ?_))))
  clear H; intro b51 w49 hN hE50 hs; clear a; intro a H
  replace hS := hS.newBlk hN hE50 hs; clear hN hs
  replace hS := hS.blkOwnL (e := eGPortPlan) (k := 4) ([] : List GPortPlan) rfl rfl (by simp [maxLen])
  refine n_q H (q_fieldAddr0 rfl fo27_4) rfl (W_q (q_load rfl ((hS.blk 1 rfl).ld ag24 rfl)) rfl ?_); clear H a; intro a H
  replace hm := chkS hm; obtain ⟨hk53, hm⟩ := hm
  refine n_app (e := eGPortPlan) H rfl rfl Tryz.underlying24 Tryz.underlying24 (by simp) el171 (hS.own 0 rfl) ((hrp0_2.ext (Flat.mono _) hS.x).src (fun _ _ => rfl)) eGPortPlan_one hk53 (by simp only [maxLen]; omega) rfl ?_
  clear H; intro v56 w54 hN hC55 hb; clear a; intro a H; replace hS := hS.setOwn hN hC55 hb; clear hN hb
  refine n_q H (q_fieldAddr0 rfl fo27_4) rfl ?_; clear H a; intro a H
  replace hS := hS.pk1
  refine n_store1 H rfl rfl sz24 (hS.blk 0 rfl) (by simp) (((hS.own 1 rfl).slr rfl (fun _ _ => rfl))).one ?_
  clear H; intro w58 hN hC59 hz; clear a; intro a H; replace hS := hS.setBlk hN hC59; clear hN hz
  try simp only [List.set_cons_succ, List.set_cons_zero] at hS
  refine n_nil (then_normal (wp_seq (wp_region_lit (n_buildSlice H Tryz.underlying25 sz3 ze3 rfl rfl rfl (cs := []) rfl rfl ?_))))
  clear H; intro b62 w60 hN hE61 hs; clear a; intro a H
  replace hS := hS.newBlk hN hE61 hs; clear hN hs
  replace hS := hS.blkOwnL (e := eI) (k := 1) ([] : List Int) rfl rfl (by simp [maxLen])
  refine n_q H (q_fieldAddr0 rfl fo27_6) rfl (W_q (q_load rfl ((hS.blk 1 rfl).ld ag25 rfl)) rfl ?_); clear H a; intro a H
  replace hm := chkS hm; obtain ⟨hk64, hm⟩ := hm
  refine n_app (e := eI) H rfl rfl Tryz.underlying25 Tryz.underlying25 (by simp) el3 (hS.own 0 rfl) ((hrp0_3.ext (Flat.mono _) hS.x).src (fun _ _ => rfl)) eI_one hk64 (by simp only [maxLen]; omega) rfl ?_
  clear H; intro v67 w65 hN hC66 hb; clear a; intro a H; replace hS := hS.setOwn hN hC66 hb; clear hN hb
  refine n_q H (q_fieldAddr0 rfl fo27_6) rfl ?_; clear H a; intro a H
  replace hS := hS.pk1
  refine n_store1 H rfl rfl sz25 (hS.blk 0 rfl) (by simp) (((hS.own 1 rfl).slr rfl (fun _ _ => rfl))).one ?_
  clear H; intro w69 hN hC70 hz; clear a; intro a H; replace hS := hS.setBlk hN hC70; clear hN hz
  try simp only [List.set_cons_succ, List.set_cons_zero] at hS
  refine n_nil (then_normal (wp_seq (wp_region_lit (n_q H (q_load rfl ((hS.blk 0 rfl).ldAll ag27 sz27)) rfl ?_)))); clear H a; intro a H
  replace hS := hS.pk5
  refine n_storeAll H rfl rfl (vs := [.int .i64 a0.Id, .bool a0.Mobile, v34, v45, v56, .int .i64 a0.Events, v67]) rfl sz27 (hS.blk 0 rfl) rfl (by simp [(((hS.own 5 rfl).slr rfl (fun _ _ => rfl))).one, (((hS.own 4 rfl).slr rfl (fun _ _ => rfl))).one, (((hS.own 3 rfl).slr rfl (fun _ _ => rfl))).one, (((hS.own 2 rfl).slr rfl (fun _ _ => rfl))).one]) ?_
  clear H; intro w71 hN hC72 hz; clear a; intro a H; replace hS := hS.setBlk hN hC72; clear hN hz
  refine n_nil (then_normal (wp_ret ?_))
  obtain rfl := Option.some.inj hm
  replace hS := hS.pk2
  replace hS := hS.pk3
  replace hS := hS.pk4
  replace hS := hS.pk5
  replace hS := hS.tk5
  refine retL H (.inr rfl) rfl (vs := [.agg #[.int .i64 a0.Id, .bool a0.Mobile, v34, v45, v56, .int .i64 a0.Events, v67]]) (resCell rfl ((hS.blk 4 rfl).ldAll ag27 sz27) resNil) ?_
  replace hS := hS.tk4
  exact ⟨_, _, _, _, rfl, hS⟩
theorem g_r14_Copy_w {w : World} {A : Nat → Addr} {cs0 : List Value} {a0 : GConfig} (h0 : RGConfig w cs0 a0) {r : GConfig} (hm : g_r14_Copy a0 = some r) :
    Calls Tryz.prog 20 [.agg cs0.toArray].toArray w (Ret fun u w' => ∃ h_0 h_1 h_2 h_3, u = .agg #[.int .i64 r.Ticks, h_0, h_1, h_2, h_3, .int .i64 r.Tries] ∧ St NB w w' [deepR 27 7 RGPlan h_0 r.Parts, ownR 3 1 h_1 r.Homes.length (r.Homes.flatMap eI), ownR 61 3 h_2 r.Windows.length (r.Windows.flatMap eGWindow), ownR 63 4 h_3 r.Links.length (r.Links.flatMap eGLink)]) := by
  obtain ⟨vp0_0, vp0_1, vp0_2, vp0_3, rfl, hrp0_0, hrp0_1, hrp0_2, hrp0_3⟩ := h0
  have hS := St.begin NB w
  unfold g_r14_Copy at hm
  refine enter Tryz.func20 rfl rfl rfl ?_; intro a H; dsimp only [enumL, Nat.zero_add, Nat.reduceAdd] at H
  refine wp_seq (wp_region_lit (n_box H rfl (cs := [.int .i64 a0.Ticks, vp0_0, vp0_1, vp0_2, vp0_3, .int .i64 a0.Tries]) rfl rfl ?_))
  clear H; intro b21 w22 hN hE23 hs; clear a; intro a H
  replace hS := hS.newBlk hN hE23 hs; clear hN hs
  refine n_alloc H ze49 rfl ?_
  clear H; intro b24 w25 hN hE26 hs; clear a; intro a H
  replace hS := hS.newBlk hN hE26 hs; clear hN hs
  refine n_nil (then_normal (wp_seq (wp_region_lit (n_q H (q_assign rfl) rfl ?_)))); clear H a; intro a H
  refine n_nil (then_normal (wp_seq (wp_seq (wp_region_lit (n_q H (q_assign rfl) rfl ?_))))); clear H a; intro a H
  refine n_nil (then_normal (wp_block ?_))
  replace hS := hS.deepNil 27 7 RGPlan
  replace hS := hS.pk1
  replace hS := hS.pk2
  replace hS := hS.pk2
  replace hm := bindS hm; obtain ⟨q27, hm, hm27⟩ := hm; replace hm := iter_some hm; obtain ⟨n27, hm⟩ := hm
  refine c_loop (σ := Nat × (List GPlan) × Nat × Value) (fun (m, l28, i31, v29) => [(1, .pointer (some ⟨b21, 0, none⟩)), (2, .pointer (some ⟨b24, 0, none⟩)), (3, v29), (4, .int .i64 ((i31 : Nat) : Int))]) (fun (m, l28, i31, v29) wl => iterN (g_r14_Copy_L1 a0) m (l28, i31) = some q27 ∧ St NB w wl [deepR 27 7 RGPlan v29 l28, blkR b21 [.int .i64 a0.Ticks, vp0_0, vp0_1, vp0_2, vp0_3, .int .i64 a0.Tries] 49, blkR b24 [.int .i64 0, .slice none 0 0, .slice none 0 0, .slice none 0 0, .slice none 0 0, .int .i64 0] 49]) (fun (m, l28, i31, v29) => m) (n27, ([] : List GPlan), 0, .slice none 0 0) H ⟨rfl, rfl, rfl, rfl, trivial⟩ ⟨hm, hS⟩ ?_
  clear H hS hm a; intro xx a w33 H hR; obtain ⟨m, l28, i31, v29⟩ := xx; simp only [ent, List.map_cons, List.map_nil] at H; (try dsimp only at hR); obtain ⟨hm, hS⟩ := hR
  replace hm := iterN_step hm; obtain ⟨m27, o27, rfl, hm, hn27⟩ := hm; try dsimp only [g_r14_Copy_L1] at hm
  refine wp_seq (wp_seq (wp_region_lit (n_q H (q_move rfl) rfl (W_q (q_fieldAddr0 rfl fo49_1) rfl (W_q (q_load rfl ((hS.blk 1 rfl).ld ag45 rfl)) rfl ?_))))); clear H a; intro a H
  obtain ⟨A34, c34, hv34, hl34, hm34⟩ := SlR.formV (hrp0_0.ext RGPlan.mono hS.x)
  refine n_q H (q_lenV Tryz.underlying45 rfl hv34) rfl (W_q (q_lssN (i := i31) (j := a0.Parts.length) rfl rfl) rfl ?_); clear H a; intro a H
  refine n_nil (then_normal (c_cond H rfl (fun hc35 => ?_) (fun hc35 => ?_)))
  · replace hm := condT hm hc35
    have hlt36 : i31 < a0.Parts.length := of_decide_eq_true hc35
    refine wp_skip (then_normal (wp_seq (wp_block (wp_region_lit (n_q H (q_move rfl) rfl (W_q (q_fieldAddr0 rfl fo49_1) rfl (W_q (q_load rfl ((hS.blk 1 rfl).ld ag45 rfl)) rfl (W_q (q_move rfl) rfl ?_)))))))); clear H a; intro a H
    replace hm := bindS hm; obtain ⟨x37, hx37, hm⟩ := hm
    obtain ⟨adx37, hAx37⟩ := SlR.adV (hrp0_0.ext RGPlan.mono hS.x) hv34 hx37
    obtain ⟨csx37, hclx37, ⟨vx37_0, vx37_1, vx37_2, vx37_3, rfl, hrx37_0, hrx37_1, hrx37_2, hrx37_3⟩, hcx37⟩ := SlR.elV hrp0_0 hv34 hAx37 hx37
    refine n_q H (q_ixV (i := i31) Tryz.underlying45 sz27 rfl hv34 hAx37 rfl (natI hx37)) rfl (W_q (q_load rfl (LdX.ext (ldEl ag27 sz27 rfl hcx37) hS.x)) rfl ?_); clear H a; intro a H
    replace hm := bindS hm; obtain ⟨r38, hr38, hm⟩ := hm
    refine n_call H rfl en63 (g_r10_Copy_w (A := A) (⟨_, _, _, _, rfl, (hrx37_0.ext (Flat.mono _) hS.x), (hrx37_1.ext (Flat.mono _) hS.x), (hrx37_2.ext (Flat.mono _) hS.x), (hrx37_3.ext (Flat.mono _) hS.x)⟩ : RGPlan _ [.int .i64 x37.Id, .bool x37.Mobile, vx37_0, vx37_1, vx37_2, .int .i64 x37.Events, vx37_3] x37) hr38) rfl ?_
    clear H; intro x49 w47 hv; clear a; intro a H; obtain ⟨u39, u40, u41, u42, rfl, hE48⟩ := hv
    replace hS := hS.new hE48; simp only [List.cons_append, List.nil_append] at hS
    refine n_buildSlice H Tryz.underlying45 sz27 ze27 rfl rfl rfl (cs := [.int .i64 r38.Id, .bool r38.Mobile, u39, u40, u41, .int .i64 r38.Events, u42]) ((fillA (ds := [.int .i64 r38.Id, .bool r38.Mobile, u39, u40, u41, .int .i64 r38.Events, u42]) rfl rfl rfl (by simp)).trans rfl) rfl ?_
    clear H; intro b52 w50 hN hE51 hs; clear a; intro a H
    replace hS := hS.newBlk hN hE51 hs; clear hN hs
    replace hS := hS.pk1
    replace hS := hS.ownAny (F := (fun w' => SlR w' 2 (Flat eGPagePlan) u39 r38.Pages)) (fun w' hO => hO.slr rfl (fun _ _ => rfl))
    replace hS := hS.pk2
    replace hS := hS.ownAny (F := (fun w' => SlR w' 3 (Flat eGProcPlan) u40 r38.Procs)) (fun w' hO => hO.slr rfl (fun _ _ => rfl))
    replace hS := hS.pk3
    replace hS := hS.ownAny (F := (fun w' => SlR w' 4 (Flat eGPortPlan) u41 r38.Ports)) (fun w' hO => hO.slr rfl (fun _ _ => rfl))
    replace hS := hS.pk4
    replace hS := hS.ownAny (F := (fun w' => SlR w' 1 (Flat eI) u42 r38.Sems)) (fun w' hO => hO.slr rfl (fun _ _ => rfl))
    replace hS := hS.pk1
    replace hS := hS.pk2
    replace hS := hS.pk3
    replace hS := hS.anyAnd
    replace hS := hS.anyAnd
    replace hS := hS.anyAnd
    replace hS := hS.anyMono (G := DIn 7 RGPlan [[.int .i64 r38.Id, .bool r38.Mobile, u39, u40, u41, .int .i64 r38.Events, u42]] [r38]) (fun w' hw => (DIn.cons rfl (by simp [hw.1.1.1.one, hw.1.1.2.one, hw.1.2.one, hw.2.one]) ⟨_, _, _, _, rfl, hw.1.1.1, hw.1.1.2, hw.1.2, hw.2⟩ trivial))
    replace hm := chkS hm; obtain ⟨hk58, hm⟩ := hm
    replace hS := hS.pk2
    refine n_appD (css := [[.int .i64 r38.Id, .bool r38.Mobile, u39, u40, u41, .int .i64 r38.Events, u42]]) hS H rfl rfl Tryz.underlying45 Tryz.underlying45 (by simp) el27 (Src.blk (k := 7) (hS.blk 2 rfl) rfl) hk58 (by simp only [maxLen, List.length_cons, List.length_nil]; omega) rfl ?_
    clear H hS; intro v60 w59 hS; clear a; intro a H
    refine n_q H (q_assign rfl) rfl ?_; clear H a; intro a H
    refine n_nil (block_normal (then_normal (wp_region_lit (n_q H (q_move rfl) rfl (W_q (q_incr (i := i31) (j := 1) rfl rfl (by omega)) rfl (W_q (q_assign rfl) rfl ?_)))))); clear H a; intro a H
    refine n_nil (then_normal ?_)
    obtain rfl := Option.some.inj hm
    replace hS := hS.pk3
    replace hS := hS.pk3
    replace hS := hS.pk2
    replace hS := hS.tk3
    exact round (m27, (l28 ++ [r38]), i31 + 1, v60) H ⟨rfl, rfl, rfl, rfl, trivial⟩ ⟨hn27, hS⟩ (Nat.lt_succ_self _)
  · replace hm := condF hm hc35
    refine wp_exit (then_exit (then_exit (block_exit ?_)))
    obtain rfl := Option.some.inj hm; have hz : _ = q27 := hn27; subst hz; replace hm := hm27; try dsimp only at hm
    refine then_normal (wp_seq (wp_region_lit (n_q H (q_move rfl) rfl (W_q (q_fieldAddr0 rfl fo49_1) rfl ?_)))); clear H a; intro a H
    replace hS := hS.pk1
    refine n_store1 H rfl rfl sz45 (hS.blk 0 rfl) (by simp) ((hS.deepSl 1 rfl)).one ?_
    clear H; intro w62 hN hC63 hz; clear a; intro a H; replace hS := hS.setBlk hN hC63; clear hN hz
    try simp only [List.set_cons_succ, List.set_cons_zero] at hS
    refine n_nil (then_normal (wp_seq (wp_region_lit (n_buildSlice H Tryz.underlying25 sz3 ze3 rfl rfl rfl (cs := []) rfl rfl ?_))))
    clear H; intro b66 w64 hN hE65 hs; clear a; intro a H
    replace hS := hS.newBlk hN hE65 hs; clear hN hs
    replace hS := hS.blkOwnL (e := eI) (k := 1) ([] : List Int) rfl rfl (by simp [maxLen])
    refine n_q H (q_fieldAddr0 rfl fo49_2) rfl (W_q (q_load rfl ((hS.blk 1 rfl).ld ag25 rfl)) rfl ?_); clear H a; intro a H
    replace hm := chkS hm; obtain ⟨hk68, hm⟩ := hm
    refine n_app (e := eI) H rfl rfl Tryz.underlying25 Tryz.underlying25 (by simp) el3 (hS.own 0 rfl) ((hrp0_1.ext (Flat.mono _) hS.x).src (fun _ _ => rfl)) eI_one hk68 (by simp only [maxLen]; omega) rfl ?_
    clear H; intro v71 w69 hN hC70 hb; clear a; intro a H; replace hS := hS.setOwn hN hC70 hb; clear hN hb
    refine n_q H (q_fieldAddr0 rfl fo49_2) rfl ?_; clear H a; intro a H
    replace hS := hS.pk1
    refine n_store1 H rfl rfl sz25 (hS.blk 0 rfl) (by simp) (((hS.own 1 rfl).slr rfl (fun _ _ => rfl))).one ?_
    clear H; intro w73 hN hC74 hz; clear a; intro a H; replace hS := hS.setBlk hN hC74; clear hN hz
    try simp only [List.set_cons_succ, List.set_cons_zero] at hS
    refine n_nil (then_normal (wp_seq (wp_region_lit (n_buildSlice H Tryz.underlying46 sz61 ze61 rfl rfl rfl (cs := []) rfl rfl ?_))))
    clear H; intro b77 w75 hN hE76 hs; clear a; intro a H
    replace hS := hS.newBlk hN hE76 hs; clear hN hs
    replace hS := hS.blkOwnL (e := eGWindow) (k := 3) ([] : List GWindow) rfl rfl (by simp [maxLen])
    refine n_q H (q_fieldAddr0 rfl fo49_3) rfl (W_q (q_load rfl ((hS.blk 1 rfl).ld ag46 rfl)) rfl ?_); clear H a; intro a H
    replace hm := chkS hm; obtain ⟨hk79, hm⟩ := hm
    refine n_app (e := eGWindow) H rfl rfl Tryz.underlying46 Tryz.underlying46 (by simp) el61 (hS.own 0 rfl) ((hrp0_2.ext (Flat.mono _) hS.x).src (fun _ _ => rfl)) eGWindow_one hk79 (by simp only [maxLen]; omega) rfl ?_
    clear H; intro v82 w80 hN hC81 hb; clear a; intro a H; replace hS := hS.setOwn hN hC81 hb; clear hN hb
    refine n_q H (q_fieldAddr0 rfl fo49_3) rfl ?_; clear H a; intro a H
    replace hS := hS.pk1
    refine n_store1 H rfl rfl sz46 (hS.blk 0 rfl) (by simp) (((hS.own 1 rfl).slr rfl (fun _ _ => rfl))).one ?_
    clear H; intro w84 hN hC85 hz; clear a; intro a H; replace hS := hS.setBlk hN hC85; clear hN hz
    try simp only [List.set_cons_succ, List.set_cons_zero] at hS
    refine n_nil (then_normal (wp_seq (wp_region_lit (n_buildSlice H Tryz.underlying47 sz63 ze63 rfl rfl rfl (cs := []) rfl rfl ?_))))
    clear H; intro b88 w86 hN hE87 hs; clear a; intro a H
    replace hS := hS.newBlk hN hE87 hs; clear hN hs
    replace hS := hS.blkOwnL (e := eGLink) (k := 4) ([] : List GLink) rfl rfl (by simp [maxLen])
    refine n_q H (q_fieldAddr0 rfl fo49_4) rfl (W_q (q_load rfl ((hS.blk 1 rfl).ld ag47 rfl)) rfl ?_); clear H a; intro a H
    replace hm := chkS hm; obtain ⟨hk90, hm⟩ := hm
    refine n_app (e := eGLink) H rfl rfl Tryz.underlying47 Tryz.underlying47 (by simp) el63 (hS.own 0 rfl) ((hrp0_3.ext (Flat.mono _) hS.x).src (fun _ _ => rfl)) eGLink_one hk90 (by simp only [maxLen]; omega) rfl ?_
    clear H; intro v93 w91 hN hC92 hb; clear a; intro a H; replace hS := hS.setOwn hN hC92 hb; clear hN hb
    refine n_q H (q_fieldAddr0 rfl fo49_4) rfl ?_; clear H a; intro a H
    replace hS := hS.pk1
    refine n_store1 H rfl rfl sz47 (hS.blk 0 rfl) (by simp) (((hS.own 1 rfl).slr rfl (fun _ _ => rfl))).one ?_
    clear H; intro w95 hN hC96 hz; clear a; intro a H; replace hS := hS.setBlk hN hC96; clear hN hz
    try simp only [List.set_cons_succ, List.set_cons_zero] at hS
    refine n_nil (then_normal (wp_seq (wp_region_lit (n_q H (q_load rfl ((hS.blk 0 rfl).ldAll ag49 sz49)) rfl ?_)))); clear H a; intro a H
    replace hS := hS.pk5
    refine n_storeAll H rfl rfl (vs := [.int .i64 a0.Ticks, v29, v71, v82, v93, .int .i64 a0.Tries]) rfl sz49 (hS.blk 0 rfl) rfl (by simp [((hS.deepSl 5 rfl)).one, (((hS.own 4 rfl).slr rfl (fun _ _ => rfl))).one, (((hS.own 3 rfl).slr rfl (fun _ _ => rfl))).one, (((hS.own 2 rfl).slr rfl (fun _ _ => rfl))).one]) ?_
    clear H; intro w97 hN hC98 hz; clear a; intro a H; replace hS := hS.setBlk hN hC98; clear hN hz
    refine n_nil (then_normal (wp_ret ?_))
    obtain rfl := Option.some.inj hm
    replace hS := hS.pk2
    replace hS := hS.pk3
    replace hS := hS.pk4
    replace hS := hS.pk5
    replace hS := hS.tk5
    refine retL H (.inr rfl) rfl (vs := [.agg #[.int .i64 a0.Ticks, v29, v71, v82, v93, .int .i64 a0.Tries]]) (resCell rfl ((hS.blk 4 rfl).ldAll ag49 sz49) resNil) ?_
    replace hS := hS.tk4
    exact ⟨_, _, _, _, rfl, hS⟩
theorem g_law14_same_w {w : World} {A : Nat → Addr} {v0 : Value} {a0 : ErrM} {a1 : Int} (hG : EV A w) (hH : HE w) (h0 : IsE A w v0 a0) {r : Bool} (hm : g_law14_same a0 a1 = some r) :
    Calls Tryz.prog 21 [v0, .int .i64 a1].toArray w (Ret fun u w' => u = .bool r ∧ Ext w w') := by
  have hS := St.begin NB w
  unfold g_law14_same at hm
  refine enter Tryz.func21 rfl rfl rfl ?_; intro a H; dsimp only [enumL, Nat.zero_add, Nat.reduceAdd] at H
  refine wp_seq (wp_region_lit (n_q H (q_assign rfl) rfl ?_)); clear H a; intro a H
  refine n_nil (then_normal (wp_seq (wp_region_lit (n_q H (q_move rfl) rfl ?_)))); clear H a; intro a H
  refine n_call H rfl en14 (code_w (hG.ext hS.x) (IsErr.ext h0 hS.x)) rfl ?_
  clear H; intro x23 w21 hv; clear a; intro a H; obtain ⟨rfl, hE22⟩ := hv; replace hS := hS.ext hE22
  refine n_q H (q_move rfl) rfl (W_q (q_eqlD rfl rfl) rfl (W_q (q_move rfl) rfl ?_)); clear H a; intro a H
  rcases Bool.eq_false_or_eq_true (decide ((ErrM.code a0) = a1)) with hg24 | hg24
  · replace H := H.know 9 rfl hg24
    replace hm := condT hm hg24
    refine n_yes H rfl rfl (n_q H (q_move rfl) rfl (W_yes rfl rfl ?_)); clear H a; intro a H
    refine n_call H rfl en15 (place_w (hH.ext hS.x) (IsErr.ext h0 hS.x)) rfl ?_
    clear H; intro x27 w25 hv; clear a; intro a H; obtain ⟨rfl, hE26⟩ := hv; replace hS := hS.ext hE26
    refine n_yes H rfl rfl (n_q H (q_eqlD rfl rfl) rfl (W_q (q_pickT rfl rfl) rfl (W_q (q_assign rfl) rfl ?_))); clear H a; intro a H
    refine n_nil (then_normal (wp_ret ?_))
    obtain rfl := Option.some.inj hm
    refine ret1 H (.inr rfl) rfl rfl ?_
    exact ⟨rfl, hS.x⟩
  · replace H := H.know 9 rfl hg24
    replace hm := condF hm hg24
    refine n_no H rfl rfl (by decide) rfl (W_no rfl rfl (by decide) rfl (W_no rfl rfl (by decide) rfl (W_q (q_pickF rfl rfl) rfl (W_q (q_assign rfl) rfl ?_)))); clear H a; intro a H
    refine n_nil (then_normal (wp_ret ?_))
    obtain rfl := Option.some.inj hm
    refine ret1 H (.inr rfl) rfl rfl ?_
    exact ⟨rfl, hS.x⟩
theorem g_r14_Boots_w {w : World} {A : Nat → Addr} {cs0 : List Value} {a0 : GConfig} {a1 : Int} (h0 : RGConfig w cs0 a0) {r : List Int × Int} (hm : g_r14_Boots a0 a1 = some r) :
    Calls Tryz.prog 26 [.agg cs0.toArray, .int .i64 a1].toArray w (Ret fun u w' => ∃ h_0, u = .tuple #[h_0, .int .i64 r.2] ∧ St NB w w' [ownR 3 1 h_0 r.1.length (r.1.flatMap eI)]) := by
  obtain ⟨vp0_0, vp0_1, vp0_2, vp0_3, rfl, hrp0_0, hrp0_1, hrp0_2, hrp0_3⟩ := h0
  have hS := St.begin NB w
  unfold g_r14_Boots at hm
  refine enter Tryz.func26 rfl rfl rfl ?_; intro a H; dsimp only [enumL, Nat.zero_add, Nat.reduceAdd] at H
  refine wp_seq (wp_region_lit (n_box H rfl (cs := [.int .i64 a0.Ticks, vp0_0, vp0_1, vp0_2, vp0_3, .int .i64 a0.Tries]) rfl rfl ?_))
  clear H; intro b21 w22 hN hE23 hs; clear a; intro a H
  replace hS := hS.newBlk hN hE23 hs; clear hN hs
  refine n_q H (q_assign rfl) rfl (W_q (q_assign rfl) rfl ?_); clear H a; intro a H
  refine n_nil (then_normal (wp_seq (wp_seq (wp_region_lit (n_q H (q_load rfl ((hS.blk 0 rfl).ldAll ag49 sz49)) rfl ?_))))); clear H a; intro a H
  replace hm := bindS hm; obtain ⟨r24, hr24, hm⟩ := hm
  refine n_call H rfl en60 (g_r14_Good_w (A := A) (⟨_, _, _, _, rfl, (hrp0_0.ext RGPlan.mono hS.x), (hrp0_1.ext (Flat.mono _) hS.x), (hrp0_2.ext (Flat.mono _) hS.x), (hrp0_3.ext (Flat.mono _) hS.x)⟩ : RGConfig _ [.int .i64 a0.Ticks, vp0_0, vp0_1, vp0_2, vp0_3, .int .i64 a0.Tries] a0) hr24) rfl ?_
  clear H; intro x27 w25 hv; clear a; intro a H; obtain ⟨rfl, hE26⟩ := hv
  replace hS := hS.ext hE26
  refine n_q H (q_not rfl) rfl ?_; clear H a; intro a H
  refine n_nil (then_normal (c_cond H rfl (fun hc28 => ?_) (fun hc28 => ?_)))
  · replace hm := condT hm hc28
    refine wp_seq (wp_region_lit (n_q H (q_assign rfl) rfl (W_q (q_assign rfl) rfl ?_))); clear H a; intro a H
    refine n_nil (then_normal (wp_ret (then_ret ?_)))
    obtain rfl := Option.some.inj hm
    replace hS := hS.nilOwn 3 1
    replace hS := hS.tk1
    refine ret2 H (.inr rfl) rfl rfl rfl ?_
    exact ⟨_, rfl, hS⟩
  · replace hm := condF hm hc28
    refine wp_skip (then_normal (wp_seq (wp_seq (wp_region_lit (n_c H (fun HC => ?_)))))); clear H
    refine nc_q HC (q_move rfl) rfl (by kernel_rfl) (V_q (q_neqD rfl rfl) rfl (by kernel_rfl) (V_q (q_move rfl) rfl (by kernel_rfl) (V_g (q_move rfl) (by kernel_rfl) (by kernel_rfl) (by kernel_rfl) (V_g (q_neqD rfl rfl) (by kernel_rfl) (by kernel_rfl) (by kernel_rfl) (V_and (j := 2) rfl rfl rfl (by kernel_rfl) (by kernel_rfl) ?_))))); clear HC a; intro a HC
    have H := HC.has; clear HC
    refine n_nil (then_normal (c_cond H rfl (fun hc30 => ?_) (fun hc30 => ?_)))
    · replace hm := condT hm hc30
      refine wp_seq (wp_region_lit (n_q H (q_assign rfl) rfl (W_q (q_assign rfl) rfl ?_))); clear H a; intro a H
      refine n_nil (then_normal (wp_ret (then_ret ?_)))
      obtain rfl := Option.some.inj hm
      replace hS := hS.nilOwn 3 1
      replace hS := hS.tk1
      refine ret2 H (.inr rfl) rfl rfl rfl ?_
      exact ⟨_, rfl, hS⟩
    · replace hm := condF hm hc30
      refine wp_skip (then_normal (wp_seq (wp_region_lit (n_q H (q_assign rfl) rfl ?_)))); clear H a; intro a H
      refine n_nil (then_normal (wp_seq (wp_seq (wp_region_lit (n_q H (q_assign rfl) rfl ?_))))); clear H a; intro a H
      refine n_nil (then_normal (wp_block ?_))
      replace hS := hS.nilOwn 3 1
      replace hm := bindS hm; obtain ⟨q32, hm, hm32⟩ := hm; replace hm := iter_some hm; obtain ⟨n32, hm⟩ := hm
      refine c_loop (σ := Nat × (List Int) × Nat × Value) (fun (m, l33, i36, v34) => [(1, .int .i64 a1), (2, .pointer (some ⟨b21, 0, none⟩)), (6, v34), (7, .int .i64 ((i36 : Nat) : Int))]) (fun (m, l33, i36, v34) wl => iterN (g_r14_Boots_L4 a0 a1) m (l33, i36) = some q32 ∧ St NB w wl [ownR 3 1 v34 l33.length (l33.flatMap eI), blkR b21 [.int .i64 a0.Ticks, vp0_0, vp0_1, vp0_2, vp0_3, .int .i64 a0.Tries] 49]) (fun (m, l33, i36, v34) => m) (n32, ([] : List Int), 0, .slice none 0 0) H ⟨rfl, rfl, rfl, rfl, trivial⟩ ⟨hm, hS⟩ ?_
      clear H hS hm a; intro xx a w38 H hR; obtain ⟨m, l33, i36, v34⟩ := xx; simp only [ent, List.map_cons, List.map_nil] at H; (try dsimp only at hR); obtain ⟨hm, hS⟩ := hR
      replace hm := iterN_step hm; obtain ⟨m32, o32, rfl, hm, hn32⟩ := hm; try dsimp only [g_r14_Boots_L4] at hm
      refine wp_seq (wp_seq (wp_region_lit (n_q H (q_move rfl) rfl (W_q (q_fieldAddr0 rfl fo49_2) rfl (W_q (q_load rfl ((hS.blk 1 rfl).ld ag25 rfl)) rfl ?_))))); clear H a; intro a H
      obtain ⟨A39, c39, hv39, hl39, hm39⟩ := SlR.formV (hrp0_1.ext (Flat.mono _) hS.x)
      refine n_q H (q_lenV Tryz.underlying25 rfl hv39) rfl (W_q (q_lssN (i := i36) (j := a0.Homes.length) rfl rfl) rfl ?_); clear H a; intro a H
      refine n_nil (then_normal (c_cond H rfl (fun hc40 => ?_) (fun hc40 => ?_)))
      · replace hm := condT hm hc40
        have hlt41 : i36 < a0.Homes.length := of_decide_eq_true hc40
        refine wp_skip (then_normal ?_)
        replace hm := bindS hm; obtain ⟨j42, hm, hm42⟩ := hm
        refine c_join (σ := (List Int) × Value) H (fun (l543, v544) => [(1, .int .i64 a1), (2, .pointer (some ⟨b21, 0, none⟩)), (6, v544), (7, .int .i64 ((i36 : Nat) : Int))]) (fun (l543, v544) wl => (g_r14_Boots_J3 i36) l543 = some o32 ∧ St NB w wl [ownR 3 1 v544 l543.length (l543.flatMap eI), blkR b21 [.int .i64 a0.Ticks, vp0_0, vp0_1, vp0_2, vp0_3, .int .i64 a0.Tries] 49]) ?_ ?_
        · skip
          refine wp_block (wp_seq (wp_region_lit (n_q H (q_fieldAddr0 rfl fo49_2) rfl (W_q (q_load rfl ((hS.blk 1 rfl).ld ag25 rfl)) rfl (W_q (q_move rfl) rfl ?_))))); clear H a; intro a H
          replace hm := bindS hm; obtain ⟨x546, hx546, hm⟩ := hm
          obtain ⟨adx546, hAx546⟩ := SlR.adV (hrp0_1.ext (Flat.mono _) hS.x) hv39 hx546
          refine n_q H (q_ixV (i := i36) Tryz.underlying25 sz3 rfl hv39 hAx546 rfl (natI hx546)) rfl (W_q (q_load rfl (SlR.ldOneV (hrp0_1.ext (Flat.mono _) hS.x) hv39 hAx546 ag3 hx546 rfl)) rfl (W_q (q_move rfl) rfl (W_q (q_eqlD rfl rfl) rfl ?_))); clear H a; intro a H
          refine n_nil (then_normal (c_cond H rfl (fun hc547 => ?_) (fun hc547 => ?_)))
          · replace hm := condT hm hc547
            refine wp_region_lit (n_q H (q_move rfl) rfl (W_q (q_move rfl) rfl ?_)); clear H a; intro a H
            refine n_buildSlice H Tryz.underlying25 sz3 ze3 rfl rfl rfl (cs := [.int .i64 ((i36 : Nat) : Int)]) (by kernel_rfl) rfl ?_
            clear H; intro b550 w548 hN hE549 hs; clear a; intro a H
            replace hS := hS.newBlk hN hE549 hs; clear hN hs
            replace hS := hS.blkOwnL (e := eI) (k := 1) [((i36 : Nat) : Int)] rfl rfl (by simp [maxLen])
            replace hS := hS.pk1
            replace hm := chkS hm; obtain ⟨hk552, hm⟩ := hm
            refine n_app (e := eI) H rfl rfl Tryz.underlying25 Tryz.underlying25 (by simp) el3 (hS.own 0 rfl) (((hS.own 1 rfl).slr rfl (fun _ _ => rfl)).src (fun _ _ => rfl)) eI_one hk552 (by simp only [maxLen]; omega) rfl ?_
            clear H; intro v555 w553 hN hC554 hb; clear a; intro a H; replace hS := hS.setOwn hN hC554 hb; clear hN hb
            refine n_q H (q_assign rfl) rfl ?_; clear H a; intro a H
            refine n_nil (block_normal (then_normal ?_))
            obtain rfl := Option.some.inj hm; replace hm := hm42; try dsimp only at hm
            replace hS := hS.pk2
            replace hS := hS.pk1
            replace hS := hS.tk2
            exact join ((l33 ++ [((i36 : Nat) : Int)]), v555) H ⟨rfl, rfl, rfl, rfl, trivial⟩ ⟨hm, hS⟩
          · replace hm := condF hm hc547
            refine wp_skip (block_normal (then_normal ?_))
            obtain rfl := Option.some.inj hm; replace hm := hm42; try dsimp only at hm
            exact join (l33, v34) H ⟨rfl, rfl, rfl, rfl, trivial⟩ ⟨hm, hS⟩
        · clear H hS hm a; intro xx a w557 H hR
          obtain ⟨l543, v544⟩ := xx
          simp only [ent, List.map_cons, List.map_nil] at H; (try dsimp only at hR); obtain ⟨hm, hS⟩ := hR; try dsimp only [g_r14_Boots_J3] at hm
          refine wp_region_lit (n_q H (q_move rfl) rfl (W_q (q_incr (i := i36) (j := 1) rfl rfl (by omega)) rfl (W_q (q_assign rfl) rfl ?_))); clear H a; intro a H
          refine n_nil (then_normal ?_)
          obtain rfl := Option.some.inj hm
          exact round (m32, l543, i36 + 1, v544) H ⟨rfl, rfl, rfl, rfl, trivial⟩ ⟨hn32, hS⟩ (Nat.lt_succ_self _)
      · replace hm := condF hm hc40
        refine wp_exit (then_exit (then_exit (block_exit ?_)))
        obtain rfl := Option.some.inj hm; have hz : _ = q32 := hn32; subst hz; replace hm := hm32; try dsimp only at hm
        refine then_normal (wp_seq (wp_region_lit (n_q H (q_move rfl) rfl (W_q (q_assign rfl) rfl (W_q (q_assign rfl) rfl ?_))))); clear H a; intro a H
        refine n_nil (then_normal (wp_ret ?_))
        obtain rfl := Option.some.inj hm
        replace hS := hS.tk1
        refine ret2 H (.inr rfl) rfl rfl rfl ?_
        exact ⟨_, rfl, hS⟩
theorem g_r14_Windows_w {w : World} {A : Nat → Addr} {cs0 : List Value} {a0 : GConfig} {a1 : Int} (h0 : RGConfig w cs0 a0) {r : List GWindow × Int} (hm : g_r14_Windows a0 a1 = some r) :
    Calls Tryz.prog 27 [.agg cs0.toArray, .int .i64 a1].toArray w (Ret fun u w' => ∃ h_0, u = .tuple #[h_0, .int .i64 r.2] ∧ St NB w w' [ownR 61 3 h_0 r.1.length (r.1.flatMap eGWindow)]) := by
  obtain ⟨vp0_0, vp0_1, vp0_2, vp0_3, rfl, hrp0_0, hrp0_1, hrp0_2, hrp0_3⟩ := h0
  have hS := St.begin NB w
  unfold g_r14_Windows at hm
  refine enter Tryz.func27 rfl rfl rfl ?_; intro a H; dsimp only [enumL, Nat.zero_add, Nat.reduceAdd] at H
  refine wp_seq (wp_region_lit (n_box H rfl (cs := [.int .i64 a0.Ticks, vp0_0, vp0_1, vp0_2, vp0_3, .int .i64 a0.Tries]) rfl rfl ?_))
  clear H; intro b21 w22 hN hE23 hs; clear a; intro a H
  replace hS := hS.newBlk hN hE23 hs; clear hN hs
  refine n_q H (q_assign rfl) rfl (W_q (q_assign rfl) rfl ?_); clear H a; intro a H
  refine n_nil (then_normal (wp_seq (wp_seq (wp_region_lit (n_q H (q_load rfl ((hS.blk 0 rfl).ldAll ag49 sz49)) rfl ?_))))); clear H a; intro a H
  replace hm := bindS hm; obtain ⟨r24, hr24, hm⟩ := hm
  refine n_call H rfl en60 (g_r14_Good_w (A := A) (⟨_, _, _, _, rfl, (hrp0_0.ext RGPlan.mono hS.x), (hrp0_1.ext (Flat.mono _) hS.x), (hrp0_2.ext (Flat.mono _) hS.x), (hrp0_3.ext (Flat.mono _) hS.x)⟩ : RGConfig _ [.int .i64 a0.Ticks, vp0_0, vp0_1, vp0_2, vp0_3, .int .i64 a0.Tries] a0) hr24) rfl ?_
  clear H; intro x27 w25 hv; clear a; intro a H; obtain ⟨rfl, hE26⟩ := hv
  replace hS := hS.ext hE26
  refine n_q H (q_not rfl) rfl ?_; clear H a; intro a H
  refine n_nil (then_normal (c_cond H rfl (fun hc28 => ?_) (fun hc28 => ?_)))
  · replace hm := condT hm hc28
    refine wp_seq (wp_region_lit (n_q H (q_assign rfl) rfl (W_q (q_assign rfl) rfl ?_))); clear H a; intro a H
    refine n_nil (then_normal (wp_ret (then_ret ?_)))
    obtain rfl := Option.some.inj hm
    replace hS := hS.nilOwn 61 3
    replace hS := hS.tk1
    refine ret2 H (.inr rfl) rfl rfl rfl ?_
    exact ⟨_, rfl, hS⟩
  · replace hm := condF hm hc28
    refine wp_skip (then_normal (wp_seq (wp_seq (wp_region_lit (n_q H (q_load rfl ((hS.blk 0 rfl).ldAll ag49 sz49)) rfl (W_q (q_move rfl) rfl ?_)))))); clear H a; intro a H
    replace hm := bindS hm; obtain ⟨r30, hr30, hm⟩ := hm
    refine n_call H rfl en76 (g_r14_owner_w (A := A) (⟨_, _, _, _, rfl, (hrp0_0.ext RGPlan.mono hS.x), (hrp0_1.ext (Flat.mono _) hS.x), (hrp0_2.ext (Flat.mono _) hS.x), (hrp0_3.ext (Flat.mono _) hS.x)⟩ : RGConfig _ [.int .i64 a0.Ticks, vp0_0, vp0_1, vp0_2, vp0_3, .int .i64 a0.Tries] a0) hr30) rfl ?_
    clear H; intro x33 w31 hv; clear a; intro a H; obtain ⟨rfl, hE32⟩ := hv
    replace hS := hS.ext hE32
    refine n_q H (q_not rfl) rfl ?_; clear H a; intro a H
    refine n_nil (then_normal (c_cond H rfl (fun hc34 => ?_) (fun hc34 => ?_)))
    · replace hm := condT hm hc34
      refine wp_seq (wp_region_lit (n_q H (q_assign rfl) rfl (W_q (q_assign rfl) rfl ?_))); clear H a; intro a H
      refine n_nil (then_normal (wp_ret (then_ret ?_)))
      obtain rfl := Option.some.inj hm
      replace hS := hS.nilOwn 61 3
      replace hS := hS.tk1
      refine ret2 H (.inr rfl) rfl rfl rfl ?_
      exact ⟨_, rfl, hS⟩
    · replace hm := condF hm hc34
      refine wp_skip (then_normal (wp_seq (wp_region_lit (n_q H (q_assign rfl) rfl ?_)))); clear H a; intro a H
      refine n_nil (then_normal (wp_seq (wp_seq (wp_region_lit (n_q H (q_assign rfl) rfl ?_))))); clear H a; intro a H
      refine n_nil (then_normal (wp_block ?_))
      replace hS := hS.nilOwn 61 3
      replace hm := bindS hm; obtain ⟨q36, hm, hm36⟩ := hm; replace hm := iter_some hm; obtain ⟨n36, hm⟩ := hm
      refine c_loop (σ := Nat × (List GWindow) × Nat × Value) (fun (m, l37, i40, v38) => [(1, .int .i64 a1), (2, .pointer (some ⟨b21, 0, none⟩)), (6, v38), (7, .int .i64 ((i40 : Nat) : Int))]) (fun (m, l37, i40, v38) wl => iterN (g_r14_Windows_L4 a0 a1) m (l37, i40) = some q36 ∧ St NB w wl [ownR 61 3 v38 l37.length (l37.flatMap eGWindow), blkR b21 [.int .i64 a0.Ticks, vp0_0, vp0_1, vp0_2, vp0_3, .int .i64 a0.Tries] 49]) (fun (m, l37, i40, v38) => m) (n36, ([] : List GWindow), 0, .slice none 0 0) H ⟨rfl, rfl, rfl, rfl, trivial⟩ ⟨hm, hS⟩ ?_
      clear H hS hm a; intro xx a w42 H hR; obtain ⟨m, l37, i40, v38⟩ := xx; simp only [ent, List.map_cons, List.map_nil] at H; (try dsimp only at hR); obtain ⟨hm, hS⟩ := hR
      replace hm := iterN_step hm; obtain ⟨m36, o36, rfl, hm, hn36⟩ := hm; try dsimp only [g_r14_Windows_L4] at hm
      refine wp_seq (wp_seq (wp_region_lit (n_q H (q_move rfl) rfl (W_q (q_fieldAddr0 rfl fo49_3) rfl (W_q (q_load rfl ((hS.blk 1 rfl).ld ag46 rfl)) rfl ?_))))); clear H a; intro a H
      obtain ⟨A43, c43, hv43, hl43, hm43⟩ := SlR.formV (hrp0_2.ext (Flat.mono _) hS.x)
      refine n_q H (q_lenV Tryz.underlying46 rfl hv43) rfl (W_q (q_lssN (i := i40) (j := a0.Windows.length) rfl rfl) rfl ?_); clear H a; intro a H
      refine n_nil (then_normal (c_cond H rfl (fun hc44 => ?_) (fun hc44 => ?_)))
      · replace hm := condT hm hc44
        have hlt45 : i40 < a0.Windows.length := of_decide_eq_true hc44
        refine wp_skip (then_normal ?_)
        replace hm := bindS hm; obtain ⟨j46, hm, hm46⟩ := hm
        refine c_join (σ := (List GWindow) × Value) H (fun (l547, v548) => [(1, .int .i64 a1), (2, .pointer (some ⟨b21, 0, none⟩)), (6, v548), (7, .int .i64 ((i40 : Nat) : Int))]) (fun (l547, v548) wl => (g_r14_Windows_J3 i40) l547 = some o36 ∧ St NB w wl [ownR 61 3 v548 l547.length (l547.flatMap eGWindow), blkR b21 [.int .i64 a0.Ticks, vp0_0, vp0_1, vp0_2, vp0_3, .int .i64 a0.Tries] 49]) ?_ ?_
        · skip
          refine wp_block (wp_seq (wp_region_lit (n_q H (q_fieldAddr0 rfl fo49_3) rfl (W_q (q_load rfl ((hS.blk 1 rfl).ld ag46 rfl)) rfl (W_q (q_move rfl) rfl ?_))))); clear H a; intro a H
          replace hm := bindS hm; obtain ⟨x550, hx550, hm⟩ := hm
          obtain ⟨adx550, hAx550⟩ := SlR.adV (hrp0_2.ext (Flat.mono _) hS.x) hv43 hx550
          refine n_q H (q_ixV (i := i40) Tryz.underlying46 sz61 rfl hv43 hAx550 rfl (natI hx550)) rfl (W_q (q_fieldAddr rfl fo61_0) rfl (W_q (q_load rfl (SlR.ldCellV (j := 0) (hrp0_2.ext (Flat.mono _) hS.x) hv43 hAx550 ag3 hx550 rfl)) rfl (W_q (q_move rfl) rfl (W_q (q_eqlD rfl rfl) rfl ?_)))); clear H a; intro a H
          refine n_nil (then_normal (c_cond H rfl (fun hc551 => ?_) (fun hc551 => ?_)))
          · replace hm := condT hm hc551
            refine wp_region_lit (n_q H (q_move rfl) rfl (W_q (q_fieldAddr0 rfl fo49_3) rfl (W_q (q_load rfl ((hS.blk 1 rfl).ld ag46 rfl)) rfl (W_q (q_move rfl) rfl ?_)))); clear H a; intro a H
            replace hm := bindS hm; obtain ⟨x552, hx552, hm⟩ := hm
            obtain ⟨adx552, hAx552⟩ := SlR.adV (hrp0_2.ext (Flat.mono _) hS.x) hv43 hx552
            refine n_q H (q_ixV (i := i40) Tryz.underlying46 sz61 rfl hv43 hAx552 rfl (natI hx552)) rfl (W_q (q_load rfl (SlR.ldAggV (hrp0_2.ext (Flat.mono _) hS.x) hv43 hAx552 ag61 sz61 hx552)) rfl ?_); clear H a; intro a H
            refine n_buildSlice H Tryz.underlying46 sz61 ze61 rfl rfl rfl (cs := [.int .i64 x552.Part, .int .i64 x552.Start, .int .i64 x552.Len]) (by kernel_rfl) rfl ?_
            clear H; intro b555 w553 hN hE554 hs; clear a; intro a H
            replace hS := hS.newBlk hN hE554 hs; clear hN hs
            replace hS := hS.blkOwnL (e := eGWindow) (k := 3) [x552] rfl rfl (by simp [maxLen])
            replace hS := hS.pk1
            replace hm := chkS hm; obtain ⟨hk557, hm⟩ := hm
            refine n_app (e := eGWindow) H rfl rfl Tryz.underlying46 Tryz.underlying46 (by simp) el61 (hS.own 0 rfl) (((hS.own 1 rfl).slr rfl (fun _ _ => rfl)).src (fun _ _ => rfl)) eGWindow_one hk557 (by simp only [maxLen]; omega) rfl ?_
            clear H; intro v560 w558 hN hC559 hb; clear a; intro a H; replace hS := hS.setOwn hN hC559 hb; clear hN hb
            refine n_q H (q_assign rfl) rfl ?_; clear H a; intro a H
            refine n_nil (block_normal (then_normal ?_))
            obtain rfl := Option.some.inj hm; replace hm := hm46; try dsimp only at hm
            replace hS := hS.pk2
            replace hS := hS.pk1
            replace hS := hS.tk2
            exact join ((l37 ++ [x552]), v560) H ⟨rfl, rfl, rfl, rfl, trivial⟩ ⟨hm, hS⟩
          · replace hm := condF hm hc551
            refine wp_skip (block_normal (then_normal ?_))
            obtain rfl := Option.some.inj hm; replace hm := hm46; try dsimp only at hm
            exact join (l37, v38) H ⟨rfl, rfl, rfl, rfl, trivial⟩ ⟨hm, hS⟩
        · clear H hS hm a; intro xx a w562 H hR
          obtain ⟨l547, v548⟩ := xx
          simp only [ent, List.map_cons, List.map_nil] at H; (try dsimp only at hR); obtain ⟨hm, hS⟩ := hR; try dsimp only [g_r14_Windows_J3] at hm
          refine wp_region_lit (n_q H (q_move rfl) rfl (W_q (q_incr (i := i40) (j := 1) rfl rfl (by omega)) rfl (W_q (q_assign rfl) rfl ?_))); clear H a; intro a H
          refine n_nil (then_normal ?_)
          obtain rfl := Option.some.inj hm
          exact round (m36, l547, i40 + 1, v548) H ⟨rfl, rfl, rfl, rfl, trivial⟩ ⟨hn36, hS⟩ (Nat.lt_succ_self _)
      · replace hm := condF hm hc44
        refine wp_exit (then_exit (then_exit (block_exit ?_)))
        obtain rfl := Option.some.inj hm; have hz : _ = q36 := hn36; subst hz; replace hm := hm36; try dsimp only at hm
        refine then_normal (wp_seq (wp_region_lit (n_q H (q_move rfl) rfl (W_q (q_assign rfl) rfl (W_q (q_assign rfl) rfl ?_))))); clear H a; intro a H
        refine n_nil (then_normal (wp_ret ?_))
        obtain rfl := Option.some.inj hm
        replace hS := hS.tk1
        refine ret2 H (.inr rfl) rfl rfl rfl ?_
        exact ⟨_, rfl, hS⟩
theorem g_frame_Boots_w {w : World} {A : Nat → Addr} {cs0 : List Value} {a0 : GConfig} {a1 : Int} (hG : EV A w) (h0 : RGConfig w cs0 a0) {r : List Int × ErrM} (hm : g_frame_Boots a0 a1 = some r) :
    Calls Tryz.prog 31 [.agg cs0.toArray, .int .i64 a1].toArray w (Ret fun u w' => ∃ h_0 h_1, u = .tuple #[h_0, h_1] ∧ St NB w w' [ownR 3 1 h_0 r.1.length (r.1.flatMap eI), erQ A h_1 r.2]) := by
  obtain ⟨vp0_0, vp0_1, vp0_2, vp0_3, rfl, hrp0_0, hrp0_1, hrp0_2, hrp0_3⟩ := h0
  have hS := St.begin NB w
  unfold g_frame_Boots at hm
  refine enter Tryz.func31 rfl rfl rfl ?_; intro a H; dsimp only [enumL, Nat.zero_add, Nat.reduceAdd] at H
  refine wp_seq (wp_region_lit (n_box H rfl (cs := [.int .i64 a0.Ticks, vp0_0, vp0_1, vp0_2, vp0_3, .int .i64 a0.Tries]) rfl rfl ?_))
  clear H; intro b21 w22 hN hE23 hs; clear a; intro a H
  replace hS := hS.newBlk hN hE23 hs; clear hN hs
  refine n_q H (q_assign rfl) rfl (W_q (q_assign rfl) rfl ?_); clear H a; intro a H
  refine n_nil (then_normal (wp_seq (wp_seq (wp_region_lit (n_q H (q_load rfl ((hS.blk 0 rfl).ldAll ag49 sz49)) rfl ?_))))); clear H a; intro a H
  replace hm := bindS hm; obtain ⟨r24, hr24, hm⟩ := hm
  refine n_call H rfl en28 (g_frame_Check_w (A := A) (hG.ext hS.x) (⟨_, _, _, _, rfl, (hrp0_0.ext RGPlan.mono hS.x), (hrp0_1.ext (Flat.mono _) hS.x), (hrp0_2.ext (Flat.mono _) hS.x), (hrp0_3.ext (Flat.mono _) hS.x)⟩ : RGConfig _ [.int .i64 a0.Ticks, vp0_0, vp0_1, vp0_2, vp0_3, .int .i64 a0.Tries] a0) hr24) rfl ?_
  clear H; intro u25 w27 hv; clear a; intro a H; obtain ⟨_, rfl, hE28⟩ := hv
  replace hS := hS.new hE28; simp only [List.cons_append, List.nil_append] at hS
  refine n_q H (q_cast (q_nnilI Tryz.underlying41 rfl rfl (hS.any 0 rfl : IsE A w27 u25 r24).form) (show _ = Value.bool (!decide (r24 = .nil)) by rw [IsErr.isNil (hS.any 0 rfl : IsE A w27 u25 r24)])) rfl ?_; clear H a; intro a H
  refine n_nil (then_normal (c_cond H rfl (fun hc30 => ?_) (fun hc30 => ?_)))
  · replace hm := condT hm hc30
    refine wp_seq (c_quiet (by kernel_rfl) (by kernel_rfl) ?_)
    refine qq_q H (q_load rfl ((hG.ext hS.x).ld gPlan (by decide) ag41)) rfl ?_; clear H a; intro a H
    refine qq_q H (q_assign rfl) rfl ?_; clear H a; intro a H
    refine qq_q H (q_assign rfl) rfl ?_; clear H a; intro a H
    refine qq_nil ?_; intro w31 hE32
    replace hS := hS.ext hE32
    refine then_normal (wp_ret (then_ret ?_))
    obtain rfl := Option.some.inj hm
    replace hS := hS.nilOwn 3 1
    replace hS := hS.dVar (A := A) (g := gPlan) (by decide)
    replace hS := hS.pk1
    replace hS := hS.tk2
    refine ret2 H (.inr rfl) rfl rfl rfl ?_
    exact ⟨_, _, rfl, hS⟩
  · replace hm := condF hm hc30
    refine wp_skip (then_normal (wp_seq (wp_seq (wp_region_lit (n_c H (fun HC => ?_)))))); clear H
    refine nc_q HC (q_move rfl) rfl (by kernel_rfl) (V_q (q_neqD rfl rfl) rfl (by kernel_rfl) (V_q (q_move rfl) rfl (by kernel_rfl) (V_g (q_move rfl) (by kernel_rfl) (by kernel_rfl) (by kernel_rfl) (V_g (q_neqD rfl rfl) (by kernel_rfl) (by kernel_rfl) (by kernel_rfl) (V_and (j := 2) rfl rfl rfl (by kernel_rfl) (by kernel_rfl) ?_))))); clear HC a; intro a HC
    have H := HC.has; clear HC
    refine n_nil (then_normal (c_cond H rfl (fun hc35 => ?_) (fun hc35 => ?_)))
    · replace hm := condT hm hc35
      refine wp_seq (c_quiet (by kernel_rfl) (by kernel_rfl) ?_)
      refine qq_q H (q_load rfl ((hG.ext hS.x).ld gArg (by decide) ag41)) rfl ?_; clear H a; intro a H
      refine qq_q H (q_assign rfl) rfl ?_; clear H a; intro a H
      refine qq_q H (q_assign rfl) rfl ?_; clear H a; intro a H
      refine qq_nil ?_; intro w36 hE37
      replace hS := hS.ext hE37
      refine then_normal (wp_ret (then_ret ?_))
      obtain rfl := Option.some.inj hm
      replace hS := hS.nilOwn 3 1
      replace hS := hS.dVar (A := A) (g := gArg) (by decide)
      replace hS := hS.pk1
      replace hS := hS.tk2
      refine ret2 H (.inr rfl) rfl rfl rfl ?_
      exact ⟨_, _, rfl, hS⟩
    · replace hm := condF hm hc35
      refine wp_skip (then_normal (wp_seq (wp_region_lit (n_q H (q_assign rfl) rfl ?_)))); clear H a; intro a H
      refine n_nil (then_normal (wp_seq (wp_seq (wp_region_lit (n_q H (q_fieldAddr0 rfl fo49_2) rfl (W_q (q_load rfl ((hS.blk 1 rfl).ld ag25 rfl)) rfl ?_)))))); clear H a; intro a H
      obtain ⟨A40, c40, hv40, hl40, hm40⟩ := SlR.formV (hrp0_1.ext (Flat.mono _) hS.x)
      refine n_q H (q_lenV Tryz.underlying25 rfl hv40) rfl (W_q (q_move rfl) rfl ?_); clear H a; intro a H
      refine n_nil (then_normal (wp_block ?_))
      replace hS := hS.nilOwn 3 1
      replace hS := hS.tk1
      replace hm := bindS hm; obtain ⟨q41, hm, hm41⟩ := hm; replace hm := iter_some hm; obtain ⟨n41, hm⟩ := hm
      refine c_loop (σ := Nat × (List Int) × Nat × Value) (fun (m, l42, i45, v43) => [(1, .int .i64 a1), (6, v43), (21, vp0_1), (22, .int .i64 ((a0.Homes.length : Nat) : Int)), (23, .int .i64 ((i45 : Nat) : Int))]) (fun (m, l42, i45, v43) wl => iterN (g_frame_Boots_L4 a0 a1) m (l42, i45) = some q41 ∧ St NB w wl [ownR 3 1 v43 l42.length (l42.flatMap eI)]) (fun (m, l42, i45, v43) => m) (n41, ([] : List Int), 0, .slice none 0 0) H ⟨rfl, rfl, rfl, rfl, rfl, trivial⟩ ⟨hm, hS⟩ ?_
      clear H hS hm a; intro xx a w47 H hR; obtain ⟨m, l42, i45, v43⟩ := xx; simp only [ent, List.map_cons, List.map_nil] at H; (try dsimp only at hR); obtain ⟨hm, hS⟩ := hR
      replace hm := iterN_step hm; obtain ⟨m41, o41, rfl, hm, hn41⟩ := hm; try dsimp only [g_frame_Boots_L4] at hm
      refine wp_seq (wp_region_lit (n_q H (q_lssN (i := i45) (j := a0.Homes.length) rfl rfl) rfl ?_)); clear H a; intro a H
      refine n_nil (then_normal (wp_seq (c_cond H rfl (fun hc48 => ?_) (fun hc48 => ?_))))
      · replace hm := condT hm hc48
        have hlt49 : i45 < a0.Homes.length := of_decide_eq_true hc48
        refine wp_skip (then_normal ?_)
        replace hm := bindS hm; obtain ⟨j50, hm, hm50⟩ := hm
        refine c_join (σ := (List Int) × Value) H (fun (l551, v552) => [(1, .int .i64 a1), (6, v552), (21, vp0_1), (22, .int .i64 ((a0.Homes.length : Nat) : Int)), (23, .int .i64 ((i45 : Nat) : Int))]) (fun (l551, v552) wl => (g_frame_Boots_J3 i45) l551 = some o41 ∧ St NB w wl [ownR 3 1 v552 l551.length (l551.flatMap eI)]) ?_ ?_
        · skip
          refine wp_block (wp_seq (wp_region_lit (n_q H (q_move rfl) rfl ?_))); clear H a; intro a H
          replace hm := bindS hm; obtain ⟨x554, hx554, hm⟩ := hm
          obtain ⟨adx554, hAx554⟩ := SlR.adV (hrp0_1.ext (Flat.mono _) hS.x) hv40 hx554
          refine n_q H (q_ixV (i := i45) Tryz.underlying25 sz3 rfl hv40 hAx554 rfl (natI hx554)) rfl (W_q (q_load rfl (SlR.ldOneV (hrp0_1.ext (Flat.mono _) hS.x) hv40 hAx554 ag3 hx554 rfl)) rfl (W_q (q_assign rfl) rfl (W_q (q_assign rfl) rfl ?_))); clear H a; intro a H
          refine n_nil (then_normal (wp_seq (wp_region_lit (n_q H (q_move rfl) rfl (W_q (q_move rfl) rfl (W_q (q_eqlD rfl rfl) rfl ?_)))))); clear H a; intro a H
          refine n_nil (then_normal (c_cond H rfl (fun hc555 => ?_) (fun hc555 => ?_)))
          · replace hm := condT hm hc555
            refine wp_region_lit (n_q H (q_move rfl) rfl (W_q (q_move rfl) rfl ?_)); clear H a; intro a H
            refine n_buildSlice H Tryz.underlying25 sz3 ze3 rfl rfl rfl (cs := [.int .i64 ((i45 : Nat) : Int)]) (by kernel_rfl) rfl ?_
            clear H; intro b558 w556 hN hE557 hs; clear a; intro a H
            replace hS := hS.newBlk hN hE557 hs; clear hN hs
            replace hS := hS.blkOwnL (e := eI) (k := 1) [((i45 : Nat) : Int)] rfl rfl (by simp [maxLen])
            replace hS := hS.pk1
            replace hm := chkS hm; obtain ⟨hk560, hm⟩ := hm
            refine n_app (e := eI) H rfl rfl Tryz.underlying25 Tryz.underlying25 (by simp) el3 (hS.own 0 rfl) (((hS.own 1 rfl).slr rfl (fun _ _ => rfl)).src (fun _ _ => rfl)) eI_one hk560 (by simp only [maxLen]; omega) rfl ?_
            clear H; intro v563 w561 hN hC562 hb; clear a; intro a H; replace hS := hS.setOwn hN hC562 hb; clear hN hb
            refine n_q H (q_assign rfl) rfl ?_; clear H a; intro a H
            refine n_nil (block_normal (then_normal ?_))
            obtain rfl := Option.some.inj hm; replace hm := hm50; try dsimp only at hm
            replace hS := hS.tk1
            exact join ((l42 ++ [((i45 : Nat) : Int)]), v563) H ⟨rfl, rfl, rfl, rfl, rfl, trivial⟩ ⟨hm, hS⟩
          · replace hm := condF hm hc555
            refine wp_skip (block_normal (then_normal ?_))
            obtain rfl := Option.some.inj hm; replace hm := hm50; try dsimp only at hm
            exact join (l42, v43) H ⟨rfl, rfl, rfl, rfl, rfl, trivial⟩ ⟨hm, hS⟩
        · clear H hS hm a; intro xx a w565 H hR
          obtain ⟨l551, v552⟩ := xx
          simp only [ent, List.map_cons, List.map_nil] at H; (try dsimp only at hR); obtain ⟨hm, hS⟩ := hR; try dsimp only [g_frame_Boots_J3] at hm
          refine wp_region_lit (n_q H (q_incr (i := i45) (j := 1) rfl rfl (by omega)) rfl (W_q (q_move rfl) rfl ?_)); clear H a; intro a H
          refine n_nil (then_normal ?_)
          obtain rfl := Option.some.inj hm
          exact round (m41, l551, i45 + 1, v552) H ⟨rfl, rfl, rfl, rfl, rfl, trivial⟩ ⟨hn41, hS⟩ (Nat.lt_succ_self _)
      · replace hm := condF hm hc48
        refine wp_exit (then_exit (then_exit (block_exit ?_)))
        obtain rfl := Option.some.inj hm; have hz : _ = q41 := hn41; subst hz; replace hm := hm41; try dsimp only at hm
        refine then_normal (wp_seq (wp_region_lit (n_q H (q_move rfl) rfl (W_q (q_assign rfl) rfl (W_q (q_assign rfl) rfl ?_))))); clear H a; intro a H
        refine n_nil (then_normal (wp_ret ?_))
        obtain rfl := Option.some.inj hm
        replace hS := hS.dNil (A := A)
        replace hS := hS.pk1
        refine ret2 H (.inr rfl) rfl rfl rfl ?_
        exact ⟨_, _, rfl, hS⟩
theorem g_law14_sameInts_w {w : World} {A : Nat → Addr} {v0 : Value} {a0 : List Int} {v1 : Value} {a1 : List Int} (h0 : SlR w 1 (Flat eI) v0 a0) (h1 : SlR w 1 (Flat eI) v1 a1) {r : Bool} (hm : g_law14_sameInts a0 a1 = some r) :
    Calls Tryz.prog 33 [v0, v1].toArray w (Ret fun u w' => u = .bool r ∧ Ext w w') := by
  have hS := St.begin NB w
  unfold g_law14_sameInts at hm
  refine enter Tryz.func33 rfl rfl rfl ?_; intro a H; dsimp only [enumL, Nat.zero_add, Nat.reduceAdd] at H
  refine wp_seq (wp_region_lit (n_q H (q_assign rfl) rfl ?_)); clear H a; intro a H
  refine n_nil (then_normal (wp_seq (wp_seq (wp_region_lit (n_q H (q_move rfl) rfl ?_))))); clear H a; intro a H
  obtain ⟨A21, c21, hv21, hl21, hm21⟩ := SlR.formV (h0.ext (Flat.mono _) hS.x)
  refine n_q H (q_lenV Tryz.underlying25 rfl hv21) rfl (W_q (q_move rfl) rfl ?_); clear H a; intro a H
  obtain ⟨A22, c22, hv22, hl22, hm22⟩ := SlR.formV (h1.ext (Flat.mono _) hS.x)
  refine n_q H (q_lenV Tryz.underlying25 rfl hv22) rfl (W_q (q_neqN (i := a0.length) (j := a1.length) rfl rfl) rfl ?_); clear H a; intro a H
  refine n_nil (then_normal (c_cond H rfl (fun hc23 => ?_) (fun hc23 => ?_)))
  · replace hm := condT hm hc23
    refine wp_seq (wp_region_lit (n_q H (q_assign rfl) rfl ?_)); clear H a; intro a H
    refine n_nil (then_normal (wp_ret (then_ret ?_)))
    obtain rfl := Option.some.inj hm
    refine ret1 H (.inr rfl) rfl rfl ?_
    exact ⟨rfl, hS.x⟩
  · replace hm := condF hm hc23
    refine wp_skip (then_normal (wp_seq (wp_seq (wp_region_lit (n_q H (q_assign rfl) rfl ?_))))); clear H a; intro a H
    refine n_nil (then_normal (wp_block ?_))
    replace hm := bindS hm; obtain ⟨q24, hm, hm24⟩ := hm; replace hm := iter_some hm; obtain ⟨n24, hm⟩ := hm
    refine c_loop (σ := Nat × Nat) (fun (m, i25) => [(0, v0), (1, v1), (5, .int .i64 ((i25 : Nat) : Int))]) (fun (m, i25) wl => iterN (g_law14_sameInts_L1 a0 a1) m i25 = some q24 ∧ St NB w wl []) (fun (m, i25) => m) (n24, 0) H ⟨rfl, rfl, rfl, trivial⟩ ⟨hm, hS⟩ ?_
    clear H hS hm a; intro xx a w26 H hR; obtain ⟨m, i25⟩ := xx; simp only [ent, List.map_cons, List.map_nil] at H; (try dsimp only at hR); obtain ⟨hm, hS⟩ := hR
    replace hm := iterN_step hm; obtain ⟨m24, o24, rfl, hm, hn24⟩ := hm; try dsimp only [g_law14_sameInts_L1] at hm
    refine wp_seq (wp_seq (wp_region_lit (n_q H (q_move rfl) rfl (W_q (q_move rfl) rfl (W_q (q_lenV Tryz.underlying25 rfl hv21) rfl (W_q (q_lssN (i := i25) (j := a0.length) rfl rfl) rfl ?_)))))); clear H a; intro a H
    refine n_nil (then_normal (c_cond H rfl (fun hc27 => ?_) (fun hc27 => ?_)))
    · replace hm := condT hm hc27
      have hlt28 : i25 < a0.length := of_decide_eq_true hc27
      refine wp_skip (then_normal (wp_seq (wp_block (wp_seq (c_quiet (by kernel_rfl) (by kernel_rfl) ?_)))))
      refine qq_q H (q_move rfl) rfl ?_; clear H a; intro a H
      refine qq_q H (q_move rfl) rfl ?_; clear H a; intro a H
      replace hm := bindS hm; obtain ⟨x29, hx29, hm⟩ := hm
      obtain ⟨adx29, hAx29⟩ := SlR.adV (h0.ext (Flat.mono _) hS.x) hv21 hx29
      refine qq_q H (q_ixV (i := i25) Tryz.underlying25 sz3 rfl hv21 hAx29 rfl (natI hx29)) rfl ?_; clear H a; intro a H
      refine qq_q H (q_load rfl (SlR.ldOneV (h0.ext (Flat.mono _) hS.x) hv21 hAx29 ag3 hx29 rfl)) rfl ?_; clear H a; intro a H
      refine qq_q H (q_move rfl) rfl ?_; clear H a; intro a H
      refine qq_q H (q_move rfl) rfl ?_; clear H a; intro a H
      replace hm := bindS hm; obtain ⟨x30, hx30, hm⟩ := hm
      obtain ⟨adx30, hAx30⟩ := SlR.adV (h1.ext (Flat.mono _) hS.x) hv22 hx30
      refine qq_q H (q_ixV (i := i25) Tryz.underlying25 sz3 rfl hv22 hAx30 rfl (natI hx30)) rfl ?_; clear H a; intro a H
      refine qq_q H (q_load rfl (SlR.ldOneV (h1.ext (Flat.mono _) hS.x) hv22 hAx30 ag3 hx30 rfl)) rfl ?_; clear H a; intro a H
      refine qq_q H (q_neqD rfl rfl) rfl ?_; clear H a; intro a H
      refine qq_nil ?_; intro w31 hE32
      replace hS := hS.ext hE32
      refine then_normal (c_cond H rfl (fun hc33 => ?_) (fun hc33 => ?_))
      · replace hm := condT hm hc33
        refine wp_seq (wp_region_lit (n_q H (q_assign rfl) rfl ?_)); clear H a; intro a H
        refine n_nil (then_normal (wp_ret (block_ret (then_ret (then_ret (block_ret (then_ret ?_)))))))
        obtain rfl := Option.some.inj hm; have hz : _ = q24 := hn24; subst hz; replace hm := hm24; try dsimp only at hm
        obtain rfl := Option.some.inj hm
        refine ret1 H (.inr rfl) rfl rfl ?_
        exact ⟨rfl, hS.x⟩
      · replace hm := condF hm hc33
        refine wp_skip (block_normal (then_normal (wp_region_lit (n_q H (q_move rfl) rfl (W_q (q_incr (i := i25) (j := 1) rfl rfl (by omega)) rfl (W_q (q_assign rfl) rfl ?_)))))); clear H a; intro a H
        refine n_nil (then_normal ?_)
        obtain rfl := Option.some.inj hm
        exact round (m24, i25 + 1) H ⟨rfl, rfl, rfl, trivial⟩ ⟨hn24, hS⟩ (Nat.lt_succ_self _)
    · replace hm := condF hm hc27
      refine wp_exit (then_exit (then_exit (block_exit ?_)))
      obtain rfl := Option.some.inj hm; have hz : _ = q24 := hn24; subst hz; replace hm := hm24; try dsimp only at hm
      refine then_normal (wp_seq (wp_region_lit (n_q H (q_assign rfl) rfl ?_))); clear H a; intro a H
      refine n_nil (then_normal (wp_ret ?_))
      obtain rfl := Option.some.inj hm
      refine ret1 H (.inr rfl) rfl rfl ?_
      exact ⟨rfl, hS.x⟩
theorem g_law14_sameWindows_w {w : World} {A : Nat → Addr} {v0 : Value} {a0 : List GWindow} {v1 : Value} {a1 : List GWindow} (h0 : SlR w 3 (Flat eGWindow) v0 a0) (h1 : SlR w 3 (Flat eGWindow) v1 a1) {r : Bool} (hm : g_law14_sameWindows a0 a1 = some r) :
    Calls Tryz.prog 34 [v0, v1].toArray w (Ret fun u w' => u = .bool r ∧ Ext w w') := by
  have hS := St.begin NB w
  unfold g_law14_sameWindows at hm
  refine enter Tryz.func34 rfl rfl rfl ?_; intro a H; dsimp only [enumL, Nat.zero_add, Nat.reduceAdd] at H
  refine wp_seq (wp_region_lit (n_q H (q_assign rfl) rfl ?_)); clear H a; intro a H
  refine n_nil (then_normal (wp_seq (wp_seq (wp_region_lit (n_q H (q_move rfl) rfl ?_))))); clear H a; intro a H
  obtain ⟨A21, c21, hv21, hl21, hm21⟩ := SlR.formV (h0.ext (Flat.mono _) hS.x)
  refine n_q H (q_lenV Tryz.underlying46 rfl hv21) rfl (W_q (q_move rfl) rfl ?_); clear H a; intro a H
  obtain ⟨A22, c22, hv22, hl22, hm22⟩ := SlR.formV (h1.ext (Flat.mono _) hS.x)
  refine n_q H (q_lenV Tryz.underlying46 rfl hv22) rfl (W_q (q_neqN (i := a0.length) (j := a1.length) rfl rfl) rfl ?_); clear H a; intro a H
  refine n_nil (then_normal (c_cond H rfl (fun hc23 => ?_) (fun hc23 => ?_)))
  · replace hm := condT hm hc23
    refine wp_seq (wp_region_lit (n_q H (q_assign rfl) rfl ?_)); clear H a; intro a H
    refine n_nil (then_normal (wp_ret (then_ret ?_)))
    obtain rfl := Option.some.inj hm
    refine ret1 H (.inr rfl) rfl rfl ?_
    exact ⟨rfl, hS.x⟩
  · replace hm := condF hm hc23
    refine wp_skip (then_normal (wp_seq (wp_seq (wp_region_lit (n_q H (q_assign rfl) rfl ?_))))); clear H a; intro a H
    refine n_nil (then_normal (wp_block ?_))
    replace hm := bindS hm; obtain ⟨q24, hm, hm24⟩ := hm; replace hm := iter_some hm; obtain ⟨n24, hm⟩ := hm
    refine c_loop (σ := Nat × Nat) (fun (m, i25) => [(0, v0), (1, v1), (5, .int .i64 ((i25 : Nat) : Int))]) (fun (m, i25) wl => iterN (g_law14_sameWindows_L1 a0 a1) m i25 = some q24 ∧ St NB w wl []) (fun (m, i25) => m) (n24, 0) H ⟨rfl, rfl, rfl, trivial⟩ ⟨hm, hS⟩ ?_
    clear H hS hm a; intro xx a w26 H hR; obtain ⟨m, i25⟩ := xx; simp only [ent, List.map_cons, List.map_nil] at H; (try dsimp only at hR); obtain ⟨hm, hS⟩ := hR
    replace hm := iterN_step hm; obtain ⟨m24, o24, rfl, hm, hn24⟩ := hm; try dsimp only [g_law14_sameWindows_L1] at hm
    refine wp_seq (wp_seq (wp_region_lit (n_q H (q_move rfl) rfl (W_q (q_move rfl) rfl (W_q (q_lenV Tryz.underlying46 rfl hv21) rfl (W_q (q_lssN (i := i25) (j := a0.length) rfl rfl) rfl ?_)))))); clear H a; intro a H
    refine n_nil (then_normal (c_cond H rfl (fun hc27 => ?_) (fun hc27 => ?_)))
    · replace hm := condT hm hc27
      have hlt28 : i25 < a0.length := of_decide_eq_true hc27
      refine wp_skip (then_normal (wp_seq (wp_block (wp_seq (c_quiet (by kernel_rfl) (by kernel_rfl) ?_)))))
      refine qq_q H (q_move rfl) rfl ?_; clear H a; intro a H
      refine qq_q H (q_move rfl) rfl ?_; clear H a; intro a H
      replace hm := bindS hm; obtain ⟨x29, hx29, hm⟩ := hm
      obtain ⟨adx29, hAx29⟩ := SlR.adV (h0.ext (Flat.mono _) hS.x) hv21 hx29
      refine qq_q H (q_ixV (i := i25) Tryz.underlying46 sz61 rfl hv21 hAx29 rfl (natI hx29)) rfl ?_; clear H a; intro a H
      refine qq_q H (q_load rfl (SlR.ldAggV (h0.ext (Flat.mono _) hS.x) hv21 hAx29 ag61 sz61 hx29)) rfl ?_; clear H a; intro a H
      refine qq_q H (q_move rfl) rfl ?_; clear H a; intro a H
      refine qq_q H (q_move rfl) rfl ?_; clear H a; intro a H
      replace hm := bindS hm; obtain ⟨x30, hx30, hm⟩ := hm
      obtain ⟨adx30, hAx30⟩ := SlR.adV (h1.ext (Flat.mono _) hS.x) hv22 hx30
      refine qq_q H (q_ixV (i := i25) Tryz.underlying46 sz61 rfl hv22 hAx30 rfl (natI hx30)) rfl ?_; clear H a; intro a H
      refine qq_q H (q_load rfl (SlR.ldAggV (h1.ext (Flat.mono _) hS.x) hv22 hAx30 ag61 sz61 hx30)) rfl ?_; clear H a; intro a H
      refine qq_q H (q_neqG (structB_guard st61) (eqInGWindow x29 x30) (by omega) rfl rfl) rfl ?_; clear H a; intro a H
      refine qq_nil ?_; intro w31 hE32
      replace hS := hS.ext hE32
      refine then_normal (c_cond H rfl (fun hc33 => ?_) (fun hc33 => ?_))
      · replace hm := condT hm hc33
        refine wp_seq (wp_region_lit (n_q H (q_assign rfl) rfl ?_)); clear H a; intro a H
        refine n_nil (then_normal (wp_ret (block_ret (then_ret (then_ret (block_ret (then_ret ?_)))))))
        obtain rfl := Option.some.inj hm; have hz : _ = q24 := hn24; subst hz; replace hm := hm24; try dsimp only at hm
        obtain rfl := Option.some.inj hm
        refine ret1 H (.inr rfl) rfl rfl ?_
        exact ⟨rfl, hS.x⟩
      · replace hm := condF hm hc33
        refine wp_skip (block_normal (then_normal (wp_region_lit (n_q H (q_move rfl) rfl (W_q (q_incr (i := i25) (j := 1) rfl rfl (by omega)) rfl (W_q (q_assign rfl) rfl ?_)))))); clear H a; intro a H
        refine n_nil (then_normal ?_)
        obtain rfl := Option.some.inj hm
        exact round (m24, i25 + 1) H ⟨rfl, rfl, rfl, trivial⟩ ⟨hn24, hS⟩ (Nat.lt_succ_self _)
    · replace hm := condF hm hc27
      refine wp_exit (then_exit (then_exit (block_exit ?_)))
      obtain rfl := Option.some.inj hm; have hz : _ = q24 := hn24; subst hz; replace hm := hm24; try dsimp only at hm
      refine then_normal (wp_seq (wp_region_lit (n_q H (q_assign rfl) rfl ?_))); clear H a; intro a H
      refine n_nil (then_normal (wp_ret ?_))
      obtain rfl := Option.some.inj hm
      refine ret1 H (.inr rfl) rfl rfl ?_
      exact ⟨rfl, hS.x⟩
theorem g_r14_At_w {w : World} {A : Nat → Addr} {cs0 : List Value} {a0 : GConfig} {a1 : Int} (h0 : RGConfig w cs0 a0) {r : Int × Int} (hm : g_r14_At a0 a1 = some r) :
    Calls Tryz.prog 64 [.agg cs0.toArray, .int .i64 a1].toArray w (Ret fun u w' => u = .tuple #[.int .i64 r.1, .int .i64 r.2] ∧ Ext w w') := by
  obtain ⟨vp0_0, vp0_1, vp0_2, vp0_3, rfl, hrp0_0, hrp0_1, hrp0_2, hrp0_3⟩ := h0
  have hS := St.begin NB w
  unfold g_r14_At at hm
  refine enter Tryz.func64 rfl rfl rfl ?_; intro a H; dsimp only [enumL, Nat.zero_add, Nat.reduceAdd] at H
  refine wp_seq (wp_region_lit (n_box H rfl (cs := [.int .i64 a0.Ticks, vp0_0, vp0_1, vp0_2, vp0_3, .int .i64 a0.Tries]) rfl rfl ?_))
  clear H; intro b21 w22 hN hE23 hs; clear a; intro a H
  replace hS := hS.newBlk hN hE23 hs; clear hN hs
  refine n_q H (q_assign rfl) rfl (W_q (q_assign rfl) rfl ?_); clear H a; intro a H
  refine n_nil (then_normal (wp_seq (wp_seq (wp_region_lit (n_q H (q_load rfl ((hS.blk 0 rfl).ldAll ag49 sz49)) rfl ?_))))); clear H a; intro a H
  replace hm := bindS hm; obtain ⟨r24, hr24, hm⟩ := hm
  refine n_call H rfl en60 (g_r14_Good_w (A := A) (⟨_, _, _, _, rfl, (hrp0_0.ext RGPlan.mono hS.x), (hrp0_1.ext (Flat.mono _) hS.x), (hrp0_2.ext (Flat.mono _) hS.x), (hrp0_3.ext (Flat.mono _) hS.x)⟩ : RGConfig _ [.int .i64 a0.Ticks, vp0_0, vp0_1, vp0_2, vp0_3, .int .i64 a0.Tries] a0) hr24) rfl ?_
  clear H; intro x27 w25 hv; clear a; intro a H; obtain ⟨rfl, hE26⟩ := hv
  replace hS := hS.ext hE26
  refine n_q H (q_not rfl) rfl ?_; clear H a; intro a H
  refine n_nil (then_normal (c_cond H rfl (fun hc28 => ?_) (fun hc28 => ?_)))
  · replace hm := condT hm hc28
    refine wp_seq (wp_region_lit (n_q H (q_assign rfl) rfl (W_q (q_assign rfl) rfl ?_))); clear H a; intro a H
    refine n_nil (then_normal (wp_ret (then_ret ?_)))
    obtain rfl := Option.some.inj hm
    replace hS := hS.tk0
    refine ret2 H (.inr rfl) rfl rfl rfl ?_
    exact ⟨rfl, hS.x⟩
  · replace hm := condF hm hc28
    refine wp_skip (then_normal (wp_seq (wp_seq (wp_region_lit (n_c H (fun HC => ?_)))))); clear H
    refine nc_q HC (q_move rfl) rfl (by kernel_rfl) (V_q (q_lss rfl rfl) rfl (by kernel_rfl) (V_q (q_move rfl) rfl (by kernel_rfl) (V_g (q_move rfl) (by kernel_rfl) (by kernel_rfl) (by kernel_rfl) (V_g (q_fieldAddr0 rfl fo49_0) (by kernel_rfl) (by kernel_rfl) (by kernel_rfl) (V_g (q_load rfl ((hS.blk 0 rfl).ld ag3 rfl)) (by kernel_rfl) (by kernel_rfl) (by kernel_rfl) (V_g (q_geq rfl rfl) (by kernel_rfl) (by kernel_rfl) (by kernel_rfl) (V_or (j := 2) rfl rfl rfl (by kernel_rfl) (by kernel_rfl) ?_))))))); clear HC a; intro a HC
    have H := HC.has; clear HC
    refine n_nil (then_normal (c_cond H rfl (fun hc29 => ?_) (fun hc29 => ?_)))
    · replace hm := condT hm hc29
      refine wp_seq (wp_region_lit (n_q H (q_assign rfl) rfl (W_q (q_assign rfl) rfl ?_))); clear H a; intro a H
      refine n_nil (then_normal (wp_ret (then_ret ?_)))
      obtain rfl := Option.some.inj hm
      replace hS := hS.tk0
      refine ret2 H (.inr rfl) rfl rfl rfl ?_
      exact ⟨rfl, hS.x⟩
    · replace hm := condF hm hc29
      refine wp_skip (then_normal (wp_seq (wp_region_lit (n_q H (q_load rfl ((hS.blk 0 rfl).ldAll ag49 sz49)) rfl ?_)))); clear H a; intro a H
      replace hm := bindS hm; obtain ⟨r30, hr30, hm⟩ := hm
      refine n_call H rfl en138 (g_r14_Owners_w (A := A) (⟨_, _, _, _, rfl, (hrp0_0.ext RGPlan.mono hS.x), (hrp0_1.ext (Flat.mono _) hS.x), (hrp0_2.ext (Flat.mono _) hS.x), (hrp0_3.ext (Flat.mono _) hS.x)⟩ : RGConfig _ [.int .i64 a0.Ticks, vp0_0, vp0_1, vp0_2, vp0_3, .int .i64 a0.Tries] a0) hr30) rfl ?_
      clear H; intro u31 w33 hv; clear a; intro a H; obtain ⟨_, rfl, hE34⟩ := hv
      replace hS := hS.new hE34; simp only [List.cons_append, List.nil_append] at hS
      refine n_q H (q_move rfl) rfl ?_; clear H a; intro a H
      obtain ⟨A36, c36, hv36, hl36, hm36⟩ := SlR.formV ((hS.own 0 rfl).slr rfl (fun _ _ => rfl))
      replace hm := bindS hm; obtain ⟨x37, hx37, hm⟩ := hm
      obtain ⟨h0x37, h1x37, hxx37⟩ := rdI_some hx37
      obtain ⟨adx37, hAx37⟩ := SlR.adV ((hS.own 0 rfl).slr rfl (fun _ _ => rfl)) hv36 hxx37
      refine n_q H (q_ixVI Tryz.underlying25 sz3 rfl hv36 hAx37 rfl h0x37 h1x37) rfl (W_q (q_load rfl (SlR.ldOneV ((hS.own 0 rfl).slr rfl (fun _ _ => rfl)) hv36 hAx37 ag3 hxx37 rfl)) rfl (W_q (q_assign rfl) rfl ?_)); clear H a; intro a H
      refine n_nil (then_normal (wp_seq (wp_seq (wp_region_lit (n_q H (q_move rfl) rfl (W_q (q_eqlD rfl rfl) rfl ?_)))))); clear H a; intro a H
      refine n_nil (then_normal (c_cond H rfl (fun hc38 => ?_) (fun hc38 => ?_)))
      · replace hm := condT hm hc38
        refine wp_seq (wp_region_lit (n_q H (q_assign rfl) rfl (W_q (q_assign rfl) rfl ?_))); clear H a; intro a H
        refine n_nil (then_normal (wp_ret (then_ret ?_)))
        obtain rfl := Option.some.inj hm
        replace hS := hS.tk0
        refine ret2 H (.inr rfl) rfl rfl rfl ?_
        exact ⟨rfl, hS.x⟩
      · replace hm := condF hm hc38
        refine wp_skip (then_normal (wp_seq (wp_region_lit (n_q H (q_move rfl) rfl (W_q (q_assign rfl) rfl (W_q (q_assign rfl) rfl ?_)))))); clear H a; intro a H
        refine n_nil (then_normal (wp_ret ?_))
        obtain rfl := Option.some.inj hm
        replace hS := hS.tk0
        refine ret2 H (.inr rfl) rfl rfl rfl ?_
        exact ⟨rfl, hS.x⟩
theorem g_frame_At_w {w : World} {A : Nat → Addr} {cs0 : List Value} {a0 : GConfig} {a1 : Int} (hG : EV A w) (h0 : RGConfig w cs0 a0) {r : Int × ErrM} (hm : g_frame_At a0 a1 = some r) :
    Calls Tryz.prog 65 [.agg cs0.toArray, .int .i64 a1].toArray w (Ret fun u w' => ∃ h_0, u = .tuple #[.int .i64 r.1, h_0] ∧ St NB w w' [erQ A h_0 r.2]) := by
  obtain ⟨vp0_0, vp0_1, vp0_2, vp0_3, rfl, hrp0_0, hrp0_1, hrp0_2, hrp0_3⟩ := h0
  have hS := St.begin NB w
  unfold g_frame_At at hm
  refine enter Tryz.func65 rfl rfl rfl ?_; intro a H; dsimp only [enumL, Nat.zero_add, Nat.reduceAdd] at H
  refine wp_seq (wp_region_lit (n_box H rfl (cs := [.int .i64 a0.Ticks, vp0_0, vp0_1, vp0_2, vp0_3, .int .i64 a0.Tries]) rfl rfl ?_))
  clear H; intro b21 w22 hN hE23 hs; clear a; intro a H
  replace hS := hS.newBlk hN hE23 hs; clear hN hs
  refine n_q H (q_assign rfl) rfl (W_q (q_assign rfl) rfl ?_); clear H a; intro a H
  refine n_nil (then_normal (wp_seq (wp_seq (wp_region_lit (n_q H (q_load rfl ((hS.blk 0 rfl).ldAll ag49 sz49)) rfl ?_))))); clear H a; intro a H
  replace hm := bindS hm; obtain ⟨r24, hr24, hm⟩ := hm
  refine n_call H rfl en28 (g_frame_Check_w (A := A) (hG.ext hS.x) (⟨_, _, _, _, rfl, (hrp0_0.ext RGPlan.mono hS.x), (hrp0_1.ext (Flat.mono _) hS.x), (hrp0_2.ext (Flat.mono _) hS.x), (hrp0_3.ext (Flat.mono _) hS.x)⟩ : RGConfig _ [.int .i64 a0.Ticks, vp0_0, vp0_1, vp0_2, vp0_3, .int .i64 a0.Tries] a0) hr24) rfl ?_
  clear H; intro u25 w27 hv; clear a; intro a H; obtain ⟨_, rfl, hE28⟩ := hv
  replace hS := hS.new hE28; simp only [List.cons_append, List.nil_append] at hS
  refine n_q H (q_cast (q_nnilI Tryz.underlying41 rfl rfl (hS.any 0 rfl : IsE A w27 u25 r24).form) (show _ = Value.bool (!decide (r24 = .nil)) by rw [IsErr.isNil (hS.any 0 rfl : IsE A w27 u25 r24)])) rfl ?_; clear H a; intro a H
  refine n_nil (then_normal (c_cond H rfl (fun hc30 => ?_) (fun hc30 => ?_)))
  · replace hm := condT hm hc30
    refine wp_seq (c_quiet (by kernel_rfl) (by kernel_rfl) ?_)
    refine qq_q H (q_load rfl ((hG.ext hS.x).ld gPlan (by decide) ag41)) rfl ?_; clear H a; intro a H
    refine qq_q H (q_assign rfl) rfl ?_; clear H a; intro a H
    refine qq_q H (q_assign rfl) rfl ?_; clear H a; intro a H
    refine qq_nil ?_; intro w31 hE32
    replace hS := hS.ext hE32
    refine then_normal (wp_ret (then_ret ?_))
    obtain rfl := Option.some.inj hm
    replace hS := hS.dVar (A := A) (g := gPlan) (by decide)
    replace hS := hS.tk1
    refine ret2 H (.inr rfl) rfl rfl rfl ?_
    exact ⟨_, rfl, hS⟩
  · replace hm := condF hm hc30
    refine wp_skip (then_normal (wp_seq (wp_seq (wp_region_lit (n_c H (fun HC => ?_)))))); clear H
    refine nc_q HC (q_move rfl) rfl (by kernel_rfl) (V_q (q_lss rfl rfl) rfl (by kernel_rfl) (V_q (q_move rfl) rfl (by kernel_rfl) (V_g (q_move rfl) (by kernel_rfl) (by kernel_rfl) (by kernel_rfl) (V_g (q_fieldAddr0 rfl fo49_0) (by kernel_rfl) (by kernel_rfl) (by kernel_rfl) (V_g (q_load rfl ((hS.blk 1 rfl).ld ag3 rfl)) (by kernel_rfl) (by kernel_rfl) (by kernel_rfl) (V_g (q_geq rfl rfl) (by kernel_rfl) (by kernel_rfl) (by kernel_rfl) (V_or (j := 2) rfl rfl rfl (by kernel_rfl) (by kernel_rfl) ?_))))))); clear HC a; intro a HC
    have H := HC.has; clear HC
    refine n_nil (then_normal (c_cond H rfl (fun hc34 => ?_) (fun hc34 => ?_)))
    · replace hm := condT hm hc34
      refine wp_seq (c_quiet (by kernel_rfl) (by kernel_rfl) ?_)
      refine qq_q H (q_load rfl ((hG.ext hS.x).ld gArg (by decide) ag41)) rfl ?_; clear H a; intro a H
      refine qq_q H (q_assign rfl) rfl ?_; clear H a; intro a H
      refine qq_q H (q_assign rfl) rfl ?_; clear H a; intro a H
      refine qq_nil ?_; intro w35 hE36
      replace hS := hS.ext hE36
      refine then_normal (wp_ret (then_ret ?_))
      obtain rfl := Option.some.inj hm
      replace hS := hS.dVar (A := A) (g := gArg) (by decide)
      replace hS := hS.tk1
      refine ret2 H (.inr rfl) rfl rfl rfl ?_
      exact ⟨_, rfl, hS⟩
    · replace hm := condF hm hc34
      refine wp_skip (then_normal (wp_seq (wp_seq (wp_region_lit (n_q H (q_fieldAddr0 rfl fo49_3) rfl (W_q (q_load rfl ((hS.blk 1 rfl).ld ag46 rfl)) rfl ?_)))))); clear H a; intro a H
      obtain ⟨A38, c38, hv38, hl38, hm38⟩ := SlR.formV (hrp0_2.ext (Flat.mono _) hS.x)
      refine n_q H (q_lenV Tryz.underlying46 rfl hv38) rfl (W_q (q_move rfl) rfl ?_); clear H a; intro a H
      refine n_nil (then_normal (wp_block ?_))
      replace hS := hS.tk0
      replace hm := bindS hm; obtain ⟨q39, hm, hm39⟩ := hm; replace hm := iter_some hm; obtain ⟨n39, hm⟩ := hm
      refine c_loop (σ := Nat × Nat) (fun (m, i40) => [(1, .int .i64 a1), (22, vp0_2), (23, .int .i64 ((a0.Windows.length : Nat) : Int)), (24, .int .i64 ((i40 : Nat) : Int))]) (fun (m, i40) wl => iterN (g_frame_At_L1 a0 a1) m i40 = some q39 ∧ St NB w wl []) (fun (m, i40) => m) (n39, 0) H ⟨rfl, rfl, rfl, rfl, trivial⟩ ⟨hm, hS⟩ ?_
      clear H hS hm a; intro xx a w41 H hR; obtain ⟨m, i40⟩ := xx; simp only [ent, List.map_cons, List.map_nil] at H; (try dsimp only at hR); obtain ⟨hm, hS⟩ := hR
      replace hm := iterN_step hm; obtain ⟨m39, o39, rfl, hm, hn39⟩ := hm; try dsimp only [g_frame_At_L1] at hm
      refine wp_seq (wp_region_lit (n_q H (q_lssN (i := i40) (j := a0.Windows.length) rfl rfl) rfl ?_)); clear H a; intro a H
      refine n_nil (then_normal (wp_seq (c_cond H rfl (fun hc42 => ?_) (fun hc42 => ?_))))
      · replace hm := condT hm hc42
        have hlt43 : i40 < a0.Windows.length := of_decide_eq_true hc42
        refine wp_skip (then_normal (wp_seq (wp_block (wp_seq (wp_region_lit ?_)))))
        replace hm := bindS hm; obtain ⟨x44, hx44, hm⟩ := hm
        obtain ⟨adx44, hAx44⟩ := SlR.adV (hrp0_2.ext (Flat.mono _) hS.x) hv38 hx44
        refine n_q H (q_ixV (i := i40) Tryz.underlying46 sz61 rfl hv38 hAx44 rfl (natI hx44)) rfl (W_q (q_load rfl (SlR.ldAggV (hrp0_2.ext (Flat.mono _) hS.x) hv38 hAx44 ag61 sz61 hx44)) rfl ?_); clear H a; intro a H
        refine n_alloc H ze61 rfl ?_
        clear H; intro b45 w46 hN hE47 hs; clear a; intro a H
        replace hS := hS.newBlk hN hE47 hs; clear hN hs
        refine n_storeAll H rfl rfl (vs := [.int .i64 x44.Part, .int .i64 x44.Start, .int .i64 x44.Len]) rfl sz61 (hS.blk 0 rfl) rfl (by simp) ?_
        clear H; intro w48 hN hC49 hz; clear a; intro a H; replace hS := hS.setBlk hN hC49; clear hN hz
        refine n_nil (then_normal (wp_seq (wp_region_lit (n_c H (fun HC => ?_))))); clear H
        refine nc_q HC (q_move rfl) rfl (by kernel_rfl) (V_q (q_fieldAddr0 rfl fo61_1) rfl (by kernel_rfl) (V_q (q_load rfl ((hS.blk 0 rfl).ld ag3 rfl)) rfl (by kernel_rfl) (V_q (q_geq rfl rfl) rfl (by kernel_rfl) (V_q (q_move rfl) rfl (by kernel_rfl) (V_g (q_move rfl) (by kernel_rfl) (by kernel_rfl) (by kernel_rfl) (V_g (q_fieldAddr0 rfl fo61_1) (by kernel_rfl) (by kernel_rfl) (by kernel_rfl) (V_g (q_load rfl ((hS.blk 0 rfl).ld ag3 rfl)) (by kernel_rfl) (by kernel_rfl) (by kernel_rfl) (V_g (q_fieldAddr0 rfl fo61_2) (by kernel_rfl) (by kernel_rfl) (by kernel_rfl) (V_g (q_load rfl ((hS.blk 0 rfl).ld ag3 rfl)) (by kernel_rfl) (by kernel_rfl) (by kernel_rfl) (V_g (q_addW rfl rfl) (by kernel_rfl) (by kernel_rfl) (by kernel_rfl) (V_g (q_lss rfl rfl) (by kernel_rfl) (by kernel_rfl) (by kernel_rfl) ?_))))))))))); clear HC a; intro a HC
        refine nc_and (j := 4) HC rfl rfl rfl (by kernel_rfl) (by kernel_rfl) ?_; clear HC a; intro a HC
        have H := HC.has; clear HC
        refine n_nil (then_normal (c_cond H rfl (fun hc50 => ?_) (fun hc50 => ?_)))
        · replace hm := condT hm hc50
          refine wp_seq (wp_region_lit (n_q H (q_fieldAddr0 rfl fo61_0) rfl (W_q (q_load rfl ((hS.blk 0 rfl).ld ag3 rfl)) rfl (W_q (q_assign rfl) rfl (W_q (q_assign rfl) rfl ?_))))); clear H a; intro a H
          refine n_nil (then_normal (wp_ret (block_ret (then_ret (then_ret (block_ret (then_ret ?_)))))))
          obtain rfl := Option.some.inj hm; have hz : _ = q39 := hn39; subst hz; replace hm := hm39; try dsimp only at hm
          obtain rfl := Option.some.inj hm
          replace hS := hS.dNil (A := A)
          replace hS := hS.tk1
          refine ret2 H (.inr rfl) rfl rfl rfl ?_
          exact ⟨_, rfl, hS⟩
        · replace hm := condF hm hc50
          refine wp_skip (block_normal (then_normal (wp_region_lit (n_q H (q_incr (i := i40) (j := 1) rfl rfl (by omega)) rfl (W_q (q_move rfl) rfl ?_))))); clear H a; intro a H
          refine n_nil (then_normal ?_)
          obtain rfl := Option.some.inj hm
          replace hS := hS.tk0
          exact round (m39, i40 + 1) H ⟨rfl, rfl, rfl, rfl, trivial⟩ ⟨hn39, hS⟩ (Nat.lt_succ_self _)
      · replace hm := condF hm hc42
        refine wp_exit (then_exit (then_exit (block_exit ?_)))
        obtain rfl := Option.some.inj hm; have hz : _ = q39 := hn39; subst hz; replace hm := hm39; try dsimp only at hm
        refine then_normal (wp_seq (c_quiet (by kernel_rfl) (by kernel_rfl) ?_))
        refine qq_q H (q_load rfl ((hG.ext hS.x).ld gNone (by decide) ag41)) rfl ?_; clear H a; intro a H
        refine qq_q H (q_assign rfl) rfl ?_; clear H a; intro a H
        refine qq_q H (q_assign rfl) rfl ?_; clear H a; intro a H
        refine qq_nil ?_; intro w52 hE53
        replace hS := hS.ext hE53
        refine then_normal (wp_ret ?_)
        obtain rfl := Option.some.inj hm
        replace hS := hS.dVar (A := A) (g := gNone) (by decide)
        refine ret2 H (.inr rfl) rfl rfl rfl ?_
        exact ⟨_, rfl, hS⟩
theorem g_r14_Next_w {w : World} {A : Nat → Addr} {cs0 : List Value} {a0 : GConfig} {a1 : Int} {a2 : Int} (h0 : RGConfig w cs0 a0) {r : Int × Int} (hm : g_r14_Next a0 a1 a2 = some r) :
    Calls Tryz.prog 66 [.agg cs0.toArray, .int .i64 a1, .int .i64 a2].toArray w (Ret fun u w' => u = .tuple #[.int .i64 r.1, .int .i64 r.2] ∧ Ext w w') := by
  obtain ⟨vp0_0, vp0_1, vp0_2, vp0_3, rfl, hrp0_0, hrp0_1, hrp0_2, hrp0_3⟩ := h0
  have hS := St.begin NB w
  unfold g_r14_Next at hm
  refine enter Tryz.func66 rfl rfl rfl ?_; intro a H; dsimp only [enumL, Nat.zero_add, Nat.reduceAdd] at H
  refine wp_seq (wp_region_lit (n_box H rfl (cs := [.int .i64 a0.Ticks, vp0_0, vp0_1, vp0_2, vp0_3, .int .i64 a0.Tries]) rfl rfl ?_))
  clear H; intro b21 w22 hN hE23 hs; clear a; intro a H
  replace hS := hS.newBlk hN hE23 hs; clear hN hs
  refine n_q H (q_assign rfl) rfl (W_q (q_assign rfl) rfl ?_); clear H a; intro a H
  refine n_nil (then_normal (wp_seq (wp_seq (wp_region_lit (n_q H (q_load rfl ((hS.blk 0 rfl).ldAll ag49 sz49)) rfl ?_))))); clear H a; intro a H
  replace hm := bindS hm; obtain ⟨r24, hr24, hm⟩ := hm
  refine n_call H rfl en60 (g_r14_Good_w (A := A) (⟨_, _, _, _, rfl, (hrp0_0.ext RGPlan.mono hS.x), (hrp0_1.ext (Flat.mono _) hS.x), (hrp0_2.ext (Flat.mono _) hS.x), (hrp0_3.ext (Flat.mono _) hS.x)⟩ : RGConfig _ [.int .i64 a0.Ticks, vp0_0, vp0_1, vp0_2, vp0_3, .int .i64 a0.Tries] a0) hr24) rfl ?_
  clear H; intro x27 w25 hv; clear a; intro a H; obtain ⟨rfl, hE26⟩ := hv
  replace hS := hS.ext hE26
  refine n_q H (q_not rfl) rfl ?_; clear H a; intro a H
  refine n_nil (then_normal (c_cond H rfl (fun hc28 => ?_) (fun hc28 => ?_)))
  · replace hm := condT hm hc28
    refine wp_seq (wp_region_lit (n_q H (q_assign rfl) rfl (W_q (q_assign rfl) rfl ?_))); clear H a; intro a H
    refine n_nil (then_normal (wp_ret (then_ret ?_)))
    obtain rfl := Option.some.inj hm
    replace hS := hS.tk0
    refine ret2 H (.inr rfl) rfl rfl rfl ?_
    exact ⟨rfl, hS.x⟩
  · replace hm := condF hm hc28
    refine wp_skip (then_normal (wp_seq ?_))
    replace hm := bindS hm; obtain ⟨j29, hm, hm29⟩ := hm
    refine c_join (σ := Bool) H (fun q530 => [(1, .int .i64 a1), (2, .int .i64 a2), (3, .pointer (some ⟨b21, 0, none⟩)), (26, .bool q530)]) (fun q530 wl => (g_r14_Next_J3 a0 a1 a2) q530 = some r ∧ St NB w wl [blkR b21 [.int .i64 a0.Ticks, vp0_0, vp0_1, vp0_2, vp0_3, .int .i64 a0.Tries] 49]) ?_ ?_
    · skip
      refine wp_region_lit (n_q H (q_load rfl ((hS.blk 0 rfl).ldAll ag49 sz49)) rfl (W_q (q_move rfl) rfl ?_)); clear H a; intro a H
      replace hm := bindS hm; obtain ⟨r531, hr531, hm⟩ := hm
      refine n_call H rfl en76 (g_r14_owner_w (A := A) (⟨_, _, _, _, rfl, (hrp0_0.ext RGPlan.mono hS.x), (hrp0_1.ext (Flat.mono _) hS.x), (hrp0_2.ext (Flat.mono _) hS.x), (hrp0_3.ext (Flat.mono _) hS.x)⟩ : RGConfig _ [.int .i64 a0.Ticks, vp0_0, vp0_1, vp0_2, vp0_3, .int .i64 a0.Tries] a0) hr531) rfl ?_
      clear H; intro x534 w532 hv; clear a; intro a H; obtain ⟨rfl, hE533⟩ := hv
      replace hS := hS.ext hE533
      refine n_q H (q_not rfl) rfl (W_q (q_move rfl) rfl ?_); clear H a; intro a H
      rcases Bool.eq_false_or_eq_true (!r531) with hg535 | hg535
      · replace H := H.know 17 rfl hg535
        replace hm := condT hm hg535
        refine n_no H rfl rfl (by decide) rfl (W_no rfl rfl (by decide) rfl (W_q (q_pickT rfl rfl) rfl (W_q (q_move rfl) rfl (W_no rfl rfl (by decide) rfl (W_no rfl rfl (by decide) rfl (W_no rfl rfl (by decide) rfl (W_no rfl rfl (by decide) rfl (W_q (q_pickT rfl rfl) rfl ?_)))))))); clear H a; intro a H
        refine n_nil (then_normal ?_)
        obtain rfl := Option.some.inj hm; replace hm := hm29; try dsimp only at hm
        exact join true H ⟨rfl, rfl, rfl, rfl, trivial⟩ ⟨hm, hS⟩
      · replace H := H.know 17 rfl hg535
        replace hm := condF hm hg535
        refine n_yes H rfl rfl (n_q H (q_move rfl) rfl (W_yes rfl rfl (W_q (q_lss rfl rfl) rfl (W_q (q_pickF rfl rfl) rfl (W_q (q_move rfl) rfl ?_))))); clear H a; intro a H
        rcases Bool.eq_false_or_eq_true (decide (a2 < 0)) with hg536 | hg536
        · replace H := H.know 21 rfl hg536
          replace hm := condT hm hg536
          refine n_no H rfl rfl (by decide) rfl (W_no rfl rfl (by decide) rfl (W_no rfl rfl (by decide) rfl (W_no rfl rfl (by decide) rfl (W_q (q_pickT rfl rfl) rfl ?_)))); clear H a; intro a H
          refine n_nil (then_normal ?_)
          obtain rfl := Option.some.inj hm; replace hm := hm29; try dsimp only at hm
          exact join true H ⟨rfl, rfl, rfl, rfl, trivial⟩ ⟨hm, hS⟩
        · replace H := H.know 21 rfl hg536
          replace hm := condF hm hg536
          refine n_yes H rfl rfl (n_q H (q_move rfl) rfl (W_yes rfl rfl (W_q (q_fieldAddr0 rfl fo49_0) rfl (W_yes rfl rfl (W_q (q_load rfl ((hS.blk 0 rfl).ld ag3 rfl)) rfl (W_yes rfl rfl (W_q (q_geq rfl rfl) rfl (W_q (q_pickF rfl rfl) rfl ?_)))))))); clear H a; intro a H
          refine n_nil (then_normal ?_)
          obtain rfl := Option.some.inj hm; replace hm := hm29; try dsimp only at hm
          exact join (decide (a0.Ticks ≤ a2)) H ⟨rfl, rfl, rfl, rfl, trivial⟩ ⟨hm, hS⟩
    · clear H hS hm a; intro q530 a w537 H hR
      simp only [ent, List.map_cons, List.map_nil] at H; (try dsimp only at hR); obtain ⟨hm, hS⟩ := hR; try dsimp only [g_r14_Next_J3] at hm
      refine c_cond H rfl (fun hc538 => ?_) (fun hc538 => ?_)
      · replace hm := condT hm hc538
        refine wp_seq (wp_region_lit (n_q H (q_assign rfl) rfl (W_q (q_assign rfl) rfl ?_))); clear H a; intro a H
        refine n_nil (then_normal (wp_ret (then_ret ?_)))
        obtain rfl := Option.some.inj hm
        replace hS := hS.tk0
        refine ret2 H (.inr rfl) rfl rfl rfl ?_
        exact ⟨rfl, hS.x⟩
      · replace hm := condF hm hc538
        refine wp_skip (then_normal (wp_seq (wp_region_lit (n_q H (q_load rfl ((hS.blk 0 rfl).ldAll ag49 sz49)) rfl ?_)))); clear H a; intro a H
        replace hm := bindS hm; obtain ⟨r539, hr539, hm⟩ := hm
        refine n_call H rfl en138 (g_r14_Owners_w (A := A) (⟨_, _, _, _, rfl, (hrp0_0.ext RGPlan.mono hS.x), (hrp0_1.ext (Flat.mono _) hS.x), (hrp0_2.ext (Flat.mono _) hS.x), (hrp0_3.ext (Flat.mono _) hS.x)⟩ : RGConfig _ [.int .i64 a0.Ticks, vp0_0, vp0_1, vp0_2, vp0_3, .int .i64 a0.Tries] a0) hr539) rfl ?_
        clear H; intro u540 w542 hv; clear a; intro a H; obtain ⟨_, rfl, hE543⟩ := hv
        replace hS := hS.new hE543; simp only [List.cons_append, List.nil_append] at hS
        refine n_q H (q_assign rfl) rfl ?_; clear H a; intro a H
        refine n_nil (then_normal (wp_seq (wp_seq (wp_region_lit (n_q H (q_move rfl) rfl (W_q (q_assign rfl) rfl ?_)))))); clear H a; intro a H
        refine n_nil (then_normal (wp_block ?_))
        replace hm := bindS hm; obtain ⟨q545, hm, hm545⟩ := hm; replace hm := iter_some hm; obtain ⟨n545, hm⟩ := hm
        refine c_loop (σ := Nat × Int) (fun (m, z546) => [(1, .int .i64 a1), (3, .pointer (some ⟨b21, 0, none⟩)), (8, u540), (9, .int .i64 z546)]) (fun (m, z546) wl => iterN (g_r14_Next_L2 a0 a1 r539) m z546 = some q545 ∧ St NB w wl [ownR 3 1 u540 r539.length (r539.flatMap eI), blkR b21 [.int .i64 a0.Ticks, vp0_0, vp0_1, vp0_2, vp0_3, .int .i64 a0.Tries] 49]) (fun (m, z546) => m) (n545, a2) H ⟨rfl, rfl, rfl, rfl, trivial⟩ ⟨hm, hS⟩ ?_
        clear H hS hm a; intro xx a w547 H hR; obtain ⟨m, z546⟩ := xx; simp only [ent, List.map_cons, List.map_nil] at H; (try dsimp only at hR); obtain ⟨hm, hS⟩ := hR
        replace hm := iterN_step hm; obtain ⟨m545, o545, rfl, hm, hn545⟩ := hm; try dsimp only [g_r14_Next_L2] at hm
        refine wp_seq (wp_seq (wp_region_lit (n_q H (q_move rfl) rfl (W_q (q_fieldAddr0 rfl fo49_0) rfl (W_q (q_load rfl ((hS.blk 1 rfl).ld ag3 rfl)) rfl (W_q (q_lss rfl rfl) rfl ?_)))))); clear H a; intro a H
        refine n_nil (then_normal (c_cond H rfl (fun hc548 => ?_) (fun hc548 => ?_)))
        · replace hm := condT hm hc548
          refine wp_skip (then_normal (wp_seq (wp_block (wp_seq (wp_region_lit (n_q H (q_move rfl) rfl (W_q (q_move rfl) rfl ?_))))))); clear H a; intro a H
          obtain ⟨A549, c549, hv549, hl549, hm549⟩ := SlR.formV ((hS.own 0 rfl).slr rfl (fun _ _ => rfl))
          replace hm := bindS hm; obtain ⟨x550, hx550, hm⟩ := hm
          obtain ⟨h0x550, h1x550, hxx550⟩ := rdI_some hx550
          obtain ⟨adx550, hAx550⟩ := SlR.adV ((hS.own 0 rfl).slr rfl (fun _ _ => rfl)) hv549 hxx550
          refine n_q H (q_ixVI Tryz.underlying25 sz3 rfl hv549 hAx550 rfl h0x550 h1x550) rfl (W_q (q_load rfl (SlR.ldOneV ((hS.own 0 rfl).slr rfl (fun _ _ => rfl)) hv549 hAx550 ag3 hxx550 rfl)) rfl (W_q (q_move rfl) rfl (W_q (q_eqlD rfl rfl) rfl ?_))); clear H a; intro a H
          refine n_nil (then_normal (c_cond H rfl (fun hc551 => ?_) (fun hc551 => ?_)))
          · replace hm := condT hm hc551
            refine wp_seq (wp_region_lit (n_q H (q_move rfl) rfl (W_q (q_assign rfl) rfl (W_q (q_assign rfl) rfl ?_)))); clear H a; intro a H
            refine n_nil (then_normal (wp_ret (block_ret (then_ret (then_ret (block_ret (then_ret ?_)))))))
            obtain rfl := Option.some.inj hm; have hz : _ = q545 := hn545; subst hz; replace hm := hm545; try dsimp only at hm
            obtain rfl := Option.some.inj hm
            replace hS := hS.tk0
            refine ret2 H (.inr rfl) rfl rfl rfl ?_
            exact ⟨rfl, hS.x⟩
          · replace hm := condF hm hc551
            refine wp_skip (block_normal (then_normal (wp_region_lit (n_q H (q_move rfl) rfl (W_q (q_addW rfl rfl) rfl (W_q (q_assign rfl) rfl ?_)))))); clear H a; intro a H
            refine n_nil (then_normal ?_)
            obtain rfl := Option.some.inj hm
            exact round (m545, (IntKind.i64.wrap (z546 + 1))) H ⟨rfl, rfl, rfl, rfl, trivial⟩ ⟨hn545, hS⟩ (Nat.lt_succ_self _)
        · replace hm := condF hm hc548
          refine wp_exit (then_exit (then_exit (block_exit ?_)))
          obtain rfl := Option.some.inj hm; have hz : _ = q545 := hn545; subst hz; replace hm := hm545; try dsimp only at hm
          refine then_normal (wp_seq (wp_region_lit (n_q H (q_assign rfl) rfl (W_q (q_assign rfl) rfl ?_)))); clear H a; intro a H
          refine n_nil (then_normal (wp_ret ?_))
          obtain rfl := Option.some.inj hm
          replace hS := hS.tk0
          refine ret2 H (.inr rfl) rfl rfl rfl ?_
          exact ⟨rfl, hS.x⟩
theorem g_r14_Load_w {w : World} {A : Nat → Addr} {cs0 : List Value} {a0 : GConfig} {a1 : Int} (h0 : RGConfig w cs0 a0) {r : Int × Int} (hm : g_r14_Load a0 a1 = some r) :
    Calls Tryz.prog 67 [.agg cs0.toArray, .int .i64 a1].toArray w (Ret fun u w' => u = .tuple #[.int .i64 r.1, .int .i64 r.2] ∧ Ext w w') := by
  obtain ⟨vp0_0, vp0_1, vp0_2, vp0_3, rfl, hrp0_0, hrp0_1, hrp0_2, hrp0_3⟩ := h0
  have hS := St.begin NB w
  unfold g_r14_Load at hm
  refine enter Tryz.func67 rfl rfl rfl ?_; intro a H; dsimp only [enumL, Nat.zero_add, Nat.reduceAdd] at H
  refine wp_seq (wp_region_lit (n_box H rfl (cs := [.int .i64 a0.Ticks, vp0_0, vp0_1, vp0_2, vp0_3, .int .i64 a0.Tries]) rfl rfl ?_))
  clear H; intro b21 w22 hN hE23 hs; clear a; intro a H
  replace hS := hS.newBlk hN hE23 hs; clear hN hs
  refine n_q H (q_assign rfl) rfl (W_q (q_assign rfl) rfl ?_); clear H a; intro a H
  refine n_nil (then_normal (wp_seq (wp_seq (wp_region_lit (n_q H (q_load rfl ((hS.blk 0 rfl).ldAll ag49 sz49)) rfl ?_))))); clear H a; intro a H
  replace hm := bindS hm; obtain ⟨r24, hr24, hm⟩ := hm
  refine n_call H rfl en60 (g_r14_Good_w (A := A) (⟨_, _, _, _, rfl, (hrp0_0.ext RGPlan.mono hS.x), (hrp0_1.ext (Flat.mono _) hS.x), (hrp0_2.ext (Flat.mono _) hS.x), (hrp0_3.ext (Flat.mono _) hS.x)⟩ : RGConfig _ [.int .i64 a0.Ticks, vp0_0, vp0_1, vp0_2, vp0_3, .int .i64 a0.Tries] a0) hr24) rfl ?_
  clear H; intro x27 w25 hv; clear a; intro a H; obtain ⟨rfl, hE26⟩ := hv
  replace hS := hS.ext hE26
  refine n_q H (q_not rfl) rfl ?_; clear H a; intro a H
  refine n_nil (then_normal (c_cond H rfl (fun hc28 => ?_) (fun hc28 => ?_)))
  · replace hm := condT hm hc28
    refine wp_seq (wp_region_lit (n_q H (q_assign rfl) rfl (W_q (q_assign rfl) rfl ?_))); clear H a; intro a H
    refine n_nil (then_normal (wp_ret (then_ret ?_)))
    obtain rfl := Option.some.inj hm
    replace hS := hS.tk0
    refine ret2 H (.inr rfl) rfl rfl rfl ?_
    exact ⟨rfl, hS.x⟩
  · replace hm := condF hm hc28
    refine wp_skip (then_normal (wp_seq (wp_seq (wp_region_lit (n_q H (q_load rfl ((hS.blk 0 rfl).ldAll ag49 sz49)) rfl (W_q (q_move rfl) rfl ?_)))))); clear H a; intro a H
    replace hm := bindS hm; obtain ⟨r29, hr29, hm⟩ := hm
    refine n_call H rfl en76 (g_r14_owner_w (A := A) (⟨_, _, _, _, rfl, (hrp0_0.ext RGPlan.mono hS.x), (hrp0_1.ext (Flat.mono _) hS.x), (hrp0_2.ext (Flat.mono _) hS.x), (hrp0_3.ext (Flat.mono _) hS.x)⟩ : RGConfig _ [.int .i64 a0.Ticks, vp0_0, vp0_1, vp0_2, vp0_3, .int .i64 a0.Tries] a0) hr29) rfl ?_
    clear H; intro x32 w30 hv; clear a; intro a H; obtain ⟨rfl, hE31⟩ := hv
    replace hS := hS.ext hE31
    refine n_q H (q_not rfl) rfl ?_; clear H a; intro a H
    refine n_nil (then_normal (c_cond H rfl (fun hc33 => ?_) (fun hc33 => ?_)))
    · replace hm := condT hm hc33
      refine wp_seq (wp_region_lit (n_q H (q_assign rfl) rfl (W_q (q_assign rfl) rfl ?_))); clear H a; intro a H
      refine n_nil (then_normal (wp_ret (then_ret ?_)))
      obtain rfl := Option.some.inj hm
      replace hS := hS.tk0
      refine ret2 H (.inr rfl) rfl rfl rfl ?_
      exact ⟨rfl, hS.x⟩
    · replace hm := condF hm hc33
      refine wp_skip (then_normal (wp_seq (wp_region_lit (n_q H (q_load rfl ((hS.blk 0 rfl).ldAll ag49 sz49)) rfl (W_q (q_move rfl) rfl ?_))))); clear H a; intro a H
      replace hm := bindS hm; obtain ⟨r34, hr34, hm⟩ := hm
      refine n_call H rfl en61 (g_r14_ticks_w (A := A) (⟨_, _, _, _, rfl, (hrp0_0.ext RGPlan.mono hS.x), (hrp0_1.ext (Flat.mono _) hS.x), (hrp0_2.ext (Flat.mono _) hS.x), (hrp0_3.ext (Flat.mono _) hS.x)⟩ : RGConfig _ [.int .i64 a0.Ticks, vp0_0, vp0_1, vp0_2, vp0_3, .int .i64 a0.Tries] a0) hr34) rfl ?_
      clear H; intro x37 w35 hv; clear a; intro a H; obtain ⟨rfl, hE36⟩ := hv
      replace hS := hS.ext hE36
      refine n_q H (q_assign rfl) rfl (W_q (q_assign rfl) rfl ?_); clear H a; intro a H
      refine n_nil (then_normal (wp_ret ?_))
      obtain rfl := Option.some.inj hm
      replace hS := hS.tk0
      refine ret2 H (.inr rfl) rfl rfl rfl ?_
      exact ⟨rfl, hS.x⟩
theorem g_r14_Joined_w {w : World} {A : Nat → Addr} {cs0 : List Value} {a0 : GConfig} {a1 : Int} (h0 : RGConfig w cs0 a0) {r : Bool × Int} (hm : g_r14_Joined a0 a1 = some r) :
    Calls Tryz.prog 68 [.agg cs0.toArray, .int .i64 a1].toArray w (Ret fun u w' => u = .tuple #[.bool r.1, .int .i64 r.2] ∧ Ext w w') := by
  obtain ⟨vp0_0, vp0_1, vp0_2, vp0_3, rfl, hrp0_0, hrp0_1, hrp0_2, hrp0_3⟩ := h0
  have hS := St.begin NB w
  unfold g_r14_Joined at hm
  refine enter Tryz.func68 rfl rfl rfl ?_; intro a H; dsimp only [enumL, Nat.zero_add, Nat.reduceAdd] at H
  refine wp_seq (wp_region_lit (n_box H rfl (cs := [.int .i64 a0.Ticks, vp0_0, vp0_1, vp0_2, vp0_3, .int .i64 a0.Tries]) rfl rfl ?_))
  clear H; intro b21 w22 hN hE23 hs; clear a; intro a H
  replace hS := hS.newBlk hN hE23 hs; clear hN hs
  refine n_q H (q_assign rfl) rfl (W_q (q_assign rfl) rfl ?_); clear H a; intro a H
  refine n_nil (then_normal (wp_seq (wp_seq (wp_region_lit (n_q H (q_load rfl ((hS.blk 0 rfl).ldAll ag49 sz49)) rfl ?_))))); clear H a; intro a H
  replace hm := bindS hm; obtain ⟨r24, hr24, hm⟩ := hm
  refine n_call H rfl en60 (g_r14_Good_w (A := A) (⟨_, _, _, _, rfl, (hrp0_0.ext RGPlan.mono hS.x), (hrp0_1.ext (Flat.mono _) hS.x), (hrp0_2.ext (Flat.mono _) hS.x), (hrp0_3.ext (Flat.mono _) hS.x)⟩ : RGConfig _ [.int .i64 a0.Ticks, vp0_0, vp0_1, vp0_2, vp0_3, .int .i64 a0.Tries] a0) hr24) rfl ?_
  clear H; intro x27 w25 hv; clear a; intro a H; obtain ⟨rfl, hE26⟩ := hv
  replace hS := hS.ext hE26
  refine n_q H (q_not rfl) rfl ?_; clear H a; intro a H
  refine n_nil (then_normal (c_cond H rfl (fun hc28 => ?_) (fun hc28 => ?_)))
  · replace hm := condT hm hc28
    refine wp_seq (wp_region_lit (n_q H (q_assign rfl) rfl (W_q (q_assign rfl) rfl ?_))); clear H a; intro a H
    refine n_nil (then_normal (wp_ret (then_ret ?_)))
    obtain rfl := Option.some.inj hm
    replace hS := hS.tk0
    refine ret2 H (.inr rfl) rfl rfl rfl ?_
    exact ⟨rfl, hS.x⟩
  · replace hm := condF hm hc28
    refine wp_skip (then_normal (wp_seq ?_))
    replace hm := bindS hm; obtain ⟨j29, hm, hm29⟩ := hm
    refine c_join (σ := Bool) H (fun q530 => [(1, .int .i64 a1), (2, .pointer (some ⟨b21, 0, none⟩)), (17, .bool q530)]) (fun q530 wl => (g_r14_Joined_J9 a0 a1) q530 = some r ∧ St NB w wl [blkR b21 [.int .i64 a0.Ticks, vp0_0, vp0_1, vp0_2, vp0_3, .int .i64 a0.Tries] 49]) ?_ ?_
    · skip
      refine wp_region_lit (n_q H (q_move rfl) rfl (W_q (q_lss rfl rfl) rfl (W_q (q_move rfl) rfl ?_))); clear H a; intro a H
      rcases Bool.eq_false_or_eq_true (decide (a1 < 0)) with hg531 | hg531
      · replace H := H.know 12 rfl hg531
        replace hm := condT hm hg531
        refine n_no H rfl rfl (by decide) rfl (W_no rfl rfl (by decide) rfl (W_no rfl rfl (by decide) rfl (W_no rfl rfl (by decide) rfl (W_q (q_pickT rfl rfl) rfl ?_)))); clear H a; intro a H
        refine n_nil (then_normal ?_)
        obtain rfl := Option.some.inj hm; replace hm := hm29; try dsimp only at hm
        exact join true H ⟨rfl, rfl, rfl, trivial⟩ ⟨hm, hS⟩
      · replace H := H.know 12 rfl hg531
        replace hm := condF hm hg531
        refine n_yes H rfl rfl (n_q H (q_load rfl ((hS.blk 0 rfl).ldAll ag49 sz49)) rfl (W_yes rfl rfl (W_q (q_move rfl) rfl (W_yes rfl rfl ?_)))); clear H a; intro a H
        replace hm := bindS hm; obtain ⟨r532, hr532, hm⟩ := hm
        refine n_call H rfl en76 (g_r14_owner_w (A := A) (⟨_, _, _, _, rfl, (hrp0_0.ext RGPlan.mono hS.x), (hrp0_1.ext (Flat.mono _) hS.x), (hrp0_2.ext (Flat.mono _) hS.x), (hrp0_3.ext (Flat.mono _) hS.x)⟩ : RGConfig _ [.int .i64 a0.Ticks, vp0_0, vp0_1, vp0_2, vp0_3, .int .i64 a0.Tries] a0) hr532) rfl ?_
        clear H; intro x535 w533 hv; clear a; intro a H; obtain ⟨rfl, hE534⟩ := hv
        replace hS := hS.ext hE534
        refine n_yes H rfl rfl (n_q H (q_not rfl) rfl (W_q (q_pickF rfl rfl) rfl ?_)); clear H a; intro a H
        refine n_nil (then_normal ?_)
        obtain rfl := Option.some.inj hm; replace hm := hm29; try dsimp only at hm
        exact join (!r532) H ⟨rfl, rfl, rfl, trivial⟩ ⟨hm, hS⟩
    · clear H hS hm a; intro q530 a w536 H hR
      simp only [ent, List.map_cons, List.map_nil] at H; (try dsimp only at hR); obtain ⟨hm, hS⟩ := hR; try dsimp only [g_r14_Joined_J9] at hm
      refine c_cond H rfl (fun hc537 => ?_) (fun hc537 => ?_)
      · replace hm := condT hm hc537
        refine wp_seq (wp_region_lit (n_q H (q_assign rfl) rfl (W_q (q_assign rfl) rfl ?_))); clear H a; intro a H
        refine n_nil (then_normal (wp_ret (then_ret ?_)))
        obtain rfl := Option.some.inj hm
        replace hS := hS.tk0
        refine ret2 H (.inr rfl) rfl rfl rfl ?_
        exact ⟨rfl, hS.x⟩
      · replace hm := condF hm hc537
        refine wp_skip (then_normal (wp_seq (wp_seq (wp_region_lit (n_q H (q_assign rfl) rfl ?_))))); clear H a; intro a H
        refine n_nil (then_normal (wp_block ?_))
        replace hm := bindS hm; obtain ⟨q538, hm, hm538⟩ := hm; replace hm := iter_some hm; obtain ⟨n538, hm⟩ := hm
        refine c_loop (σ := Nat × Nat) (fun (m, i539) => [(1, .int .i64 a1), (2, .pointer (some ⟨b21, 0, none⟩)), (6, .int .i64 ((i539 : Nat) : Int))]) (fun (m, i539) wl => iterN (g_r14_Joined_L8 a0 a1) m i539 = some q538 ∧ St NB w wl [blkR b21 [.int .i64 a0.Ticks, vp0_0, vp0_1, vp0_2, vp0_3, .int .i64 a0.Tries] 49]) (fun (m, i539) => m) (n538, 0) H ⟨rfl, rfl, rfl, trivial⟩ ⟨hm, hS⟩ ?_
        clear H hS hm a; intro xx a w540 H hR; obtain ⟨m, i539⟩ := xx; simp only [ent, List.map_cons, List.map_nil] at H; (try dsimp only at hR); obtain ⟨hm, hS⟩ := hR
        replace hm := iterN_step hm; obtain ⟨m538, o538, rfl, hm, hn538⟩ := hm; try dsimp only [g_r14_Joined_L8] at hm
        refine wp_seq (wp_seq (wp_region_lit (n_q H (q_move rfl) rfl (W_q (q_fieldAddr0 rfl fo49_4) rfl (W_q (q_load rfl ((hS.blk 0 rfl).ld ag47 rfl)) rfl ?_))))); clear H a; intro a H
        obtain ⟨A541, c541, hv541, hl541, hm541⟩ := SlR.formV (hrp0_3.ext (Flat.mono _) hS.x)
        refine n_q H (q_lenV Tryz.underlying47 rfl hv541) rfl (W_q (q_lssN (i := i539) (j := a0.Links.length) rfl rfl) rfl ?_); clear H a; intro a H
        refine n_nil (then_normal (c_cond H rfl (fun hc542 => ?_) (fun hc542 => ?_)))
        · replace hm := condT hm hc542
          have hlt543 : i539 < a0.Links.length := of_decide_eq_true hc542
          refine wp_skip (then_normal (wp_seq (wp_block ?_)))
          replace hm := bindS hm; obtain ⟨j544, hm, hm544⟩ := hm
          refine c_join (σ := Bool) H (fun q1045 => [(1, .int .i64 a1), (2, .pointer (some ⟨b21, 0, none⟩)), (6, .int .i64 ((i539 : Nat) : Int)), (42, .bool q1045)]) (fun q1045 wl => (g_r14_Joined_J7 i539) q1045 = some o538 ∧ St NB w wl [blkR b21 [.int .i64 a0.Ticks, vp0_0, vp0_1, vp0_2, vp0_3, .int .i64 a0.Tries] 49]) ?_ ?_
          · skip
            refine wp_region_lit (n_q H (q_fieldAddr0 rfl fo49_4) rfl (W_q (q_load rfl ((hS.blk 0 rfl).ld ag47 rfl)) rfl (W_q (q_move rfl) rfl ?_))); clear H a; intro a H
            replace hm := bindS hm; obtain ⟨x1046, hx1046, hm⟩ := hm
            obtain ⟨adx1046, hAx1046⟩ := SlR.adV (hrp0_3.ext (Flat.mono _) hS.x) hv541 hx1046
            refine n_q H (q_ixV (i := i539) Tryz.underlying47 sz63 rfl hv541 hAx1046 rfl (natI hx1046)) rfl (W_q (q_fieldAddr rfl fo63_0) rfl (W_q (q_load rfl (SlR.ldCellV (j := 0) (hrp0_3.ext (Flat.mono _) hS.x) hv541 hAx1046 ag3 hx1046 rfl)) rfl (W_q (q_move rfl) rfl (W_q (q_eqlD rfl rfl) rfl (W_q (q_move rfl) rfl ?_))))); clear H a; intro a H
            rcases Bool.eq_false_or_eq_true (decide (x1046.From = a1)) with hg1047 | hg1047
            · replace H := H.know 33 rfl hg1047
              replace hm := condT hm hg1047
              refine n_no H rfl rfl (by decide) rfl (W_no rfl rfl (by decide) rfl (W_no rfl rfl (by decide) rfl (W_no rfl rfl (by decide) rfl (W_no rfl rfl (by decide) rfl (W_no rfl rfl (by decide) rfl (W_no rfl rfl (by decide) rfl (W_no rfl rfl (by decide) rfl (W_q (q_pickT rfl rfl) rfl ?_)))))))); clear H a; intro a H
              refine n_nil (then_normal ?_)
              obtain rfl := Option.some.inj hm; replace hm := hm544; try dsimp only at hm
              exact join true H ⟨rfl, rfl, rfl, rfl, trivial⟩ ⟨hm, hS⟩
            · replace H := H.know 33 rfl hg1047
              replace hm := condF hm hg1047
              refine n_yes H rfl rfl (n_q H (q_fieldAddr0 rfl fo49_4) rfl (W_yes rfl rfl (W_q (q_load rfl ((hS.blk 0 rfl).ld ag47 rfl)) rfl (W_yes rfl rfl (W_q (q_move rfl) rfl (W_yes rfl rfl ?_)))))); clear H a; intro a H
              replace hm := bindS hm; obtain ⟨x1048, hx1048, hm⟩ := hm
              obtain ⟨adx1048, hAx1048⟩ := SlR.adV (hrp0_3.ext (Flat.mono _) hS.x) hv541 hx1048
              refine n_q H (q_ixV (i := i539) Tryz.underlying47 sz63 rfl hv541 hAx1048 rfl (natI hx1048)) rfl (W_yes rfl rfl (W_q (q_fieldAddr rfl fo63_2) rfl (W_yes rfl rfl (W_q (q_load rfl (SlR.ldCellV (j := 2) (hrp0_3.ext (Flat.mono _) hS.x) hv541 hAx1048 ag3 hx1048 rfl)) rfl (W_yes rfl rfl (W_q (q_move rfl) rfl (W_yes rfl rfl (W_q (q_eqlD rfl rfl) rfl (W_q (q_pickF rfl rfl) rfl ?_))))))))); clear H a; intro a H
              refine n_nil (then_normal ?_)
              obtain rfl := Option.some.inj hm; replace hm := hm544; try dsimp only at hm
              exact join (decide (x1048.To = a1)) H ⟨rfl, rfl, rfl, rfl, trivial⟩ ⟨hm, hS⟩
          · clear H hS hm a; intro q1045 a w1049 H hR
            simp only [ent, List.map_cons, List.map_nil] at H; (try dsimp only at hR); obtain ⟨hm, hS⟩ := hR; try dsimp only [g_r14_Joined_J7] at hm
            refine c_cond H rfl (fun hc1050 => ?_) (fun hc1050 => ?_)
            · replace hm := condT hm hc1050
              refine wp_seq (wp_region_lit (n_q H (q_assign rfl) rfl (W_q (q_assign rfl) rfl ?_))); clear H a; intro a H
              refine n_nil (then_normal (wp_ret (block_ret (then_ret (then_ret (block_ret (then_ret ?_)))))))
              obtain rfl := Option.some.inj hm; have hz : _ = q538 := hn538; subst hz; replace hm := hm538; try dsimp only at hm
              obtain rfl := Option.some.inj hm
              replace hS := hS.tk0
              refine ret2 H (.inr rfl) rfl rfl rfl ?_
              exact ⟨rfl, hS.x⟩
            · replace hm := condF hm hc1050
              refine wp_skip (block_normal (then_normal (wp_region_lit (n_q H (q_move rfl) rfl (W_q (q_incr (i := i539) (j := 1) rfl rfl (by omega)) rfl (W_q (q_assign rfl) rfl ?_)))))); clear H a; intro a H
              refine n_nil (then_normal ?_)
              obtain rfl := Option.some.inj hm
              exact round (m538, i539 + 1) H ⟨rfl, rfl, rfl, trivial⟩ ⟨hn538, hS⟩ (Nat.lt_succ_self _)
        · replace hm := condF hm hc542
          refine wp_exit (then_exit (then_exit (block_exit ?_)))
          obtain rfl := Option.some.inj hm; have hz : _ = q538 := hn538; subst hz; replace hm := hm538; try dsimp only at hm
          refine then_normal (wp_seq (wp_region_lit (n_q H (q_assign rfl) rfl (W_q (q_assign rfl) rfl ?_)))); clear H a; intro a H
          refine n_nil (then_normal (wp_ret ?_))
          obtain rfl := Option.some.inj hm
          replace hS := hS.tk0
          refine ret2 H (.inr rfl) rfl rfl rfl ?_
          exact ⟨rfl, hS.x⟩
theorem g_slices_IndexFunc_Link_w {w : World} {A : Nat → Addr} {v0 : Value} {a0 : List GLink} {g1 : Nat} {fs1 : List Value} {cp1 : List Value} {a1 : GLink → Option Bool} (h0 : SlR w 4 (Flat eGLink) v0 a0) (he1 : entersB Tryz.prog g1 = true) (hf1 : ∀ w1, Ext w w1 → ∀ (x0 : GLink) (r : Bool), a1 x0 = some r → Calls Tryz.prog g1 (fs1 ++ [Value.agg (eGLink x0).toArray] ++ cp1).toArray w1 (Ret fun u w' => u = .bool r ∧ Ext w1 w')) {r : Int} (hm : g_slices_IndexFunc_Link a0 a1 = some r) :
    Calls Tryz.prog 193 [v0, .func (.func g1) fs1.toArray cp1.toArray].toArray w (Ret fun u w' => u = .int .i64 r ∧ Ext w w') := by
  have hS := St.begin NB w
  unfold g_slices_IndexFunc_Link at hm
  refine enter Tryz.func193 rfl rfl rfl ?_; intro a H; dsimp only [enumL, Nat.zero_add, Nat.reduceAdd] at H
  refine wp_seq (wp_region_lit (n_q H (q_assign rfl) rfl ?_)); clear H a; intro a H
  refine n_nil (then_normal (wp_seq (wp_seq (wp_region_lit (n_q H (q_move rfl) rfl ?_))))); clear H a; intro a H
  obtain ⟨A21, c21, hv21, hl21, hm21⟩ := SlR.formV (h0.ext (Flat.mono _) hS.x)
  refine n_q H (q_lenV Tryz.underlying47 rfl hv21) rfl (W_q (q_move rfl) rfl ?_); clear H a; intro a H
  refine n_nil (then_normal (wp_block ?_))
  replace hm := bindS hm; obtain ⟨q22, hm, hm22⟩ := hm; replace hm := iter_some hm; obtain ⟨n22, hm⟩ := hm
  refine c_loop (σ := Nat × Nat) (fun (m, i23) => [(0, v0), (1, .func (.func g1) fs1.toArray cp1.toArray), (7, .int .i64 ((a0.length : Nat) : Int)), (8, .int .i64 ((i23 : Nat) : Int))]) (fun (m, i23) wl => iterN (g_slices_IndexFunc_Link_L1 a0 a1) m i23 = some q22 ∧ St NB w wl []) (fun (m, i23) => m) (n22, 0) H ⟨rfl, rfl, rfl, rfl, trivial⟩ ⟨hm, hS⟩ ?_
  clear H hS hm a; intro xx a w24 H hR; obtain ⟨m, i23⟩ := xx; simp only [ent, List.map_cons, List.map_nil] at H; (try dsimp only at hR); obtain ⟨hm, hS⟩ := hR
  replace hm := iterN_step hm; obtain ⟨m22, o22, rfl, hm, hn22⟩ := hm; try dsimp only [g_slices_IndexFunc_Link_L1] at hm
  refine wp_seq (wp_region_lit (n_q H (q_lssN (i := i23) (j := a0.length) rfl rfl) rfl ?_)); clear H a; intro a H
  refine n_nil (then_normal (wp_seq (c_cond H rfl (fun hc25 => ?_) (fun hc25 => ?_))))
  · replace hm := condT hm hc25
    have hlt26 : i23 < a0.length := of_decide_eq_true hc25
    refine wp_skip (then_normal (wp_seq (wp_block (wp_seq (wp_region_lit (n_q H (q_move rfl) rfl (W_q (q_assign rfl) rfl ?_))))))); clear H a; intro a H
    refine n_nil (then_normal (wp_seq (wp_region_lit (n_q H (q_move rfl) rfl (W_q (q_move rfl) rfl (W_q (q_move rfl) rfl ?_)))))); clear H a; intro a H
    replace hm := bindS hm; obtain ⟨x27, hx27, hm⟩ := hm
    obtain ⟨adx27, hAx27⟩ := SlR.adV (h0.ext (Flat.mono _) hS.x) hv21 hx27
    refine n_q H (q_ixV (i := i23) Tryz.underlying47 sz63 rfl hv21 hAx27 rfl (natI hx27)) rfl (W_q (q_load rfl (SlR.ldAggV (h0.ext (Flat.mono _) hS.x) hv21 hAx27 ag63 sz63 hx27)) rfl ?_); clear H a; intro a H
    replace hm := bindS hm; obtain ⟨r28, hr28, hm⟩ := hm
    refine n_callv H rfl rfl he1 (hf1 _ hS.x x27 _ hr28) rfl ?_
    clear H; intro x31 w29 hv; clear a; intro a H; obtain ⟨rfl, hE30⟩ := hv
    replace hS := hS.ext hE30
    refine n_nil (then_normal (c_cond H rfl (fun hc32 => ?_) (fun hc32 => ?_)))
    · replace hm := condT hm hc32
      refine wp_seq (wp_region_lit (n_q H (q_move rfl) rfl (W_q (q_assign rfl) rfl ?_))); clear H a; intro a H
      refine n_nil (then_normal (wp_ret (block_ret (then_ret (then_ret (block_ret (then_ret ?_)))))))
      obtain rfl := Option.some.inj hm; have hz : _ = q22 := hn22; subst hz; replace hm := hm22; try dsimp only at hm
      obtain rfl := Option.some.inj hm
      refine ret1 H (.inr rfl) rfl rfl ?_
      exact ⟨rfl, hS.x⟩
    · replace hm := condF hm hc32
      refine wp_skip (block_normal (then_normal (wp_region_lit (n_q H (q_incr (i := i23) (j := 1) rfl rfl (by omega)) rfl (W_q (q_move rfl) rfl ?_))))); clear H a; intro a H
      refine n_nil (then_normal ?_)
      obtain rfl := Option.some.inj hm
      exact round (m22, i23 + 1) H ⟨rfl, rfl, rfl, rfl, trivial⟩ ⟨hn22, hS⟩ (Nat.lt_succ_self _)
  · replace hm := condF hm hc25
    refine wp_exit (then_exit (then_exit (block_exit ?_)))
    obtain rfl := Option.some.inj hm; have hz : _ = q22 := hn22; subst hz; replace hm := hm22; try dsimp only at hm
    refine then_normal (wp_seq (wp_region_lit (n_q H (q_assign rfl) rfl ?_))); clear H a; intro a H
    refine n_nil (then_normal (wp_ret ?_))
    obtain rfl := Option.some.inj hm
    refine ret1 H (.inr rfl) rfl rfl ?_
    exact ⟨rfl, hS.x⟩
theorem g_slices_ContainsFunc_Link_w {w : World} {A : Nat → Addr} {v0 : Value} {a0 : List GLink} {g1 : Nat} {fs1 : List Value} {cp1 : List Value} {a1 : GLink → Option Bool} (h0 : SlR w 4 (Flat eGLink) v0 a0) (he1 : entersB Tryz.prog g1 = true) (hf1 : ∀ w1, Ext w w1 → ∀ (x0 : GLink) (r : Bool), a1 x0 = some r → Calls Tryz.prog g1 (fs1 ++ [Value.agg (eGLink x0).toArray] ++ cp1).toArray w1 (Ret fun u w' => u = .bool r ∧ Ext w1 w')) {r : Bool} (hm : g_slices_ContainsFunc_Link a0 a1 = some r) :
    Calls Tryz.prog 140 [v0, .func (.func g1) fs1.toArray cp1.toArray].toArray w (Ret fun u w' => u = .bool r ∧ Ext w w') := by
  have hS := St.begin NB w
  unfold g_slices_ContainsFunc_Link at hm
  refine enter Tryz.func140 rfl rfl rfl ?_; intro a H; dsimp only [enumL, Nat.zero_add, Nat.reduceAdd] at H
  refine wp_seq (wp_region_lit (n_q H (q_assign rfl) rfl ?_)); clear H a; intro a H
  refine n_nil (then_normal (wp_seq (wp_region_lit (n_q H (q_move rfl) rfl (W_q (q_move rfl) rfl ?_))))); clear H a; intro a H
  replace hm := bindS hm; obtain ⟨r21, hr21, hm⟩ := hm
  refine n_call H rfl en193 (g_slices_IndexFunc_Link_w (A := A) (h0.ext (Flat.mono _) hS.x) (g1 := g1) (fs1 := fs1) (cp1 := cp1) (a1 := a1) he1 (fun w1 e1 => hf1 w1 (Ext.trans' hS.x e1)) hr21) rfl ?_
  clear H; intro x24 w22 hv; clear a; intro a H; obtain ⟨rfl, hE23⟩ := hv
  replace hS := hS.ext hE23
  refine n_q H (q_geq rfl rfl) rfl (W_q (q_assign rfl) rfl ?_); clear H a; intro a H
  refine n_nil (then_normal (wp_ret ?_))
  obtain rfl := Option.some.inj hm
  refine ret1 H (.inr rfl) rfl rfl ?_
  exact ⟨rfl, hS.x⟩
theorem g_frame_Joined_1_w {w : World} {A : Nat → Addr} {a0 : GLink} {b1 : Nat} {a1 : Int} (hb1 : Blk w b1 [.int .i64 a1] 3) {r : Bool} (hm : g_frame_Joined_1 a0 a1 = some r) :
    Calls Tryz.prog 141 [.agg (eGLink a0).toArray, .pointer (some ⟨b1, 0, none⟩)].toArray w (Ret fun u w' => u = .bool r ∧ Ext w w') := by
  have hS := St.begin NB w
  unfold g_frame_Joined_1 at hm
  refine enter Tryz.func141 rfl rfl rfl ?_; intro a H; dsimp only [enumL, Nat.zero_add, Nat.reduceAdd] at H
  refine wp_seq (wp_region_lit (n_box H rfl (cs := [.int .i64 a0.From, .int .i64 a0.Out, .int .i64 a0.To, .int .i64 a0.In]) rfl rfl ?_))
  clear H; intro b21 w22 hN hE23 hs; clear a; intro a H
  replace hS := hS.newBlk hN hE23 hs; clear hN hs
  refine n_q H (q_assign rfl) rfl ?_; clear H a; intro a H
  refine n_nil (then_normal (wp_seq (wp_region_lit (n_c H (fun HC => ?_))))); clear H
  refine nc_q HC (q_fieldAddr0 rfl fo63_0) rfl (by kernel_rfl) (V_q (q_load rfl ((hS.blk 0 rfl).ld ag3 rfl)) rfl (by kernel_rfl) (V_q (q_load rfl ((hb1.ext hS.x).ld ag3 rfl)) rfl (by kernel_rfl) (V_q (q_eqlD rfl rfl) rfl (by kernel_rfl) (V_q (q_move rfl) rfl (by kernel_rfl) (V_g (q_fieldAddr0 rfl fo63_2) (by kernel_rfl) (by kernel_rfl) (by kernel_rfl) (V_g (q_load rfl ((hS.blk 0 rfl).ld ag3 rfl)) (by kernel_rfl) (by kernel_rfl) (by kernel_rfl) (V_g (q_load rfl ((hb1.ext hS.x).ld ag3 rfl)) (by kernel_rfl) (by kernel_rfl) (by kernel_rfl) (V_g (q_eqlD rfl rfl) (by kernel_rfl) (by kernel_rfl) (by kernel_rfl) (V_or (j := 4) rfl rfl rfl (by kernel_rfl) (by kernel_rfl) (V_q (q_assign rfl) rfl (by kernel_rfl) ?_)))))))))); clear HC a; intro a HC
  have H := HC.has; clear HC
  refine n_nil (then_normal (wp_ret ?_))
  obtain rfl := Option.some.inj hm
  replace hS := hS.tk0
  refine ret1 H (.inr rfl) rfl rfl ?_
  exact ⟨rfl, hS.x⟩
theorem g_frame_Joined_w {w : World} {A : Nat → Addr} {cs0 : List Value} {a0 : GConfig} {a1 : Int} (hG : EV A w) (h0 : RGConfig w cs0 a0) {r : Bool × ErrM} (hm : g_frame_Joined a0 a1 = some r) :
    Calls Tryz.prog 69 [.agg cs0.toArray, .int .i64 a1].toArray w (Ret fun u w' => ∃ h_0, u = .tuple #[.bool r.1, h_0] ∧ St NB w w' [erQ A h_0 r.2]) := by
  obtain ⟨vp0_0, vp0_1, vp0_2, vp0_3, rfl, hrp0_0, hrp0_1, hrp0_2, hrp0_3⟩ := h0
  have hS := St.begin NB w
  unfold g_frame_Joined at hm
  refine enter Tryz.func69 rfl rfl rfl ?_; intro a H; dsimp only [enumL, Nat.zero_add, Nat.reduceAdd] at H
  refine wp_seq (wp_region_lit (n_box H rfl (cs := [.int .i64 a0.Ticks, vp0_0, vp0_1, vp0_2, vp0_3, .int .i64 a0.Tries]) rfl rfl ?_))
  clear H; intro b21 w22 hN hE23 hs; clear a; intro a H
  replace hS := hS.newBlk hN hE23 hs; clear hN hs
  refine n_box H rfl (cs := [.int .i64 a1]) rfl rfl ?_
  clear H; intro b24 w25 hN hE26 hs; clear a; intro a H
  replace hS := hS.newBlk hN hE26 hs; clear hN hs
  refine n_q H (q_assign rfl) rfl (W_q (q_assign rfl) rfl ?_); clear H a; intro a H
  refine n_nil (then_normal (wp_seq (wp_seq (wp_region_lit (n_q H (q_load rfl ((hS.blk 1 rfl).ldAll ag49 sz49)) rfl ?_))))); clear H a; intro a H
  replace hm := bindS hm; obtain ⟨r27, hr27, hm⟩ := hm
  refine n_call H rfl en28 (g_frame_Check_w (A := A) (hG.ext hS.x) (⟨_, _, _, _, rfl, (hrp0_0.ext RGPlan.mono hS.x), (hrp0_1.ext (Flat.mono _) hS.x), (hrp0_2.ext (Flat.mono _) hS.x), (hrp0_3.ext (Flat.mono _) hS.x)⟩ : RGConfig _ [.int .i64 a0.Ticks, vp0_0, vp0_1, vp0_2, vp0_3, .int .i64 a0.Tries] a0) hr27) rfl ?_
  clear H; intro u28 w30 hv; clear a; intro a H; obtain ⟨_, rfl, hE31⟩ := hv
  replace hS := hS.new hE31; simp only [List.cons_append, List.nil_append] at hS
  refine n_q H (q_cast (q_nnilI Tryz.underlying41 rfl rfl (hS.any 0 rfl : IsE A w30 u28 r27).form) (show _ = Value.bool (!decide (r27 = .nil)) by rw [IsErr.isNil (hS.any 0 rfl : IsE A w30 u28 r27)])) rfl ?_; clear H a; intro a H
  refine n_nil (then_normal (c_cond H rfl (fun hc33 => ?_) (fun hc33 => ?_)))
  · replace hm := condT hm hc33
    refine wp_seq (c_quiet (by kernel_rfl) (by kernel_rfl) ?_)
    refine qq_q H (q_load rfl ((hG.ext hS.x).ld gPlan (by decide) ag41)) rfl ?_; clear H a; intro a H
    refine qq_q H (q_assign rfl) rfl ?_; clear H a; intro a H
    refine qq_q H (q_assign rfl) rfl ?_; clear H a; intro a H
    refine qq_nil ?_; intro w34 hE35
    replace hS := hS.ext hE35
    refine then_normal (wp_ret (then_ret ?_))
    obtain rfl := Option.some.inj hm
    replace hS := hS.dVar (A := A) (g := gPlan) (by decide)
    replace hS := hS.tk1
    refine ret2 H (.inr rfl) rfl rfl rfl ?_
    exact ⟨_, rfl, hS⟩
  · replace hm := condF hm hc33
    refine wp_skip (then_normal (wp_seq (wp_seq (wp_region_lit (n_q H (q_load rfl ((hS.blk 2 rfl).ldAll ag49 sz49)) rfl (W_q (q_load rfl ((hS.blk 1 rfl).ld ag3 rfl)) rfl ?_)))))); clear H a; intro a H
    replace hm := bindS hm; obtain ⟨r37, hr37, hm⟩ := hm
    refine n_call H rfl en139 (g_frame_there_w (A := A) (⟨_, _, _, _, rfl, (hrp0_0.ext RGPlan.mono hS.x), (hrp0_1.ext (Flat.mono _) hS.x), (hrp0_2.ext (Flat.mono _) hS.x), (hrp0_3.ext (Flat.mono _) hS.x)⟩ : RGConfig _ [.int .i64 a0.Ticks, vp0_0, vp0_1, vp0_2, vp0_3, .int .i64 a0.Tries] a0) hr37) rfl ?_
    clear H; intro x40 w38 hv; clear a; intro a H; obtain ⟨rfl, hE39⟩ := hv
    replace hS := hS.ext hE39
    refine n_q H (q_not rfl) rfl ?_; clear H a; intro a H
    refine n_nil (then_normal (c_cond H rfl (fun hc41 => ?_) (fun hc41 => ?_)))
    · replace hm := condT hm hc41
      refine wp_seq (c_quiet (by kernel_rfl) (by kernel_rfl) ?_)
      refine qq_q H (q_load rfl ((hG.ext hS.x).ld gArg (by decide) ag41)) rfl ?_; clear H a; intro a H
      refine qq_q H (q_assign rfl) rfl ?_; clear H a; intro a H
      refine qq_q H (q_assign rfl) rfl ?_; clear H a; intro a H
      refine qq_nil ?_; intro w42 hE43
      replace hS := hS.ext hE43
      refine then_normal (wp_ret (then_ret ?_))
      obtain rfl := Option.some.inj hm
      replace hS := hS.dVar (A := A) (g := gArg) (by decide)
      replace hS := hS.tk1
      refine ret2 H (.inr rfl) rfl rfl rfl ?_
      exact ⟨_, rfl, hS⟩
    · replace hm := condF hm hc41
      refine wp_skip (then_normal (wp_seq (wp_region_lit (n_q H (q_fieldAddr0 rfl fo49_4) rfl (W_q (q_load rfl ((hS.blk 2 rfl).ld ag47 rfl)) rfl (W_q (q_makeFunc (f := []) (c := [.pointer (some ⟨b24, 0, none⟩)]) rfl rfl) rfl ?_)))))); clear H a; intro a H
      replace hm := bindS hm; obtain ⟨r45, hr45, hm⟩ := hm
      refine n_call H rfl en140 (g_slices_ContainsFunc_Link_w (A := A) (hrp0_3.ext (Flat.mono _) hS.x) (g1 := 141) (fs1 := []) (cp1 := [.pointer (some ⟨b24, 0, none⟩)]) (a1 := (fun x0 => g_frame_Joined_1 x0 a1)) en141 (fun w1 e1 x0 r hr => g_frame_Joined_1_w (A := A) ((hS.blk 1 rfl).ext e1) hr) hr45) rfl ?_
      clear H; intro x48 w46 hv; clear a; intro a H; obtain ⟨rfl, hE47⟩ := hv
      replace hS := hS.ext hE47
      refine n_q H (q_assign rfl) rfl (W_q (q_assign rfl) rfl ?_); clear H a; intro a H
      refine n_nil (then_normal (wp_ret ?_))
      obtain rfl := Option.some.inj hm
      replace hS := hS.dNil (A := A)
      replace hS := hS.tk1
      refine ret2 H (.inr rfl) rfl rfl rfl ?_
      exact ⟨_, rfl, hS⟩
set_option maxHeartbeats 1000000 in
theorem g_law14_asks_w {w : World} {A : Nat → Addr} {cs0 : List Value} {a0 : GConfig} {a1 : Int} {a2 : Int} (hG : EV A w) (hH : HE w) (h0 : RGConfig w cs0 a0) {r : Bool} (hm : g_law14_asks a0 a1 a2 = some r) :
    Calls Tryz.prog 22 [.agg cs0.toArray, .int .i64 a1, .int .i64 a2].toArray w (Ret fun u w' => u = .bool r ∧ Ext w w') := by
  obtain ⟨vp0_0, vp0_1, vp0_2, vp0_3, rfl, hrp0_0, hrp0_1, hrp0_2, hrp0_3⟩ := h0
  have hS := St.begin NB w
  unfold g_law14_asks at hm
  refine enter Tryz.func22 rfl rfl rfl ?_; intro a H; dsimp only [enumL, Nat.zero_add, Nat.reduceAdd] at H
  refine wp_seq (wp_region_lit (n_box H rfl (cs := [.int .i64 a0.Ticks, vp0_0, vp0_1, vp0_2, vp0_3, .int .i64 a0.Tries]) rfl rfl ?_))
  clear H; intro b21 w22 hN hE23 hs; clear a; intro a H
  replace hS := hS.newBlk hN hE23 hs; clear hN hs
  refine n_q H (q_assign rfl) rfl ?_; clear H a; intro a H
  refine n_nil (then_normal (wp_seq (wp_region_lit (n_q H (q_load rfl ((hS.blk 0 rfl).ldAll ag49 sz49)) rfl (W_q (q_move rfl) rfl ?_))))); clear H a; intro a H
  replace hm := bindS hm; obtain ⟨r24, hr24, hm⟩ := hm
  refine n_call H rfl en27 (g_r14_Windows_w (A := A) (⟨_, _, _, _, rfl, (hrp0_0.ext RGPlan.mono hS.x), (hrp0_1.ext (Flat.mono _) hS.x), (hrp0_2.ext (Flat.mono _) hS.x), (hrp0_3.ext (Flat.mono _) hS.x)⟩ : RGConfig _ [.int .i64 a0.Ticks, vp0_0, vp0_1, vp0_2, vp0_3, .int .i64 a0.Tries] a0) hr24) rfl ?_
  clear H; intro x29 w27 hv; clear a; intro a H; obtain ⟨u25, rfl, hE28⟩ := hv
  replace hS := hS.new hE28; simp only [List.cons_append, List.nil_append] at hS
  refine n_q H (q_move rfl) rfl (W_q (q_extract rfl rfl) rfl (W_q (q_extract rfl rfl) rfl (W_q (q_assign rfl) rfl (W_q (q_assign rfl) rfl ?_)))); clear H a; intro a H
  refine n_nil (then_normal (wp_seq (wp_region_lit (n_q H (q_load rfl ((hS.blk 1 rfl).ldAll ag49 sz49)) rfl ?_)))); clear H a; intro a H
  replace hm := bindS hm; obtain ⟨r30, hr30, hm⟩ := hm
  refine n_call H rfl en20 (g_r14_Copy_w (A := A) (⟨_, _, _, _, rfl, (hrp0_0.ext RGPlan.mono hS.x), (hrp0_1.ext (Flat.mono _) hS.x), (hrp0_2.ext (Flat.mono _) hS.x), (hrp0_3.ext (Flat.mono _) hS.x)⟩ : RGConfig _ [.int .i64 a0.Ticks, vp0_0, vp0_1, vp0_2, vp0_3, .int .i64 a0.Tries] a0) hr30) rfl ?_
  clear H; intro x41 w39 hv; clear a; intro a H; obtain ⟨u31, u32, u33, u34, rfl, hE40⟩ := hv
  replace hS := hS.new hE40; simp only [List.cons_append, List.nil_append] at hS
  refine n_q H (q_move rfl) rfl ?_; clear H a; intro a H
  replace hm := bindS hm; obtain ⟨r42, hr42, hm⟩ := hm
  refine n_call H rfl en32 (g_frame_Windows_w (A := A) (hG.ext hS.x) (⟨_, _, _, _, rfl, (hS.deepSl 0 rfl), ((hS.own 1 rfl).slr rfl (fun _ _ => rfl)), ((hS.own 2 rfl).slr rfl (fun _ _ => rfl)), ((hS.own 3 rfl).slr rfl (fun _ _ => rfl))⟩ : RGConfig _ [.int .i64 r30.Ticks, u31, u32, u33, u34, .int .i64 r30.Tries] r30) hr42) rfl ?_
  clear H; intro x49 w47 hv; clear a; intro a H; obtain ⟨u43, u44, rfl, hE48⟩ := hv
  replace hS := hS.new hE48; simp only [List.cons_append, List.nil_append] at hS
  refine n_q H (q_move rfl) rfl (W_q (q_extract rfl rfl) rfl (W_q (q_extract rfl rfl) rfl (W_q (q_assign rfl) rfl (W_q (q_assign rfl) rfl ?_)))); clear H a; intro a H
  refine n_nil (then_normal (wp_seq ?_))
  replace hm := bindS hm; obtain ⟨j50, hm, hm50⟩ := hm
  refine c_join (σ := Bool) H (fun q551 => [(1, .int .i64 a1), (2, .int .i64 a2), (3, .pointer (some ⟨b21, 0, none⟩)), (39, .bool q551)]) (fun q551 wl => (g_law14_asks_J10 a0 a1 a2) q551 = some r ∧ St NB w wl [blkR b21 [.int .i64 a0.Ticks, vp0_0, vp0_1, vp0_2, vp0_3, .int .i64 a0.Tries] 49]) ?_ ?_
  · skip
    refine wp_region_lit (n_q H (q_move rfl) rfl (W_q (q_move rfl) rfl ?_)); clear H a; intro a H
    replace hm := bindS hm; obtain ⟨r552, hr552, hm⟩ := hm
    refine n_call H rfl en34 (g_law14_sameWindows_w (A := A) ((hS.own 0 rfl).slr rfl (fun _ _ => rfl)) ((hS.own 6 rfl).slr rfl (fun _ _ => rfl)) hr552) rfl ?_
    clear H; intro x555 w553 hv; clear a; intro a H; obtain ⟨rfl, hE554⟩ := hv
    replace hS := hS.ext hE554
    refine n_q H (q_not rfl) rfl (W_q (q_move rfl) rfl ?_); clear H a; intro a H
    rcases Bool.eq_false_or_eq_true (!r552) with hg556 | hg556
    · replace H := H.know 34 rfl hg556
      replace hm := condT hm hg556
      refine n_no H rfl rfl (by decide) rfl (W_no rfl rfl (by decide) rfl (W_no rfl rfl (by decide) rfl (W_no rfl rfl (by decide) rfl (W_q (q_pickT rfl rfl) rfl ?_)))); clear H a; intro a H
      refine n_nil (then_normal ?_)
      obtain rfl := Option.some.inj hm; replace hm := hm50; try dsimp only at hm
      replace hS := hS.pk7
      replace hS := hS.tk1
      exact join true H ⟨rfl, rfl, rfl, rfl, trivial⟩ ⟨hm, hS⟩
    · replace H := H.know 34 rfl hg556
      replace hm := condF hm hg556
      refine n_yes H rfl rfl (n_q H (q_move rfl) rfl (W_yes rfl rfl (W_q (q_move rfl) rfl (W_yes rfl rfl ?_)))); clear H a; intro a H
      replace hm := bindS hm; obtain ⟨r557, hr557, hm⟩ := hm
      refine n_call H rfl en21 (g_law14_same_w (A := A) (hG.ext hS.x) (hH.ext hS.x) (hS.any 1 rfl : IsE A w553 u44 r42.2) hr557) rfl ?_
      clear H; intro x560 w558 hv; clear a; intro a H; obtain ⟨rfl, hE559⟩ := hv
      replace hS := hS.ext hE559
      refine n_yes H rfl rfl (n_q H (q_not rfl) rfl (W_q (q_pickF rfl rfl) rfl ?_)); clear H a; intro a H
      refine n_nil (then_normal ?_)
      obtain rfl := Option.some.inj hm; replace hm := hm50; try dsimp only at hm
      replace hS := hS.pk7
      replace hS := hS.tk1
      exact join (!r557) H ⟨rfl, rfl, rfl, rfl, trivial⟩ ⟨hm, hS⟩
  · clear H hS hm a; intro q551 a w561 H hR
    simp only [ent, List.map_cons, List.map_nil] at H; (try dsimp only at hR); obtain ⟨hm, hS⟩ := hR; try dsimp only [g_law14_asks_J10] at hm
    refine c_cond H rfl (fun hc562 => ?_) (fun hc562 => ?_)
    · replace hm := condT hm hc562
      refine wp_seq (wp_region_lit (n_q H (q_assign rfl) rfl ?_)); clear H a; intro a H
      refine n_nil (then_normal (wp_ret (then_ret ?_)))
      obtain rfl := Option.some.inj hm
      replace hS := hS.tk0
      refine ret1 H (.inr rfl) rfl rfl ?_
      exact ⟨rfl, hS.x⟩
    · replace hm := condF hm hc562
      refine wp_skip (then_normal (wp_seq (wp_region_lit (n_q H (q_load rfl ((hS.blk 0 rfl).ldAll ag49 sz49)) rfl (W_q (q_move rfl) rfl ?_))))); clear H a; intro a H
      replace hm := bindS hm; obtain ⟨r563, hr563, hm⟩ := hm
      refine n_call H rfl en26 (g_r14_Boots_w (A := A) (⟨_, _, _, _, rfl, (hrp0_0.ext RGPlan.mono hS.x), (hrp0_1.ext (Flat.mono _) hS.x), (hrp0_2.ext (Flat.mono _) hS.x), (hrp0_3.ext (Flat.mono _) hS.x)⟩ : RGConfig _ [.int .i64 a0.Ticks, vp0_0, vp0_1, vp0_2, vp0_3, .int .i64 a0.Tries] a0) hr563) rfl ?_
      clear H; intro x568 w566 hv; clear a; intro a H; obtain ⟨u564, rfl, hE567⟩ := hv
      replace hS := hS.new hE567; simp only [List.cons_append, List.nil_append] at hS
      refine n_q H (q_move rfl) rfl (W_q (q_extract rfl rfl) rfl (W_q (q_extract rfl rfl) rfl (W_q (q_assign rfl) rfl (W_q (q_assign rfl) rfl ?_)))); clear H a; intro a H
      refine n_nil (then_normal (wp_seq (wp_region_lit (n_q H (q_load rfl ((hS.blk 1 rfl).ldAll ag49 sz49)) rfl ?_)))); clear H a; intro a H
      replace hm := bindS hm; obtain ⟨r569, hr569, hm⟩ := hm
      refine n_call H rfl en20 (g_r14_Copy_w (A := A) (⟨_, _, _, _, rfl, (hrp0_0.ext RGPlan.mono hS.x), (hrp0_1.ext (Flat.mono _) hS.x), (hrp0_2.ext (Flat.mono _) hS.x), (hrp0_3.ext (Flat.mono _) hS.x)⟩ : RGConfig _ [.int .i64 a0.Ticks, vp0_0, vp0_1, vp0_2, vp0_3, .int .i64 a0.Tries] a0) hr569) rfl ?_
      clear H; intro x580 w578 hv; clear a; intro a H; obtain ⟨u570, u571, u572, u573, rfl, hE579⟩ := hv
      replace hS := hS.new hE579; simp only [List.cons_append, List.nil_append] at hS
      refine n_q H (q_move rfl) rfl ?_; clear H a; intro a H
      replace hm := bindS hm; obtain ⟨r581, hr581, hm⟩ := hm
      refine n_call H rfl en31 (g_frame_Boots_w (A := A) (hG.ext hS.x) (⟨_, _, _, _, rfl, (hS.deepSl 0 rfl), ((hS.own 1 rfl).slr rfl (fun _ _ => rfl)), ((hS.own 2 rfl).slr rfl (fun _ _ => rfl)), ((hS.own 3 rfl).slr rfl (fun _ _ => rfl))⟩ : RGConfig _ [.int .i64 r569.Ticks, u570, u571, u572, u573, .int .i64 r569.Tries] r569) hr581) rfl ?_
      clear H; intro x588 w586 hv; clear a; intro a H; obtain ⟨u582, u583, rfl, hE587⟩ := hv
      replace hS := hS.new hE587; simp only [List.cons_append, List.nil_append] at hS
      refine n_q H (q_move rfl) rfl (W_q (q_extract rfl rfl) rfl (W_q (q_extract rfl rfl) rfl (W_q (q_assign rfl) rfl (W_q (q_assign rfl) rfl ?_)))); clear H a; intro a H
      refine n_nil (then_normal (wp_seq ?_))
      replace hm := bindS hm; obtain ⟨j589, hm, hm589⟩ := hm
      refine c_join (σ := Bool) H (fun q1090 => [(1, .int .i64 a1), (2, .int .i64 a2), (3, .pointer (some ⟨b21, 0, none⟩)), (62, .bool q1090)]) (fun q1090 wl => (g_law14_asks_J9 a0 a1 a2) q1090 = some r ∧ St NB w wl [blkR b21 [.int .i64 a0.Ticks, vp0_0, vp0_1, vp0_2, vp0_3, .int .i64 a0.Tries] 49]) ?_ ?_
      · skip
        refine wp_region_lit (n_q H (q_move rfl) rfl (W_q (q_move rfl) rfl ?_)); clear H a; intro a H
        replace hm := bindS hm; obtain ⟨r1091, hr1091, hm⟩ := hm
        refine n_call H rfl en33 (g_law14_sameInts_w (A := A) ((hS.own 0 rfl).slr rfl (fun _ _ => rfl)) ((hS.own 6 rfl).slr rfl (fun _ _ => rfl)) hr1091) rfl ?_
        clear H; intro x1094 w1092 hv; clear a; intro a H; obtain ⟨rfl, hE1093⟩ := hv
        replace hS := hS.ext hE1093
        refine n_q H (q_not rfl) rfl (W_q (q_move rfl) rfl ?_); clear H a; intro a H
        rcases Bool.eq_false_or_eq_true (!r1091) with hg1095 | hg1095
        · replace H := H.know 57 rfl hg1095
          replace hm := condT hm hg1095
          refine n_no H rfl rfl (by decide) rfl (W_no rfl rfl (by decide) rfl (W_no rfl rfl (by decide) rfl (W_no rfl rfl (by decide) rfl (W_q (q_pickT rfl rfl) rfl ?_)))); clear H a; intro a H
          refine n_nil (then_normal ?_)
          obtain rfl := Option.some.inj hm; replace hm := hm589; try dsimp only at hm
          replace hS := hS.pk7
          replace hS := hS.tk1
          exact join true H ⟨rfl, rfl, rfl, rfl, trivial⟩ ⟨hm, hS⟩
        · replace H := H.know 57 rfl hg1095
          replace hm := condF hm hg1095
          refine n_yes H rfl rfl (n_q H (q_move rfl) rfl (W_yes rfl rfl (W_q (q_move rfl) rfl (W_yes rfl rfl ?_)))); clear H a; intro a H
          replace hm := bindS hm; obtain ⟨r1096, hr1096, hm⟩ := hm
          refine n_call H rfl en21 (g_law14_same_w (A := A) (hG.ext hS.x) (hH.ext hS.x) (hS.any 1 rfl : IsE A w1092 u583 r581.2) hr1096) rfl ?_
          clear H; intro x1099 w1097 hv; clear a; intro a H; obtain ⟨rfl, hE1098⟩ := hv
          replace hS := hS.ext hE1098
          refine n_yes H rfl rfl (n_q H (q_not rfl) rfl (W_q (q_pickF rfl rfl) rfl ?_)); clear H a; intro a H
          refine n_nil (then_normal ?_)
          obtain rfl := Option.some.inj hm; replace hm := hm589; try dsimp only at hm
          replace hS := hS.pk7
          replace hS := hS.tk1
          exact join (!r1096) H ⟨rfl, rfl, rfl, rfl, trivial⟩ ⟨hm, hS⟩
      · clear H hS hm a; intro q1090 a w1100 H hR
        simp only [ent, List.map_cons, List.map_nil] at H; (try dsimp only at hR); obtain ⟨hm, hS⟩ := hR; try dsimp only [g_law14_asks_J9] at hm
        refine c_cond H rfl (fun hc1101 => ?_) (fun hc1101 => ?_)
        · replace hm := condT hm hc1101
          refine wp_seq (wp_region_lit (n_q H (q_assign rfl) rfl ?_)); clear H a; intro a H
          refine n_nil (then_normal (wp_ret (then_ret ?_)))
          obtain rfl := Option.some.inj hm
          replace hS := hS.tk0
          refine ret1 H (.inr rfl) rfl rfl ?_
          exact ⟨rfl, hS.x⟩
        · replace hm := condF hm hc1101
          refine wp_skip (then_normal (wp_seq (wp_region_lit (n_q H (q_load rfl ((hS.blk 0 rfl).ldAll ag49 sz49)) rfl (W_q (q_move rfl) rfl ?_))))); clear H a; intro a H
          replace hm := bindS hm; obtain ⟨r1102, hr1102, hm⟩ := hm
          refine n_call H rfl en64 (g_r14_At_w (A := A) (⟨_, _, _, _, rfl, (hrp0_0.ext RGPlan.mono hS.x), (hrp0_1.ext (Flat.mono _) hS.x), (hrp0_2.ext (Flat.mono _) hS.x), (hrp0_3.ext (Flat.mono _) hS.x)⟩ : RGConfig _ [.int .i64 a0.Ticks, vp0_0, vp0_1, vp0_2, vp0_3, .int .i64 a0.Tries] a0) hr1102) rfl ?_
          clear H; intro x1105 w1103 hv; clear a; intro a H; obtain ⟨rfl, hE1104⟩ := hv
          replace hS := hS.ext hE1104
          refine n_q H (q_move rfl) rfl (W_q (q_extract rfl rfl) rfl (W_q (q_extract rfl rfl) rfl (W_q (q_assign rfl) rfl (W_q (q_assign rfl) rfl ?_)))); clear H a; intro a H
          refine n_nil (then_normal (wp_seq (wp_region_lit (n_q H (q_load rfl ((hS.blk 0 rfl).ldAll ag49 sz49)) rfl ?_)))); clear H a; intro a H
          replace hm := bindS hm; obtain ⟨r1106, hr1106, hm⟩ := hm
          refine n_call H rfl en20 (g_r14_Copy_w (A := A) (⟨_, _, _, _, rfl, (hrp0_0.ext RGPlan.mono hS.x), (hrp0_1.ext (Flat.mono _) hS.x), (hrp0_2.ext (Flat.mono _) hS.x), (hrp0_3.ext (Flat.mono _) hS.x)⟩ : RGConfig _ [.int .i64 a0.Ticks, vp0_0, vp0_1, vp0_2, vp0_3, .int .i64 a0.Tries] a0) hr1106) rfl ?_
          clear H; intro x1117 w1115 hv; clear a; intro a H; obtain ⟨u1107, u1108, u1109, u1110, rfl, hE1116⟩ := hv
          replace hS := hS.new hE1116; simp only [List.cons_append, List.nil_append] at hS
          refine n_q H (q_move rfl) rfl ?_; clear H a; intro a H
          replace hm := bindS hm; obtain ⟨r1118, hr1118, hm⟩ := hm
          refine n_call H rfl en65 (g_frame_At_w (A := A) (hG.ext hS.x) (⟨_, _, _, _, rfl, (hS.deepSl 0 rfl), ((hS.own 1 rfl).slr rfl (fun _ _ => rfl)), ((hS.own 2 rfl).slr rfl (fun _ _ => rfl)), ((hS.own 3 rfl).slr rfl (fun _ _ => rfl))⟩ : RGConfig _ [.int .i64 r1106.Ticks, u1107, u1108, u1109, u1110, .int .i64 r1106.Tries] r1106) hr1118) rfl ?_
          clear H; intro x1123 w1121 hv; clear a; intro a H; obtain ⟨u1119, rfl, hE1122⟩ := hv
          replace hS := hS.new hE1122; simp only [List.cons_append, List.nil_append] at hS
          refine n_q H (q_move rfl) rfl (W_q (q_extract rfl rfl) rfl (W_q (q_extract rfl rfl) rfl (W_q (q_assign rfl) rfl (W_q (q_assign rfl) rfl ?_)))); clear H a; intro a H
          refine n_nil (then_normal (wp_seq ?_))
          replace hm := bindS hm; obtain ⟨j1124, hm, hm1124⟩ := hm
          refine c_join (σ := Bool) H (fun q1625 => [(1, .int .i64 a1), (2, .int .i64 a2), (3, .pointer (some ⟨b21, 0, none⟩)), (84, .bool q1625)]) (fun q1625 wl => (g_law14_asks_J8 a0 a1 a2) q1625 = some r ∧ St NB w wl [blkR b21 [.int .i64 a0.Ticks, vp0_0, vp0_1, vp0_2, vp0_3, .int .i64 a0.Tries] 49]) ?_ ?_
          · skip
            refine wp_region_lit (n_q H (q_move rfl) rfl (W_q (q_move rfl) rfl (W_q (q_neqD rfl rfl) rfl (W_q (q_move rfl) rfl ?_)))); clear H a; intro a H
            rcases Bool.eq_false_or_eq_true (!decide (r1118.1 = r1102.1)) with hg1626 | hg1626
            · replace H := H.know 79 rfl hg1626
              replace hm := condT hm hg1626
              refine n_no H rfl rfl (by decide) rfl (W_no rfl rfl (by decide) rfl (W_no rfl rfl (by decide) rfl (W_no rfl rfl (by decide) rfl (W_q (q_pickT rfl rfl) rfl ?_)))); clear H a; intro a H
              refine n_nil (then_normal ?_)
              obtain rfl := Option.some.inj hm; replace hm := hm1124; try dsimp only at hm
              replace hS := hS.pk5
              replace hS := hS.tk1
              exact join true H ⟨rfl, rfl, rfl, rfl, trivial⟩ ⟨hm, hS⟩
            · replace H := H.know 79 rfl hg1626
              replace hm := condF hm hg1626
              refine n_yes H rfl rfl (n_q H (q_move rfl) rfl (W_yes rfl rfl (W_q (q_move rfl) rfl (W_yes rfl rfl ?_)))); clear H a; intro a H
              replace hm := bindS hm; obtain ⟨r1627, hr1627, hm⟩ := hm
              refine n_call H rfl en21 (g_law14_same_w (A := A) (hG.ext hS.x) (hH.ext hS.x) (hS.any 0 rfl : IsE A w1121 u1119 r1118.2) hr1627) rfl ?_
              clear H; intro x1630 w1628 hv; clear a; intro a H; obtain ⟨rfl, hE1629⟩ := hv
              replace hS := hS.ext hE1629
              refine n_yes H rfl rfl (n_q H (q_not rfl) rfl (W_q (q_pickF rfl rfl) rfl ?_)); clear H a; intro a H
              refine n_nil (then_normal ?_)
              obtain rfl := Option.some.inj hm; replace hm := hm1124; try dsimp only at hm
              replace hS := hS.pk5
              replace hS := hS.tk1
              exact join (!r1627) H ⟨rfl, rfl, rfl, rfl, trivial⟩ ⟨hm, hS⟩
          · clear H hS hm a; intro q1625 a w1631 H hR
            simp only [ent, List.map_cons, List.map_nil] at H; (try dsimp only at hR); obtain ⟨hm, hS⟩ := hR; try dsimp only [g_law14_asks_J8] at hm
            refine c_cond H rfl (fun hc1632 => ?_) (fun hc1632 => ?_)
            · replace hm := condT hm hc1632
              refine wp_seq (wp_region_lit (n_q H (q_assign rfl) rfl ?_)); clear H a; intro a H
              refine n_nil (then_normal (wp_ret (then_ret ?_)))
              obtain rfl := Option.some.inj hm
              replace hS := hS.tk0
              refine ret1 H (.inr rfl) rfl rfl ?_
              exact ⟨rfl, hS.x⟩
            · replace hm := condF hm hc1632
              refine wp_skip (then_normal (wp_seq (wp_region_lit (n_q H (q_load rfl ((hS.blk 0 rfl).ldAll ag49 sz49)) rfl (W_q (q_move rfl) rfl (W_q (q_move rfl) rfl ?_)))))); clear H a; intro a H
              replace hm := bindS hm; obtain ⟨r1633, hr1633, hm⟩ := hm
              refine n_call H rfl en66 (g_r14_Next_w (A := A) (⟨_, _, _, _, rfl, (hrp0_0.ext RGPlan.mono hS.x), (hrp0_1.ext (Flat.mono _) hS.x), (hrp0_2.ext (Flat.mono _) hS.x), (hrp0_3.ext (Flat.mono _) hS.x)⟩ : RGConfig _ [.int .i64 a0.Ticks, vp0_0, vp0_1, vp0_2, vp0_3, .int .i64 a0.Tries] a0) hr1633) rfl ?_
              clear H; intro x1636 w1634 hv; clear a; intro a H; obtain ⟨rfl, hE1635⟩ := hv
              replace hS := hS.ext hE1635
              refine n_q H (q_move rfl) rfl (W_q (q_extract rfl rfl) rfl (W_q (q_extract rfl rfl) rfl (W_q (q_assign rfl) rfl (W_q (q_assign rfl) rfl ?_)))); clear H a; intro a H
              refine n_nil (then_normal (wp_seq (wp_region_lit (n_q H (q_load rfl ((hS.blk 0 rfl).ldAll ag49 sz49)) rfl ?_)))); clear H a; intro a H
              replace hm := bindS hm; obtain ⟨r1637, hr1637, hm⟩ := hm
              refine n_call H rfl en20 (g_r14_Copy_w (A := A) (⟨_, _, _, _, rfl, (hrp0_0.ext RGPlan.mono hS.x), (hrp0_1.ext (Flat.mono _) hS.x), (hrp0_2.ext (Flat.mono _) hS.x), (hrp0_3.ext (Flat.mono _) hS.x)⟩ : RGConfig _ [.int .i64 a0.Ticks, vp0_0, vp0_1, vp0_2, vp0_3, .int .i64 a0.Tries] a0) hr1637) rfl ?_
              clear H; intro x1648 w1646 hv; clear a; intro a H; obtain ⟨u1638, u1639, u1640, u1641, rfl, hE1647⟩ := hv
              replace hS := hS.new hE1647; simp only [List.cons_append, List.nil_append] at hS
              refine n_q H (q_move rfl) rfl (W_q (q_move rfl) rfl ?_); clear H a; intro a H
              replace hm := bindS hm; obtain ⟨r1649, hr1649, hm⟩ := hm
              refine n_call H rfl en59 (g_frame_Next_w (A := A) (hG.ext hS.x) (⟨_, _, _, _, rfl, (hS.deepSl 0 rfl), ((hS.own 1 rfl).slr rfl (fun _ _ => rfl)), ((hS.own 2 rfl).slr rfl (fun _ _ => rfl)), ((hS.own 3 rfl).slr rfl (fun _ _ => rfl))⟩ : RGConfig _ [.int .i64 r1637.Ticks, u1638, u1639, u1640, u1641, .int .i64 r1637.Tries] r1637) hr1649) rfl ?_
              clear H; intro x1654 w1652 hv; clear a; intro a H; obtain ⟨u1650, rfl, hE1653⟩ := hv
              replace hS := hS.new hE1653; simp only [List.cons_append, List.nil_append] at hS
              refine n_q H (q_move rfl) rfl (W_q (q_extract rfl rfl) rfl (W_q (q_extract rfl rfl) rfl (W_q (q_assign rfl) rfl (W_q (q_assign rfl) rfl ?_)))); clear H a; intro a H
              refine n_nil (then_normal (wp_seq ?_))
              replace hm := bindS hm; obtain ⟨j1655, hm, hm1655⟩ := hm
              refine c_join (σ := Bool) H (fun q2156 => [(1, .int .i64 a1), (3, .pointer (some ⟨b21, 0, none⟩)), (108, .bool q2156)]) (fun q2156 wl => (g_law14_asks_J7 a0 a1) q2156 = some r ∧ St NB w wl [blkR b21 [.int .i64 a0.Ticks, vp0_0, vp0_1, vp0_2, vp0_3, .int .i64 a0.Tries] 49]) ?_ ?_
              · skip
                refine wp_region_lit (n_q H (q_move rfl) rfl (W_q (q_move rfl) rfl (W_q (q_neqD rfl rfl) rfl (W_q (q_move rfl) rfl ?_)))); clear H a; intro a H
                rcases Bool.eq_false_or_eq_true (!decide (r1649.1 = r1633.1)) with hg2157 | hg2157
                · replace H := H.know 103 rfl hg2157
                  replace hm := condT hm hg2157
                  refine n_no H rfl rfl (by decide) rfl (W_no rfl rfl (by decide) rfl (W_no rfl rfl (by decide) rfl (W_no rfl rfl (by decide) rfl (W_q (q_pickT rfl rfl) rfl ?_)))); clear H a; intro a H
                  refine n_nil (then_normal ?_)
                  obtain rfl := Option.some.inj hm; replace hm := hm1655; try dsimp only at hm
                  replace hS := hS.pk5
                  replace hS := hS.tk1
                  exact join true H ⟨rfl, rfl, rfl, trivial⟩ ⟨hm, hS⟩
                · replace H := H.know 103 rfl hg2157
                  replace hm := condF hm hg2157
                  refine n_yes H rfl rfl (n_q H (q_move rfl) rfl (W_yes rfl rfl (W_q (q_move rfl) rfl (W_yes rfl rfl ?_)))); clear H a; intro a H
                  replace hm := bindS hm; obtain ⟨r2158, hr2158, hm⟩ := hm
                  refine n_call H rfl en21 (g_law14_same_w (A := A) (hG.ext hS.x) (hH.ext hS.x) (hS.any 0 rfl : IsE A w1652 u1650 r1649.2) hr2158) rfl ?_
                  clear H; intro x2161 w2159 hv; clear a; intro a H; obtain ⟨rfl, hE2160⟩ := hv
                  replace hS := hS.ext hE2160
                  refine n_yes H rfl rfl (n_q H (q_not rfl) rfl (W_q (q_pickF rfl rfl) rfl ?_)); clear H a; intro a H
                  refine n_nil (then_normal ?_)
                  obtain rfl := Option.some.inj hm; replace hm := hm1655; try dsimp only at hm
                  replace hS := hS.pk5
                  replace hS := hS.tk1
                  exact join (!r2158) H ⟨rfl, rfl, rfl, trivial⟩ ⟨hm, hS⟩
              · clear H hS hm a; intro q2156 a w2162 H hR
                simp only [ent, List.map_cons, List.map_nil] at H; (try dsimp only at hR); obtain ⟨hm, hS⟩ := hR; try dsimp only [g_law14_asks_J7] at hm
                refine c_cond H rfl (fun hc2163 => ?_) (fun hc2163 => ?_)
                · replace hm := condT hm hc2163
                  refine wp_seq (wp_region_lit (n_q H (q_assign rfl) rfl ?_)); clear H a; intro a H
                  refine n_nil (then_normal (wp_ret (then_ret ?_)))
                  obtain rfl := Option.some.inj hm
                  replace hS := hS.tk0
                  refine ret1 H (.inr rfl) rfl rfl ?_
                  exact ⟨rfl, hS.x⟩
                · replace hm := condF hm hc2163
                  refine wp_skip (then_normal (wp_seq (wp_region_lit (n_q H (q_load rfl ((hS.blk 0 rfl).ldAll ag49 sz49)) rfl (W_q (q_move rfl) rfl ?_))))); clear H a; intro a H
                  replace hm := bindS hm; obtain ⟨r2164, hr2164, hm⟩ := hm
                  refine n_call H rfl en67 (g_r14_Load_w (A := A) (⟨_, _, _, _, rfl, (hrp0_0.ext RGPlan.mono hS.x), (hrp0_1.ext (Flat.mono _) hS.x), (hrp0_2.ext (Flat.mono _) hS.x), (hrp0_3.ext (Flat.mono _) hS.x)⟩ : RGConfig _ [.int .i64 a0.Ticks, vp0_0, vp0_1, vp0_2, vp0_3, .int .i64 a0.Tries] a0) hr2164) rfl ?_
                  clear H; intro x2167 w2165 hv; clear a; intro a H; obtain ⟨rfl, hE2166⟩ := hv
                  replace hS := hS.ext hE2166
                  refine n_q H (q_move rfl) rfl (W_q (q_extract rfl rfl) rfl (W_q (q_extract rfl rfl) rfl (W_q (q_assign rfl) rfl (W_q (q_assign rfl) rfl ?_)))); clear H a; intro a H
                  refine n_nil (then_normal (wp_seq (wp_region_lit (n_q H (q_load rfl ((hS.blk 0 rfl).ldAll ag49 sz49)) rfl ?_)))); clear H a; intro a H
                  replace hm := bindS hm; obtain ⟨r2168, hr2168, hm⟩ := hm
                  refine n_call H rfl en20 (g_r14_Copy_w (A := A) (⟨_, _, _, _, rfl, (hrp0_0.ext RGPlan.mono hS.x), (hrp0_1.ext (Flat.mono _) hS.x), (hrp0_2.ext (Flat.mono _) hS.x), (hrp0_3.ext (Flat.mono _) hS.x)⟩ : RGConfig _ [.int .i64 a0.Ticks, vp0_0, vp0_1, vp0_2, vp0_3, .int .i64 a0.Tries] a0) hr2168) rfl ?_
                  clear H; intro x2179 w2177 hv; clear a; intro a H; obtain ⟨u2169, u2170, u2171, u2172, rfl, hE2178⟩ := hv
                  replace hS := hS.new hE2178; simp only [List.cons_append, List.nil_append] at hS
                  refine n_q H (q_move rfl) rfl ?_; clear H a; intro a H
                  replace hm := bindS hm; obtain ⟨r2180, hr2180, hm⟩ := hm
                  refine n_call H rfl en58 (g_frame_Load_w (A := A) (hG.ext hS.x) (⟨_, _, _, _, rfl, (hS.deepSl 0 rfl), ((hS.own 1 rfl).slr rfl (fun _ _ => rfl)), ((hS.own 2 rfl).slr rfl (fun _ _ => rfl)), ((hS.own 3 rfl).slr rfl (fun _ _ => rfl))⟩ : RGConfig _ [.int .i64 r2168.Ticks, u2169, u2170, u2171, u2172, .int .i64 r2168.Tries] r2168) hr2180) rfl ?_
                  clear H; intro x2185 w2183 hv; clear a; intro a H; obtain ⟨u2181, rfl, hE2184⟩ := hv
                  replace hS := hS.new hE2184; simp only [List.cons_append, List.nil_append] at hS
                  refine n_q H (q_move rfl) rfl (W_q (q_extract rfl rfl) rfl (W_q (q_extract rfl rfl) rfl (W_q (q_assign rfl) rfl (W_q (q_assign rfl) rfl ?_)))); clear H a; intro a H
                  refine n_nil (then_normal (wp_seq ?_))
                  replace hm := bindS hm; obtain ⟨j2186, hm, hm2186⟩ := hm
                  refine c_join (σ := Bool) H (fun q2687 => [(1, .int .i64 a1), (3, .pointer (some ⟨b21, 0, none⟩)), (130, .bool q2687)]) (fun q2687 wl => (g_law14_asks_J6 a0 a1) q2687 = some r ∧ St NB w wl [blkR b21 [.int .i64 a0.Ticks, vp0_0, vp0_1, vp0_2, vp0_3, .int .i64 a0.Tries] 49]) ?_ ?_
                  · skip
                    refine wp_region_lit (n_q H (q_move rfl) rfl (W_q (q_move rfl) rfl (W_q (q_neqD rfl rfl) rfl (W_q (q_move rfl) rfl ?_)))); clear H a; intro a H
                    rcases Bool.eq_false_or_eq_true (!decide (r2180.1 = r2164.1)) with hg2688 | hg2688
                    · replace H := H.know 125 rfl hg2688
                      replace hm := condT hm hg2688
                      refine n_no H rfl rfl (by decide) rfl (W_no rfl rfl (by decide) rfl (W_no rfl rfl (by decide) rfl (W_no rfl rfl (by decide) rfl (W_q (q_pickT rfl rfl) rfl ?_)))); clear H a; intro a H
                      refine n_nil (then_normal ?_)
                      obtain rfl := Option.some.inj hm; replace hm := hm2186; try dsimp only at hm
                      replace hS := hS.pk5
                      replace hS := hS.tk1
                      exact join true H ⟨rfl, rfl, rfl, trivial⟩ ⟨hm, hS⟩
                    · replace H := H.know 125 rfl hg2688
                      replace hm := condF hm hg2688
                      refine n_yes H rfl rfl (n_q H (q_move rfl) rfl (W_yes rfl rfl (W_q (q_move rfl) rfl (W_yes rfl rfl ?_)))); clear H a; intro a H
                      replace hm := bindS hm; obtain ⟨r2689, hr2689, hm⟩ := hm
                      refine n_call H rfl en21 (g_law14_same_w (A := A) (hG.ext hS.x) (hH.ext hS.x) (hS.any 0 rfl : IsE A w2183 u2181 r2180.2) hr2689) rfl ?_
                      clear H; intro x2692 w2690 hv; clear a; intro a H; obtain ⟨rfl, hE2691⟩ := hv
                      replace hS := hS.ext hE2691
                      refine n_yes H rfl rfl (n_q H (q_not rfl) rfl (W_q (q_pickF rfl rfl) rfl ?_)); clear H a; intro a H
                      refine n_nil (then_normal ?_)
                      obtain rfl := Option.some.inj hm; replace hm := hm2186; try dsimp only at hm
                      replace hS := hS.pk5
                      replace hS := hS.tk1
                      exact join (!r2689) H ⟨rfl, rfl, rfl, trivial⟩ ⟨hm, hS⟩
                  · clear H hS hm a; intro q2687 a w2693 H hR
                    simp only [ent, List.map_cons, List.map_nil] at H; (try dsimp only at hR); obtain ⟨hm, hS⟩ := hR; try dsimp only [g_law14_asks_J6] at hm
                    refine c_cond H rfl (fun hc2694 => ?_) (fun hc2694 => ?_)
                    · replace hm := condT hm hc2694
                      refine wp_seq (wp_region_lit (n_q H (q_assign rfl) rfl ?_)); clear H a; intro a H
                      refine n_nil (then_normal (wp_ret (then_ret ?_)))
                      obtain rfl := Option.some.inj hm
                      replace hS := hS.tk0
                      refine ret1 H (.inr rfl) rfl rfl ?_
                      exact ⟨rfl, hS.x⟩
                    · replace hm := condF hm hc2694
                      refine wp_skip (then_normal (wp_seq (wp_region_lit (n_q H (q_load rfl ((hS.blk 0 rfl).ldAll ag49 sz49)) rfl (W_q (q_move rfl) rfl ?_))))); clear H a; intro a H
                      replace hm := bindS hm; obtain ⟨r2695, hr2695, hm⟩ := hm
                      refine n_call H rfl en68 (g_r14_Joined_w (A := A) (⟨_, _, _, _, rfl, (hrp0_0.ext RGPlan.mono hS.x), (hrp0_1.ext (Flat.mono _) hS.x), (hrp0_2.ext (Flat.mono _) hS.x), (hrp0_3.ext (Flat.mono _) hS.x)⟩ : RGConfig _ [.int .i64 a0.Ticks, vp0_0, vp0_1, vp0_2, vp0_3, .int .i64 a0.Tries] a0) hr2695) rfl ?_
                      clear H; intro x2698 w2696 hv; clear a; intro a H; obtain ⟨rfl, hE2697⟩ := hv
                      replace hS := hS.ext hE2697
                      refine n_q H (q_move rfl) rfl (W_q (q_extract rfl rfl) rfl (W_q (q_extract rfl rfl) rfl (W_q (q_assign rfl) rfl (W_q (q_assign rfl) rfl ?_)))); clear H a; intro a H
                      refine n_nil (then_normal (wp_seq (wp_region_lit (n_q H (q_load rfl ((hS.blk 0 rfl).ldAll ag49 sz49)) rfl ?_)))); clear H a; intro a H
                      replace hm := bindS hm; obtain ⟨r2699, hr2699, hm⟩ := hm
                      refine n_call H rfl en20 (g_r14_Copy_w (A := A) (⟨_, _, _, _, rfl, (hrp0_0.ext RGPlan.mono hS.x), (hrp0_1.ext (Flat.mono _) hS.x), (hrp0_2.ext (Flat.mono _) hS.x), (hrp0_3.ext (Flat.mono _) hS.x)⟩ : RGConfig _ [.int .i64 a0.Ticks, vp0_0, vp0_1, vp0_2, vp0_3, .int .i64 a0.Tries] a0) hr2699) rfl ?_
                      clear H; intro x2710 w2708 hv; clear a; intro a H; obtain ⟨u2700, u2701, u2702, u2703, rfl, hE2709⟩ := hv
                      replace hS := hS.new hE2709; simp only [List.cons_append, List.nil_append] at hS
                      refine n_q H (q_move rfl) rfl ?_; clear H a; intro a H
                      replace hm := bindS hm; obtain ⟨r2711, hr2711, hm⟩ := hm
                      refine n_call H rfl en69 (g_frame_Joined_w (A := A) (hG.ext hS.x) (⟨_, _, _, _, rfl, (hS.deepSl 0 rfl), ((hS.own 1 rfl).slr rfl (fun _ _ => rfl)), ((hS.own 2 rfl).slr rfl (fun _ _ => rfl)), ((hS.own 3 rfl).slr rfl (fun _ _ => rfl))⟩ : RGConfig _ [.int .i64 r2699.Ticks, u2700, u2701, u2702, u2703, .int .i64 r2699.Tries] r2699) hr2711) rfl ?_
                      clear H; intro x2716 w2714 hv; clear a; intro a H; obtain ⟨u2712, rfl, hE2715⟩ := hv
                      replace hS := hS.new hE2715; simp only [List.cons_append, List.nil_append] at hS
                      refine n_q H (q_move rfl) rfl (W_q (q_extract rfl rfl) rfl (W_q (q_extract rfl rfl) rfl (W_q (q_assign rfl) rfl (W_q (q_assign rfl) rfl ?_)))); clear H a; intro a H
                      refine n_nil (then_normal (wp_seq (wp_region_lit (n_q H (q_move rfl) rfl (W_q (q_move rfl) rfl (W_q (q_eqlB Tryz.underlying4 rfl rfl) rfl (W_q (q_move rfl) rfl ?_))))))); clear H a; intro a H
                      rcases Bool.eq_false_or_eq_true (r2711.1 == r2695.1) with hg2717 | hg2717
                      · replace H := H.know 147 rfl hg2717
                        replace hm := condT hm hg2717
                        refine n_yes H rfl rfl (n_q H (q_move rfl) rfl (W_yes rfl rfl (W_q (q_move rfl) rfl (W_yes rfl rfl ?_)))); clear H a; intro a H
                        replace hm := bindS hm; obtain ⟨r2718, hr2718, hm⟩ := hm
                        refine n_call H rfl en21 (g_law14_same_w (A := A) (hG.ext hS.x) (hH.ext hS.x) (hS.any 0 rfl : IsE A w2714 u2712 r2711.2) hr2718) rfl ?_
                        clear H; intro x2721 w2719 hv; clear a; intro a H; obtain ⟨rfl, hE2720⟩ := hv
                        replace hS := hS.ext hE2720
                        refine n_q H (q_pickT rfl rfl) rfl (W_q (q_assign rfl) rfl ?_); clear H a; intro a H
                        refine n_nil (then_normal (wp_ret ?_))
                        obtain rfl := Option.some.inj hm
                        replace hS := hS.tk0
                        refine ret1 H (.inr rfl) rfl rfl ?_
                        exact ⟨rfl, hS.x⟩
                      · replace H := H.know 147 rfl hg2717
                        replace hm := condF hm hg2717
                        refine n_no H rfl rfl (by decide) rfl (W_no rfl rfl (by decide) rfl (W_no rfl rfl (by decide) rfl (W_q (q_pickF rfl rfl) rfl (W_q (q_assign rfl) rfl ?_)))); clear H a; intro a H
                        refine n_nil (then_normal (wp_ret ?_))
                        obtain rfl := Option.some.inj hm
                        replace hS := hS.tk0
                        refine ret1 H (.inr rfl) rfl rfl ?_
                        exact ⟨rfl, hS.x⟩
theorem g_law14_FrameAsks_w {w : World} {A : Nat → Addr} {cs0 : List Value} {a0 : GL14Case} (hG : EV A w) (hH : HE w) (h0 : RGL14Case w cs0 a0) {r : Bool} (hm : g_law14_FrameAsks a0 = some r) :
    Calls Tryz.prog 4 [.agg cs0.toArray].toArray w (Ret fun u w' => u = .bool r ∧ Ext w w') := by
  obtain ⟨vp0_0, vp0_1, vp0_2, vp0_3, vp0_4, vp0_5, vp0_6, vp0_7, vp0_8, vp0_9, vp0_10, rfl, hrp0_0, hrp0_1, hrp0_2, hrp0_3, hrp0_4, hrp0_5, hrp0_6, hrp0_7, hrp0_8, hrp0_9, hrp0_10⟩ := h0
  have hS := St.begin NB w
  unfold g_law14_FrameAsks at hm
  refine enter Tryz.func4 rfl rfl rfl ?_; intro a H; dsimp only [enumL, Nat.zero_add, Nat.reduceAdd] at H
  refine wp_seq (wp_region_lit (n_box H rfl (cs := [.int .i64 a0.C.Ticks, vp0_0, vp0_1, vp0_2, vp0_3, .int .i64 a0.C.Tries, .int .i64 a0.D.Ticks, vp0_4, vp0_5, vp0_6, vp0_7, .int .i64 a0.D.Tries, vp0_8, vp0_9, vp0_10]) rfl rfl ?_))
  clear H; intro b21 w22 hN hE23 hs; clear a; intro a H
  replace hS := hS.newBlk hN hE23 hs; clear hN hs
  refine n_q H (q_assign rfl) rfl ?_; clear H a; intro a H
  refine n_nil (then_normal (wp_seq (wp_seq (wp_region_lit ?_))))
  replace hm := bindS hm; obtain ⟨r24, hr24, hm⟩ := hm
  refine n_call H rfl en17 (g_law14_fixed_w (A := A) (hG.ext hS.x) (hH.ext hS.x) hr24) rfl ?_
  clear H; intro x27 w25 hv; clear a; intro a H; obtain ⟨rfl, hE26⟩ := hv
  replace hS := hS.ext hE26
  refine n_q H (q_not rfl) rfl ?_; clear H a; intro a H
  refine n_nil (then_normal (c_cond H rfl (fun hc28 => ?_) (fun hc28 => ?_)))
  · replace hm := condT hm hc28
    refine wp_seq (wp_region_lit (n_q H (q_assign rfl) rfl ?_)); clear H a; intro a H
    refine n_nil (then_normal (wp_ret (then_ret ?_)))
    obtain rfl := Option.some.inj hm
    replace hS := hS.tk0
    refine ret1 H (.inr rfl) rfl rfl ?_
    exact ⟨rfl, hS.x⟩
  · replace hm := condF hm hc28
    refine wp_skip (then_normal (wp_seq (wp_region_lit (n_q H (q_fieldAddr0 rfl fo52_0) rfl (W_q (q_load rfl ((hS.blk 0 rfl).ldPart 0 6 ag49 sz49 (by simp))) rfl ?_))))); clear H a; intro a H
    replace hm := bindS hm; obtain ⟨r29, hr29, hm⟩ := hm
    refine n_call H rfl en18 (g_r14_Idle_w (A := A) (⟨_, _, _, _, rfl, (hrp0_0.ext RGPlan.mono hS.x), (hrp0_1.ext (Flat.mono _) hS.x), (hrp0_2.ext (Flat.mono _) hS.x), (hrp0_3.ext (Flat.mono _) hS.x)⟩ : RGConfig _ [.int .i64 a0.C.Ticks, vp0_0, vp0_1, vp0_2, vp0_3, .int .i64 a0.C.Tries] a0.C) hr29) rfl ?_
    clear H; intro x32 w30 hv; clear a; intro a H; obtain ⟨rfl, hE31⟩ := hv
    replace hS := hS.ext hE31
    refine n_q H (q_move rfl) rfl (W_q (q_extract rfl rfl) rfl (W_q (q_extract rfl rfl) rfl (W_q (q_assign rfl) rfl (W_q (q_assign rfl) rfl ?_)))); clear H a; intro a H
    refine n_nil (then_normal (wp_seq (wp_region_lit (n_q H (q_fieldAddr0 rfl fo52_0) rfl (W_q (q_load rfl ((hS.blk 0 rfl).ldPart 0 6 ag49 sz49 (by simp))) rfl ?_))))); clear H a; intro a H
    replace hm := bindS hm; obtain ⟨r33, hr33, hm⟩ := hm
    refine n_call H rfl en20 (g_r14_Copy_w (A := A) (⟨_, _, _, _, rfl, (hrp0_0.ext RGPlan.mono hS.x), (hrp0_1.ext (Flat.mono _) hS.x), (hrp0_2.ext (Flat.mono _) hS.x), (hrp0_3.ext (Flat.mono _) hS.x)⟩ : RGConfig _ [.int .i64 a0.C.Ticks, vp0_0, vp0_1, vp0_2, vp0_3, .int .i64 a0.C.Tries] a0.C) hr33) rfl ?_
    clear H; intro x44 w42 hv; clear a; intro a H; obtain ⟨u34, u35, u36, u37, rfl, hE43⟩ := hv
    replace hS := hS.new hE43; simp only [List.cons_append, List.nil_append] at hS
    replace hm := bindS hm; obtain ⟨r45, hr45, hm⟩ := hm
    refine n_call H rfl en19 (g_frame_Idle_w (A := A) (hG.ext hS.x) (⟨_, _, _, _, rfl, (hS.deepSl 0 rfl), ((hS.own 1 rfl).slr rfl (fun _ _ => rfl)), ((hS.own 2 rfl).slr rfl (fun _ _ => rfl)), ((hS.own 3 rfl).slr rfl (fun _ _ => rfl))⟩ : RGConfig _ [.int .i64 r33.Ticks, u34, u35, u36, u37, .int .i64 r33.Tries] r33) hr45) rfl ?_
    clear H; intro x50 w48 hv; clear a; intro a H; obtain ⟨u46, rfl, hE49⟩ := hv
    replace hS := hS.new hE49; simp only [List.cons_append, List.nil_append] at hS
    refine n_q H (q_move rfl) rfl (W_q (q_extract rfl rfl) rfl (W_q (q_extract rfl rfl) rfl (W_q (q_assign rfl) rfl (W_q (q_assign rfl) rfl ?_)))); clear H a; intro a H
    refine n_nil (then_normal (wp_seq ?_))
    replace hm := bindS hm; obtain ⟨j51, hm, hm51⟩ := hm
    refine c_join (σ := Bool) H (fun q552 => [(1, .pointer (some ⟨b21, 0, none⟩)), (31, .bool q552)]) (fun q552 wl => (g_law14_FrameAsks_J3 a0) q552 = some r ∧ St NB w wl [blkR b21 [.int .i64 a0.C.Ticks, vp0_0, vp0_1, vp0_2, vp0_3, .int .i64 a0.C.Tries, .int .i64 a0.D.Ticks, vp0_4, vp0_5, vp0_6, vp0_7, .int .i64 a0.D.Tries, vp0_8, vp0_9, vp0_10] 52]) ?_ ?_
    · skip
      refine wp_region_lit (n_q H (q_move rfl) rfl (W_q (q_move rfl) rfl (W_q (q_neqD rfl rfl) rfl (W_q (q_move rfl) rfl ?_)))); clear H a; intro a H
      rcases Bool.eq_false_or_eq_true (!decide (r29.1 = r45.1)) with hg553 | hg553
      · replace H := H.know 26 rfl hg553
        replace hm := condT hm hg553
        refine n_no H rfl rfl (by decide) rfl (W_no rfl rfl (by decide) rfl (W_no rfl rfl (by decide) rfl (W_no rfl rfl (by decide) rfl (W_q (q_pickT rfl rfl) rfl ?_)))); clear H a; intro a H
        refine n_nil (then_normal ?_)
        obtain rfl := Option.some.inj hm; replace hm := hm51; try dsimp only at hm
        replace hS := hS.pk5
        replace hS := hS.tk1
        exact join true H ⟨rfl, rfl, trivial⟩ ⟨hm, hS⟩
      · replace H := H.know 26 rfl hg553
        replace hm := condF hm hg553
        refine n_yes H rfl rfl (n_q H (q_move rfl) rfl (W_yes rfl rfl (W_q (q_move rfl) rfl (W_yes rfl rfl ?_)))); clear H a; intro a H
        replace hm := bindS hm; obtain ⟨r554, hr554, hm⟩ := hm
        refine n_call H rfl en21 (g_law14_same_w (A := A) (hG.ext hS.x) (hH.ext hS.x) (hS.any 0 rfl : IsE A w48 u46 r45.2) hr554) rfl ?_
        clear H; intro x557 w555 hv; clear a; intro a H; obtain ⟨rfl, hE556⟩ := hv
        replace hS := hS.ext hE556
        refine n_yes H rfl rfl (n_q H (q_not rfl) rfl (W_q (q_pickF rfl rfl) rfl ?_)); clear H a; intro a H
        refine n_nil (then_normal ?_)
        obtain rfl := Option.some.inj hm; replace hm := hm51; try dsimp only at hm
        replace hS := hS.pk5
        replace hS := hS.tk1
        exact join (!r554) H ⟨rfl, rfl, trivial⟩ ⟨hm, hS⟩
    · clear H hS hm a; intro q552 a w558 H hR
      simp only [ent, List.map_cons, List.map_nil] at H; (try dsimp only at hR); obtain ⟨hm, hS⟩ := hR; try dsimp only [g_law14_FrameAsks_J3] at hm
      refine c_cond H rfl (fun hc559 => ?_) (fun hc559 => ?_)
      · replace hm := condT hm hc559
        refine wp_seq (wp_region_lit (n_q H (q_assign rfl) rfl ?_)); clear H a; intro a H
        refine n_nil (then_normal (wp_ret (then_ret ?_)))
        obtain rfl := Option.some.inj hm
        replace hS := hS.tk0
        refine ret1 H (.inr rfl) rfl rfl ?_
        exact ⟨rfl, hS.x⟩
      · replace hm := condF hm hc559
        refine wp_skip (then_normal (wp_seq (wp_seq (wp_region_lit (n_q H (q_assign rfl) rfl ?_))))); clear H a; intro a H
        refine n_nil (then_normal (wp_block ?_))
        replace hm := bindS hm; obtain ⟨q560, hm, hm560⟩ := hm; replace hm := iter_some hm; obtain ⟨n560, hm⟩ := hm
        refine c_loop (σ := Nat × Int) (fun (m, z562) => [(1, .pointer (some ⟨b21, 0, none⟩)), (7, .int .i64 z562)]) (fun (m, z562) wl => iterN (g_law14_FrameAsks_L2 a0) m z562 = some q560 ∧ St NB w wl [blkR b21 [.int .i64 a0.C.Ticks, vp0_0, vp0_1, vp0_2, vp0_3, .int .i64 a0.C.Tries, .int .i64 a0.D.Ticks, vp0_4, vp0_5, vp0_6, vp0_7, .int .i64 a0.D.Tries, vp0_8, vp0_9, vp0_10] 52]) (fun (m, z562) => m) (n560, 0) H ⟨rfl, rfl, trivial⟩ ⟨hm, hS⟩ ?_
        clear H hS hm a; intro xx a w563 H hR; obtain ⟨m, z562⟩ := xx; simp only [ent, List.map_cons, List.map_nil] at H; (try dsimp only at hR); obtain ⟨hm, hS⟩ := hR
        replace hm := iterN_step hm; obtain ⟨m560, o560, rfl, hm, hn560⟩ := hm; try dsimp only [g_law14_FrameAsks_L2] at hm
        refine wp_seq (wp_seq (wp_region_lit (n_q H (q_move rfl) rfl (W_q (q_addW rfl rfl) rfl (W_q (q_fieldAddr0 rfl fo52_2) rfl (W_q (q_load rfl ((hS.blk 0 rfl).ld ag25 rfl)) rfl ?_)))))); clear H a; intro a H
        obtain ⟨A564, c564, hv564, hl564, hm564⟩ := SlR.formV (hrp0_8.ext (Flat.mono _) hS.x)
        refine n_q H (q_lenV Tryz.underlying25 rfl hv564) rfl (W_q (q_lss rfl rfl) rfl ?_); clear H a; intro a H
        refine n_nil (then_normal (c_cond H rfl (fun hc565 => ?_) (fun hc565 => ?_)))
        · replace hm := condT hm hc565
          refine wp_skip (then_normal (wp_seq (wp_block (wp_seq (c_quiet (by kernel_rfl) (by kernel_rfl) ?_)))))
          refine qq_q H (q_fieldAddr0 rfl fo52_0) rfl ?_; clear H a; intro a H
          refine qq_q H (q_load rfl ((hS.blk 0 rfl).ldPart 0 6 ag49 sz49 (by simp))) rfl ?_; clear H a; intro a H
          refine qq_q H (q_fieldAddr0 rfl fo52_2) rfl ?_; clear H a; intro a H
          refine qq_q H (q_load rfl ((hS.blk 0 rfl).ld ag25 rfl)) rfl ?_; clear H a; intro a H
          refine qq_q H (q_move rfl) rfl ?_; clear H a; intro a H
          replace hm := bindS hm; obtain ⟨x566, hx566, hm⟩ := hm
          obtain ⟨h0x566, h1x566, hxx566⟩ := rdI_some hx566
          obtain ⟨adx566, hAx566⟩ := SlR.adV (hrp0_8.ext (Flat.mono _) hS.x) hv564 hxx566
          refine qq_q H (q_ixVI Tryz.underlying25 sz3 rfl hv564 hAx566 rfl h0x566 h1x566) rfl ?_; clear H a; intro a H
          refine qq_q H (q_load rfl (SlR.ldOneV (hrp0_8.ext (Flat.mono _) hS.x) hv564 hAx566 ag3 hxx566 rfl)) rfl ?_; clear H a; intro a H
          refine qq_q H (q_fieldAddr0 rfl fo52_2) rfl ?_; clear H a; intro a H
          refine qq_q H (q_load rfl ((hS.blk 0 rfl).ld ag25 rfl)) rfl ?_; clear H a; intro a H
          refine qq_q H (q_move rfl) rfl ?_; clear H a; intro a H
          refine qq_q H (q_addW rfl rfl) rfl ?_; clear H a; intro a H
          replace hm := bindS hm; obtain ⟨x567, hx567, hm⟩ := hm
          obtain ⟨h0x567, h1x567, hxx567⟩ := rdI_some hx567
          obtain ⟨adx567, hAx567⟩ := SlR.adV (hrp0_8.ext (Flat.mono _) hS.x) hv564 hxx567
          refine qq_q H (q_ixVI Tryz.underlying25 sz3 rfl hv564 hAx567 rfl h0x567 h1x567) rfl ?_; clear H a; intro a H
          refine qq_q H (q_load rfl (SlR.ldOneV (hrp0_8.ext (Flat.mono _) hS.x) hv564 hAx567 ag3 hxx567 rfl)) rfl ?_; clear H a; intro a H
          replace hm := bindS hm; obtain ⟨r568, hr568, hm⟩ := hm
          refine qq_call H rfl en22 (fun w' hw => g_law14_asks_w (A := A) ((hG.ext hS.x).ext hw) ((hH.ext hS.x).ext hw) (⟨_, _, _, _, rfl, ((hrp0_0.ext RGPlan.mono hS.x).ext RGPlan.mono hw), ((hrp0_1.ext (Flat.mono _) hS.x).ext (Flat.mono _) hw), ((hrp0_2.ext (Flat.mono _) hS.x).ext (Flat.mono _) hw), ((hrp0_3.ext (Flat.mono _) hS.x).ext (Flat.mono _) hw)⟩ : RGConfig _ [.int .i64 a0.C.Ticks, vp0_0, vp0_1, vp0_2, vp0_3, .int .i64 a0.C.Tries] a0.C) hr568) rfl ?_; clear H a; intro a H
          refine qq_q H (q_not rfl) rfl ?_; clear H a; intro a H
          refine qq_nil ?_; intro w569 hE570
          replace hS := hS.ext hE570
          refine then_normal (c_cond H rfl (fun hc571 => ?_) (fun hc571 => ?_))
          · replace hm := condT hm hc571
            refine wp_seq (wp_region_lit (n_q H (q_assign rfl) rfl ?_)); clear H a; intro a H
            refine n_nil (then_normal (wp_ret (block_ret (then_ret (then_ret (block_ret (then_ret ?_)))))))
            obtain rfl := Option.some.inj hm; have hz : _ = q560 := hn560; subst hz; replace hm := hm560; try dsimp only at hm
            obtain rfl := Option.some.inj hm
            replace hS := hS.tk0
            refine ret1 H (.inr rfl) rfl rfl ?_
            exact ⟨rfl, hS.x⟩
          · replace hm := condF hm hc571
            refine wp_skip (block_normal (then_normal (wp_region_lit (n_q H (q_move rfl) rfl (W_q (q_addW rfl rfl) rfl (W_q (q_assign rfl) rfl ?_)))))); clear H a; intro a H
            refine n_nil (then_normal ?_)
            obtain rfl := Option.some.inj hm
            exact round (m560, (IntKind.i64.wrap (z562 + 1))) H ⟨rfl, rfl, trivial⟩ ⟨hn560, hS⟩ (Nat.lt_succ_self _)
        · replace hm := condF hm hc565
          refine wp_exit (then_exit (then_exit (block_exit ?_)))
          obtain rfl := Option.some.inj hm; have hz : _ = q560 := hn560; subst hz; replace hm := hm560; try dsimp only at hm
          refine then_normal (wp_seq (wp_region_lit (n_q H (q_assign rfl) rfl ?_))); clear H a; intro a H
          refine n_nil (then_normal (wp_ret ?_))
          obtain rfl := Option.some.inj hm
          replace hS := hS.tk0
          refine ret1 H (.inr rfl) rfl rfl ?_
          exact ⟨rfl, hS.x⟩
end Go.Proofs.YtjoihegnjjjdaaaGreatDoor
