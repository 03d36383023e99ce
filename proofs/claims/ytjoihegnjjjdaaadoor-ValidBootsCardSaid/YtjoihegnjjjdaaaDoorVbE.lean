/- Vb (written by wip/tools) -/
import Derived.Test.YtjoihegnjjjdaaaDoorVbC
set_option linter.unusedVariables false
set_option linter.unusedSimpArgs false
set_option maxRecDepth 10000
namespace Go.Proofs.YtjoihegnjjjdaaaDoor
open Go Go.RowKit
theorem el254 : ElemOk Tryd.prog 254 2 16 [.int .i64 0, .int .i64 0] := ⟨by kernel_rfl, by kernel_rfl, by kernel_rfl, rfl, by decide⟩
theorem el9 : ElemOk Tryd.prog 9 1 16 [.string ⟨#[]⟩] := ⟨by kernel_rfl, by kernel_rfl, by kernel_rfl, rfl, by decide⟩
theorem en25 : entersB Tryd.prog 25 = true := by kernel_rfl
theorem en45 : entersB Tryd.prog 45 = true := by kernel_rfl
theorem en46 : entersB Tryd.prog 46 = true := by kernel_rfl
theorem en47 : entersB Tryd.prog 47 = true := by kernel_rfl
theorem sz28 : sizeB Tryd.prog 28 = some 1 := by kernel_rfl
theorem sz70 : sizeB Tryd.prog 70 = some 1 := by kernel_rfl
theorem sz71 : sizeB Tryd.prog 71 = some 1 := by kernel_rfl
theorem ze9 : zeroB Tryd.prog 9 = some [.string ⟨#[]⟩] := by kernel_rfl

theorem g_r11_Copy_w {w : World} {A : Nat → Addr} {cs0 : List Value} {a0 : GState} (h0 : RGState w cs0 a0) {r : GState} (hm : g_r11_Copy a0 = some r) :
    Calls Tryd.prog 47 [.agg cs0.toArray].toArray w (Ret fun u w' => ∃ h_0 h_1 h_2 h_3 h_4 h_5 h_6, u = .agg #[.int .i64 r.Id, .int .i64 r.Frame, .int .i64 r.Epoch, h_0, h_1, h_2, h_3, h_4, h_5, h_6] ∧ St NB w w' [ownR 80 21 h_0 r.Procs.length (r.Procs.flatMap eGProc), ownR 3 1 h_1 r.Ready.length (r.Ready.flatMap eI), ownR 254 2 h_2 r.Timers.length (r.Timers.flatMap eGTimer), ownR 4 1 h_3 r.Up.length (r.Up.flatMap eF), ownR 3 1 h_4 r.Sems.length (r.Sems.flatMap eI), deepR 120 2 RGPort h_5 r.Ports, ownR 96 66 h_6 r.Pages.length (r.Pages.flatMap eGPage)]) := by
  obtain ⟨vp0_0, vp0_1, vp0_2, vp0_3, vp0_4, vp0_5, vp0_6, rfl, hrp0_0, hrp0_1, hrp0_2, hrp0_3, hrp0_4, hrp0_5, hrp0_6⟩ := h0
  have hS := St.begin NB w
  unfold g_r11_Copy at hm
  refine enter Tryd.func47 rfl rfl rfl ?_; intro a H; dsimp only [enumL, Nat.zero_add, Nat.reduceAdd] at H
  refine wp_seq (wp_region_lit (n_box H rfl (cs := [.int .i64 a0.Id, .int .i64 a0.Frame, .int .i64 a0.Epoch, vp0_0, vp0_1, vp0_2, vp0_3, vp0_4, vp0_5, vp0_6]) rfl rfl ?_))
  clear H; intro b21 w22 hN hE23 hs; clear a; intro a H
  replace hS := hS.newBlk hN hE23 hs; clear hN hs
  refine n_alloc H ze74 rfl ?_
  clear H; intro b24 w25 hN hE26 hs; clear a; intro a H
  replace hS := hS.newBlk hN hE26 hs; clear hN hs
  refine n_nil (then_normal (wp_seq (wp_region_lit (n_q H (q_load rfl ((hS.blk 1 rfl).ldAll ag74 sz74)) rfl ?_)))); clear H a; intro a H
  refine n_alloc H ze74 rfl ?_
  clear H; intro b27 w28 hN hE29 hs; clear a; intro a H
  replace hS := hS.newBlk hN hE29 hs; clear hN hs
  refine n_storeAll H rfl rfl (vs := [.int .i64 a0.Id, .int .i64 a0.Frame, .int .i64 a0.Epoch, vp0_0, vp0_1, vp0_2, vp0_3, vp0_4, vp0_5, vp0_6]) rfl sz74 (hS.blk 0 rfl) rfl (by simp [((hrp0_0.ext (Flat.mono _) hS.x)).one, ((hrp0_1.ext (Flat.mono _) hS.x)).one, ((hrp0_2.ext (Flat.mono _) hS.x)).one, ((hrp0_3.ext (Flat.mono _) hS.x)).one, ((hrp0_4.ext (Flat.mono _) hS.x)).one, ((hrp0_5.ext RGPort.mono hS.x)).one, ((hrp0_6.ext (Flat.mono _) hS.x)).one]) ?_
  clear H; intro w30 hN hC31 hz; clear a; intro a H; replace hS := hS.setBlk hN hC31; clear hN hz
  refine n_nil (then_normal (wp_seq (wp_region_lit (n_buildSlice H Tryd.underlying69 sz80 ze80 rfl rfl rfl (cs := []) rfl rfl ?_))))
  clear H; intro b34 w32 hN hE33 hs; clear a; intro a H
  replace hS := hS.newBlk hN hE33 hs; clear hN hs
  replace hS := hS.blkOwnL (e := eGProc) (k := 21) ([] : List GProc) rfl (by simp [eGProc]) (by simp [maxLen])
  refine n_q H (q_fieldAddr0 rfl fo74_3) rfl (W_q (q_load rfl ((hS.blk 3 rfl).ld ag69 rfl)) rfl ?_); clear H a; intro a H
  replace hm := chkS hm; obtain ⟨hk36, hm⟩ := hm
  refine n_app (e := eGProc) H rfl rfl Tryd.underlying69 Tryd.underlying69 (by simp) el80 (hS.own 0 rfl) ((hrp0_0.ext (Flat.mono _) hS.x).src (fun x _ => eGProc_len x)) eGProc_one hk36 (by simp only [maxLen]; omega) rfl ?_
  clear H; intro v39 w37 hN hC38 hb; clear a; intro a H; replace hS := hS.setOwn hN hC38 hb; clear hN hb
  refine n_q H (q_fieldAddr0 rfl fo74_3) rfl ?_; clear H a; intro a H
  replace hS := hS.pick 1 rfl; dsimp only [List.eraseIdx] at hS
  refine n_store1 H rfl rfl sz69 (hS.blk 0 rfl) (by simp) (((hS.own 1 rfl).slr rfl (fun x _ => eGProc_len x))).one ?_
  clear H; intro w41 hN hC42 hz; clear a; intro a H; replace hS := hS.setBlk hN hC42; clear hN hz
  try simp only [List.set_cons_succ, List.set_cons_zero] at hS
  refine n_nil (then_normal (wp_seq (wp_region_lit (n_buildSlice H Tryd.underlying23 sz3 ze3 rfl rfl rfl (cs := []) rfl rfl ?_))))
  clear H; intro b45 w43 hN hE44 hs; clear a; intro a H
  replace hS := hS.newBlk hN hE44 hs; clear hN hs
  replace hS := hS.blkOwnL (e := eI) (k := 1) ([] : List Int) rfl rfl (by simp [maxLen])
  refine n_q H (q_fieldAddr0 rfl fo74_4) rfl (W_q (q_load rfl ((hS.blk 4 rfl).ld ag23 rfl)) rfl ?_); clear H a; intro a H
  replace hm := chkS hm; obtain ⟨hk47, hm⟩ := hm
  refine n_app (e := eI) H rfl rfl Tryd.underlying23 Tryd.underlying23 (by simp) el3 (hS.own 0 rfl) ((hrp0_1.ext (Flat.mono _) hS.x).src (fun _ _ => rfl)) eI_one hk47 (by simp only [maxLen]; omega) rfl ?_
  clear H; intro v50 w48 hN hC49 hb; clear a; intro a H; replace hS := hS.setOwn hN hC49 hb; clear hN hb
  refine n_q H (q_fieldAddr0 rfl fo74_4) rfl ?_; clear H a; intro a H
  replace hS := hS.pick 1 rfl; dsimp only [List.eraseIdx] at hS
  refine n_store1 H rfl rfl sz23 (hS.blk 0 rfl) (by simp) (((hS.own 1 rfl).slr rfl (fun _ _ => rfl))).one ?_
  clear H; intro w52 hN hC53 hz; clear a; intro a H; replace hS := hS.setBlk hN hC53; clear hN hz
  try simp only [List.set_cons_succ, List.set_cons_zero] at hS
  refine n_nil (then_normal (wp_seq (wp_region_lit (n_buildSlice H Tryd.underlying70 sz254 ze254 rfl rfl rfl (cs := []) rfl rfl ?_))))
  clear H; intro b56 w54 hN hE55 hs; clear a; intro a H
  replace hS := hS.newBlk hN hE55 hs; clear hN hs
  replace hS := hS.blkOwnL (e := eGTimer) (k := 2) ([] : List GTimer) rfl rfl (by simp [maxLen])
  refine n_q H (q_fieldAddr0 rfl fo74_5) rfl (W_q (q_load rfl ((hS.blk 5 rfl).ld ag70 rfl)) rfl ?_); clear H a; intro a H
  replace hm := chkS hm; obtain ⟨hk58, hm⟩ := hm
  refine n_app (e := eGTimer) H rfl rfl Tryd.underlying70 Tryd.underlying70 (by simp) el254 (hS.own 0 rfl) ((hrp0_2.ext (Flat.mono _) hS.x).src (fun _ _ => rfl)) eGTimer_one hk58 (by simp only [maxLen]; omega) rfl ?_
  clear H; intro v61 w59 hN hC60 hb; clear a; intro a H; replace hS := hS.setOwn hN hC60 hb; clear hN hb
  refine n_q H (q_fieldAddr0 rfl fo74_5) rfl ?_; clear H a; intro a H
  replace hS := hS.pick 1 rfl; dsimp only [List.eraseIdx] at hS
  refine n_store1 H rfl rfl sz70 (hS.blk 0 rfl) (by simp) (((hS.own 1 rfl).slr rfl (fun _ _ => rfl))).one ?_
  clear H; intro w63 hN hC64 hz; clear a; intro a H; replace hS := hS.setBlk hN hC64; clear hN hz
  try simp only [List.set_cons_succ, List.set_cons_zero] at hS
  refine n_nil (then_normal (wp_seq (wp_region_lit (n_buildSlice H Tryd.underlying28 sz4 ze4 rfl rfl rfl (cs := []) rfl rfl ?_))))
  clear H; intro b67 w65 hN hE66 hs; clear a; intro a H
  replace hS := hS.newBlk hN hE66 hs; clear hN hs
  replace hS := hS.blkOwnL (e := eF) (k := 1) ([] : List Bool) rfl rfl (by simp [maxLen])
  refine n_q H (q_fieldAddr0 rfl fo74_6) rfl (W_q (q_load rfl ((hS.blk 6 rfl).ld ag28 rfl)) rfl ?_); clear H a; intro a H
  replace hm := chkS hm; obtain ⟨hk69, hm⟩ := hm
  refine n_app (e := eF) H rfl rfl Tryd.underlying28 Tryd.underlying28 (by simp) el4 (hS.own 0 rfl) ((hrp0_3.ext (Flat.mono _) hS.x).src (fun _ _ => rfl)) eF_one hk69 (by simp only [maxLen]; omega) rfl ?_
  clear H; intro v72 w70 hN hC71 hb; clear a; intro a H; replace hS := hS.setOwn hN hC71 hb; clear hN hb
  refine n_q H (q_fieldAddr0 rfl fo74_6) rfl ?_; clear H a; intro a H
  replace hS := hS.pick 1 rfl; dsimp only [List.eraseIdx] at hS
  refine n_store1 H rfl rfl sz28 (hS.blk 0 rfl) (by simp) (((hS.own 1 rfl).slr rfl (fun _ _ => rfl))).one ?_
  clear H; intro w74 hN hC75 hz; clear a; intro a H; replace hS := hS.setBlk hN hC75; clear hN hz
  try simp only [List.set_cons_succ, List.set_cons_zero] at hS
  refine n_nil (then_normal (wp_seq (wp_region_lit (n_buildSlice H Tryd.underlying23 sz3 ze3 rfl rfl rfl (cs := []) rfl rfl ?_))))
  clear H; intro b78 w76 hN hE77 hs; clear a; intro a H
  replace hS := hS.newBlk hN hE77 hs; clear hN hs
  replace hS := hS.blkOwnL (e := eI) (k := 1) ([] : List Int) rfl rfl (by simp [maxLen])
  refine n_q H (q_fieldAddr0 rfl fo74_7) rfl (W_q (q_load rfl ((hS.blk 7 rfl).ld ag23 rfl)) rfl ?_); clear H a; intro a H
  replace hm := chkS hm; obtain ⟨hk80, hm⟩ := hm
  refine n_app (e := eI) H rfl rfl Tryd.underlying23 Tryd.underlying23 (by simp) el3 (hS.own 0 rfl) ((hrp0_4.ext (Flat.mono _) hS.x).src (fun _ _ => rfl)) eI_one hk80 (by simp only [maxLen]; omega) rfl ?_
  clear H; intro v83 w81 hN hC82 hb; clear a; intro a H; replace hS := hS.setOwn hN hC82 hb; clear hN hb
  refine n_q H (q_fieldAddr0 rfl fo74_7) rfl ?_; clear H a; intro a H
  replace hS := hS.pick 1 rfl; dsimp only [List.eraseIdx] at hS
  refine n_store1 H rfl rfl sz23 (hS.blk 0 rfl) (by simp) (((hS.own 1 rfl).slr rfl (fun _ _ => rfl))).one ?_
  clear H; intro w85 hN hC86 hz; clear a; intro a H; replace hS := hS.setBlk hN hC86; clear hN hz
  try simp only [List.set_cons_succ, List.set_cons_zero] at hS
  refine n_nil (then_normal (wp_seq (wp_region_lit (n_buildSlice H Tryd.underlying72 sz96 ze96 rfl rfl rfl (cs := []) rfl rfl ?_))))
  clear H; intro b89 w87 hN hE88 hs; clear a; intro a H
  replace hS := hS.newBlk hN hE88 hs; clear hN hs
  replace hS := hS.blkOwnL (e := eGPage) (k := 66) ([] : List GPage) rfl (by simp [eGPage]) (by simp [maxLen])
  refine n_q H (q_fieldAddr0 rfl fo74_9) rfl (W_q (q_load rfl ((hS.blk 8 rfl).ld ag72 rfl)) rfl ?_); clear H a; intro a H
  replace hm := chkS hm; obtain ⟨hk91, hm⟩ := hm
  refine n_app (e := eGPage) H rfl rfl Tryd.underlying72 Tryd.underlying72 (by simp) el96 (hS.own 0 rfl) ((hrp0_6.ext (Flat.mono _) hS.x).src (fun x _ => eGPage_len x)) eGPage_one hk91 (by simp only [maxLen]; omega) rfl ?_
  clear H; intro v94 w92 hN hC93 hb; clear a; intro a H; replace hS := hS.setOwn hN hC93 hb; clear hN hb
  refine n_q H (q_fieldAddr0 rfl fo74_9) rfl ?_; clear H a; intro a H
  replace hS := hS.pick 1 rfl; dsimp only [List.eraseIdx] at hS
  refine n_store1 H rfl rfl sz72 (hS.blk 0 rfl) (by simp) (((hS.own 1 rfl).slr rfl (fun x _ => eGPage_len x))).one ?_
  clear H; intro w96 hN hC97 hz; clear a; intro a H; replace hS := hS.setBlk hN hC97; clear hN hz
  try simp only [List.set_cons_succ, List.set_cons_zero] at hS
  refine n_nil (then_normal (wp_seq (wp_region_lit (n_q H (q_fieldAddr0 rfl fo74_8) rfl ?_)))); clear H a; intro a H
  refine n_store1 H rfl rfl sz71 (hS.blk 0 rfl) (by simp) rfl ?_
  clear H; intro w98 hN hC99 hz; clear a; intro a H; replace hS := hS.setBlk hN hC99; clear hN hz
  try simp only [List.set_cons_succ, List.set_cons_zero] at hS
  refine n_nil (then_normal (wp_seq (wp_seq (wp_region_lit (n_q H (q_assign rfl) rfl ?_))))); clear H a; intro a H
  refine n_nil (then_normal (wp_block ?_))
  replace hS := hS.deepNil 120 2 RGPort
  replace hS := hS.pick 2 rfl; dsimp only [List.eraseIdx] at hS
  replace hS := hS.pick 1 rfl; dsimp only [List.eraseIdx] at hS
  replace hS := hS.pick 3 rfl; dsimp only [List.eraseIdx] at hS
  replace hS := hS.pick 4 rfl; dsimp only [List.eraseIdx] at hS
  replace hS := hS.pick 5 rfl; dsimp only [List.eraseIdx] at hS
  replace hS := hS.pick 6 rfl; dsimp only [List.eraseIdx] at hS
  replace hS := hS.pick 7 rfl; dsimp only [List.eraseIdx] at hS
  replace hS := hS.pick 7 rfl; dsimp only [List.eraseIdx] at hS
  replace hS := hS.pick 8 rfl; dsimp only [List.eraseIdx] at hS
  replace hS := hS.pick 9 rfl; dsimp only [List.eraseIdx] at hS
  replace hm := bindS hm; obtain ⟨q100, hm, hm100⟩ := hm; replace hm := iter_some hm; obtain ⟨n100, hm⟩ := hm
  refine c_loop (σ := Nat × Nat × (List GPort) × Value) (fun (m, i101, l102, v103) => [(1, .pointer (some ⟨b21, 0, none⟩)), (2, .pointer (some ⟨b24, 0, none⟩)), (3, .pointer (some ⟨b27, 0, none⟩)), (4, .int .i64 ((i101 : Nat) : Int))]) (fun (m, i101, l102, v103) wl => iterN (g_r11_Copy_L1 a0) m (i101, l102) = some q100 ∧ St NB w wl [blkR b21 [.int .i64 a0.Id, .int .i64 a0.Frame, .int .i64 a0.Epoch, vp0_0, vp0_1, vp0_2, vp0_3, vp0_4, vp0_5, vp0_6] 74, blkR b24 [.int .i64 0, .int .i64 0, .int .i64 0, .slice none 0 0, .slice none 0 0, .slice none 0 0, .slice none 0 0, .slice none 0 0, .slice none 0 0, .slice none 0 0] 74, blkR b27 [.int .i64 a0.Id, .int .i64 a0.Frame, .int .i64 a0.Epoch, v39, v50, v61, v72, v83, v103, v94] 74, ownR 80 21 v39 (([] : List GProc) ++ a0.Procs).length ((([] : List GProc) ++ a0.Procs).flatMap eGProc), ownR 3 1 v50 (([] : List Int) ++ a0.Ready).length ((([] : List Int) ++ a0.Ready).flatMap eI), ownR 254 2 v61 (([] : List GTimer) ++ a0.Timers).length ((([] : List GTimer) ++ a0.Timers).flatMap eGTimer), ownR 4 1 v72 (([] : List Bool) ++ a0.Up).length ((([] : List Bool) ++ a0.Up).flatMap eF), ownR 3 1 v83 (([] : List Int) ++ a0.Sems).length ((([] : List Int) ++ a0.Sems).flatMap eI), deepR 120 2 RGPort v103 l102, ownR 96 66 v94 (([] : List GPage) ++ a0.Pages).length ((([] : List GPage) ++ a0.Pages).flatMap eGPage)]) (fun (m, i101, l102, v103) => m) (n100, 0, ([] : List GPort), .slice none 0 0) H ⟨rfl, rfl, rfl, rfl, trivial⟩ ⟨hm, hS⟩ ?_
  clear H hS hm a; intro xx a w106 H hR; obtain ⟨m, i101, l102, v103⟩ := xx; simp only [ent, List.map_cons, List.map_nil] at H; (try dsimp only at hR); obtain ⟨hm, hS⟩ := hR
  replace hm := iterN_step hm; obtain ⟨m100, o100, rfl, hm, hn100⟩ := hm; try dsimp only [g_r11_Copy_L1] at hm
  refine wp_seq (wp_seq (wp_region_lit (n_q H (q_move rfl) rfl (W_q (q_fieldAddr0 rfl fo74_8) rfl (W_q (q_load rfl ((hS.blk 0 rfl).ld ag71 rfl)) rfl ?_))))); clear H a; intro a H
  obtain ⟨A107, c107, hv107, hl107, hm107⟩ := SlR.formV (hrp0_5.ext RGPort.mono hS.x)
  refine n_q H (q_lenV Tryd.underlying71 rfl hv107) rfl (W_q (q_lssN (i := i101) (j := a0.Ports.length) rfl rfl) rfl ?_); clear H a; intro a H
  refine n_nil (then_normal (c_cond H rfl (fun hc108 => ?_) (fun hc108 => ?_)))
  · replace hm := condT hm hc108
    have hlt109 : i101 < a0.Ports.length := of_decide_eq_true hc108
    refine wp_skip (then_normal (wp_seq (wp_block (c_ord (kB w.heap.size (b21 :: (b24 :: (b27 :: []))) w106.drew.heap.size) 20 (by kernel_rfl) ?_))))
    obtain ⟨w110, hw110⟩ : ∃ x, x = w106.drew := ⟨_, rfl⟩; rw [← hw110]; have hE111 : Ext w106 w110 := by rw [hw110]; exact Ext.drew' _
    clear hw110
    replace hS := hS.ext hE111
    have hh_b21 := (hS.blk 0 rfl).lt
    have hh_b24 := (hS.blk 1 rfl).lt
    have hh_b27 := (hS.blk 2 rfl).lt
    have hh112 := hS.x.size
    have hW := Nat.le_refl w110.heap.size
    refine k_takeT 0 H rfl (q_fieldAddr0 rfl fo74_8) rfl (by kernel_rfl) (by kernel_rfl) (by kernel_rfl) (by kernel_rfl) (fun _ _ _ h => h) ?_; clear H a; intro a H
    refine k_take 1 H rfl (q_load rfl ((hS.blk 2 rfl).ldB hh_b27 (kB_not (by simp)) ag71 rfl)) rfl (by kernel_rfl) (by kernel_rfl) (by kernel_rfl) (by kernel_rfl) (fun _ _ _ h => h) ?_; clear H a; intro a H
    refine k_takeT 3 H rfl (q_fieldAddr0 rfl fo74_8) rfl (by kernel_rfl) (by kernel_rfl) (by kernel_rfl) (by kernel_rfl) (fun _ _ _ h => h) ?_; clear H a; intro a H
    refine k_take 4 H rfl (q_load rfl ((hS.blk 0 rfl).ldB hh_b21 (kB_not (by simp)) ag71 rfl)) rfl (by kernel_rfl) (by kernel_rfl) (by kernel_rfl) (by kernel_rfl) (fun _ _ _ h => h) ?_; clear H a; intro a H
    refine k_takeT 5 H rfl (q_move rfl) rfl (by kernel_rfl) (by kernel_rfl) (by kernel_rfl) (by kernel_rfl) (fun _ _ _ h => h) ?_; clear H a; intro a H
    replace hm := bindS hm; obtain ⟨x113, hx113, hm⟩ := hm
    obtain ⟨adx113, hAx113⟩ := SlR.adV (hrp0_5.ext RGPort.mono hS.x) hv107 hx113
    obtain ⟨csx113, hclx113, ⟨vx113_0, rfl, hrx113_0⟩, hcx113⟩ := SlR.elV hrp0_5 hv107 hAx113 hx113
    refine k_takeT 6 H rfl (q_ixV (i := i101) Tryd.underlying71 sz120 rfl hv107 hAx113 rfl (natI hx113)) rfl (by kernel_rfl) (by kernel_rfl) (by kernel_rfl) (by kernel_rfl) (fun _ _ _ h => h) ?_; clear H a; intro a H
    refine k_takeT 7 H rfl (q_fieldAddr rfl fo120_0) rfl (by kernel_rfl) (by kernel_rfl) (by kernel_rfl) (by kernel_rfl) (fun _ _ _ h => h) ?_; clear H a; intro a H
    refine k_take 8 H rfl (q_load rfl (LdC.old (ldElC (j := 0) ag118 hcx113 rfl) hS.x hh112 kB_old)) rfl (by kernel_rfl) (by kernel_rfl) (by kernel_rfl) (by kernel_rfl) (fun _ _ _ h => h) ?_; clear H a; intro a H
    refine k_takeT 10 H rfl (q_fieldAddr0 rfl fo74_8) rfl (by kernel_rfl) (by kernel_rfl) (by kernel_rfl) (by kernel_rfl) (fun _ _ _ h => h) ?_; clear H a; intro a H
    refine k_take 11 H rfl (q_load rfl ((hS.blk 0 rfl).ldB hh_b21 (kB_not (by simp)) ag71 rfl)) rfl (by kernel_rfl) (by kernel_rfl) (by kernel_rfl) (by kernel_rfl) (fun _ _ _ h => h) ?_; clear H a; intro a H
    refine k_takeT 12 H rfl (q_move rfl) rfl (by kernel_rfl) (by kernel_rfl) (by kernel_rfl) (by kernel_rfl) (fun _ _ _ h => h) ?_; clear H a; intro a H
    replace hm := bindS hm; obtain ⟨x114, hx114, hm⟩ := hm
    obtain ⟨adx114, hAx114⟩ := SlR.adV (hrp0_5.ext RGPort.mono hS.x) hv107 hx114
    obtain ⟨csx114, hclx114, ⟨vx114_0, rfl, hrx114_0⟩, hcx114⟩ := SlR.elV hrp0_5 hv107 hAx114 hx114
    refine k_takeT 13 H rfl (q_ixV (i := i101) Tryd.underlying71 sz120 rfl hv107 hAx114 rfl (natI hx114)) rfl (by kernel_rfl) (by kernel_rfl) (by kernel_rfl) (by kernel_rfl) (fun _ _ _ h => h) ?_; clear H a; intro a H
    refine k_takeT 14 H rfl (q_fieldAddr rfl fo120_1) rfl (by kernel_rfl) (by kernel_rfl) (by kernel_rfl) (by kernel_rfl) (fun _ _ _ h => h) ?_; clear H a; intro a H
    refine k_take 15 H rfl (q_load rfl (LdC.old (ldElC (j := 1) ag3 hcx114 rfl) hS.x hh112 kB_old)) rfl (by kernel_rfl) (by kernel_rfl) (by kernel_rfl) (by kernel_rfl) (fun _ _ _ h => h) ?_; clear H a; intro a H
    refine k_buildSlice 2 H rfl Tryd.underlying118 sz9 ze9 rfl rfl rfl (cs := []) rfl rfl (by kernel_rfl) ?_
    clear H; intro b117 w115 hN hE116 hs; clear a; intro a H
    have hge_b117 : w110.heap.size ≤ b117 := hs ▸ hW
    replace hS := hS.newBlk hN hE116 hs; clear hN hs
    replace hW := Nat.le_trans hW hE116.size
    replace hS := hS.blkOwnL (e := eS) (k := 1) ([] : List ByteArray) rfl rfl (by simp [maxLen])
    replace hm := chkS hm; obtain ⟨hk119, hm⟩ := hm
    refine k_app (e := eS) 9 H rfl rfl rfl Tryd.underlying118 Tryd.underlying118 (by simp) el9 (hS.own 0 rfl) ((hrx113_0.ext (Flat.mono _) hS.x).src (fun _ _ => rfl)) eS_one hk119 (by simp only [maxLen]; omega) rfl (by kernel_rfl) (.inl (fun c hc hlt => mem_kB hlt (hS.geOwn 0 rfl c hc) (notin_cons (hS.neOwn' 0 1 (by decide) rfl rfl c hc) (notin_cons (hS.neOwn' 0 2 (by decide) rfl rfl c hc) (notin_cons (hS.neOwn' 0 3 (by decide) rfl rfl c hc) notin_nil))))) ?_
    clear H; intro v122 w120 hN hC121 hb; clear a; intro a H; replace hS := hS.setOwn hN hC121 hb; clear hN hb
    replace hW := Nat.le_trans hW hC121.size
    refine k_takeT 16 H rfl (q_build (cs := [v122, .int .i64 x114.Age]) ze120 bd120 pl120 rfl ((fill1 (((hS.own 0 rfl).slr rfl (fun _ _ => rfl))).one rfl (by simp)).trans ((fill1 rfl rfl (by simp)).trans rfl))) rfl (by kernel_rfl) (by kernel_rfl) (by kernel_rfl) (by kernel_rfl) (fun _ _ _ h => h) ?_; clear H a; intro a H
    refine k_buildSlice 17 H rfl Tryd.underlying71 sz120 ze120 rfl rfl rfl (cs := [v122, .int .i64 x114.Age]) ((fillA (ds := [v122, .int .i64 x114.Age]) rfl rfl rfl (by simp)).trans rfl) rfl (by kernel_rfl) ?_
    clear H; intro b126 w124 hN hE125 hs; clear a; intro a H
    have hge_b126 : w110.heap.size ≤ b126 := hs ▸ hW
    replace hS := hS.newBlk hN hE125 hs; clear hN hs
    replace hW := Nat.le_trans hW hE125.size
    replace hS := hS.pick 1 rfl; dsimp only [List.eraseIdx] at hS
    replace hS := hS.ownAny (F := (fun w' => SlR w' 1 (Flat eS) v122 (([] : List ByteArray) ++ x113.Msgs))) (fun w' hO => hO.slr rfl (fun _ _ => rfl))
    replace hS := hS.anyMono (G := DIn 2 RGPort [[v122, .int .i64 x114.Age]] [(⟨(([] : List ByteArray) ++ x113.Msgs), x114.Age⟩ : GPort)]) (fun w' hw => (DIn.cons rfl (by simp [hw.one]) ⟨_, rfl, hw⟩ trivial))
    replace hm := chkS hm; obtain ⟨hk129, hm⟩ := hm
    replace hS := hS.pick 10 rfl; dsimp only [List.eraseIdx] at hS
    refine k_appD (css := [[v122, .int .i64 x114.Age]]) 18 hS H rfl rfl rfl Tryd.underlying71 Tryd.underlying71 (by simp) el120 (Src.blk (k := 2) (hS.blk 2 rfl) rfl) hk129 (by simp only [maxLen, List.length_cons, List.length_nil]; omega) rfl (by kernel_rfl) (fun css0 hS => .inl (fun c hc hlt => mem_kB hlt (hS.geOwn 0 rfl c hc) (notin_cons (hS.neOwn' 0 3 (by decide) rfl rfl c hc) (notin_cons (hS.neOwn' 0 4 (by decide) rfl rfl c hc) (notin_cons (hS.neOwn' 0 5 (by decide) rfl rfl c hc) notin_nil))))) ?_
    clear H hS; intro v131 w130 hS hz; clear a; intro a H; replace hW := Nat.le_trans hW hz; clear hz
    refine k_takeT 19 H rfl (q_fieldAddr0 rfl fo74_8) rfl (by kernel_rfl) (by kernel_rfl) (by kernel_rfl) (by kernel_rfl) (fun _ _ _ h => h) ?_; clear H a; intro a H
    replace hS := hS.pick 4 rfl; dsimp only [List.eraseIdx] at hS
    refine k_store1 20 H rfl rfl rfl sz71 (hS.blk 0 rfl) (by simp) ((hS.deepSl 1 rfl)).one (by kernel_rfl) (.inr (by kernel_rfl)) ?_
    clear H; intro w133 hN hC134 hz; clear a; intro a H; replace hS := hS.setBlk hN hC134; clear hN hz; replace hW := Nat.le_trans hW hC134.size
    try simp only [List.set_cons_succ, List.set_cons_zero] at hS
    refine k_done (by kernel_rfl) ?_
    refine block_normal (then_normal (wp_region_lit (n_q H (q_move rfl) rfl (W_q (q_incr (i := i101) (j := 1) rfl rfl (by omega)) rfl (W_q (q_assign rfl) rfl ?_))))); clear H a; intro a H
    refine n_nil (then_normal ?_)
    obtain rfl := Option.some.inj hm
    replace hS := hS.pick 10 rfl; dsimp only [List.eraseIdx] at hS
    replace hS := hS.pick 2 rfl; dsimp only [List.eraseIdx] at hS
    replace hS := hS.pick 10 rfl; dsimp only [List.eraseIdx] at hS
    replace hS := hS.pick 10 rfl; dsimp only [List.eraseIdx] at hS
    replace hS := hS.pick 10 rfl; dsimp only [List.eraseIdx] at hS
    replace hS := hS.pick 10 rfl; dsimp only [List.eraseIdx] at hS
    replace hS := hS.pick 10 rfl; dsimp only [List.eraseIdx] at hS
    replace hS := hS.pick 7 rfl; dsimp only [List.eraseIdx] at hS
    replace hS := hS.pick 10 rfl; dsimp only [List.eraseIdx] at hS
    replace hS := hS.pick 10 rfl; dsimp only [List.eraseIdx] at hS
    replace hS := hS.take 10; simp only [List.take_succ_cons, List.take_zero] at hS
    exact round (m100, i101 + 1, (l102 ++ [(⟨(([] : List ByteArray) ++ x113.Msgs), x114.Age⟩ : GPort)]), v131) H ⟨rfl, rfl, rfl, rfl, trivial⟩ ⟨hn100, hS⟩ (Nat.lt_succ_self _)
  · replace hm := condF hm hc108
    refine wp_exit (then_exit (then_exit (block_exit ?_)))
    obtain rfl := Option.some.inj hm; have hz : _ = q100 := hn100; subst hz; replace hm := hm100; try dsimp only at hm
    refine then_normal (wp_seq (wp_region_lit (n_q H (q_load rfl ((hS.blk 2 rfl).ldAll ag74 sz74)) rfl ?_))); clear H a; intro a H
    replace hS := hS.pick 1 rfl; dsimp only [List.eraseIdx] at hS
    refine n_storeAll H rfl rfl (vs := [.int .i64 a0.Id, .int .i64 a0.Frame, .int .i64 a0.Epoch, v39, v50, v61, v72, v83, v103, v94]) rfl sz74 (hS.blk 0 rfl) rfl (by simp [(((hS.own 3 rfl).slr rfl (fun x _ => eGProc_len x))).one, (((hS.own 4 rfl).slr rfl (fun _ _ => rfl))).one, (((hS.own 5 rfl).slr rfl (fun _ _ => rfl))).one, (((hS.own 6 rfl).slr rfl (fun _ _ => rfl))).one, (((hS.own 7 rfl).slr rfl (fun _ _ => rfl))).one, ((hS.deepSl 8 rfl)).one, (((hS.own 9 rfl).slr rfl (fun x _ => eGPage_len x))).one]) ?_
    clear H; intro w135 hN hC136 hz; clear a; intro a H; replace hS := hS.setBlk hN hC136; clear hN hz
    refine n_nil (then_normal (wp_ret ?_))
    obtain rfl := Option.some.inj hm
    replace hS := hS.pick 9 rfl; dsimp only [List.eraseIdx] at hS
    replace hS := hS.pick 9 rfl; dsimp only [List.eraseIdx] at hS
    replace hS := hS.pick 9 rfl; dsimp only [List.eraseIdx] at hS
    replace hS := hS.pick 9 rfl; dsimp only [List.eraseIdx] at hS
    replace hS := hS.pick 9 rfl; dsimp only [List.eraseIdx] at hS
    replace hS := hS.pick 9 rfl; dsimp only [List.eraseIdx] at hS
    replace hS := hS.pick 9 rfl; dsimp only [List.eraseIdx] at hS
    replace hS := hS.take 8; simp only [List.take_succ_cons, List.take_zero] at hS
    refine retL H (.inr rfl) rfl (vs := [.agg #[.int .i64 a0.Id, .int .i64 a0.Frame, .int .i64 a0.Epoch, v39, v50, v61, v72, v83, v103, v94]]) (resCell rfl ((hS.blk 7 rfl).ldAll ag74 sz74) resNil) ?_
    replace hS := hS.take 7; simp only [List.take_succ_cons, List.take_zero] at hS
    exact ⟨_, _, _, _, _, _, _, rfl, hS⟩
set_option maxHeartbeats 1000000 in
theorem g_law11_ValidBoots_w {w : World} {A : Nat → Addr} {cs0 : List Value} {a0 : GPlan} (hG : EV A w) (hH : HE w) (h0 : RGPlan w cs0 a0) {r : Bool} (hm : g_law11_ValidBoots a0 = some r) :
    Calls Tryd.prog 10 [.agg cs0.toArray].toArray w (Ret fun u w' => u = .bool r ∧ Ext w w') := by
  obtain ⟨vp0_0, vp0_1, vp0_2, vp0_3, rfl, hrp0_0, hrp0_1, hrp0_2, hrp0_3⟩ := h0
  have hS := St.begin NB w
  unfold g_law11_ValidBoots at hm
  refine enter Tryd.func10 rfl rfl rfl ?_; intro a H; dsimp only [enumL, Nat.zero_add, Nat.reduceAdd] at H
  refine wp_seq (wp_region_lit (n_box H rfl (cs := [.int .i64 a0.Id, .bool a0.Mobile, vp0_0, vp0_1, vp0_2, .int .i64 a0.Events, vp0_3]) rfl rfl ?_))
  clear H; intro b21 w22 hN hE23 hs; clear a; intro a H
  replace hS := hS.newBlk hN hE23 hs; clear hN hs
  refine n_q H (q_assign rfl) rfl ?_; clear H a; intro a H
  refine n_nil (then_normal (wp_seq (wp_seq (wp_region_lit ?_))))
  replace hm := bindS hm; obtain ⟨r24, hr24, hm⟩ := hm
  refine n_call H rfl en25 (g_law11_awake_w (A := A) (hG.ext hS.x) (hH.ext hS.x) hr24) rfl ?_
  clear H; intro x27 w25 hv; clear a; intro a H; obtain ⟨rfl, hE26⟩ := hv
  replace hS := hS.ext hE26
  refine n_q H (q_not rfl) rfl ?_; clear H a; intro a H
  refine n_nil (then_normal (c_cond H rfl (fun hc28 => ?_) (fun hc28 => ?_)))
  · replace hm := condT hm hc28
    refine wp_seq (wp_region_lit (n_q H (q_assign rfl) rfl ?_)); clear H a; intro a H
    refine n_nil (then_normal (wp_ret (then_ret ?_)))
    obtain rfl := Option.some.inj hm
    replace hS := hS.take 0; simp only [List.take_succ_cons, List.take_zero] at hS
    refine ret1 H (.inr rfl) rfl rfl ?_
    exact ⟨rfl, hS.x⟩
  · replace hm := condF hm hc28
    refine wp_skip (then_normal (wp_seq (wp_seq (wp_region_lit (n_q H (q_load rfl ((hS.blk 0 rfl).ldAll ag68 sz68)) rfl ?_))))); clear H a; intro a H
    replace hm := bindS hm; obtain ⟨r29, hr29, hm⟩ := hm
    refine n_call H rfl en45 (g_r10_Good_w (A := A) (⟨_, _, _, _, rfl, (hrp0_0.ext (Flat.mono _) hS.x), (hrp0_1.ext (Flat.mono _) hS.x), (hrp0_2.ext (Flat.mono _) hS.x), (hrp0_3.ext (Flat.mono _) hS.x)⟩ : RGPlan _ [.int .i64 a0.Id, .bool a0.Mobile, vp0_0, vp0_1, vp0_2, .int .i64 a0.Events, vp0_3] a0) hr29) rfl ?_
    clear H; intro x32 w30 hv; clear a; intro a H; obtain ⟨rfl, hE31⟩ := hv
    replace hS := hS.ext hE31
    refine n_q H (q_not rfl) rfl ?_; clear H a; intro a H
    refine n_nil (then_normal (c_cond H rfl (fun hc33 => ?_) (fun hc33 => ?_)))
    · replace hm := condT hm hc33
      refine wp_seq (wp_region_lit (n_q H (q_assign rfl) rfl ?_)); clear H a; intro a H
      refine n_nil (then_normal (wp_ret (then_ret ?_)))
      obtain rfl := Option.some.inj hm
      replace hS := hS.take 0; simp only [List.take_succ_cons, List.take_zero] at hS
      refine ret1 H (.inr rfl) rfl rfl ?_
      exact ⟨rfl, hS.x⟩
    · replace hm := condF hm hc33
      refine wp_skip (then_normal (wp_seq (wp_region_lit (n_q H (q_load rfl ((hS.blk 0 rfl).ldAll ag68 sz68)) rfl ?_)))); clear H a; intro a H
      replace hm := bindS hm; obtain ⟨r34, hr34, hm⟩ := hm
      refine n_call H rfl en46 (g_plan_Boot_w (A := A) (hG.ext hS.x) (⟨_, _, _, _, rfl, (hrp0_0.ext (Flat.mono _) hS.x), (hrp0_1.ext (Flat.mono _) hS.x), (hrp0_2.ext (Flat.mono _) hS.x), (hrp0_3.ext (Flat.mono _) hS.x)⟩ : RGPlan _ [.int .i64 a0.Id, .bool a0.Mobile, vp0_0, vp0_1, vp0_2, .int .i64 a0.Events, vp0_3] a0) hr34) rfl ?_
      clear H; intro x53 w51 hv; clear a; intro a H; obtain ⟨u35, u36, u37, u38, u39, u40, u41, u42, rfl, hE52⟩ := hv
      replace hS := hS.new hE52; simp only [List.cons_append, List.nil_append] at hS
      refine n_q H (q_move rfl) rfl (W_q (q_extract rfl rfl) rfl (W_q (q_extract rfl rfl) rfl ?_)); clear H a; intro a H
      refine n_alloc H ze74 rfl ?_
      clear H; intro b54 w55 hN hE56 hs; clear a; intro a H
      replace hS := hS.newBlk hN hE56 hs; clear hN hs
      refine n_storeAll H rfl rfl (vs := [.int .i64 r34.1.Id, .int .i64 r34.1.Frame, .int .i64 r34.1.Epoch, u35, u36, u37, u38, u39, u40, u41]) rfl sz74 (hS.blk 0 rfl) rfl (by simp [(((hS.own 1 rfl).slr rfl (fun x _ => eGProc_len x))).one, (((hS.own 2 rfl).slr rfl (fun _ _ => rfl))).one, (((hS.own 3 rfl).slr rfl (fun _ _ => rfl))).one, (((hS.own 4 rfl).slr rfl (fun _ _ => rfl))).one, (((hS.own 5 rfl).slr rfl (fun _ _ => rfl))).one, ((hS.deepSl 6 rfl)).one, (((hS.own 7 rfl).slr rfl (fun x _ => eGPage_len x))).one]) ?_
      clear H; intro w57 hN hC58 hz; clear a; intro a H; replace hS := hS.setBlk hN hC58; clear hN hz
      refine n_q H (q_assign rfl) rfl ?_; clear H a; intro a H
      refine n_nil (then_normal (wp_seq ?_))
      replace hm := bindS hm; obtain ⟨j59, hm, hm59⟩ := hm
      refine c_join (σ := Bool) H (fun q560 => [(1, .pointer (some ⟨b21, 0, none⟩)), (3, .pointer (some ⟨b54, 0, none⟩)), (31, .bool q560)]) (fun q560 wl => (g_law11_ValidBoots_J2 a0 r34) q560 = some r ∧ St NB w wl [blkR b21 [.int .i64 a0.Id, .bool a0.Mobile, vp0_0, vp0_1, vp0_2, .int .i64 a0.Events, vp0_3] 68, blkR b54 [.int .i64 r34.1.Id, .int .i64 r34.1.Frame, .int .i64 r34.1.Epoch, u35, u36, u37, u38, u39, u40, u41] 74, ownR 80 21 u35 r34.1.Procs.length (r34.1.Procs.flatMap eGProc), ownR 3 1 u36 r34.1.Ready.length (r34.1.Ready.flatMap eI), ownR 254 2 u37 r34.1.Timers.length (r34.1.Timers.flatMap eGTimer), ownR 4 1 u38 r34.1.Up.length (r34.1.Up.flatMap eF), ownR 3 1 u39 r34.1.Sems.length (r34.1.Sems.flatMap eI), deepR 120 2 RGPort u40 r34.1.Ports, ownR 96 66 u41 r34.1.Pages.length (r34.1.Pages.flatMap eGPage)]) ?_ ?_
      · skip
        refine wp_region_lit (n_q H (q_move rfl) rfl (W_q (q_cast (q_nnilI Tryd.underlying36 rfl rfl (hS.any 8 rfl : IsE A w57 u42 r34.2).form) (show _ = Value.bool (!decide (r34.2 = .nil)) by rw [IsErr.isNil (hS.any 8 rfl : IsE A w57 u42 r34.2)])) rfl (W_q (q_move rfl) rfl ?_))); clear H a; intro a H
        rcases Bool.eq_false_or_eq_true (!decide (r34.2 = .nil)) with hg561 | hg561
        · replace H := H.know 19 rfl hg561
          replace hm := condT hm hg561
          refine n_no H rfl rfl (by decide) rfl (W_no rfl rfl (by decide) rfl (W_no rfl rfl (by decide) rfl (W_no rfl rfl (by decide) rfl (W_q (q_pickT rfl rfl) rfl (W_q (q_move rfl) rfl (W_no rfl rfl (by decide) rfl (W_no rfl rfl (by decide) rfl (W_no rfl rfl (by decide) rfl (W_no rfl rfl (by decide) rfl (W_no rfl rfl (by decide) rfl (W_q (q_pickT rfl rfl) rfl ?_))))))))))); clear H a; intro a H
          refine n_nil (then_normal ?_)
          obtain rfl := Option.some.inj hm; replace hm := hm59; try dsimp only at hm
          replace hS := hS.pick 7 rfl; dsimp only [List.eraseIdx] at hS
          replace hS := hS.pick 7 rfl; dsimp only [List.eraseIdx] at hS
          replace hS := hS.pick 7 rfl; dsimp only [List.eraseIdx] at hS
          replace hS := hS.pick 7 rfl; dsimp only [List.eraseIdx] at hS
          replace hS := hS.pick 7 rfl; dsimp only [List.eraseIdx] at hS
          replace hS := hS.pick 7 rfl; dsimp only [List.eraseIdx] at hS
          replace hS := hS.pick 7 rfl; dsimp only [List.eraseIdx] at hS
          replace hS := hS.pick 7 rfl; dsimp only [List.eraseIdx] at hS
          replace hS := hS.pick 9 rfl; dsimp only [List.eraseIdx] at hS
          replace hS := hS.take 9; simp only [List.take_succ_cons, List.take_zero] at hS
          exact join true H ⟨rfl, rfl, rfl, trivial⟩ ⟨hm, hS⟩
        · replace H := H.know 19 rfl hg561
          replace hm := condF hm hg561
          refine n_yes H rfl rfl (n_q H (q_load rfl ((hS.blk 9 rfl).ldAll ag68 sz68)) rfl (W_yes rfl rfl (W_q (q_load rfl ((hS.blk 0 rfl).ldAll ag74 sz74)) rfl (W_yes rfl rfl ?_)))); clear H a; intro a H
          replace hm := bindS hm; obtain ⟨r562, hr562, hm⟩ := hm
          refine n_call H rfl en28 (g_valid_Rest_w (A := A) (hG.ext hS.x) (⟨_, _, _, _, rfl, (hrp0_0.ext (Flat.mono _) hS.x), (hrp0_1.ext (Flat.mono _) hS.x), (hrp0_2.ext (Flat.mono _) hS.x), (hrp0_3.ext (Flat.mono _) hS.x)⟩ : RGPlan _ [.int .i64 a0.Id, .bool a0.Mobile, vp0_0, vp0_1, vp0_2, .int .i64 a0.Events, vp0_3] a0) (⟨_, _, _, _, _, _, _, rfl, ((hS.own 1 rfl).slr rfl (fun x _ => eGProc_len x)), ((hS.own 2 rfl).slr rfl (fun _ _ => rfl)), ((hS.own 3 rfl).slr rfl (fun _ _ => rfl)), ((hS.own 4 rfl).slr rfl (fun _ _ => rfl)), ((hS.own 5 rfl).slr rfl (fun _ _ => rfl)), (hS.deepSl 6 rfl), ((hS.own 7 rfl).slr rfl (fun x _ => eGPage_len x))⟩ : RGState _ [.int .i64 r34.1.Id, .int .i64 r34.1.Frame, .int .i64 r34.1.Epoch, u35, u36, u37, u38, u39, u40, u41] r34.1) hr562) rfl ?_
          clear H; intro u563 w565 hv; clear a; intro a H; obtain ⟨_, rfl, hE566⟩ := hv
          replace hS := hS.new hE566; simp only [List.cons_append, List.nil_append] at hS
          refine n_yes H rfl rfl (n_q H (q_cast (q_nnilI Tryd.underlying36 rfl rfl (hS.any 0 rfl : IsE A w565 u563 r562).form) (show _ = Value.bool (!decide (r562 = .nil)) by rw [IsErr.isNil (hS.any 0 rfl : IsE A w565 u563 r562)])) rfl (W_q (q_pickF rfl rfl) rfl (W_q (q_move rfl) rfl ?_))); clear H a; intro a H
          rcases Bool.eq_false_or_eq_true (!decide (r562 = .nil)) with hg568 | hg568
          · replace H := H.know 25 rfl hg568
            replace hm := condT hm hg568
            refine n_no H rfl rfl (by decide) rfl (W_no rfl rfl (by decide) rfl (W_no rfl rfl (by decide) rfl (W_no rfl rfl (by decide) rfl (W_no rfl rfl (by decide) rfl (W_q (q_pickT rfl rfl) rfl ?_))))); clear H a; intro a H
            refine n_nil (then_normal ?_)
            obtain rfl := Option.some.inj hm; replace hm := hm59; try dsimp only at hm
            replace hS := hS.pick 8 rfl; dsimp only [List.eraseIdx] at hS
            replace hS := hS.pick 8 rfl; dsimp only [List.eraseIdx] at hS
            replace hS := hS.pick 8 rfl; dsimp only [List.eraseIdx] at hS
            replace hS := hS.pick 8 rfl; dsimp only [List.eraseIdx] at hS
            replace hS := hS.pick 8 rfl; dsimp only [List.eraseIdx] at hS
            replace hS := hS.pick 8 rfl; dsimp only [List.eraseIdx] at hS
            replace hS := hS.pick 8 rfl; dsimp only [List.eraseIdx] at hS
            replace hS := hS.pick 8 rfl; dsimp only [List.eraseIdx] at hS
            replace hS := hS.pick 10 rfl; dsimp only [List.eraseIdx] at hS
            replace hS := hS.take 9; simp only [List.take_succ_cons, List.take_zero] at hS
            exact join true H ⟨rfl, rfl, rfl, trivial⟩ ⟨hm, hS⟩
          · replace H := H.know 25 rfl hg568
            replace hm := condF hm hg568
            refine n_yes H rfl rfl (n_q H (q_load rfl ((hS.blk 10 rfl).ldAll ag68 sz68)) rfl (W_yes rfl rfl (W_q (q_load rfl ((hS.blk 1 rfl).ldAll ag74 sz74)) rfl (W_yes rfl rfl ?_)))); clear H a; intro a H
            replace hm := bindS hm; obtain ⟨r569, hr569, hm⟩ := hm
            refine n_call H rfl en26 (g_valid_Faults_w (A := A) (hG.ext hS.x) (⟨_, _, _, _, rfl, (hrp0_0.ext (Flat.mono _) hS.x), (hrp0_1.ext (Flat.mono _) hS.x), (hrp0_2.ext (Flat.mono _) hS.x), (hrp0_3.ext (Flat.mono _) hS.x)⟩ : RGPlan _ [.int .i64 a0.Id, .bool a0.Mobile, vp0_0, vp0_1, vp0_2, .int .i64 a0.Events, vp0_3] a0) (⟨_, _, _, _, _, _, _, rfl, ((hS.own 2 rfl).slr rfl (fun x _ => eGProc_len x)), ((hS.own 3 rfl).slr rfl (fun _ _ => rfl)), ((hS.own 4 rfl).slr rfl (fun _ _ => rfl)), ((hS.own 5 rfl).slr rfl (fun _ _ => rfl)), ((hS.own 6 rfl).slr rfl (fun _ _ => rfl)), (hS.deepSl 7 rfl), ((hS.own 8 rfl).slr rfl (fun x _ => eGPage_len x))⟩ : RGState _ [.int .i64 r34.1.Id, .int .i64 r34.1.Frame, .int .i64 r34.1.Epoch, u35, u36, u37, u38, u39, u40, u41] r34.1) hr569) rfl ?_
            clear H; intro u570 w572 hv; clear a; intro a H; obtain ⟨_, rfl, hE573⟩ := hv
            replace hS := hS.new hE573; simp only [List.cons_append, List.nil_append] at hS
            refine n_yes H rfl rfl ?_
            obtain ⟨A575, c575, hv575, hl575, hm575⟩ := SlR.formV ((hS.own 0 rfl).slr rfl (fun _ _ => rfl))
            refine n_q H (q_lenV Tryd.underlying23 rfl hv575) rfl (W_yes rfl rfl (W_q (q_neqN (i := r569.length) (j := 0) rfl rfl) rfl (W_q (q_pickF rfl rfl) rfl ?_))); clear H a; intro a H
            refine n_nil (then_normal ?_)
            obtain rfl := Option.some.inj hm; replace hm := hm59; try dsimp only at hm
            replace hS := hS.pick 9 rfl; dsimp only [List.eraseIdx] at hS
            replace hS := hS.pick 9 rfl; dsimp only [List.eraseIdx] at hS
            replace hS := hS.pick 9 rfl; dsimp only [List.eraseIdx] at hS
            replace hS := hS.pick 9 rfl; dsimp only [List.eraseIdx] at hS
            replace hS := hS.pick 9 rfl; dsimp only [List.eraseIdx] at hS
            replace hS := hS.pick 9 rfl; dsimp only [List.eraseIdx] at hS
            replace hS := hS.pick 9 rfl; dsimp only [List.eraseIdx] at hS
            replace hS := hS.pick 9 rfl; dsimp only [List.eraseIdx] at hS
            replace hS := hS.pick 11 rfl; dsimp only [List.eraseIdx] at hS
            replace hS := hS.take 9; simp only [List.take_succ_cons, List.take_zero] at hS
            exact join (!decide (r569.length = 0)) H ⟨rfl, rfl, rfl, trivial⟩ ⟨hm, hS⟩
      · clear H hS hm a; intro q560 a w576 H hR
        simp only [ent, List.map_cons, List.map_nil] at H; (try dsimp only at hR); obtain ⟨hm, hS⟩ := hR; try dsimp only [g_law11_ValidBoots_J2] at hm
        refine c_cond H rfl (fun hc577 => ?_) (fun hc577 => ?_)
        · replace hm := condT hm hc577
          refine wp_seq (wp_region_lit (n_q H (q_assign rfl) rfl ?_)); clear H a; intro a H
          refine n_nil (then_normal (wp_ret (then_ret ?_)))
          obtain rfl := Option.some.inj hm
          replace hS := hS.take 0; simp only [List.take_succ_cons, List.take_zero] at hS
          refine ret1 H (.inr rfl) rfl rfl ?_
          exact ⟨rfl, hS.x⟩
        · replace hm := condF hm hc577
          refine wp_skip (then_normal (wp_seq (wp_region_lit (n_q H (q_load rfl ((hS.blk 1 rfl).ldAll ag74 sz74)) rfl ?_)))); clear H a; intro a H
          replace hm := bindS hm; obtain ⟨r578, hr578, hm⟩ := hm
          refine n_call H rfl en47 (g_r11_Copy_w (A := A) (⟨_, _, _, _, _, _, _, rfl, ((hS.own 2 rfl).slr rfl (fun x _ => eGProc_len x)), ((hS.own 3 rfl).slr rfl (fun _ _ => rfl)), ((hS.own 4 rfl).slr rfl (fun _ _ => rfl)), ((hS.own 5 rfl).slr rfl (fun _ _ => rfl)), ((hS.own 6 rfl).slr rfl (fun _ _ => rfl)), (hS.deepSl 7 rfl), ((hS.own 8 rfl).slr rfl (fun x _ => eGPage_len x))⟩ : RGState _ [.int .i64 r34.1.Id, .int .i64 r34.1.Frame, .int .i64 r34.1.Epoch, u35, u36, u37, u38, u39, u40, u41] r34.1) hr578) rfl ?_
          clear H; intro x595 w593 hv; clear a; intro a H; obtain ⟨u579, u580, u581, u582, u583, u584, u585, rfl, hE594⟩ := hv
          replace hS := hS.new hE594; simp only [List.cons_append, List.nil_append] at hS
          refine n_alloc H ze74 rfl ?_
          clear H; intro b596 w597 hN hE598 hs; clear a; intro a H
          replace hS := hS.newBlk hN hE598 hs; clear hN hs
          refine n_storeAll H rfl rfl (vs := [.int .i64 r578.Id, .int .i64 r578.Frame, .int .i64 r578.Epoch, u579, u580, u581, u582, u583, u584, u585]) rfl sz74 (hS.blk 0 rfl) rfl (by simp [(((hS.own 1 rfl).slr rfl (fun x _ => eGProc_len x))).one, (((hS.own 2 rfl).slr rfl (fun _ _ => rfl))).one, (((hS.own 3 rfl).slr rfl (fun _ _ => rfl))).one, (((hS.own 4 rfl).slr rfl (fun _ _ => rfl))).one, (((hS.own 5 rfl).slr rfl (fun _ _ => rfl))).one, ((hS.deepSl 6 rfl)).one, (((hS.own 7 rfl).slr rfl (fun x _ => eGPage_len x))).one]) ?_
          clear H; intro w599 hN hC600 hz; clear a; intro a H; replace hS := hS.setBlk hN hC600; clear hN hz
          refine n_nil (then_normal (wp_seq (wp_region_lit (n_q H (q_fieldAddr0 rfl fo74_0) rfl (W_q (q_load rfl ((hS.blk 0 rfl).ld ag3 rfl)) rfl (W_q (q_addW rfl rfl) rfl (W_q (q_fieldAddr0 rfl fo74_0) rfl ?_))))))); clear H a; intro a H
          refine n_store1 H rfl rfl sz3 (hS.blk 0 rfl) (by simp) rfl ?_
          clear H; intro w601 hN hC602 hz; clear a; intro a H; replace hS := hS.setBlk hN hC602; clear hN hz
          try simp only [List.set_cons_succ, List.set_cons_zero] at hS
          refine n_nil (then_normal (wp_seq (wp_seq (wp_region_lit (n_q H (q_load rfl ((hS.blk 8 rfl).ldAll ag68 sz68)) rfl (W_q (q_load rfl ((hS.blk 0 rfl).ldAll ag74 sz74)) rfl ?_)))))); clear H a; intro a H
          replace hm := bindS hm; obtain ⟨r603, hr603, hm⟩ := hm
          refine n_call H rfl en26 (g_valid_Faults_w (A := A) (hG.ext hS.x) (⟨_, _, _, _, rfl, (hrp0_0.ext (Flat.mono _) hS.x), (hrp0_1.ext (Flat.mono _) hS.x), (hrp0_2.ext (Flat.mono _) hS.x), (hrp0_3.ext (Flat.mono _) hS.x)⟩ : RGPlan _ [.int .i64 a0.Id, .bool a0.Mobile, vp0_0, vp0_1, vp0_2, .int .i64 a0.Events, vp0_3] a0) (⟨_, _, _, _, _, _, _, rfl, ((hS.own 1 rfl).slr rfl (fun x _ => eGProc_len x)), ((hS.own 2 rfl).slr rfl (fun _ _ => rfl)), ((hS.own 3 rfl).slr rfl (fun _ _ => rfl)), ((hS.own 4 rfl).slr rfl (fun _ _ => rfl)), ((hS.own 5 rfl).slr rfl (fun _ _ => rfl)), (hS.deepSl 6 rfl), ((hS.own 7 rfl).slr rfl (fun x _ => eGPage_len x))⟩ : RGState _ [.int .i64 (IntKind.i64.wrap (r578.Id + 1)), .int .i64 r578.Frame, .int .i64 r578.Epoch, u579, u580, u581, u582, u583, u584, u585] (⟨(IntKind.i64.wrap (r578.Id + 1)), r578.Frame, r578.Epoch, r578.Procs, r578.Ready, r578.Timers, r578.Up, r578.Sems, r578.Ports, r578.Pages⟩ : GState)) hr603) rfl ?_
          clear H; intro u604 w606 hv; clear a; intro a H; obtain ⟨_, rfl, hE607⟩ := hv
          replace hS := hS.new hE607; simp only [List.cons_append, List.nil_append] at hS
          refine n_buildSlice H Tryd.underlying23 sz3 ze3 rfl rfl rfl (cs := [.int .i64 1]) (by kernel_rfl) rfl ?_
          clear H; intro b611 w609 hN hE610 hs; clear a; intro a H
          replace hS := hS.newBlk hN hE610 hs; clear hN hs
          replace hS := hS.blkOwnL (e := eI) (k := 1) [1] rfl rfl (by simp [maxLen])
          replace hm := bindS hm; obtain ⟨r613, hr613, hm⟩ := hm
          refine n_call H rfl en48 (g_law11_ints_w (A := A) ((hS.own 1 rfl).slr rfl (fun _ _ => rfl)) ((hS.own 0 rfl).slr rfl (fun _ _ => rfl)) hr613) rfl ?_
          clear H; intro x616 w614 hv; clear a; intro a H; obtain ⟨rfl, hE615⟩ := hv
          replace hS := hS.ext hE615
          refine n_q H (q_not rfl) rfl ?_; clear H a; intro a H
          refine n_nil (then_normal (c_cond H rfl (fun hc617 => ?_) (fun hc617 => ?_)))
          · replace hm := condT hm hc617
            refine wp_seq (wp_region_lit (n_q H (q_assign rfl) rfl ?_)); clear H a; intro a H
            refine n_nil (then_normal (wp_ret (then_ret ?_)))
            obtain rfl := Option.some.inj hm
            replace hS := hS.take 0; simp only [List.take_succ_cons, List.take_zero] at hS
            refine ret1 H (.inr rfl) rfl rfl ?_
            exact ⟨rfl, hS.x⟩
          · replace hm := condF hm hc617
            refine wp_skip (then_normal (wp_seq (wp_region_lit (n_q H (q_load rfl ((hS.blk 11 rfl).ldAll ag74 sz74)) rfl ?_)))); clear H a; intro a H
            replace hm := bindS hm; obtain ⟨r618, hr618, hm⟩ := hm
            refine n_call H rfl en47 (g_r11_Copy_w (A := A) (⟨_, _, _, _, _, _, _, rfl, ((hS.own 12 rfl).slr rfl (fun x _ => eGProc_len x)), ((hS.own 13 rfl).slr rfl (fun _ _ => rfl)), ((hS.own 14 rfl).slr rfl (fun _ _ => rfl)), ((hS.own 15 rfl).slr rfl (fun _ _ => rfl)), ((hS.own 16 rfl).slr rfl (fun _ _ => rfl)), (hS.deepSl 17 rfl), ((hS.own 18 rfl).slr rfl (fun x _ => eGPage_len x))⟩ : RGState _ [.int .i64 r34.1.Id, .int .i64 r34.1.Frame, .int .i64 r34.1.Epoch, u35, u36, u37, u38, u39, u40, u41] r34.1) hr618) rfl ?_
            clear H; intro x635 w633 hv; clear a; intro a H; obtain ⟨u619, u620, u621, u622, u623, u624, u625, rfl, hE634⟩ := hv
            replace hS := hS.new hE634; simp only [List.cons_append, List.nil_append] at hS
            replace hS := hS.pick 9 rfl; dsimp only [List.eraseIdx] at hS
            refine n_storeAll H rfl rfl (vs := [.int .i64 r618.Id, .int .i64 r618.Frame, .int .i64 r618.Epoch, u619, u620, u621, u622, u623, u624, u625]) rfl sz74 (hS.blk 0 rfl) rfl (by simp [(((hS.own 1 rfl).slr rfl (fun x _ => eGProc_len x))).one, (((hS.own 2 rfl).slr rfl (fun _ _ => rfl))).one, (((hS.own 3 rfl).slr rfl (fun _ _ => rfl))).one, (((hS.own 4 rfl).slr rfl (fun _ _ => rfl))).one, (((hS.own 5 rfl).slr rfl (fun _ _ => rfl))).one, ((hS.deepSl 6 rfl)).one, (((hS.own 7 rfl).slr rfl (fun x _ => eGPage_len x))).one]) ?_
            clear H; intro w636 hN hC637 hz; clear a; intro a H; replace hS := hS.setBlk hN hC637; clear hN hz
            refine n_nil (then_normal (wp_seq (wp_region_lit (n_q H (q_fieldAddr0 rfl fo74_3) rfl (W_q (q_load rfl ((hS.blk 0 rfl).ld ag69 rfl)) rfl (W_q (q_build (cs := ((Vector.replicate 16 0).toList.map (Value.int .u32) ++ [.int .u32 0, .int .i64 0, .int .i64 0, .int .i64 0, .int .i64 0])) ze80 bd80 pl80 rfl (by kernel_rfl)) rfl ?_)))))); clear H a; intro a H
            refine n_buildSlice H Tryd.underlying69 sz80 ze80 rfl rfl rfl (cs := [(⟨(Vector.replicate 16 0), 0, 0, 0, 0, 0⟩ : GProc)].flatMap eGProc) ((fill_one (k := 21) (ds := eGProc (⟨(Vector.replicate 16 0), 0, 0, 0, 0, 0⟩ : GProc)) (by rfl) (by simp [eGProc]) (by rfl)).trans (by simp)) rfl ?_
            clear H; intro b640 w638 hN hE639 hs; clear a; intro a H
            replace hS := hS.newBlk hN hE639 hs; clear hN hs
            replace hS := hS.blkOwnL (e := eGProc) (k := 21) [(⟨(Vector.replicate 16 0), 0, 0, 0, 0, 0⟩ : GProc)] rfl (by simp [eGProc]) (by simp [maxLen])
            replace hS := hS.pick 2 rfl; dsimp only [List.eraseIdx] at hS
            replace hm := chkS hm; obtain ⟨hk642, hm⟩ := hm
            refine n_app (e := eGProc) H rfl rfl Tryd.underlying69 Tryd.underlying69 (by simp) el80 (hS.own 0 rfl) (((hS.own 1 rfl).slr rfl (fun x _ => eGProc_len x)).src (fun x _ => eGProc_len x)) eGProc_one hk642 (by simp only [maxLen]; omega) rfl ?_
            clear H; intro v645 w643 hN hC644 hb; clear a; intro a H; replace hS := hS.setOwn hN hC644 hb; clear hN hb
            refine n_q H (q_fieldAddr0 rfl fo74_3) rfl ?_; clear H a; intro a H
            replace hS := hS.pick 2 rfl; dsimp only [List.eraseIdx] at hS
            refine n_store1 H rfl rfl sz69 (hS.blk 0 rfl) (by simp) (((hS.own 1 rfl).slr rfl (fun x _ => eGProc_len x))).one ?_
            clear H; intro w647 hN hC648 hz; clear a; intro a H; replace hS := hS.setBlk hN hC648; clear hN hz
            try simp only [List.set_cons_succ, List.set_cons_zero] at hS
            refine n_nil (then_normal (wp_seq (wp_seq (wp_region_lit (n_q H (q_load rfl ((hS.blk 18 rfl).ldAll ag68 sz68)) rfl (W_q (q_load rfl ((hS.blk 0 rfl).ldAll ag74 sz74)) rfl ?_)))))); clear H a; intro a H
            replace hm := bindS hm; obtain ⟨r649, hr649, hm⟩ := hm
            refine n_call H rfl en26 (g_valid_Faults_w (A := A) (hG.ext hS.x) (⟨_, _, _, _, rfl, (hrp0_0.ext (Flat.mono _) hS.x), (hrp0_1.ext (Flat.mono _) hS.x), (hrp0_2.ext (Flat.mono _) hS.x), (hrp0_3.ext (Flat.mono _) hS.x)⟩ : RGPlan _ [.int .i64 a0.Id, .bool a0.Mobile, vp0_0, vp0_1, vp0_2, .int .i64 a0.Events, vp0_3] a0) (⟨_, _, _, _, _, _, _, rfl, ((hS.own 1 rfl).slr rfl (fun x _ => eGProc_len x)), ((hS.own 3 rfl).slr rfl (fun _ _ => rfl)), ((hS.own 4 rfl).slr rfl (fun _ _ => rfl)), ((hS.own 5 rfl).slr rfl (fun _ _ => rfl)), ((hS.own 6 rfl).slr rfl (fun _ _ => rfl)), (hS.deepSl 7 rfl), ((hS.own 8 rfl).slr rfl (fun x _ => eGPage_len x))⟩ : RGState _ [.int .i64 r618.Id, .int .i64 r618.Frame, .int .i64 r618.Epoch, v645, u620, u621, u622, u623, u624, u625] (⟨r618.Id, r618.Frame, r618.Epoch, (r618.Procs ++ [(⟨(Vector.replicate 16 0), 0, 0, 0, 0, 0⟩ : GProc)]), r618.Ready, r618.Timers, r618.Up, r618.Sems, r618.Ports, r618.Pages⟩ : GState)) hr649) rfl ?_
            clear H; intro u650 w652 hv; clear a; intro a H; obtain ⟨_, rfl, hE653⟩ := hv
            replace hS := hS.new hE653; simp only [List.cons_append, List.nil_append] at hS
            refine n_buildSlice H Tryd.underlying23 sz3 ze3 rfl rfl rfl (cs := [.int .i64 3]) (by kernel_rfl) rfl ?_
            clear H; intro b657 w655 hN hE656 hs; clear a; intro a H
            replace hS := hS.newBlk hN hE656 hs; clear hN hs
            replace hS := hS.blkOwnL (e := eI) (k := 1) [3] rfl rfl (by simp [maxLen])
            replace hm := bindS hm; obtain ⟨r659, hr659, hm⟩ := hm
            refine n_call H rfl en48 (g_law11_ints_w (A := A) ((hS.own 1 rfl).slr rfl (fun _ _ => rfl)) ((hS.own 0 rfl).slr rfl (fun _ _ => rfl)) hr659) rfl ?_
            clear H; intro x662 w660 hv; clear a; intro a H; obtain ⟨rfl, hE661⟩ := hv
            replace hS := hS.ext hE661
            refine n_q H (q_not rfl) rfl ?_; clear H a; intro a H
            refine n_nil (then_normal (c_cond H rfl (fun hc663 => ?_) (fun hc663 => ?_)))
            · replace hm := condT hm hc663
              refine wp_seq (wp_region_lit (n_q H (q_assign rfl) rfl ?_)); clear H a; intro a H
              refine n_nil (then_normal (wp_ret (then_ret ?_)))
              obtain rfl := Option.some.inj hm
              replace hS := hS.take 0; simp only [List.take_succ_cons, List.take_zero] at hS
              refine ret1 H (.inr rfl) rfl rfl ?_
              exact ⟨rfl, hS.x⟩
            · replace hm := condF hm hc663
              refine wp_skip (then_normal (wp_seq (wp_region_lit (n_q H (q_load rfl ((hS.blk 21 rfl).ldAll ag74 sz74)) rfl ?_)))); clear H a; intro a H
              replace hm := bindS hm; obtain ⟨r664, hr664, hm⟩ := hm
              refine n_call H rfl en47 (g_r11_Copy_w (A := A) (⟨_, _, _, _, _, _, _, rfl, ((hS.own 22 rfl).slr rfl (fun x _ => eGProc_len x)), ((hS.own 23 rfl).slr rfl (fun _ _ => rfl)), ((hS.own 24 rfl).slr rfl (fun _ _ => rfl)), ((hS.own 25 rfl).slr rfl (fun _ _ => rfl)), ((hS.own 26 rfl).slr rfl (fun _ _ => rfl)), (hS.deepSl 27 rfl), ((hS.own 28 rfl).slr rfl (fun x _ => eGPage_len x))⟩ : RGState _ [.int .i64 r34.1.Id, .int .i64 r34.1.Frame, .int .i64 r34.1.Epoch, u35, u36, u37, u38, u39, u40, u41] r34.1) hr664) rfl ?_
              clear H; intro x681 w679 hv; clear a; intro a H; obtain ⟨u665, u666, u667, u668, u669, u670, u671, rfl, hE680⟩ := hv
              replace hS := hS.new hE680; simp only [List.cons_append, List.nil_append] at hS
              replace hS := hS.pick 9 rfl; dsimp only [List.eraseIdx] at hS
              refine n_storeAll H rfl rfl (vs := [.int .i64 r664.Id, .int .i64 r664.Frame, .int .i64 r664.Epoch, u665, u666, u667, u668, u669, u670, u671]) rfl sz74 (hS.blk 0 rfl) rfl (by simp [(((hS.own 1 rfl).slr rfl (fun x _ => eGProc_len x))).one, (((hS.own 2 rfl).slr rfl (fun _ _ => rfl))).one, (((hS.own 3 rfl).slr rfl (fun _ _ => rfl))).one, (((hS.own 4 rfl).slr rfl (fun _ _ => rfl))).one, (((hS.own 5 rfl).slr rfl (fun _ _ => rfl))).one, ((hS.deepSl 6 rfl)).one, (((hS.own 7 rfl).slr rfl (fun x _ => eGPage_len x))).one]) ?_
              clear H; intro w682 hN hC683 hz; clear a; intro a H; replace hS := hS.setBlk hN hC683; clear hN hz
              refine n_nil (then_normal (wp_seq (wp_region_lit (n_q H (q_fieldAddr0 rfl fo74_8) rfl (W_q (q_load rfl ((hS.blk 0 rfl).ld ag71 rfl)) rfl (W_q (q_build (cs := [.slice none 0 0, .int .i64 0]) ze120 bd120 pl120 rfl (by kernel_rfl)) rfl ?_)))))); clear H a; intro a H
              refine n_buildSlice H Tryd.underlying71 sz120 ze120 rfl rfl rfl (cs := [.slice none 0 0, .int .i64 0]) (by kernel_rfl) rfl ?_
              clear H; intro b686 w684 hN hE685 hs; clear a; intro a H
              replace hS := hS.newBlk hN hE685 hs; clear hN hs
              replace hS := hS.trivAny (F := DIn 2 RGPort [[.slice none 0 0, .int .i64 0]] [(⟨([] : List ByteArray), 0⟩ : GPort)]) (fun w' => (DIn.cons rfl (by simp) ⟨_, rfl, (SlR.nil _ _ _)⟩ trivial))
              replace hm := chkS hm; obtain ⟨hk688, hm⟩ := hm
              replace hS := hS.pick 8 rfl; dsimp only [List.eraseIdx] at hS
              refine n_appD (css := [[.slice none 0 0, .int .i64 0]]) hS H rfl rfl Tryd.underlying71 Tryd.underlying71 (by simp) el120 (Src.blk (k := 2) (hS.blk 2 rfl) rfl) hk688 (by simp only [maxLen, List.length_cons, List.length_nil]; omega) rfl ?_
              clear H hS; intro v690 w689 hS; clear a; intro a H
              refine n_q H (q_fieldAddr0 rfl fo74_8) rfl ?_; clear H a; intro a H
              replace hS := hS.pick 2 rfl; dsimp only [List.eraseIdx] at hS
              refine n_store1 H rfl rfl sz71 (hS.blk 0 rfl) (by simp) ((hS.deepSl 1 rfl)).one ?_
              clear H; intro w692 hN hC693 hz; clear a; intro a H; replace hS := hS.setBlk hN hC693; clear hN hz
              try simp only [List.set_cons_succ, List.set_cons_zero] at hS
              refine n_nil (then_normal (wp_seq (wp_seq (wp_region_lit (n_q H (q_load rfl ((hS.blk 28 rfl).ldAll ag68 sz68)) rfl (W_q (q_load rfl ((hS.blk 0 rfl).ldAll ag74 sz74)) rfl ?_)))))); clear H a; intro a H
              replace hm := bindS hm; obtain ⟨r694, hr694, hm⟩ := hm
              refine n_call H rfl en26 (g_valid_Faults_w (A := A) (hG.ext hS.x) (⟨_, _, _, _, rfl, (hrp0_0.ext (Flat.mono _) hS.x), (hrp0_1.ext (Flat.mono _) hS.x), (hrp0_2.ext (Flat.mono _) hS.x), (hrp0_3.ext (Flat.mono _) hS.x)⟩ : RGPlan _ [.int .i64 a0.Id, .bool a0.Mobile, vp0_0, vp0_1, vp0_2, .int .i64 a0.Events, vp0_3] a0) (⟨_, _, _, _, _, _, _, rfl, ((hS.own 3 rfl).slr rfl (fun x _ => eGProc_len x)), ((hS.own 4 rfl).slr rfl (fun _ _ => rfl)), ((hS.own 5 rfl).slr rfl (fun _ _ => rfl)), ((hS.own 6 rfl).slr rfl (fun _ _ => rfl)), ((hS.own 7 rfl).slr rfl (fun _ _ => rfl)), (hS.deepSl 1 rfl), ((hS.own 8 rfl).slr rfl (fun x _ => eGPage_len x))⟩ : RGState _ [.int .i64 r664.Id, .int .i64 r664.Frame, .int .i64 r664.Epoch, u665, u666, u667, u668, u669, v690, u671] (⟨r664.Id, r664.Frame, r664.Epoch, r664.Procs, r664.Ready, r664.Timers, r664.Up, r664.Sems, (r664.Ports ++ [(⟨([] : List ByteArray), 0⟩ : GPort)]), r664.Pages⟩ : GState)) hr694) rfl ?_
              clear H; intro u695 w697 hv; clear a; intro a H; obtain ⟨_, rfl, hE698⟩ := hv
              replace hS := hS.new hE698; simp only [List.cons_append, List.nil_append] at hS
              refine n_buildSlice H Tryd.underlying23 sz3 ze3 rfl rfl rfl (cs := [.int .i64 3]) (by kernel_rfl) rfl ?_
              clear H; intro b702 w700 hN hE701 hs; clear a; intro a H
              replace hS := hS.newBlk hN hE701 hs; clear hN hs
              replace hS := hS.blkOwnL (e := eI) (k := 1) [3] rfl rfl (by simp [maxLen])
              replace hm := bindS hm; obtain ⟨r704, hr704, hm⟩ := hm
              refine n_call H rfl en48 (g_law11_ints_w (A := A) ((hS.own 1 rfl).slr rfl (fun _ _ => rfl)) ((hS.own 0 rfl).slr rfl (fun _ _ => rfl)) hr704) rfl ?_
              clear H; intro x707 w705 hv; clear a; intro a H; obtain ⟨rfl, hE706⟩ := hv
              replace hS := hS.ext hE706
              refine n_q H (q_not rfl) rfl ?_; clear H a; intro a H
              refine n_nil (then_normal (c_cond H rfl (fun hc708 => ?_) (fun hc708 => ?_)))
              · replace hm := condT hm hc708
                refine wp_seq (wp_region_lit (n_q H (q_assign rfl) rfl ?_)); clear H a; intro a H
                refine n_nil (then_normal (wp_ret (then_ret ?_)))
                obtain rfl := Option.some.inj hm
                replace hS := hS.take 0; simp only [List.take_succ_cons, List.take_zero] at hS
                refine ret1 H (.inr rfl) rfl rfl ?_
                exact ⟨rfl, hS.x⟩
              · replace hm := condF hm hc708
                refine wp_skip (then_normal (wp_seq (wp_region_lit (n_q H (q_load rfl ((hS.blk 31 rfl).ldAll ag74 sz74)) rfl ?_)))); clear H a; intro a H
                replace hm := bindS hm; obtain ⟨r709, hr709, hm⟩ := hm
                refine n_call H rfl en47 (g_r11_Copy_w (A := A) (⟨_, _, _, _, _, _, _, rfl, ((hS.own 32 rfl).slr rfl (fun x _ => eGProc_len x)), ((hS.own 33 rfl).slr rfl (fun _ _ => rfl)), ((hS.own 34 rfl).slr rfl (fun _ _ => rfl)), ((hS.own 35 rfl).slr rfl (fun _ _ => rfl)), ((hS.own 36 rfl).slr rfl (fun _ _ => rfl)), (hS.deepSl 37 rfl), ((hS.own 38 rfl).slr rfl (fun x _ => eGPage_len x))⟩ : RGState _ [.int .i64 r34.1.Id, .int .i64 r34.1.Frame, .int .i64 r34.1.Epoch, u35, u36, u37, u38, u39, u40, u41] r34.1) hr709) rfl ?_
                clear H; intro x726 w724 hv; clear a; intro a H; obtain ⟨u710, u711, u712, u713, u714, u715, u716, rfl, hE725⟩ := hv
                replace hS := hS.new hE725; simp only [List.cons_append, List.nil_append] at hS
                replace hS := hS.pick 9 rfl; dsimp only [List.eraseIdx] at hS
                refine n_storeAll H rfl rfl (vs := [.int .i64 r709.Id, .int .i64 r709.Frame, .int .i64 r709.Epoch, u710, u711, u712, u713, u714, u715, u716]) rfl sz74 (hS.blk 0 rfl) rfl (by simp [(((hS.own 1 rfl).slr rfl (fun x _ => eGProc_len x))).one, (((hS.own 2 rfl).slr rfl (fun _ _ => rfl))).one, (((hS.own 3 rfl).slr rfl (fun _ _ => rfl))).one, (((hS.own 4 rfl).slr rfl (fun _ _ => rfl))).one, (((hS.own 5 rfl).slr rfl (fun _ _ => rfl))).one, ((hS.deepSl 6 rfl)).one, (((hS.own 7 rfl).slr rfl (fun x _ => eGPage_len x))).one]) ?_
                clear H; intro w727 hN hC728 hz; clear a; intro a H; replace hS := hS.setBlk hN hC728; clear hN hz
                refine n_nil (then_normal (wp_seq (wp_region_lit (n_q H (q_fieldAddr0 rfl fo74_9) rfl (W_q (q_load rfl ((hS.blk 0 rfl).ld ag72 rfl)) rfl ?_))))); clear H a; intro a H
                obtain ⟨A729, c729, hv729, hl729, hm729⟩ := SlR.formV ((hS.own 7 rfl).slr rfl (fun x _ => eGPage_len x))
                replace hm := chkS hm; obtain ⟨hk730, hm⟩ := hm
                obtain ⟨A731, c731, hV731, hsub731⟩ := sub_sl 66 (Flat eGPage) A729 r709.Pages.length c729 r709.Pages (lo := (1 : Int)) (hi := ((r709.Pages.length : Nat) : Int)) hk730.1 hk730.2.1 hk730.2.2
                rw [← hv729] at hsub731
                refine n_q H (q_cast (q_sliceFrom Tryd.underlying72 sz96 (show _ = some (Value.slice A729 r709.Pages.length c729) by rw [← hv729]; rfl) rfl hk730.1 (by omega)) (show _ = Value.slice A731 (((r709.Pages.length : Nat) : Int).toNat - (1 : Int).toNat) c731 by rw [← hV731]; simp)) rfl (W_q (q_fieldAddr0 rfl fo74_9) rfl ?_); clear H a; intro a H
                refine n_store1 H rfl rfl sz72 (hS.blk 0 rfl) (by simp) ((hsub731 _ ((hS.own 7 rfl).slr rfl (fun x _ => eGPage_len x)))).one ?_
                clear H; intro w732 hN hC733 hz; clear a; intro a H; replace hS := hS.setBlk hN hC733; clear hN hz
                try simp only [List.set_cons_succ, List.set_cons_zero] at hS
                refine n_nil (then_normal (wp_seq (wp_region_lit (n_q H (q_load rfl ((hS.blk 37 rfl).ldAll ag68 sz68)) rfl (W_q (q_load rfl ((hS.blk 0 rfl).ldAll ag74 sz74)) rfl ?_))))); clear H a; intro a H
                replace hm := bindS hm; obtain ⟨r734, hr734, hm⟩ := hm
                refine n_call H rfl en26 (g_valid_Faults_w (A := A) (hG.ext hS.x) (⟨_, _, _, _, rfl, (hrp0_0.ext (Flat.mono _) hS.x), (hrp0_1.ext (Flat.mono _) hS.x), (hrp0_2.ext (Flat.mono _) hS.x), (hrp0_3.ext (Flat.mono _) hS.x)⟩ : RGPlan _ [.int .i64 a0.Id, .bool a0.Mobile, vp0_0, vp0_1, vp0_2, .int .i64 a0.Events, vp0_3] a0) (⟨_, _, _, _, _, _, _, rfl, ((hS.own 1 rfl).slr rfl (fun x _ => eGProc_len x)), ((hS.own 2 rfl).slr rfl (fun _ _ => rfl)), ((hS.own 3 rfl).slr rfl (fun _ _ => rfl)), ((hS.own 4 rfl).slr rfl (fun _ _ => rfl)), ((hS.own 5 rfl).slr rfl (fun _ _ => rfl)), (hS.deepSl 6 rfl), (hsub731 _ ((hS.own 7 rfl).slr rfl (fun x _ => eGPage_len x)))⟩ : RGState _ [.int .i64 r709.Id, .int .i64 r709.Frame, .int .i64 r709.Epoch, u710, u711, u712, u713, u714, u715, .slice A731 (((r709.Pages.length : Nat) : Int).toNat - (1 : Int).toNat) c731] (⟨r709.Id, r709.Frame, r709.Epoch, r709.Procs, r709.Ready, r709.Timers, r709.Up, r709.Sems, r709.Ports, ((r709.Pages.drop (1 : Int).toNat).take (((r709.Pages.length : Nat) : Int).toNat - (1 : Int).toNat))⟩ : GState)) hr734) rfl ?_
                clear H; intro u735 w737 hv; clear a; intro a H; obtain ⟨_, rfl, hE738⟩ := hv
                replace hS := hS.new hE738; simp only [List.cons_append, List.nil_append] at hS
                refine n_q H (q_assign rfl) rfl ?_; clear H a; intro a H
                refine n_nil (then_normal (wp_seq (wp_region_lit (n_q H (q_move rfl) rfl ?_)))); clear H a; intro a H
                obtain ⟨A740, c740, hv740, hl740, hm740⟩ := SlR.formV ((hS.own 0 rfl).slr rfl (fun _ _ => rfl))
                refine n_q H (q_lenV Tryd.underlying23 rfl hv740) rfl (W_q (q_gtrN (i := r734.length) (j := 0) rfl rfl) rfl (W_q (q_move rfl) rfl ?_)); clear H a; intro a H
                rcases Bool.eq_false_or_eq_true (decide (0 < r734.length)) with hg741 | hg741
                · replace H := H.know 84 rfl hg741
                  replace hm := condT hm hg741
                  refine n_yes H rfl rfl (n_q H (q_move rfl) rfl (W_yes rfl rfl ?_)); clear H a; intro a H
                  replace hm := bindS hm; obtain ⟨x742, hx742, hm⟩ := hm
                  obtain ⟨adx742, hAx742⟩ := SlR.adV ((hS.own 0 rfl).slr rfl (fun _ _ => rfl)) hv740 hx742
                  refine n_q H (q_ixV (i := 0) Tryd.underlying23 sz3 rfl hv740 hAx742 rfl (natI hx742)) rfl (W_yes rfl rfl (W_q (q_load rfl (SlR.ldOneV ((hS.own 0 rfl).slr rfl (fun _ _ => rfl)) hv740 hAx742 ag3 hx742 rfl)) rfl (W_yes rfl rfl (W_q (q_eqlD rfl rfl) rfl (W_q (q_pickT rfl rfl) rfl (W_q (q_assign rfl) rfl ?_)))))); clear H a; intro a H
                  refine n_nil (then_normal (wp_ret ?_))
                  obtain rfl := Option.some.inj hm
                  replace hS := hS.take 0; simp only [List.take_succ_cons, List.take_zero] at hS
                  refine ret1 H (.inr rfl) rfl rfl ?_
                  exact ⟨rfl, hS.x⟩
                · replace H := H.know 84 rfl hg741
                  replace hm := condF hm hg741
                  refine n_no H rfl rfl (by decide) rfl (W_no rfl rfl (by decide) rfl (W_no rfl rfl (by decide) rfl (W_no rfl rfl (by decide) rfl (W_q (q_pickF rfl rfl) rfl (W_q (q_assign rfl) rfl ?_))))); clear H a; intro a H
                  refine n_nil (then_normal (wp_ret ?_))
                  obtain rfl := Option.some.inj hm
                  replace hS := hS.take 0; simp only [List.take_succ_cons, List.take_zero] at hS
                  refine ret1 H (.inr rfl) rfl rfl ?_
                  exact ⟨rfl, hS.x⟩
end Go.Proofs.YtjoihegnjjjdaaaDoor
