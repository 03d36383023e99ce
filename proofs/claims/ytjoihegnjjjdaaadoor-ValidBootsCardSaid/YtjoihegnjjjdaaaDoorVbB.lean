/- Vb (written by wip/tools) -/
import Derived.Test.YtjoihegnjjjdaaaDoorVbA
set_option linter.unusedVariables false
set_option linter.unusedSimpArgs false
set_option maxRecDepth 10000
namespace Go.Proofs.YtjoihegnjjjdaaaDoor
open Go Go.RowKit
theorem ag137 : aggB Tryd.prog 137 = some true := by kernel_rfl
theorem ag139 : aggB Tryd.prog 139 = some true := by kernel_rfl
theorem ag28 : aggB Tryd.prog 28 = some false := by kernel_rfl
theorem ag4 : aggB Tryd.prog 4 = some false := by kernel_rfl
theorem ag72 : aggB Tryd.prog 72 = some false := by kernel_rfl
theorem ag74 : aggB Tryd.prog 74 = some true := by kernel_rfl
theorem bd120 : bdB Tryd.prog 120 = true := by kernel_rfl
theorem pl120 : placesB Tryd.prog 120 = some #[(0, 1), (1, 1)] := by kernel_rfl
theorem bd139 : bdB Tryd.prog 139 = true := by kernel_rfl
theorem pl139 : placesB Tryd.prog 139 = some #[(0, 7), (7, 10)] := by kernel_rfl
theorem bd167 : bdB Tryd.prog 167 = true := by kernel_rfl
theorem pl167 : placesB Tryd.prog 167 = some #[(0, 1), (1, 1), (2, 1)] := by kernel_rfl
theorem bd169 : bdB Tryd.prog 169 = true := by kernel_rfl
theorem pl169 : placesB Tryd.prog 169 = some #[(0, 1), (1, 1), (2, 1), (3, 1)] := by kernel_rfl
theorem bd68 : bdB Tryd.prog 68 = true := by kernel_rfl
theorem pl68 : placesB Tryd.prog 68 = some #[(0, 1), (1, 1), (2, 1), (3, 1), (4, 1), (5, 1), (6, 1)] := by kernel_rfl
theorem bd74 : bdB Tryd.prog 74 = true := by kernel_rfl
theorem pl74 : placesB Tryd.prog 74 = some #[(0, 1), (1, 1), (2, 1), (3, 1), (4, 1), (5, 1), (6, 1), (7, 1), (8, 1), (9, 1)] := by kernel_rfl
theorem bd80 : bdB Tryd.prog 80 = true := by kernel_rfl
theorem pl80 : placesB Tryd.prog 80 = some #[(0, 16), (16, 1), (17, 1), (18, 1), (19, 1), (20, 1)] := by kernel_rfl
theorem bd87 : bdB Tryd.prog 87 = true := by kernel_rfl
theorem pl87 : placesB Tryd.prog 87 = some #[(0, 1), (1, 1)] := by kernel_rfl
theorem bd96 : bdB Tryd.prog 96 = true := by kernel_rfl
theorem pl96 : placesB Tryd.prog 96 = some #[(0, 1), (1, 1), (2, 64)] := by kernel_rfl
theorem el3 : ElemOk Tryd.prog 3 1 8 [.int .i64 0] := ⟨by kernel_rfl, by kernel_rfl, by kernel_rfl, rfl, by decide⟩
theorem en101 : entersB Tryd.prog 101 = true := by kernel_rfl
theorem en102 : entersB Tryd.prog 102 = true := by kernel_rfl
theorem en103 : entersB Tryd.prog 103 = true := by kernel_rfl
theorem en104 : entersB Tryd.prog 104 = true := by kernel_rfl
theorem en105 : entersB Tryd.prog 105 = true := by kernel_rfl
theorem en106 : entersB Tryd.prog 106 = true := by kernel_rfl
theorem en107 : entersB Tryd.prog 107 = true := by kernel_rfl
theorem en108 : entersB Tryd.prog 108 = true := by kernel_rfl
theorem en109 : entersB Tryd.prog 109 = true := by kernel_rfl
theorem en110 : entersB Tryd.prog 110 = true := by kernel_rfl
theorem en111 : entersB Tryd.prog 111 = true := by kernel_rfl
theorem en114 : entersB Tryd.prog 114 = true := by kernel_rfl
theorem en115 : entersB Tryd.prog 115 = true := by kernel_rfl
theorem en116 : entersB Tryd.prog 116 = true := by kernel_rfl
theorem en118 : entersB Tryd.prog 118 = true := by kernel_rfl
theorem en119 : entersB Tryd.prog 119 = true := by kernel_rfl
theorem en120 : entersB Tryd.prog 120 = true := by kernel_rfl
theorem en121 : entersB Tryd.prog 121 = true := by kernel_rfl
theorem en23 : entersB Tryd.prog 23 = true := by kernel_rfl
theorem en26 : entersB Tryd.prog 26 = true := by kernel_rfl
theorem en27 : entersB Tryd.prog 27 = true := by kernel_rfl
theorem en28 : entersB Tryd.prog 28 = true := by kernel_rfl
theorem en29 : entersB Tryd.prog 29 = true := by kernel_rfl
theorem en48 : entersB Tryd.prog 48 = true := by kernel_rfl
theorem en61 : entersB Tryd.prog 61 = true := by kernel_rfl
theorem en62 : entersB Tryd.prog 62 = true := by kernel_rfl
theorem en63 : entersB Tryd.prog 63 = true := by kernel_rfl
theorem en64 : entersB Tryd.prog 64 = true := by kernel_rfl
theorem fo74_0 : fOff Tryd.prog 74 0 = some 0 := by kernel_rfl
theorem fo74_1 : fOff Tryd.prog 74 1 = some 1 := by kernel_rfl
theorem fo74_2 : fOff Tryd.prog 74 2 = some 2 := by kernel_rfl
theorem fo74_6 : fOff Tryd.prog 74 6 = some 6 := by kernel_rfl
theorem fo74_7 : fOff Tryd.prog 74 7 = some 7 := by kernel_rfl
theorem fo74_9 : fOff Tryd.prog 74 9 = some 9 := by kernel_rfl
theorem fo96_0 : fOff Tryd.prog 96 0 = some 0 := by kernel_rfl
theorem sz137 : sizeB Tryd.prog 137 = some 17 := by kernel_rfl
theorem sz139 : sizeB Tryd.prog 139 = some 17 := by kernel_rfl
theorem sz4 : sizeB Tryd.prog 4 = some 1 := by kernel_rfl
theorem sz74 : sizeB Tryd.prog 74 = some 10 := by kernel_rfl
theorem sz96 : sizeB Tryd.prog 96 = some 66 := by kernel_rfl
theorem ze120 : zeroB Tryd.prog 120 = some [.slice none 0 0, .int .i64 0] := by kernel_rfl
theorem ze137 : zeroB Tryd.prog 137 = some [.bool false, .bool false, .bool false, .bool false, .bool false, .bool false, .bool false, .bool false, .bool false, .bool false, .bool false, .bool false, .bool false, .bool false, .bool false, .bool false, .bool false] := by kernel_rfl
theorem ze139 : zeroB Tryd.prog 139 = some [.int .i64 0, .bool false, .slice none 0 0, .slice none 0 0, .slice none 0 0, .int .i64 0, .slice none 0 0, .int .i64 0, .int .i64 0, .int .i64 0, .slice none 0 0, .slice none 0 0, .slice none 0 0, .slice none 0 0, .slice none 0 0, .slice none 0 0, .slice none 0 0] := by kernel_rfl
theorem ze3 : zeroB Tryd.prog 3 = some [.int .i64 0] := by kernel_rfl
theorem ze4 : zeroB Tryd.prog 4 = some [.bool false] := by kernel_rfl
theorem ze68 : zeroB Tryd.prog 68 = some [.int .i64 0, .bool false, .slice none 0 0, .slice none 0 0, .slice none 0 0, .int .i64 0, .slice none 0 0] := by kernel_rfl
theorem ze74 : zeroB Tryd.prog 74 = some [.int .i64 0, .int .i64 0, .int .i64 0, .slice none 0 0, .slice none 0 0, .slice none 0 0, .slice none 0 0, .slice none 0 0, .slice none 0 0, .slice none 0 0] := by kernel_rfl
theorem ze96 : zeroB Tryd.prog 96 = some [.int .i64 0, .bool false, .int .u8 0, .int .u8 0, .int .u8 0, .int .u8 0, .int .u8 0, .int .u8 0, .int .u8 0, .int .u8 0, .int .u8 0, .int .u8 0, .int .u8 0, .int .u8 0, .int .u8 0, .int .u8 0, .int .u8 0, .int .u8 0, .int .u8 0, .int .u8 0, .int .u8 0, .int .u8 0, .int .u8 0, .int .u8 0, .int .u8 0, .int .u8 0, .int .u8 0, .int .u8 0, .int .u8 0, .int .u8 0, .int .u8 0, .int .u8 0, .int .u8 0, .int .u8 0, .int .u8 0, .int .u8 0, .int .u8 0, .int .u8 0, .int .u8 0, .int .u8 0, .int .u8 0, .int .u8 0, .int .u8 0, .int .u8 0, .int .u8 0, .int .u8 0, .int .u8 0, .int .u8 0, .int .u8 0, .int .u8 0, .int .u8 0, .int .u8 0, .int .u8 0, .int .u8 0, .int .u8 0, .int .u8 0, .int .u8 0, .int .u8 0, .int .u8 0, .int .u8 0, .int .u8 0, .int .u8 0, .int .u8 0, .int .u8 0, .int .u8 0, .int .u8 0] := by kernel_rfl

theorem g_valid_asked_rights_w {w : World} {A : Nat → Addr} {cs0 : List Value} {a0 : GValidAsked} (h0 : RGValidAsked w cs0 a0) {r : Bool} (hm : g_valid_asked_rights a0 = some r) :
    Calls Tryd.prog 115 [.agg cs0.toArray].toArray w (Ret fun u w' => u = .bool r ∧ Ext w w') := by
  obtain ⟨vp0_0, vp0_1, vp0_2, vp0_3, vp0_4, vp0_5, vp0_6, vp0_7, vp0_8, vp0_9, vp0_10, rfl, hrp0_0, hrp0_1, hrp0_2, hrp0_3, hrp0_4, hrp0_5, hrp0_6, hrp0_7, hrp0_8, hrp0_9, hrp0_10⟩ := h0
  have hS := St.begin NB w
  unfold g_valid_asked_rights at hm
  refine enter Tryd.func115 rfl rfl rfl ?_; intro a H; dsimp only [enumL, Nat.zero_add, Nat.reduceAdd] at H
  refine wp_seq (wp_region_lit (n_box H rfl (cs := [.int .i64 a0.p_.Id, .bool a0.p_.Mobile, vp0_0, vp0_1, vp0_2, .int .i64 a0.p_.Events, vp0_3, .int .i64 a0.s_.Id, .int .i64 a0.s_.Frame, .int .i64 a0.s_.Epoch, vp0_4, vp0_5, vp0_6, vp0_7, vp0_8, vp0_9, vp0_10]) rfl rfl ?_))
  clear H; intro b21 w22 hN hE23 hs; clear a; intro a H
  replace hS := hS.newBlk hN hE23 hs; clear hN hs
  refine n_q H (q_assign rfl) rfl ?_; clear H a; intro a H
  refine n_nil (then_normal (wp_seq (wp_seq (wp_region_lit (n_q H (q_fieldAddr0 rfl fo139_0) rfl (W_q (q_fieldAddr0 rfl fo68_2) rfl (W_q (q_load rfl ((hS.blk 0 rfl).ld ag64 rfl)) rfl ?_))))))); clear H a; intro a H
  obtain ⟨A24, c24, hv24, hl24, hm24⟩ := SlR.formV (hrp0_0.ext (Flat.mono _) hS.x)
  refine n_q H (q_lenV Tryd.underlying64 rfl hv24) rfl (W_q (q_fieldAddr0 rfl fo139_1) rfl (W_q (q_fieldAddrO rfl fo74_9) rfl (W_q (q_load rfl ((hS.blk 0 rfl).ld ag72 rfl)) rfl ?_))); clear H a; intro a H
  obtain ⟨A25, c25, hv25, hl25, hm25⟩ := SlR.formV (hrp0_10.ext (Flat.mono _) hS.x)
  refine n_q H (q_lenV Tryd.underlying72 rfl hv25) rfl (W_q (q_min rfl rfl) rfl (W_q (q_move rfl) rfl ?_)); clear H a; intro a H
  refine n_nil (then_normal (wp_block ?_))
  replace hm := bindS hm; obtain ⟨q26, hm, hm26⟩ := hm; replace hm := iter_some hm; obtain ⟨n26, hm⟩ := hm
  refine c_loop (σ := Nat × Int) (fun (m, z28) => [(1, .pointer (some ⟨b21, 0, none⟩)), (12, .int .i64 (if ((a0.s_.Pages.length : Nat) : Int) < ((a0.p_.Pages.length : Nat) : Int) then ((a0.s_.Pages.length : Nat) : Int) else ((a0.p_.Pages.length : Nat) : Int))), (13, .int .i64 z28)]) (fun (m, z28) wl => iterN (g_valid_asked_rights_L1 a0) m z28 = some q26 ∧ St NB w wl [blkR b21 [.int .i64 a0.p_.Id, .bool a0.p_.Mobile, vp0_0, vp0_1, vp0_2, .int .i64 a0.p_.Events, vp0_3, .int .i64 a0.s_.Id, .int .i64 a0.s_.Frame, .int .i64 a0.s_.Epoch, vp0_4, vp0_5, vp0_6, vp0_7, vp0_8, vp0_9, vp0_10] 139]) (fun (m, z28) => m) (n26, 0) H ⟨rfl, rfl, rfl, trivial⟩ ⟨hm, hS⟩ ?_
  clear H hS hm a; intro xx a w29 H hR; obtain ⟨m, z28⟩ := xx; simp only [ent, List.map_cons, List.map_nil] at H; (try dsimp only at hR); obtain ⟨hm, hS⟩ := hR
  replace hm := iterN_step hm; obtain ⟨m26, o26, rfl, hm, hn26⟩ := hm; try dsimp only [g_valid_asked_rights_L1] at hm
  refine wp_seq (wp_region_lit (n_q H (q_lss rfl rfl) rfl ?_)); clear H a; intro a H
  refine n_nil (then_normal (wp_seq (c_cond H rfl (fun hc30 => ?_) (fun hc30 => ?_))))
  · replace hm := condT hm hc30
    refine wp_skip (then_normal (wp_seq (wp_block (wp_seq (wp_region_lit (n_q H (q_move rfl) rfl (W_q (q_assign rfl) rfl ?_))))))); clear H a; intro a H
    refine n_nil (then_normal (wp_seq (c_quiet (by kernel_rfl) (by kernel_rfl) ?_)))
    refine qq_q H (q_fieldAddr0 rfl fo139_0) rfl ?_; clear H a; intro a H
    refine qq_q H (q_fieldAddr0 rfl fo68_2) rfl ?_; clear H a; intro a H
    refine qq_q H (q_load rfl ((hS.blk 0 rfl).ld ag64 rfl)) rfl ?_; clear H a; intro a H
    refine qq_q H (q_move rfl) rfl ?_; clear H a; intro a H
    replace hm := bindS hm; obtain ⟨x31, hx31, hm⟩ := hm
    obtain ⟨h0x31, h1x31, hxx31⟩ := rdI_some hx31
    obtain ⟨adx31, hAx31⟩ := SlR.adV (hrp0_0.ext (Flat.mono _) hS.x) hv24 hxx31
    refine qq_q H (q_ixVI Tryd.underlying64 sz87 rfl hv24 hAx31 rfl h0x31 h1x31) rfl ?_; clear H a; intro a H
    refine qq_q H (q_fieldAddr rfl fo87_0) rfl ?_; clear H a; intro a H
    refine qq_q H (q_load rfl (SlR.ldCellV (j := 0) (hrp0_0.ext (Flat.mono _) hS.x) hv24 hAx31 ag3 hxx31 rfl)) rfl ?_; clear H a; intro a H
    refine qq_q H (q_fieldAddr0 rfl fo139_1) rfl ?_; clear H a; intro a H
    refine qq_q H (q_fieldAddrO rfl fo74_9) rfl ?_; clear H a; intro a H
    refine qq_q H (q_load rfl ((hS.blk 0 rfl).ld ag72 rfl)) rfl ?_; clear H a; intro a H
    refine qq_q H (q_move rfl) rfl ?_; clear H a; intro a H
    replace hm := bindS hm; obtain ⟨x32, hx32, hm⟩ := hm
    obtain ⟨h0x32, h1x32, hxx32⟩ := rdI_some hx32
    obtain ⟨adx32, hAx32⟩ := SlR.adV (hrp0_10.ext (Flat.mono _) hS.x) hv25 hxx32
    refine qq_q H (q_ixVI Tryd.underlying72 sz96 rfl hv25 hAx32 rfl h0x32 h1x32) rfl ?_; clear H a; intro a H
    refine qq_q H (q_fieldAddr rfl fo96_0) rfl ?_; clear H a; intro a H
    refine qq_q H (q_load rfl (SlR.ldCellV (j := 0) (u := Value.int .i64 x32.Rights) (hrp0_10.ext (Flat.mono _) hS.x) hv25 hAx32 ag3 hxx32 (by simp [eGPage]))) rfl ?_; clear H a; intro a H
    refine qq_q H (q_neqD rfl rfl) rfl ?_; clear H a; intro a H
    refine qq_nil ?_; intro w33 hE34
    replace hS := hS.ext hE34
    refine then_normal (c_cond H rfl (fun hc35 => ?_) (fun hc35 => ?_))
    · replace hm := condT hm hc35
      refine wp_seq (wp_region_lit (n_q H (q_assign rfl) rfl ?_)); clear H a; intro a H
      refine n_nil (then_normal (wp_ret (block_ret (then_ret (then_ret (block_ret (then_ret ?_)))))))
      obtain rfl := Option.some.inj hm; have hz : _ = q26 := hn26; subst hz; replace hm := hm26; try dsimp only at hm
      obtain rfl := Option.some.inj hm
      replace hS := hS.take 0; simp only [List.take_succ_cons, List.take_zero] at hS
      refine ret1 H (.inr rfl) rfl rfl ?_
      exact ⟨rfl, hS.x⟩
    · replace hm := condF hm hc35
      refine wp_skip (block_normal (then_normal (wp_region_lit (n_q H (q_addW rfl rfl) rfl (W_q (q_move rfl) rfl ?_))))); clear H a; intro a H
      refine n_nil (then_normal ?_)
      obtain rfl := Option.some.inj hm
      exact round (m26, (IntKind.i64.wrap (z28 + 1))) H ⟨rfl, rfl, rfl, trivial⟩ ⟨hn26, hS⟩ (Nat.lt_succ_self _)
  · replace hm := condF hm hc30
    refine wp_exit (then_exit (then_exit (block_exit ?_)))
    obtain rfl := Option.some.inj hm; have hz : _ = q26 := hn26; subst hz; replace hm := hm26; try dsimp only at hm
    refine then_normal (wp_seq (wp_region_lit (n_q H (q_assign rfl) rfl ?_))); clear H a; intro a H
    refine n_nil (then_normal (wp_ret ?_))
    obtain rfl := Option.some.inj hm
    replace hS := hS.take 0; simp only [List.take_succ_cons, List.take_zero] at hS
    refine ret1 H (.inr rfl) rfl rfl ?_
    exact ⟨rfl, hS.x⟩
theorem g_valid_asked_rules_5_w {w : World} {A : Nat → Addr} {a0 : GProc} {b1 : Nat} {cs1 : List Value} {a1 : GState} {b2 : Nat} {cs2 : List Value} {a2 : GPlan} (hb1 : Blk w b1 cs1 74) (h1 : RGState w cs1 a1) (hb2 : Blk w b2 cs2 68) (h2 : RGPlan w cs2 a2) {r : Bool} (hm : g_valid_asked_rules_5 a0 a1 a2 = some r) :
    Calls Tryd.prog 116 [.agg (eGProc a0).toArray, .pointer (some ⟨b1, 0, none⟩), .pointer (some ⟨b2, 0, none⟩)].toArray w (Ret fun u w' => u = .bool r ∧ Ext w w') := by
  obtain ⟨vp1_0, vp1_1, vp1_2, vp1_3, vp1_4, vp1_5, vp1_6, rfl, hrp1_0, hrp1_1, hrp1_2, hrp1_3, hrp1_4, hrp1_5, hrp1_6⟩ := h1
  obtain ⟨vp2_0, vp2_1, vp2_2, vp2_3, rfl, hrp2_0, hrp2_1, hrp2_2, hrp2_3⟩ := h2
  have hS := St.begin NB w
  unfold g_valid_asked_rules_5 at hm
  refine enter Tryd.func116 rfl rfl rfl ?_; intro a H; dsimp only [enumL, Nat.zero_add, Nat.reduceAdd] at H
  refine wp_seq (wp_region_lit (n_box H rfl (cs := (a0.Regs.toList.map (Value.int .u32) ++ [.int .u32 a0.Pc, .int .i64 a0.State, .int .i64 a0.Prio, .int .i64 a0.Wait, .int .i64 a0.Obj])) rfl rfl ?_))
  clear H; intro b21 w22 hN hE23 hs; clear a; intro a H
  replace hS := hS.newBlk hN hE23 hs; clear hN hs
  refine n_q H (q_assign rfl) rfl ?_; clear H a; intro a H
  refine n_nil (then_normal (wp_seq (wp_region_lit (n_q H (q_fieldAddr0 rfl fo80_4) rfl (W_q (q_load rfl ((hS.blk 0 rfl).ld (v := Value.int .i64 a0.Wait) ag3 (by simp))) rfl (W_q (q_neqD rfl rfl) rfl (W_q (q_move rfl) rfl ?_))))))); clear H a; intro a H
  rcases Bool.eq_false_or_eq_true (!decide (a0.Wait = 2)) with hg24 | hg24
  · replace H := H.know 8 rfl hg24
    replace hm := condT hm hg24
    refine n_no H rfl rfl (by decide) rfl (W_no rfl rfl (by decide) rfl (W_no rfl rfl (by decide) rfl (W_no rfl rfl (by decide) rfl (W_no rfl rfl (by decide) rfl (W_no rfl rfl (by decide) rfl (W_no rfl rfl (by decide) rfl (W_no rfl rfl (by decide) rfl (W_no rfl rfl (by decide) rfl (W_no rfl rfl (by decide) rfl (W_q (q_pickT rfl rfl) rfl (W_q (q_move rfl) rfl ?_))))))))))); clear H a; intro a H
    refine n_no H rfl rfl (by decide) rfl (W_no rfl rfl (by decide) rfl (W_no rfl rfl (by decide) rfl (W_no rfl rfl (by decide) rfl (W_no rfl rfl (by decide) rfl (W_no rfl rfl (by decide) rfl (W_no rfl rfl (by decide) rfl (W_q (q_pickT rfl rfl) rfl (W_q (q_assign rfl) rfl ?_)))))))); clear H a; intro a H
    refine n_nil (then_normal (wp_ret ?_))
    obtain rfl := Option.some.inj hm
    replace hS := hS.take 0; simp only [List.take_succ_cons, List.take_zero] at hS
    refine ret1 H (.inr rfl) rfl rfl ?_
    exact ⟨rfl, hS.x⟩
  · replace H := H.know 8 rfl hg24
    replace hm := condF hm hg24
    refine n_yes H rfl rfl (n_q H (q_fieldAddr0 rfl fo80_5) rfl (W_yes rfl rfl (W_q (q_load rfl ((hS.blk 0 rfl).ld (v := Value.int .i64 a0.Obj) ag3 (by simp))) rfl (W_yes rfl rfl (W_q (q_fieldAddr0 rfl fo74_6) rfl (W_yes rfl rfl (W_q (q_load rfl ((hb1.ext hS.x).ld ag28 rfl)) rfl (W_yes rfl rfl ?_)))))))); clear H a; intro a H
    obtain ⟨A25, c25, hv25, hl25, hm25⟩ := SlR.formV (hrp1_3.ext (Flat.mono _) hS.x)
    refine n_q H (q_lenV Tryd.underlying28 rfl hv25) rfl (W_yes rfl rfl (W_q (q_fieldAddr0 rfl fo68_5) rfl (W_yes rfl rfl (W_q (q_load rfl ((hb2.ext hS.x).ld ag3 rfl)) rfl (W_yes rfl rfl (W_q (q_min rfl rfl) rfl (W_yes rfl rfl ?_))))))); clear H a; intro a H
    replace hm := bindS hm; obtain ⟨r26, hr26, hm⟩ := hm
    refine n_call H rfl en117 (g_valid_within_w (A := A) hr26) rfl ?_
    clear H; intro x29 w27 hv; clear a; intro a H; obtain ⟨rfl, hE28⟩ := hv
    replace hS := hS.ext hE28
    refine n_yes H rfl rfl (n_q H (q_not rfl) rfl (W_q (q_pickF rfl rfl) rfl (W_q (q_move rfl) rfl ?_))); clear H a; intro a H
    rcases Bool.eq_false_or_eq_true (!r26) with hg30 | hg30
    · replace H := H.know 20 rfl hg30
      replace hm := condT hm hg30
      refine n_no H rfl rfl (by decide) rfl (W_no rfl rfl (by decide) rfl (W_no rfl rfl (by decide) rfl (W_no rfl rfl (by decide) rfl (W_no rfl rfl (by decide) rfl (W_no rfl rfl (by decide) rfl (W_no rfl rfl (by decide) rfl (W_q (q_pickT rfl rfl) rfl (W_q (q_assign rfl) rfl ?_)))))))); clear H a; intro a H
      refine n_nil (then_normal (wp_ret ?_))
      obtain rfl := Option.some.inj hm
      replace hS := hS.take 0; simp only [List.take_succ_cons, List.take_zero] at hS
      refine ret1 H (.inr rfl) rfl rfl ?_
      exact ⟨rfl, hS.x⟩
    · replace H := H.know 20 rfl hg30
      replace hm := condF hm hg30
      refine n_yes H rfl rfl (n_q H (q_fieldAddr0 rfl fo74_6) rfl (W_yes rfl rfl (W_q (q_load rfl ((hb1.ext hS.x).ld ag28 rfl)) rfl (W_yes rfl rfl (W_q (q_fieldAddr0 rfl fo80_5) rfl (W_yes rfl rfl (W_q (q_load rfl ((hS.blk 0 rfl).ld (v := Value.int .i64 a0.Obj) ag3 (by simp))) rfl (W_yes rfl rfl ?_)))))))); clear H a; intro a H
      replace hm := bindS hm; obtain ⟨x31, hx31, hm⟩ := hm
      obtain ⟨h0x31, h1x31, hxx31⟩ := rdI_some hx31
      obtain ⟨adx31, hAx31⟩ := SlR.adV (hrp1_3.ext (Flat.mono _) hS.x) hv25 hxx31
      refine n_q H (q_ixVI Tryd.underlying28 sz4 rfl hv25 hAx31 rfl h0x31 h1x31) rfl (W_yes rfl rfl (W_q (q_load rfl (SlR.ldOneV (hrp1_3.ext (Flat.mono _) hS.x) hv25 hAx31 ag4 hxx31 rfl)) rfl (W_yes rfl rfl (W_q (q_not rfl) rfl (W_q (q_pickF rfl rfl) rfl (W_q (q_assign rfl) rfl ?_)))))); clear H a; intro a H
      refine n_nil (then_normal (wp_ret ?_))
      obtain rfl := Option.some.inj hm
      replace hS := hS.take 0; simp only [List.take_succ_cons, List.take_zero] at hS
      refine ret1 H (.inr rfl) rfl rfl ?_
      exact ⟨rfl, hS.x⟩
theorem g_valid_asked_rules_6_w {w : World} {A : Nat → Addr} {a0 : GProc} {b1 : Nat} {cs1 : List Value} {a1 : GState} {b2 : Nat} {cs2 : List Value} {a2 : GPlan} (hb1 : Blk w b1 cs1 74) (h1 : RGState w cs1 a1) (hb2 : Blk w b2 cs2 68) (h2 : RGPlan w cs2 a2) {r : Bool} (hm : g_valid_asked_rules_6 a0 a1 a2 = some r) :
    Calls Tryd.prog 118 [.agg (eGProc a0).toArray, .pointer (some ⟨b1, 0, none⟩), .pointer (some ⟨b2, 0, none⟩)].toArray w (Ret fun u w' => u = .bool r ∧ Ext w w') := by
  obtain ⟨vp1_0, vp1_1, vp1_2, vp1_3, vp1_4, vp1_5, vp1_6, rfl, hrp1_0, hrp1_1, hrp1_2, hrp1_3, hrp1_4, hrp1_5, hrp1_6⟩ := h1
  obtain ⟨vp2_0, vp2_1, vp2_2, vp2_3, rfl, hrp2_0, hrp2_1, hrp2_2, hrp2_3⟩ := h2
  have hS := St.begin NB w
  unfold g_valid_asked_rules_6 at hm
  refine enter Tryd.func118 rfl rfl rfl ?_; intro a H; dsimp only [enumL, Nat.zero_add, Nat.reduceAdd] at H
  refine wp_seq (wp_region_lit (n_box H rfl (cs := (a0.Regs.toList.map (Value.int .u32) ++ [.int .u32 a0.Pc, .int .i64 a0.State, .int .i64 a0.Prio, .int .i64 a0.Wait, .int .i64 a0.Obj])) rfl rfl ?_))
  clear H; intro b21 w22 hN hE23 hs; clear a; intro a H
  replace hS := hS.newBlk hN hE23 hs; clear hN hs
  refine n_q H (q_assign rfl) rfl ?_; clear H a; intro a H
  refine n_nil (then_normal (wp_seq (wp_region_lit (n_q H (q_fieldAddr0 rfl fo80_4) rfl (W_q (q_load rfl ((hS.blk 0 rfl).ld (v := Value.int .i64 a0.Wait) ag3 (by simp))) rfl (W_q (q_neqD rfl rfl) rfl (W_q (q_move rfl) rfl ?_))))))); clear H a; intro a H
  rcases Bool.eq_false_or_eq_true (!decide (a0.Wait = 3)) with hg24 | hg24
  · replace H := H.know 8 rfl hg24
    replace hm := condT hm hg24
    refine n_no H rfl rfl (by decide) rfl (W_no rfl rfl (by decide) rfl (W_no rfl rfl (by decide) rfl (W_no rfl rfl (by decide) rfl (W_no rfl rfl (by decide) rfl (W_no rfl rfl (by decide) rfl (W_no rfl rfl (by decide) rfl (W_no rfl rfl (by decide) rfl (W_no rfl rfl (by decide) rfl (W_no rfl rfl (by decide) rfl (W_no rfl rfl (by decide) rfl (W_q (q_pickT rfl rfl) rfl ?_))))))))))); clear H a; intro a H
    refine n_q H (q_move rfl) rfl (W_no rfl rfl (by decide) rfl (W_no rfl rfl (by decide) rfl (W_no rfl rfl (by decide) rfl (W_no rfl rfl (by decide) rfl (W_no rfl rfl (by decide) rfl (W_no rfl rfl (by decide) rfl (W_no rfl rfl (by decide) rfl (W_q (q_pickT rfl rfl) rfl (W_q (q_assign rfl) rfl ?_))))))))); clear H a; intro a H
    refine n_nil (then_normal (wp_ret ?_))
    obtain rfl := Option.some.inj hm
    replace hS := hS.take 0; simp only [List.take_succ_cons, List.take_zero] at hS
    refine ret1 H (.inr rfl) rfl rfl ?_
    exact ⟨rfl, hS.x⟩
  · replace H := H.know 8 rfl hg24
    replace hm := condF hm hg24
    refine n_yes H rfl rfl (n_q H (q_fieldAddr0 rfl fo80_5) rfl (W_yes rfl rfl (W_q (q_load rfl ((hS.blk 0 rfl).ld (v := Value.int .i64 a0.Obj) ag3 (by simp))) rfl (W_yes rfl rfl (W_q (q_fieldAddr0 rfl fo74_7) rfl (W_yes rfl rfl (W_q (q_load rfl ((hb1.ext hS.x).ld ag23 rfl)) rfl (W_yes rfl rfl ?_)))))))); clear H a; intro a H
    obtain ⟨A25, c25, hv25, hl25, hm25⟩ := SlR.formV (hrp1_4.ext (Flat.mono _) hS.x)
    refine n_q H (q_lenV Tryd.underlying23 rfl hv25) rfl (W_yes rfl rfl (W_q (q_fieldAddr0 rfl fo68_6) rfl (W_yes rfl rfl (W_q (q_load rfl ((hb2.ext hS.x).ld ag23 rfl)) rfl (W_yes rfl rfl ?_))))); clear H a; intro a H
    obtain ⟨A26, c26, hv26, hl26, hm26⟩ := SlR.formV (hrp2_3.ext (Flat.mono _) hS.x)
    refine n_q H (q_lenV Tryd.underlying23 rfl hv26) rfl (W_yes rfl rfl (W_q (q_min rfl rfl) rfl (W_yes rfl rfl ?_))); clear H a; intro a H
    replace hm := bindS hm; obtain ⟨r27, hr27, hm⟩ := hm
    refine n_call H rfl en117 (g_valid_within_w (A := A) hr27) rfl ?_
    clear H; intro x30 w28 hv; clear a; intro a H; obtain ⟨rfl, hE29⟩ := hv
    replace hS := hS.ext hE29
    refine n_yes H rfl rfl (n_q H (q_not rfl) rfl (W_q (q_pickF rfl rfl) rfl (W_q (q_move rfl) rfl ?_))); clear H a; intro a H
    rcases Bool.eq_false_or_eq_true (!r27) with hg31 | hg31
    · replace H := H.know 21 rfl hg31
      replace hm := condT hm hg31
      refine n_no H rfl rfl (by decide) rfl (W_no rfl rfl (by decide) rfl (W_no rfl rfl (by decide) rfl (W_no rfl rfl (by decide) rfl (W_no rfl rfl (by decide) rfl (W_no rfl rfl (by decide) rfl (W_no rfl rfl (by decide) rfl (W_q (q_pickT rfl rfl) rfl (W_q (q_assign rfl) rfl ?_)))))))); clear H a; intro a H
      refine n_nil (then_normal (wp_ret ?_))
      obtain rfl := Option.some.inj hm
      replace hS := hS.take 0; simp only [List.take_succ_cons, List.take_zero] at hS
      refine ret1 H (.inr rfl) rfl rfl ?_
      exact ⟨rfl, hS.x⟩
    · replace H := H.know 21 rfl hg31
      replace hm := condF hm hg31
      refine n_yes H rfl rfl (n_q H (q_fieldAddr0 rfl fo74_7) rfl (W_yes rfl rfl (W_q (q_load rfl ((hb1.ext hS.x).ld ag23 rfl)) rfl (W_yes rfl rfl (W_q (q_fieldAddr0 rfl fo80_5) rfl (W_yes rfl rfl (W_q (q_load rfl ((hS.blk 0 rfl).ld (v := Value.int .i64 a0.Obj) ag3 (by simp))) rfl (W_yes rfl rfl ?_)))))))); clear H a; intro a H
      replace hm := bindS hm; obtain ⟨x32, hx32, hm⟩ := hm
      obtain ⟨h0x32, h1x32, hxx32⟩ := rdI_some hx32
      obtain ⟨adx32, hAx32⟩ := SlR.adV (hrp1_4.ext (Flat.mono _) hS.x) hv25 hxx32
      refine n_q H (q_ixVI Tryd.underlying23 sz3 rfl hv25 hAx32 rfl h0x32 h1x32) rfl (W_yes rfl rfl (W_q (q_load rfl (SlR.ldOneV (hrp1_4.ext (Flat.mono _) hS.x) hv25 hAx32 ag3 hxx32 rfl)) rfl (W_yes rfl rfl (W_q (q_eqlD rfl rfl) rfl (W_q (q_pickF rfl rfl) rfl (W_q (q_assign rfl) rfl ?_)))))); clear H a; intro a H
      refine n_nil (then_normal (wp_ret ?_))
      obtain rfl := Option.some.inj hm
      replace hS := hS.take 0; simp only [List.take_succ_cons, List.take_zero] at hS
      refine ret1 H (.inr rfl) rfl rfl ?_
      exact ⟨rfl, hS.x⟩
theorem g_valid_asked_queued_w {w : World} {A : Nat → Addr} {cs0 : List Value} {a0 : GValidAsked} {a1 : GProc} (h0 : RGValidAsked w cs0 a0) {r : Bool} (hm : g_valid_asked_queued a0 a1 = some r) :
    Calls Tryd.prog 119 [.agg cs0.toArray, .agg (eGProc a1).toArray].toArray w (Ret fun u w' => u = .bool r ∧ Ext w w') := by
  obtain ⟨vp0_0, vp0_1, vp0_2, vp0_3, vp0_4, vp0_5, vp0_6, vp0_7, vp0_8, vp0_9, vp0_10, rfl, hrp0_0, hrp0_1, hrp0_2, hrp0_3, hrp0_4, hrp0_5, hrp0_6, hrp0_7, hrp0_8, hrp0_9, hrp0_10⟩ := h0
  have hS := St.begin NB w
  unfold g_valid_asked_queued at hm
  refine enter Tryd.func119 rfl rfl rfl ?_; intro a H; dsimp only [enumL, Nat.zero_add, Nat.reduceAdd] at H
  refine wp_seq (wp_region_lit (n_box H rfl (cs := [.int .i64 a0.p_.Id, .bool a0.p_.Mobile, vp0_0, vp0_1, vp0_2, .int .i64 a0.p_.Events, vp0_3, .int .i64 a0.s_.Id, .int .i64 a0.s_.Frame, .int .i64 a0.s_.Epoch, vp0_4, vp0_5, vp0_6, vp0_7, vp0_8, vp0_9, vp0_10]) rfl rfl ?_))
  clear H; intro b21 w22 hN hE23 hs; clear a; intro a H
  replace hS := hS.newBlk hN hE23 hs; clear hN hs
  refine n_box H rfl (cs := (a1.Regs.toList.map (Value.int .u32) ++ [.int .u32 a1.Pc, .int .i64 a1.State, .int .i64 a1.Prio, .int .i64 a1.Wait, .int .i64 a1.Obj])) rfl rfl ?_
  clear H; intro b24 w25 hN hE26 hs; clear a; intro a H
  replace hS := hS.newBlk hN hE26 hs; clear hN hs
  refine n_q H (q_assign rfl) rfl ?_; clear H a; intro a H
  refine n_nil (then_normal (wp_seq ?_))
  replace hm := bindS hm; obtain ⟨j27, hm, hm27⟩ := hm
  refine c_join (σ := Bool) H (fun q528 => [(2, .pointer (some ⟨b21, 0, none⟩)), (3, .pointer (some ⟨b24, 0, none⟩)), (24, .bool q528)]) (fun q528 wl => (g_valid_asked_queued_J3 a0 a1) q528 = some r ∧ St NB w wl [blkR b21 [.int .i64 a0.p_.Id, .bool a0.p_.Mobile, vp0_0, vp0_1, vp0_2, .int .i64 a0.p_.Events, vp0_3, .int .i64 a0.s_.Id, .int .i64 a0.s_.Frame, .int .i64 a0.s_.Epoch, vp0_4, vp0_5, vp0_6, vp0_7, vp0_8, vp0_9, vp0_10] 139, blkR b24 (a1.Regs.toList.map (Value.int .u32) ++ [.int .u32 a1.Pc, .int .i64 a1.State, .int .i64 a1.Prio, .int .i64 a1.Wait, .int .i64 a1.Obj]) 80]) ?_ ?_
  · skip
    refine wp_region_lit (n_q H (q_fieldAddr0 rfl fo80_4) rfl (W_q (q_load rfl ((hS.blk 0 rfl).ld (v := Value.int .i64 a1.Wait) ag3 (by simp))) rfl (W_q (q_neqD rfl rfl) rfl (W_q (q_move rfl) rfl ?_)))); clear H a; intro a H
    rcases Bool.eq_false_or_eq_true (!decide (a1.Wait = 4)) with hg529 | hg529
    · replace H := H.know 10 rfl hg529
      replace hm := condT hm hg529
      refine n_no H rfl rfl (by decide) rfl (W_no rfl rfl (by decide) rfl (W_no rfl rfl (by decide) rfl (W_no rfl rfl (by decide) rfl (W_no rfl rfl (by decide) rfl (W_no rfl rfl (by decide) rfl (W_no rfl rfl (by decide) rfl (W_no rfl rfl (by decide) rfl (W_no rfl rfl (by decide) rfl (W_no rfl rfl (by decide) rfl (W_no rfl rfl (by decide) rfl (W_no rfl rfl (by decide) rfl ?_))))))))))); clear H a; intro a H
      refine n_no H rfl rfl (by decide) rfl (W_q (q_pickT rfl rfl) rfl ?_); clear H a; intro a H
      refine n_nil (then_normal ?_)
      obtain rfl := Option.some.inj hm; replace hm := hm27; try dsimp only at hm
      replace hS := hS.pick 1 rfl; dsimp only [List.eraseIdx] at hS
      exact join true H ⟨rfl, rfl, rfl, trivial⟩ ⟨hm, hS⟩
    · replace H := H.know 10 rfl hg529
      replace hm := condF hm hg529
      refine n_yes H rfl rfl (n_q H (q_fieldAddr0 rfl fo80_5) rfl (W_yes rfl rfl (W_q (q_load rfl ((hS.blk 0 rfl).ld (v := Value.int .i64 a1.Obj) ag3 (by simp))) rfl (W_yes rfl rfl (W_q (q_fieldAddr0 rfl fo139_0) rfl (W_yes rfl rfl (W_q (q_fieldAddr0 rfl fo68_4) rfl (W_yes rfl rfl (W_q (q_load rfl ((hS.blk 1 rfl).ld ag66 rfl)) rfl (W_yes rfl rfl ?_)))))))))); clear H a; intro a H
      obtain ⟨A530, c530, hv530, hl530, hm530⟩ := SlR.formV (hrp0_2.ext (Flat.mono _) hS.x)
      refine n_q H (q_lenV Tryd.underlying66 rfl hv530) rfl (W_yes rfl rfl (W_q (q_fieldAddr0 rfl fo139_1) rfl (W_yes rfl rfl (W_q (q_fieldAddrO rfl fo74_8) rfl (W_yes rfl rfl (W_q (q_load rfl ((hS.blk 1 rfl).ld ag71 rfl)) rfl (W_yes rfl rfl ?_))))))); clear H a; intro a H
      obtain ⟨A531, c531, hv531, hl531, hm531⟩ := SlR.formV (hrp0_9.ext RGPort.mono hS.x)
      refine n_q H (q_lenV Tryd.underlying71 rfl hv531) rfl (W_yes rfl rfl (W_q (q_min rfl rfl) rfl (W_yes rfl rfl ?_))); clear H a; intro a H
      replace hm := bindS hm; obtain ⟨r532, hr532, hm⟩ := hm
      refine n_call H rfl en117 (g_valid_within_w (A := A) hr532) rfl ?_
      clear H; intro x535 w533 hv; clear a; intro a H; obtain ⟨rfl, hE534⟩ := hv
      replace hS := hS.ext hE534
      refine n_yes H rfl rfl (n_q H (q_not rfl) rfl (W_q (q_pickF rfl rfl) rfl ?_)); clear H a; intro a H
      refine n_nil (then_normal ?_)
      obtain rfl := Option.some.inj hm; replace hm := hm27; try dsimp only at hm
      replace hS := hS.pick 1 rfl; dsimp only [List.eraseIdx] at hS
      exact join (!r532) H ⟨rfl, rfl, rfl, trivial⟩ ⟨hm, hS⟩
  · clear H hS hm a; intro q528 a w536 H hR
    simp only [ent, List.map_cons, List.map_nil] at H; (try dsimp only at hR); obtain ⟨hm, hS⟩ := hR; try dsimp only [g_valid_asked_queued_J3] at hm
    refine c_cond H rfl (fun hc537 => ?_) (fun hc537 => ?_)
    · replace hm := condT hm hc537
      refine wp_seq (wp_region_lit (n_q H (q_assign rfl) rfl ?_)); clear H a; intro a H
      refine n_nil (then_normal (wp_ret (then_ret ?_)))
      obtain rfl := Option.some.inj hm
      replace hS := hS.take 0; simp only [List.take_succ_cons, List.take_zero] at hS
      refine ret1 H (.inr rfl) rfl rfl ?_
      exact ⟨rfl, hS.x⟩
    · replace hm := condF hm hc537
      refine wp_skip (then_normal ?_)
      replace hm := bindS hm; obtain ⟨j538, hm, hm538⟩ := hm
      refine c_join (σ := GPortPlan × (List ByteArray) × Int × Value × Nat × Nat) H (fun (t1039, l1040, z1043, v1041, b1044, b1045) => [(5, .pointer (some ⟨b1044, 0, none⟩)), (6, .pointer (some ⟨b1045, 0, none⟩))]) (fun (t1039, l1040, z1043, v1041, b1044, b1045) wl => g_valid_asked_queued_J2 (t1039, l1040, z1043) = some r ∧ St NB w wl [blkR b1044 [.int .i64 t1039.Kind, .int .i64 t1039.Size, .int .i64 t1039.Depth, .int .i64 t1039.Refresh] 169, blkR b1045 [v1041, .int .i64 z1043] 120, pureR (SlR w 1 (Flat eS) v1041 l1040)]) ?_ ?_
      · skip
        refine c_ord [] 18 (by kernel_rfl) ?_
        obtain ⟨w1046, hw1046⟩ : ∃ x, x = w536.drew := ⟨_, rfl⟩; rw [← hw1046]; have hE1047 : Ext w536 w1046 := by rw [hw1046]; exact Ext.drew' _
        clear hw1046
        replace hS := hS.ext hE1047
        have hS1048 := hS
        have hW := Nat.le_refl w1046.heap.size
        refine k_takeT 0 H rfl (q_fieldAddr0 rfl fo139_0) rfl (by kernel_rfl) (by kernel_rfl) (by kernel_rfl) (by kernel_rfl) (fun _ _ _ h => h) ?_; clear H a; intro a H
        refine k_takeT 1 H rfl (q_fieldAddr0 rfl fo68_4) rfl (by kernel_rfl) (by kernel_rfl) (by kernel_rfl) (by kernel_rfl) (fun _ _ _ h => h) ?_; clear H a; intro a H
        refine k_take 2 H rfl (q_load rfl (LdC.old ((hS1048.blk 0 rfl).ld ag66 rfl) Ext.rfl' (Nat.le_refl _) (by simp))) rfl (by kernel_rfl) (by kernel_rfl) (by kernel_rfl) (by kernel_rfl) (fun _ _ _ h => h) ?_; clear H a; intro a H
        refine k_takeT 3 H rfl (q_fieldAddr0 rfl fo80_5) rfl (by kernel_rfl) (by kernel_rfl) (by kernel_rfl) (by kernel_rfl) (fun _ _ _ h => h) ?_; clear H a; intro a H
        refine k_take 4 H rfl (q_load rfl (LdC.old ((hS1048.blk 1 rfl).ld (v := Value.int .i64 a1.Obj) ag3 (by simp)) Ext.rfl' (Nat.le_refl _) (by simp))) rfl (by kernel_rfl) (by kernel_rfl) (by kernel_rfl) (by kernel_rfl) (fun _ _ _ h => h) ?_; clear H a; intro a H
        obtain ⟨A1049, c1049, hv1049, hl1049, hm1049⟩ := SlR.formV (hrp0_2.ext (Flat.mono _) hS.x)
        replace hm := bindS hm; obtain ⟨x1050, hx1050, hm⟩ := hm
        obtain ⟨h0x1050, h1x1050, hxx1050⟩ := rdI_some hx1050
        obtain ⟨adx1050, hAx1050⟩ := SlR.adV (hrp0_2.ext (Flat.mono _) hS.x) hv1049 hxx1050
        refine k_takeT 5 H rfl (q_ixVI Tryd.underlying66 sz169 rfl hv1049 hAx1050 rfl h0x1050 h1x1050) rfl (by kernel_rfl) (by kernel_rfl) (by kernel_rfl) (by kernel_rfl) (fun _ _ _ h => h) ?_; clear H a; intro a H
        refine k_take 6 H rfl (q_load rfl (LdC.old (SlR.ldAggV (hrp0_2.ext (Flat.mono _) hS1048.x) hv1049 hAx1050 ag169 sz169 hxx1050) Ext.rfl' (Nat.le_refl _) (by simp))) rfl (by kernel_rfl) (by kernel_rfl) (by kernel_rfl) (by kernel_rfl) (fun _ _ _ h => h) ?_; clear H a; intro a H
        refine k_takeT 7 H rfl (q_fieldAddr0 rfl fo139_1) rfl (by kernel_rfl) (by kernel_rfl) (by kernel_rfl) (by kernel_rfl) (fun _ _ _ h => h) ?_; clear H a; intro a H
        refine k_takeT 8 H rfl (q_fieldAddrO rfl fo74_8) rfl (by kernel_rfl) (by kernel_rfl) (by kernel_rfl) (by kernel_rfl) (fun _ _ _ h => h) ?_; clear H a; intro a H
        refine k_take 9 H rfl (q_load rfl (LdC.old ((hS1048.blk 0 rfl).ld ag71 rfl) Ext.rfl' (Nat.le_refl _) (by simp))) rfl (by kernel_rfl) (by kernel_rfl) (by kernel_rfl) (by kernel_rfl) (fun _ _ _ h => h) ?_; clear H a; intro a H
        refine k_takeT 10 H rfl (q_fieldAddr0 rfl fo80_5) rfl (by kernel_rfl) (by kernel_rfl) (by kernel_rfl) (by kernel_rfl) (fun _ _ _ h => h) ?_; clear H a; intro a H
        refine k_take 11 H rfl (q_load rfl (LdC.old ((hS1048.blk 1 rfl).ld (v := Value.int .i64 a1.Obj) ag3 (by simp)) Ext.rfl' (Nat.le_refl _) (by simp))) rfl (by kernel_rfl) (by kernel_rfl) (by kernel_rfl) (by kernel_rfl) (fun _ _ _ h => h) ?_; clear H a; intro a H
        obtain ⟨A1051, c1051, hv1051, hl1051, hm1051⟩ := SlR.formV (hrp0_9.ext RGPort.mono hS.x)
        replace hm := bindS hm; obtain ⟨x1052, hx1052, hm⟩ := hm
        obtain ⟨h0x1052, h1x1052, hxx1052⟩ := rdI_some hx1052
        obtain ⟨adx1052, hAx1052⟩ := SlR.adV (hrp0_9.ext RGPort.mono hS.x) hv1051 hxx1052
        obtain ⟨csx1052, hclx1052, ⟨vx1052_0, rfl, hrx1052_0⟩, hcx1052⟩ := SlR.elV hrp0_9 hv1051 hAx1052 hxx1052
        refine k_takeT 12 H rfl (q_ixVI Tryd.underlying71 sz120 rfl hv1051 hAx1052 rfl h0x1052 h1x1052) rfl (by kernel_rfl) (by kernel_rfl) (by kernel_rfl) (by kernel_rfl) (fun _ _ _ h => h) ?_; clear H a; intro a H
        refine k_take 13 H rfl (q_load rfl (LdC.old (LdX.ext (ldEl ag120 sz120 rfl hcx1052) hS1048.x) Ext.rfl' (Nat.le_refl _) (by simp))) rfl (by kernel_rfl) (by kernel_rfl) (by kernel_rfl) (by kernel_rfl) (fun _ _ _ h => h) ?_; clear H a; intro a H
        refine k_two 14 15 (by kernel_rfl) ?_ ?_
        · skip
          refine kk_alloc 14 H rfl ze169 rfl ?_
          clear H; intro b1053 w1054 hN hE1055 hs; clear a; intro a H
          have hge_b1053 : w1046.heap.size ≤ b1053 := hs ▸ hW
          replace hS := hS.newBlk hN hE1055 hs; clear hN hs
          replace hW := Nat.le_trans hW hE1055.size
          refine k_alloc 15 H rfl ze120 rfl (by kernel_rfl) ?_
          clear H; intro b1056 w1057 hN hE1058 hs; clear a; intro a H
          have hge_b1056 : w1046.heap.size ≤ b1056 := hs ▸ hW
          replace hS := hS.newBlk hN hE1058 hs; clear hN hs
          replace hW := Nat.le_trans hW hE1058.size
          replace hS := hS.pick 1 rfl; dsimp only [List.eraseIdx] at hS
          refine k_storeAll 16 H rfl rfl rfl (vs := [.int .i64 x1050.Kind, .int .i64 x1050.Size, .int .i64 x1050.Depth, .int .i64 x1050.Refresh]) rfl sz169 (hS.blk 0 rfl) rfl (by simp) (by kernel_rfl) (.inl (fun h => absurd h (Nat.not_lt.2 hge_b1053))) ?_
          clear H; intro w1059 hN hC1060 hz; clear a; intro a H; replace hS := hS.setBlk hN hC1060; clear hN hz; replace hW := Nat.le_trans hW hC1060.size
          replace hS := hS.pick 1 rfl; dsimp only [List.eraseIdx] at hS
          refine k_storeAll 17 H rfl rfl rfl (vs := [vx1052_0, .int .i64 x1052.Age]) rfl sz120 (hS.blk 0 rfl) rfl (by simp [((hrx1052_0.ext (Flat.mono _) hS.x)).one]) (by kernel_rfl) (.inl (fun h => absurd h (Nat.not_lt.2 hge_b1056))) ?_
          clear H; intro w1061 hN hC1062 hz; clear a; intro a H; replace hS := hS.setBlk hN hC1062; clear hN hz; replace hW := Nat.le_trans hW hC1062.size
          refine k_done (by kernel_rfl) ?_
          refine then_normal ?_
          obtain rfl := Option.some.inj hm; replace hm := hm538; try dsimp only at hm
          replace hS := hS.mkPure (p := SlR w 1 (Flat eS) vx1052_0 x1052.Msgs) hrx1052_0
          replace hS := hS.pick 1 rfl; dsimp only [List.eraseIdx] at hS
          replace hS := hS.pick 2 rfl; dsimp only [List.eraseIdx] at hS
          replace hS := hS.take 3; simp only [List.take_succ_cons, List.take_zero] at hS
          exact join (x1050, x1052.Msgs, x1052.Age, vx1052_0, b1053, b1056) H ⟨rfl, rfl, trivial⟩ ⟨hm, hS⟩
        · skip
          refine kk_alloc 15 H rfl ze120 rfl ?_
          clear H; intro b1064 w1065 hN hE1066 hs; clear a; intro a H
          have hge_b1064 : w1046.heap.size ≤ b1064 := hs ▸ hW
          replace hS := hS.newBlk hN hE1066 hs; clear hN hs
          replace hW := Nat.le_trans hW hE1066.size
          refine k_alloc 14 H rfl ze169 rfl (by kernel_rfl) ?_
          clear H; intro b1067 w1068 hN hE1069 hs; clear a; intro a H
          have hge_b1067 : w1046.heap.size ≤ b1067 := hs ▸ hW
          replace hS := hS.newBlk hN hE1069 hs; clear hN hs
          replace hW := Nat.le_trans hW hE1069.size
          refine k_storeAll 16 H rfl rfl rfl (vs := [.int .i64 x1050.Kind, .int .i64 x1050.Size, .int .i64 x1050.Depth, .int .i64 x1050.Refresh]) rfl sz169 (hS.blk 0 rfl) rfl (by simp) (by kernel_rfl) (.inl (fun h => absurd h (Nat.not_lt.2 hge_b1067))) ?_
          clear H; intro w1070 hN hC1071 hz; clear a; intro a H; replace hS := hS.setBlk hN hC1071; clear hN hz; replace hW := Nat.le_trans hW hC1071.size
          replace hS := hS.pick 1 rfl; dsimp only [List.eraseIdx] at hS
          refine k_storeAll 17 H rfl rfl rfl (vs := [vx1052_0, .int .i64 x1052.Age]) rfl sz120 (hS.blk 0 rfl) rfl (by simp [((hrx1052_0.ext (Flat.mono _) hS.x)).one]) (by kernel_rfl) (.inl (fun h => absurd h (Nat.not_lt.2 hge_b1064))) ?_
          clear H; intro w1072 hN hC1073 hz; clear a; intro a H; replace hS := hS.setBlk hN hC1073; clear hN hz; replace hW := Nat.le_trans hW hC1073.size
          refine k_done (by kernel_rfl) ?_
          refine then_normal ?_
          obtain rfl := Option.some.inj hm; replace hm := hm538; try dsimp only at hm
          replace hS := hS.mkPure (p := SlR w 1 (Flat eS) vx1052_0 x1052.Msgs) hrx1052_0
          replace hS := hS.pick 1 rfl; dsimp only [List.eraseIdx] at hS
          replace hS := hS.pick 2 rfl; dsimp only [List.eraseIdx] at hS
          replace hS := hS.take 3; simp only [List.take_succ_cons, List.take_zero] at hS
          exact join (x1050, x1052.Msgs, x1052.Age, vx1052_0, b1067, b1064) H ⟨rfl, rfl, trivial⟩ ⟨hm, hS⟩
      · clear H hS hm a; intro xx a w1075 H hR
        obtain ⟨t1039, l1040, z1043, v1041, b1044, b1045⟩ := xx
        simp only [ent, List.map_cons, List.map_nil] at H; (try dsimp only at hR); obtain ⟨hm, hS⟩ := hR; try dsimp only [g_valid_asked_queued_J2] at hm
        refine wp_seq (wp_seq (wp_region_lit (n_q H (q_fieldAddr0 rfl fo169_0) rfl (W_q (q_load rfl ((hS.blk 0 rfl).ld ag3 rfl)) rfl ?_)))); clear H a; intro a H
        refine n_nil (then_normal (wp_block (wp_seq (wp_region_lit (n_q H (q_eqlD rfl rfl) rfl (W_q (q_assign rfl) rfl ?_)))))); clear H a; intro a H
        refine n_nil (then_normal (c_cond H rfl (fun hc1076 => ?_) (fun hc1076 => ?_)))
        · replace hm := condT hm hc1076
          refine wp_seq (wp_region_lit (n_q H (q_fieldAddr0 rfl fo120_0) rfl (W_q (q_load rfl ((hS.blk 1 rfl).ld ag118 rfl)) rfl ?_))); clear H a; intro a H
          obtain ⟨A1077, c1077, hv1077, hl1077, hm1077⟩ := SlR.formV ((hS.pureAt 2 rfl).ext (Flat.mono _) hS.x)
          refine n_q H (q_lenV Tryd.underlying118 rfl hv1077) rfl (W_q (q_eqlN (i := l1040.length) (j := 0) rfl rfl) rfl (W_q (q_assign rfl) rfl ?_)); clear H a; intro a H
          refine n_nil (then_normal (wp_ret (block_ret (then_ret ?_))))
          obtain rfl := Option.some.inj hm
          replace hS := hS.take 0; simp only [List.take_succ_cons, List.take_zero] at hS
          refine ret1 H (.inr rfl) rfl rfl ?_
          exact ⟨rfl, hS.x⟩
        · replace hm := condF hm hc1076
          refine wp_seq (wp_region_lit (n_q H (q_eqlD rfl rfl) rfl (W_q (q_assign rfl) rfl ?_))); clear H a; intro a H
          refine n_nil (then_normal (c_cond H rfl (fun hc1078 => ?_) (fun hc1078 => ?_)))
          · replace hm := condT hm hc1078
            refine wp_seq (wp_region_lit (n_q H (q_fieldAddr0 rfl fo120_0) rfl (W_q (q_load rfl ((hS.blk 1 rfl).ld ag118 rfl)) rfl ?_))); clear H a; intro a H
            obtain ⟨A1079, c1079, hv1079, hl1079, hm1079⟩ := SlR.formV ((hS.pureAt 2 rfl).ext (Flat.mono _) hS.x)
            refine n_q H (q_lenV Tryd.underlying118 rfl hv1079) rfl (W_q (q_fieldAddr0 rfl fo169_2) rfl (W_q (q_load rfl ((hS.blk 0 rfl).ld ag3 rfl)) rfl (W_q (q_eqlD rfl rfl) rfl (W_q (q_assign rfl) rfl ?_)))); clear H a; intro a H
            refine n_nil (then_normal (wp_ret (block_ret (then_ret ?_))))
            obtain rfl := Option.some.inj hm
            replace hS := hS.take 0; simp only [List.take_succ_cons, List.take_zero] at hS
            refine ret1 H (.inr rfl) rfl rfl ?_
            exact ⟨rfl, hS.x⟩
          · replace hm := condF hm hc1078
            refine wp_skip (block_normal (then_normal (wp_seq (wp_region_lit (n_q H (q_assign rfl) rfl ?_))))); clear H a; intro a H
            refine n_nil (then_normal (wp_ret ?_))
            obtain rfl := Option.some.inj hm
            replace hS := hS.take 0; simp only [List.take_succ_cons, List.take_zero] at hS
            refine ret1 H (.inr rfl) rfl rfl ?_
            exact ⟨rfl, hS.x⟩
theorem g_valid_isOut_w {w : World} {A : Nat → Addr} {a0 : GPortPlan} {r : Bool} (hm : g_valid_isOut a0 = some r) :
    Calls Tryd.prog 121 [.agg (eGPortPlan a0).toArray].toArray w (Ret fun u w' => u = .bool r ∧ Ext w w') := by
  have hS := St.begin NB w
  unfold g_valid_isOut at hm
  refine enter Tryd.func121 rfl rfl rfl ?_; intro a H; dsimp only [enumL, Nat.zero_add, Nat.reduceAdd] at H
  refine wp_seq (wp_region_lit (n_box H rfl (cs := [.int .i64 a0.Kind, .int .i64 a0.Size, .int .i64 a0.Depth, .int .i64 a0.Refresh]) rfl rfl ?_))
  clear H; intro b21 w22 hN hE23 hs; clear a; intro a H
  replace hS := hS.newBlk hN hE23 hs; clear hN hs
  refine n_q H (q_assign rfl) rfl ?_; clear H a; intro a H
  refine n_nil (then_normal (wp_seq (wp_region_lit (n_c H (fun HC => ?_))))); clear H
  refine nc_q HC (q_fieldAddr0 rfl fo169_0) rfl (by kernel_rfl) (V_q (q_load rfl ((hS.blk 0 rfl).ld ag3 rfl)) rfl (by kernel_rfl) (V_q (q_eqlD rfl rfl) rfl (by kernel_rfl) (V_q (q_move rfl) rfl (by kernel_rfl) (V_g (q_fieldAddr0 rfl fo169_0) (by kernel_rfl) (by kernel_rfl) (by kernel_rfl) (V_g (q_load rfl ((hS.blk 0 rfl).ld ag3 rfl)) (by kernel_rfl) (by kernel_rfl) (by kernel_rfl) (V_g (q_eqlD rfl rfl) (by kernel_rfl) (by kernel_rfl) (by kernel_rfl) (V_or (j := 3) rfl rfl rfl (by kernel_rfl) (by kernel_rfl) (V_q (q_assign rfl) rfl (by kernel_rfl) ?_)))))))); clear HC a; intro a HC
  have H := HC.has; clear HC
  refine n_nil (then_normal (wp_ret ?_))
  obtain rfl := Option.some.inj hm
  replace hS := hS.take 0; simp only [List.take_succ_cons, List.take_zero] at hS
  refine ret1 H (.inr rfl) rfl rfl ?_
  exact ⟨rfl, hS.x⟩
theorem g_valid_asked_rules_7_w {w : World} {A : Nat → Addr} {a0 : GPortPlan} {cs1 : List Value} {a1 : GPort} (h1 : RGPort w cs1 a1) {r : Bool} (hm : g_valid_asked_rules_7 a0 a1 = some r) :
    Calls Tryd.prog 120 [.agg (eGPortPlan a0).toArray, .agg cs1.toArray].toArray w (Ret fun u w' => u = .bool r ∧ Ext w w') := by
  obtain ⟨vp1_0, rfl, hrp1_0⟩ := h1
  have hS := St.begin NB w
  unfold g_valid_asked_rules_7 at hm
  refine enter Tryd.func120 rfl rfl rfl ?_; intro a H; dsimp only [enumL, Nat.zero_add, Nat.reduceAdd] at H
  refine wp_seq (wp_region_lit (n_box H rfl (cs := [.int .i64 a0.Kind, .int .i64 a0.Size, .int .i64 a0.Depth, .int .i64 a0.Refresh]) rfl rfl ?_))
  clear H; intro b21 w22 hN hE23 hs; clear a; intro a H
  replace hS := hS.newBlk hN hE23 hs; clear hN hs
  refine n_box H rfl (cs := [vp1_0, .int .i64 a1.Age]) rfl rfl ?_
  clear H; intro b24 w25 hN hE26 hs; clear a; intro a H
  replace hS := hS.newBlk hN hE26 hs; clear hN hs
  refine n_q H (q_assign rfl) rfl ?_; clear H a; intro a H
  refine n_nil (then_normal (wp_seq (wp_region_lit (n_q H (q_load rfl ((hS.blk 1 rfl).ldAll ag169 sz169)) rfl ?_)))); clear H a; intro a H
  replace hm := bindS hm; obtain ⟨r27, hr27, hm⟩ := hm
  refine n_call H rfl en121 (g_valid_isOut_w (A := A) hr27) rfl ?_
  clear H; intro x30 w28 hv; clear a; intro a H; obtain ⟨rfl, hE29⟩ := hv
  replace hS := hS.ext hE29
  refine n_q H (q_not rfl) rfl (W_q (q_move rfl) rfl ?_); clear H a; intro a H
  rcases Bool.eq_false_or_eq_true (!r27) with hg31 | hg31
  · replace H := H.know 8 rfl hg31
    replace hm := condT hm hg31
    refine n_no H rfl rfl (by decide) rfl (W_no rfl rfl (by decide) rfl (W_no rfl rfl (by decide) rfl (W_no rfl rfl (by decide) rfl (W_q (q_pickT rfl rfl) rfl (W_q (q_assign rfl) rfl ?_))))); clear H a; intro a H
    refine n_nil (then_normal (wp_ret ?_))
    obtain rfl := Option.some.inj hm
    replace hS := hS.take 0; simp only [List.take_succ_cons, List.take_zero] at hS
    refine ret1 H (.inr rfl) rfl rfl ?_
    exact ⟨rfl, hS.x⟩
  · replace H := H.know 8 rfl hg31
    replace hm := condF hm hg31
    refine n_yes H rfl rfl (n_q H (q_fieldAddr0 rfl fo120_0) rfl (W_yes rfl rfl (W_q (q_load rfl ((hS.blk 0 rfl).ld ag118 rfl)) rfl (W_yes rfl rfl ?_)))); clear H a; intro a H
    obtain ⟨A32, c32, hv32, hl32, hm32⟩ := SlR.formV (hrp1_0.ext (Flat.mono _) hS.x)
    refine n_q H (q_lenV Tryd.underlying118 rfl hv32) rfl (W_yes rfl rfl (W_q (q_eqlN (i := a1.Msgs.length) (j := 0) rfl rfl) rfl (W_q (q_pickF rfl rfl) rfl (W_q (q_assign rfl) rfl ?_)))); clear H a; intro a H
    refine n_nil (then_normal (wp_ret ?_))
    obtain rfl := Option.some.inj hm
    replace hS := hS.take 0; simp only [List.take_succ_cons, List.take_zero] at hS
    refine ret1 H (.inr rfl) rfl rfl ?_
    exact ⟨rfl, hS.x⟩
set_option maxHeartbeats 4000000 in
theorem g_valid_asked_rules_w {w : World} {A : Nat → Addr} {cs0 : List Value} {a0 : GValidAsked} (h0 : RGValidAsked w cs0 a0) {r : Vector Bool 17} (hm : g_valid_asked_rules a0 = some r) :
    Calls Tryd.prog 63 [.agg cs0.toArray].toArray w (Ret fun u w' => u = .agg (r.toList.map Value.bool).toArray ∧ Ext w w') := by
  obtain ⟨vp0_0, vp0_1, vp0_2, vp0_3, vp0_4, vp0_5, vp0_6, vp0_7, vp0_8, vp0_9, vp0_10, rfl, hrp0_0, hrp0_1, hrp0_2, hrp0_3, hrp0_4, hrp0_5, hrp0_6, hrp0_7, hrp0_8, hrp0_9, hrp0_10⟩ := h0
  have hS := St.begin NB w
  unfold g_valid_asked_rules at hm
  refine enter Tryd.func63 rfl rfl rfl ?_; intro a H; dsimp only [enumL, Nat.zero_add, Nat.reduceAdd] at H
  refine wp_seq (wp_region_lit (n_box H rfl (cs := [.int .i64 a0.p_.Id, .bool a0.p_.Mobile, vp0_0, vp0_1, vp0_2, .int .i64 a0.p_.Events, vp0_3, .int .i64 a0.s_.Id, .int .i64 a0.s_.Frame, .int .i64 a0.s_.Epoch, vp0_4, vp0_5, vp0_6, vp0_7, vp0_8, vp0_9, vp0_10]) rfl rfl ?_))
  clear H; intro b21 w22 hN hE23 hs; clear a; intro a H
  replace hS := hS.newBlk hN hE23 hs; clear hN hs
  refine n_alloc H ze137 rfl ?_
  clear H; intro b24 w25 hN hE26 hs; clear a; intro a H
  replace hS := hS.newBlk hN hE26 hs; clear hN hs
  refine n_nil (then_normal ?_)
  replace hm := bindS hm; obtain ⟨j27, hm, hm27⟩ := hm
  refine c_join (σ := Nat × Nat) H (fun (b528, b529) => [(1, .pointer (some ⟨b21, 0, none⟩)), (2, .pointer (some ⟨b24, 0, none⟩)), (3, .pointer (some ⟨b528, 0, none⟩)), (4, .pointer (some ⟨b529, 0, none⟩))]) (fun (b528, b529) wl => (g_valid_asked_rules_J1 a0) () = some r ∧ St NB w wl [blkR b21 [.int .i64 a0.p_.Id, .bool a0.p_.Mobile, vp0_0, vp0_1, vp0_2, .int .i64 a0.p_.Events, vp0_3, .int .i64 a0.s_.Id, .int .i64 a0.s_.Frame, .int .i64 a0.s_.Epoch, vp0_4, vp0_5, vp0_6, vp0_7, vp0_8, vp0_9, vp0_10] 139, blkR b24 ((Vector.replicate 17 false).toList.map Value.bool) 137, blkR b528 [.int .i64 a0.p_.Id, .bool a0.p_.Mobile, vp0_0, vp0_1, vp0_2, .int .i64 a0.p_.Events, vp0_3] 68, blkR b529 [.int .i64 a0.s_.Id, .int .i64 a0.s_.Frame, .int .i64 a0.s_.Epoch, vp0_4, vp0_5, vp0_6, vp0_7, vp0_8, vp0_9, vp0_10] 74]) ?_ ?_
  · skip
    refine c_ord [] 8 (by kernel_rfl) ?_
    obtain ⟨w530, hw530⟩ : ∃ x, x = w25.drew := ⟨_, rfl⟩; rw [← hw530]; have hE531 : Ext w25 w530 := by rw [hw530]; exact Ext.drew' _
    clear hw530
    replace hS := hS.ext hE531
    have hS532 := hS
    have hW := Nat.le_refl w530.heap.size
    refine k_takeT 0 H rfl (q_fieldAddr0 rfl fo139_0) rfl (by kernel_rfl) (by kernel_rfl) (by kernel_rfl) (by kernel_rfl) (fun _ _ _ h => h) ?_; clear H a; intro a H
    refine k_take 1 H rfl (q_load rfl (LdC.old ((hS532.blk 1 rfl).ldPart 0 7 ag68 sz68 (by simp)) Ext.rfl' (Nat.le_refl _) (by simp))) rfl (by kernel_rfl) (by kernel_rfl) (by kernel_rfl) (by kernel_rfl) (fun _ _ _ h => h) ?_; clear H a; intro a H
    refine k_takeT 2 H rfl (q_fieldAddr0 rfl fo139_1) rfl (by kernel_rfl) (by kernel_rfl) (by kernel_rfl) (by kernel_rfl) (fun _ _ _ h => h) ?_; clear H a; intro a H
    refine k_take 3 H rfl (q_load rfl (LdC.old ((hS532.blk 1 rfl).ldPart 7 10 ag74 sz74 (by simp)) Ext.rfl' (Nat.le_refl _) (by simp))) rfl (by kernel_rfl) (by kernel_rfl) (by kernel_rfl) (by kernel_rfl) (fun _ _ _ h => h) ?_; clear H a; intro a H
    refine k_two 4 5 (by kernel_rfl) ?_ ?_
    · skip
      refine kk_alloc 4 H rfl ze68 rfl ?_
      clear H; intro b533 w534 hN hE535 hs; clear a; intro a H
      have hge_b533 : w530.heap.size ≤ b533 := hs ▸ hW
      replace hS := hS.newBlk hN hE535 hs; clear hN hs
      replace hW := Nat.le_trans hW hE535.size
      refine k_alloc 5 H rfl ze74 rfl (by kernel_rfl) ?_
      clear H; intro b536 w537 hN hE538 hs; clear a; intro a H
      have hge_b536 : w530.heap.size ≤ b536 := hs ▸ hW
      replace hS := hS.newBlk hN hE538 hs; clear hN hs
      replace hW := Nat.le_trans hW hE538.size
      replace hS := hS.pick 1 rfl; dsimp only [List.eraseIdx] at hS
      refine k_storeAll 6 H rfl rfl rfl (vs := [.int .i64 a0.p_.Id, .bool a0.p_.Mobile, vp0_0, vp0_1, vp0_2, .int .i64 a0.p_.Events, vp0_3]) rfl sz68 (hS.blk 0 rfl) rfl (by simp [((hrp0_0.ext (Flat.mono _) hS.x)).one, ((hrp0_1.ext (Flat.mono _) hS.x)).one, ((hrp0_2.ext (Flat.mono _) hS.x)).one, ((hrp0_3.ext (Flat.mono _) hS.x)).one]) (by kernel_rfl) (.inl (fun h => absurd h (Nat.not_lt.2 hge_b533))) ?_
      clear H; intro w539 hN hC540 hz; clear a; intro a H; replace hS := hS.setBlk hN hC540; clear hN hz; replace hW := Nat.le_trans hW hC540.size
      replace hS := hS.pick 1 rfl; dsimp only [List.eraseIdx] at hS
      refine k_storeAll 7 H rfl rfl rfl (vs := [.int .i64 a0.s_.Id, .int .i64 a0.s_.Frame, .int .i64 a0.s_.Epoch, vp0_4, vp0_5, vp0_6, vp0_7, vp0_8, vp0_9, vp0_10]) rfl sz74 (hS.blk 0 rfl) rfl (by simp [((hrp0_4.ext (Flat.mono _) hS.x)).one, ((hrp0_5.ext (Flat.mono _) hS.x)).one, ((hrp0_6.ext (Flat.mono _) hS.x)).one, ((hrp0_7.ext (Flat.mono _) hS.x)).one, ((hrp0_8.ext (Flat.mono _) hS.x)).one, ((hrp0_9.ext RGPort.mono hS.x)).one, ((hrp0_10.ext (Flat.mono _) hS.x)).one]) (by kernel_rfl) (.inl (fun h => absurd h (Nat.not_lt.2 hge_b536))) ?_
      clear H; intro w541 hN hC542 hz; clear a; intro a H; replace hS := hS.setBlk hN hC542; clear hN hz; replace hW := Nat.le_trans hW hC542.size
      refine k_done (by kernel_rfl) ?_
      refine then_normal ?_
      obtain rfl := Option.some.inj hm; replace hm := hm27; try dsimp only at hm
      replace hS := hS.pick 1 rfl; dsimp only [List.eraseIdx] at hS
      replace hS := hS.pick 2 rfl; dsimp only [List.eraseIdx] at hS
      replace hS := hS.pick 3 rfl; dsimp only [List.eraseIdx] at hS
      exact join (b533, b536) H ⟨rfl, rfl, rfl, rfl, trivial⟩ ⟨hm, hS⟩
    · skip
      refine kk_alloc 5 H rfl ze74 rfl ?_
      clear H; intro b543 w544 hN hE545 hs; clear a; intro a H
      have hge_b543 : w530.heap.size ≤ b543 := hs ▸ hW
      replace hS := hS.newBlk hN hE545 hs; clear hN hs
      replace hW := Nat.le_trans hW hE545.size
      refine k_alloc 4 H rfl ze68 rfl (by kernel_rfl) ?_
      clear H; intro b546 w547 hN hE548 hs; clear a; intro a H
      have hge_b546 : w530.heap.size ≤ b546 := hs ▸ hW
      replace hS := hS.newBlk hN hE548 hs; clear hN hs
      replace hW := Nat.le_trans hW hE548.size
      refine k_storeAll 6 H rfl rfl rfl (vs := [.int .i64 a0.p_.Id, .bool a0.p_.Mobile, vp0_0, vp0_1, vp0_2, .int .i64 a0.p_.Events, vp0_3]) rfl sz68 (hS.blk 0 rfl) rfl (by simp [((hrp0_0.ext (Flat.mono _) hS.x)).one, ((hrp0_1.ext (Flat.mono _) hS.x)).one, ((hrp0_2.ext (Flat.mono _) hS.x)).one, ((hrp0_3.ext (Flat.mono _) hS.x)).one]) (by kernel_rfl) (.inl (fun h => absurd h (Nat.not_lt.2 hge_b546))) ?_
      clear H; intro w549 hN hC550 hz; clear a; intro a H; replace hS := hS.setBlk hN hC550; clear hN hz; replace hW := Nat.le_trans hW hC550.size
      replace hS := hS.pick 1 rfl; dsimp only [List.eraseIdx] at hS
      refine k_storeAll 7 H rfl rfl rfl (vs := [.int .i64 a0.s_.Id, .int .i64 a0.s_.Frame, .int .i64 a0.s_.Epoch, vp0_4, vp0_5, vp0_6, vp0_7, vp0_8, vp0_9, vp0_10]) rfl sz74 (hS.blk 0 rfl) rfl (by simp [((hrp0_4.ext (Flat.mono _) hS.x)).one, ((hrp0_5.ext (Flat.mono _) hS.x)).one, ((hrp0_6.ext (Flat.mono _) hS.x)).one, ((hrp0_7.ext (Flat.mono _) hS.x)).one, ((hrp0_8.ext (Flat.mono _) hS.x)).one, ((hrp0_9.ext RGPort.mono hS.x)).one, ((hrp0_10.ext (Flat.mono _) hS.x)).one]) (by kernel_rfl) (.inl (fun h => absurd h (Nat.not_lt.2 hge_b543))) ?_
      clear H; intro w551 hN hC552 hz; clear a; intro a H; replace hS := hS.setBlk hN hC552; clear hN hz; replace hW := Nat.le_trans hW hC552.size
      refine k_done (by kernel_rfl) ?_
      refine then_normal ?_
      obtain rfl := Option.some.inj hm; replace hm := hm27; try dsimp only at hm
      replace hS := hS.pick 1 rfl; dsimp only [List.eraseIdx] at hS
      replace hS := hS.pick 2 rfl; dsimp only [List.eraseIdx] at hS
      replace hS := hS.pick 3 rfl; dsimp only [List.eraseIdx] at hS
      exact join (b546, b543) H ⟨rfl, rfl, rfl, rfl, trivial⟩ ⟨hm, hS⟩
  · clear H hS hm a; intro xx a w553 H hR
    obtain ⟨b528, b529⟩ := xx
    simp only [ent, List.map_cons, List.map_nil] at H; (try dsimp only at hR); obtain ⟨hm, hS⟩ := hR; try dsimp only [g_valid_asked_rules_J1] at hm
    refine wp_seq (c_ord [] 92 (by kernel_rfl) ?_)
    obtain ⟨w554, hw554⟩ : ∃ x, x = w553.drew := ⟨_, rfl⟩; rw [← hw554]; have hE555 : Ext w553 w554 := by rw [hw554]; exact Ext.drew' _
    clear hw554
    replace hS := hS.ext hE555
    have hS556 := hS
    have hW := Nat.le_refl w554.heap.size
    refine k_takeT 0 H rfl (q_fieldAddr0 rfl fo74_0) rfl (by as_aux_lemma => kernel_rfl) (by as_aux_lemma => kernel_rfl) (by as_aux_lemma => kernel_rfl) (by as_aux_lemma => kernel_rfl) (fun _ _ _ h => h) ?_; clear H a; intro a H
    refine k_take 1 H rfl (q_load rfl (LdC.old ((hS556.blk 3 rfl).ld ag3 rfl) Ext.rfl' (Nat.le_refl _) (by simp))) rfl (by as_aux_lemma => kernel_rfl) (by as_aux_lemma => kernel_rfl) (by as_aux_lemma => kernel_rfl) (by as_aux_lemma => kernel_rfl) (fun _ _ _ h => h) ?_; clear H a; intro a H
    refine k_takeT 2 H rfl (q_fieldAddr0 rfl fo68_0) rfl (by as_aux_lemma => kernel_rfl) (by as_aux_lemma => kernel_rfl) (by as_aux_lemma => kernel_rfl) (by as_aux_lemma => kernel_rfl) (fun _ _ _ h => h) ?_; clear H a; intro a H
    refine k_take 3 H rfl (q_load rfl (LdC.old ((hS556.blk 2 rfl).ld ag3 rfl) Ext.rfl' (Nat.le_refl _) (by simp))) rfl (by as_aux_lemma => kernel_rfl) (by as_aux_lemma => kernel_rfl) (by as_aux_lemma => kernel_rfl) (by as_aux_lemma => kernel_rfl) (fun _ _ _ h => h) ?_; clear H a; intro a H
    refine k_takeT 4 H rfl (q_eqlD rfl rfl) rfl (by as_aux_lemma => kernel_rfl) (by as_aux_lemma => kernel_rfl) (by as_aux_lemma => kernel_rfl) (by as_aux_lemma => kernel_rfl) (fun _ _ _ h => h) ?_; clear H a; intro a H
    refine k_takeT 5 H rfl (q_fieldAddr0 rfl fo74_1) rfl (by as_aux_lemma => kernel_rfl) (by as_aux_lemma => kernel_rfl) (by as_aux_lemma => kernel_rfl) (by as_aux_lemma => kernel_rfl) (fun _ _ _ h => h) ?_; clear H a; intro a H
    refine k_take 6 H rfl (q_load rfl (LdC.old ((hS556.blk 3 rfl).ld ag3 rfl) Ext.rfl' (Nat.le_refl _) (by simp))) rfl (by as_aux_lemma => kernel_rfl) (by as_aux_lemma => kernel_rfl) (by as_aux_lemma => kernel_rfl) (by as_aux_lemma => kernel_rfl) (fun _ _ _ h => h) ?_; clear H a; intro a H
    refine k_takeT 13 H rfl (q_fieldAddr0 rfl fo74_3) rfl (by as_aux_lemma => kernel_rfl) (by as_aux_lemma => kernel_rfl) (by as_aux_lemma => kernel_rfl) (by as_aux_lemma => kernel_rfl) (fun _ _ _ h => h) ?_; clear H a; intro a H
    refine k_take 14 H rfl (q_load rfl (LdC.old ((hS556.blk 3 rfl).ld ag69 rfl) Ext.rfl' (Nat.le_refl _) (by simp))) rfl (by as_aux_lemma => kernel_rfl) (by as_aux_lemma => kernel_rfl) (by as_aux_lemma => kernel_rfl) (by as_aux_lemma => kernel_rfl) (fun _ _ _ h => h) ?_; clear H a; intro a H
    obtain ⟨A557, c557, hv557, hl557, hm557⟩ := SlR.formV (hrp0_4.ext (Flat.mono _) hS.x)
    refine k_takeT 15 H rfl (q_lenV Tryd.underlying69 rfl hv557) rfl (by as_aux_lemma => kernel_rfl) (by as_aux_lemma => kernel_rfl) (by as_aux_lemma => kernel_rfl) (by as_aux_lemma => kernel_rfl) (fun _ _ _ h => h) ?_; clear H a; intro a H
    refine k_takeT 16 H rfl (q_fieldAddr0 rfl fo68_3) rfl (by as_aux_lemma => kernel_rfl) (by as_aux_lemma => kernel_rfl) (by as_aux_lemma => kernel_rfl) (by as_aux_lemma => kernel_rfl) (fun _ _ _ h => h) ?_; clear H a; intro a H
    refine k_take 17 H rfl (q_load rfl (LdC.old ((hS556.blk 2 rfl).ld ag65 rfl) Ext.rfl' (Nat.le_refl _) (by simp))) rfl (by as_aux_lemma => kernel_rfl) (by as_aux_lemma => kernel_rfl) (by as_aux_lemma => kernel_rfl) (by as_aux_lemma => kernel_rfl) (fun _ _ _ h => h) ?_; clear H a; intro a H
    obtain ⟨A558, c558, hv558, hl558, hm558⟩ := SlR.formV (hrp0_1.ext (Flat.mono _) hS.x)
    refine k_takeT 18 H rfl (q_lenV Tryd.underlying65 rfl hv558) rfl (by as_aux_lemma => kernel_rfl) (by as_aux_lemma => kernel_rfl) (by as_aux_lemma => kernel_rfl) (by as_aux_lemma => kernel_rfl) (fun _ _ _ h => h) ?_; clear H a; intro a H
    refine k_takeT 19 H rfl (q_eqlN (i := a0.s_.Procs.length) (j := a0.p_.Procs.length) rfl rfl) rfl (by as_aux_lemma => kernel_rfl) (by as_aux_lemma => kernel_rfl) (by as_aux_lemma => kernel_rfl) (by as_aux_lemma => kernel_rfl) (fun _ _ _ h => h) ?_; clear H a; intro a H
    refine k_take 55 H rfl (q_load rfl (LdC.old ((hS556.blk 0 rfl).ldAll ag139 sz139) Ext.rfl' (Nat.le_refl _) (by simp))) rfl (by as_aux_lemma => kernel_rfl) (by as_aux_lemma => kernel_rfl) (by as_aux_lemma => kernel_rfl) (by as_aux_lemma => kernel_rfl) (fun _ _ _ h => h) ?_; clear H a; intro a H
    refine k_take 57 H rfl (q_load rfl (LdC.old ((hS556.blk 0 rfl).ldAll ag139 sz139) Ext.rfl' (Nat.le_refl _) (by simp))) rfl (by as_aux_lemma => kernel_rfl) (by as_aux_lemma => kernel_rfl) (by as_aux_lemma => kernel_rfl) (by as_aux_lemma => kernel_rfl) (fun _ _ _ h => h) ?_; clear H a; intro a H
    refine k_take 59 H rfl (q_load rfl (LdC.old ((hS556.blk 0 rfl).ldAll ag139 sz139) Ext.rfl' (Nat.le_refl _) (by simp))) rfl (by as_aux_lemma => kernel_rfl) (by as_aux_lemma => kernel_rfl) (by as_aux_lemma => kernel_rfl) (by as_aux_lemma => kernel_rfl) (fun _ _ _ h => h) ?_; clear H a; intro a H
    refine k_take 60 H rfl (q_load rfl (LdC.old ((hS556.blk 0 rfl).ldAll ag139 sz139) Ext.rfl' (Nat.le_refl _) (by simp))) rfl (by as_aux_lemma => kernel_rfl) (by as_aux_lemma => kernel_rfl) (by as_aux_lemma => kernel_rfl) (by as_aux_lemma => kernel_rfl) (fun _ _ _ h => h) ?_; clear H a; intro a H
    refine k_takeT 61 H rfl (q_makeFunc (f := [.agg #[.int .i64 a0.p_.Id, .bool a0.p_.Mobile, vp0_0, vp0_1, vp0_2, .int .i64 a0.p_.Events, vp0_3, .int .i64 a0.s_.Id, .int .i64 a0.s_.Frame, .int .i64 a0.s_.Epoch, vp0_4, vp0_5, vp0_6, vp0_7, vp0_8, vp0_9, vp0_10]]) (c := []) rfl rfl) rfl (by as_aux_lemma => kernel_rfl) (by as_aux_lemma => kernel_rfl) (by as_aux_lemma => kernel_rfl) (by as_aux_lemma => kernel_rfl) (fun _ _ _ h => h) ?_; clear H a; intro a H
    refine k_take 63 H rfl (q_load rfl (LdC.old ((hS556.blk 0 rfl).ldAll ag139 sz139) Ext.rfl' (Nat.le_refl _) (by simp))) rfl (by as_aux_lemma => kernel_rfl) (by as_aux_lemma => kernel_rfl) (by as_aux_lemma => kernel_rfl) (by as_aux_lemma => kernel_rfl) (fun _ _ _ h => h) ?_; clear H a; intro a H
    refine k_take 65 H rfl (q_load rfl (LdC.old ((hS556.blk 0 rfl).ldAll ag139 sz139) Ext.rfl' (Nat.le_refl _) (by simp))) rfl (by as_aux_lemma => kernel_rfl) (by as_aux_lemma => kernel_rfl) (by as_aux_lemma => kernel_rfl) (by as_aux_lemma => kernel_rfl) (fun _ _ _ h => h) ?_; clear H a; intro a H
    refine k_take 67 H rfl (q_load rfl (LdC.old ((hS556.blk 0 rfl).ldAll ag139 sz139) Ext.rfl' (Nat.le_refl _) (by simp))) rfl (by as_aux_lemma => kernel_rfl) (by as_aux_lemma => kernel_rfl) (by as_aux_lemma => kernel_rfl) (by as_aux_lemma => kernel_rfl) (fun _ _ _ h => h) ?_; clear H a; intro a H
    refine k_takeT 69 H rfl (q_fieldAddr0 rfl fo74_7) rfl (by as_aux_lemma => kernel_rfl) (by as_aux_lemma => kernel_rfl) (by as_aux_lemma => kernel_rfl) (by as_aux_lemma => kernel_rfl) (fun _ _ _ h => h) ?_; clear H a; intro a H
    refine k_take 70 H rfl (q_load rfl (LdC.old ((hS556.blk 3 rfl).ld ag23 rfl) Ext.rfl' (Nat.le_refl _) (by simp))) rfl (by as_aux_lemma => kernel_rfl) (by as_aux_lemma => kernel_rfl) (by as_aux_lemma => kernel_rfl) (by as_aux_lemma => kernel_rfl) (fun _ _ _ h => h) ?_; clear H a; intro a H
    refine k_take 73 H rfl (q_load rfl (LdC.old ((hS556.blk 0 rfl).ldAll ag139 sz139) Ext.rfl' (Nat.le_refl _) (by simp))) rfl (by as_aux_lemma => kernel_rfl) (by as_aux_lemma => kernel_rfl) (by as_aux_lemma => kernel_rfl) (by as_aux_lemma => kernel_rfl) (fun _ _ _ h => h) ?_; clear H a; intro a H
    refine k_take 75 H rfl (q_load rfl (LdC.old ((hS556.blk 0 rfl).ldAll ag139 sz139) Ext.rfl' (Nat.le_refl _) (by simp))) rfl (by as_aux_lemma => kernel_rfl) (by as_aux_lemma => kernel_rfl) (by as_aux_lemma => kernel_rfl) (by as_aux_lemma => kernel_rfl) (fun _ _ _ h => h) ?_; clear H a; intro a H
    refine k_take 77 H rfl (q_load rfl (LdC.old ((hS556.blk 0 rfl).ldAll ag139 sz139) Ext.rfl' (Nat.le_refl _) (by simp))) rfl (by as_aux_lemma => kernel_rfl) (by as_aux_lemma => kernel_rfl) (by as_aux_lemma => kernel_rfl) (by as_aux_lemma => kernel_rfl) (fun _ _ _ h => h) ?_; clear H a; intro a H
    refine k_take 79 H rfl (q_load rfl (LdC.old ((hS556.blk 0 rfl).ldAll ag139 sz139) Ext.rfl' (Nat.le_refl _) (by simp))) rfl (by as_aux_lemma => kernel_rfl) (by as_aux_lemma => kernel_rfl) (by as_aux_lemma => kernel_rfl) (by as_aux_lemma => kernel_rfl) (fun _ _ _ h => h) ?_; clear H a; intro a H
    refine k_takeT 80 H rfl (q_makeFunc (f := []) (c := [.pointer (some ⟨b529, 0, none⟩), .pointer (some ⟨b528, 0, none⟩)]) rfl rfl) rfl (by as_aux_lemma => kernel_rfl) (by as_aux_lemma => kernel_rfl) (by as_aux_lemma => kernel_rfl) (by as_aux_lemma => kernel_rfl) (fun _ _ _ h => h) ?_; clear H a; intro a H
    refine k_take 82 H rfl (q_load rfl (LdC.old ((hS556.blk 0 rfl).ldAll ag139 sz139) Ext.rfl' (Nat.le_refl _) (by simp))) rfl (by as_aux_lemma => kernel_rfl) (by as_aux_lemma => kernel_rfl) (by as_aux_lemma => kernel_rfl) (by as_aux_lemma => kernel_rfl) (fun _ _ _ h => h) ?_; clear H a; intro a H
    refine k_takeT 83 H rfl (q_makeFunc (f := []) (c := [.pointer (some ⟨b529, 0, none⟩), .pointer (some ⟨b528, 0, none⟩)]) rfl rfl) rfl (by as_aux_lemma => kernel_rfl) (by as_aux_lemma => kernel_rfl) (by as_aux_lemma => kernel_rfl) (by as_aux_lemma => kernel_rfl) (fun _ _ _ h => h) ?_; clear H a; intro a H
    refine k_take 85 H rfl (q_load rfl (LdC.old ((hS556.blk 0 rfl).ldAll ag139 sz139) Ext.rfl' (Nat.le_refl _) (by simp))) rfl (by as_aux_lemma => kernel_rfl) (by as_aux_lemma => kernel_rfl) (by as_aux_lemma => kernel_rfl) (by as_aux_lemma => kernel_rfl) (fun _ _ _ h => h) ?_; clear H a; intro a H
    refine k_take 86 H rfl (q_load rfl (LdC.old ((hS556.blk 0 rfl).ldAll ag139 sz139) Ext.rfl' (Nat.le_refl _) (by simp))) rfl (by as_aux_lemma => kernel_rfl) (by as_aux_lemma => kernel_rfl) (by as_aux_lemma => kernel_rfl) (by as_aux_lemma => kernel_rfl) (fun _ _ _ h => h) ?_; clear H a; intro a H
    refine k_takeT 87 H rfl (q_makeFunc (f := [.agg #[.int .i64 a0.p_.Id, .bool a0.p_.Mobile, vp0_0, vp0_1, vp0_2, .int .i64 a0.p_.Events, vp0_3, .int .i64 a0.s_.Id, .int .i64 a0.s_.Frame, .int .i64 a0.s_.Epoch, vp0_4, vp0_5, vp0_6, vp0_7, vp0_8, vp0_9, vp0_10]]) (c := []) rfl rfl) rfl (by as_aux_lemma => kernel_rfl) (by as_aux_lemma => kernel_rfl) (by as_aux_lemma => kernel_rfl) (by as_aux_lemma => kernel_rfl) (fun _ _ _ h => h) ?_; clear H a; intro a H
    refine k_take 89 H rfl (q_load rfl (LdC.old ((hS556.blk 0 rfl).ldAll ag139 sz139) Ext.rfl' (Nat.le_refl _) (by simp))) rfl (by as_aux_lemma => kernel_rfl) (by as_aux_lemma => kernel_rfl) (by as_aux_lemma => kernel_rfl) (by as_aux_lemma => kernel_rfl) (fun _ _ _ h => h) ?_; clear H a; intro a H
    replace hm := bindS hm; obtain ⟨r559, hr559, hm⟩ := hm
    refine k_of_kk 7 (by as_aux_lemma => kernel_rfl) ?_
    refine kk_call 7 H rfl rfl en100 (g_valid_between_w (A := A) hr559) rfl (fun v w hv => .inl (ChgF.of_ext (by obtain ⟨_, hE0⟩ := hv; exact hE0))) ?_
    clear H; intro x562 w560 hv; clear a; intro a H; obtain ⟨rfl, hE561⟩ := hv
    replace hS := hS.ext hE561
    replace hW := Nat.le_trans hW hE561.size
    refine k_takeT 8 H rfl (q_move rfl) rfl (by as_aux_lemma => kernel_rfl) (by as_aux_lemma => kernel_rfl) (by as_aux_lemma => kernel_rfl) (by as_aux_lemma => kernel_rfl) (fun _ _ _ h => h) ?_; clear H a; intro a H
    replace hm := bindS hm; obtain ⟨q563, hm, hq563⟩ := hm
    refine k_mid4 H 52 9 10 11 12 [(1, .pointer (some ⟨b21, 0, none⟩)), (2, .pointer (some ⟨b24, 0, none⟩)), (3, .pointer (some ⟨b528, 0, none⟩)), (4, .pointer (some ⟨b529, 0, none⟩)), (9, .pointer (some ⟨b529, 0, none⟩)), (10, .int .i64 a0.s_.Id), (11, .pointer (some ⟨b528, 0, none⟩)), (12, .int .i64 a0.p_.Id), (13, .bool (decide (a0.s_.Id = a0.p_.Id))), (14, .pointer (some ⟨b529, 1, none⟩)), (15, .int .i64 a0.s_.Frame), (16, .bool r559), (21, .bool q563), (22, .pointer (some ⟨b529, 3, none⟩)), (23, vp0_4), (24, .int .i64 ((a0.s_.Procs.length : Nat) : Int)), (25, .pointer (some ⟨b528, 3, none⟩)), (26, vp0_1), (27, .int .i64 ((a0.p_.Procs.length : Nat) : Int)), (28, .bool (decide (a0.s_.Procs.length = a0.p_.Procs.length))), (64, .agg #[.int .i64 a0.p_.Id, .bool a0.p_.Mobile, vp0_0, vp0_1, vp0_2, .int .i64 a0.p_.Events, vp0_3, .int .i64 a0.s_.Id, .int .i64 a0.s_.Frame, .int .i64 a0.s_.Epoch, vp0_4, vp0_5, vp0_6, vp0_7, vp0_8, vp0_9, vp0_10]), (66, .agg #[.int .i64 a0.p_.Id, .bool a0.p_.Mobile, vp0_0, vp0_1, vp0_2, .int .i64 a0.p_.Events, vp0_3, .int .i64 a0.s_.Id, .int .i64 a0.s_.Frame, .int .i64 a0.s_.Epoch, vp0_4, vp0_5, vp0_6, vp0_7, vp0_8, vp0_9, vp0_10]), (68, .agg #[.int .i64 a0.p_.Id, .bool a0.p_.Mobile, vp0_0, vp0_1, vp0_2, .int .i64 a0.p_.Events, vp0_3, .int .i64 a0.s_.Id, .int .i64 a0.s_.Frame, .int .i64 a0.s_.Epoch, vp0_4, vp0_5, vp0_6, vp0_7, vp0_8, vp0_9, vp0_10]), (69, .agg #[.int .i64 a0.p_.Id, .bool a0.p_.Mobile, vp0_0, vp0_1, vp0_2, .int .i64 a0.p_.Events, vp0_3, .int .i64 a0.s_.Id, .int .i64 a0.s_.Frame, .int .i64 a0.s_.Epoch, vp0_4, vp0_5, vp0_6, vp0_7, vp0_8, vp0_9, vp0_10]), (70, .func (.func 104) [.agg #[.int .i64 a0.p_.Id, .bool a0.p_.Mobile, vp0_0, vp0_1, vp0_2, .int .i64 a0.p_.Events, vp0_3, .int .i64 a0.s_.Id, .int .i64 a0.s_.Frame, .int .i64 a0.s_.Epoch, vp0_4, vp0_5, vp0_6, vp0_7, vp0_8, vp0_9, vp0_10]].toArray [].toArray), (72, .agg #[.int .i64 a0.p_.Id, .bool a0.p_.Mobile, vp0_0, vp0_1, vp0_2, .int .i64 a0.p_.Events, vp0_3, .int .i64 a0.s_.Id, .int .i64 a0.s_.Frame, .int .i64 a0.s_.Epoch, vp0_4, vp0_5, vp0_6, vp0_7, vp0_8, vp0_9, vp0_10]), (74, .agg #[.int .i64 a0.p_.Id, .bool a0.p_.Mobile, vp0_0, vp0_1, vp0_2, .int .i64 a0.p_.Events, vp0_3, .int .i64 a0.s_.Id, .int .i64 a0.s_.Frame, .int .i64 a0.s_.Epoch, vp0_4, vp0_5, vp0_6, vp0_7, vp0_8, vp0_9, vp0_10]), (76, .agg #[.int .i64 a0.p_.Id, .bool a0.p_.Mobile, vp0_0, vp0_1, vp0_2, .int .i64 a0.p_.Events, vp0_3, .int .i64 a0.s_.Id, .int .i64 a0.s_.Frame, .int .i64 a0.s_.Epoch, vp0_4, vp0_5, vp0_6, vp0_7, vp0_8, vp0_9, vp0_10]), (78, .pointer (some ⟨b529, 7, none⟩)), (79, vp0_8), (82, .agg #[.int .i64 a0.p_.Id, .bool a0.p_.Mobile, vp0_0, vp0_1, vp0_2, .int .i64 a0.p_.Events, vp0_3, .int .i64 a0.s_.Id, .int .i64 a0.s_.Frame, .int .i64 a0.s_.Epoch, vp0_4, vp0_5, vp0_6, vp0_7, vp0_8, vp0_9, vp0_10]), (84, .agg #[.int .i64 a0.p_.Id, .bool a0.p_.Mobile, vp0_0, vp0_1, vp0_2, .int .i64 a0.p_.Events, vp0_3, .int .i64 a0.s_.Id, .int .i64 a0.s_.Frame, .int .i64 a0.s_.Epoch, vp0_4, vp0_5, vp0_6, vp0_7, vp0_8, vp0_9, vp0_10]), (86, .agg #[.int .i64 a0.p_.Id, .bool a0.p_.Mobile, vp0_0, vp0_1, vp0_2, .int .i64 a0.p_.Events, vp0_3, .int .i64 a0.s_.Id, .int .i64 a0.s_.Frame, .int .i64 a0.s_.Epoch, vp0_4, vp0_5, vp0_6, vp0_7, vp0_8, vp0_9, vp0_10]), (88, .agg #[.int .i64 a0.p_.Id, .bool a0.p_.Mobile, vp0_0, vp0_1, vp0_2, .int .i64 a0.p_.Events, vp0_3, .int .i64 a0.s_.Id, .int .i64 a0.s_.Frame, .int .i64 a0.s_.Epoch, vp0_4, vp0_5, vp0_6, vp0_7, vp0_8, vp0_9, vp0_10]), (89, .func (.func 116) [].toArray [.pointer (some ⟨b529, 0, none⟩), .pointer (some ⟨b528, 0, none⟩)].toArray), (91, .agg #[.int .i64 a0.p_.Id, .bool a0.p_.Mobile, vp0_0, vp0_1, vp0_2, .int .i64 a0.p_.Events, vp0_3, .int .i64 a0.s_.Id, .int .i64 a0.s_.Frame, .int .i64 a0.s_.Epoch, vp0_4, vp0_5, vp0_6, vp0_7, vp0_8, vp0_9, vp0_10]), (92, .func (.func 118) [].toArray [.pointer (some ⟨b529, 0, none⟩), .pointer (some ⟨b528, 0, none⟩)].toArray), (94, .agg #[.int .i64 a0.p_.Id, .bool a0.p_.Mobile, vp0_0, vp0_1, vp0_2, .int .i64 a0.p_.Events, vp0_3, .int .i64 a0.s_.Id, .int .i64 a0.s_.Frame, .int .i64 a0.s_.Epoch, vp0_4, vp0_5, vp0_6, vp0_7, vp0_8, vp0_9, vp0_10]), (95, .agg #[.int .i64 a0.p_.Id, .bool a0.p_.Mobile, vp0_0, vp0_1, vp0_2, .int .i64 a0.p_.Events, vp0_3, .int .i64 a0.s_.Id, .int .i64 a0.s_.Frame, .int .i64 a0.s_.Epoch, vp0_4, vp0_5, vp0_6, vp0_7, vp0_8, vp0_9, vp0_10]), (96, .func (.func 119) [.agg #[.int .i64 a0.p_.Id, .bool a0.p_.Mobile, vp0_0, vp0_1, vp0_2, .int .i64 a0.p_.Events, vp0_3, .int .i64 a0.s_.Id, .int .i64 a0.s_.Frame, .int .i64 a0.s_.Epoch, vp0_4, vp0_5, vp0_6, vp0_7, vp0_8, vp0_9, vp0_10]].toArray [].toArray), (98, .agg #[.int .i64 a0.p_.Id, .bool a0.p_.Mobile, vp0_0, vp0_1, vp0_2, .int .i64 a0.p_.Events, vp0_3, .int .i64 a0.s_.Id, .int .i64 a0.s_.Frame, .int .i64 a0.s_.Epoch, vp0_4, vp0_5, vp0_6, vp0_7, vp0_8, vp0_9, vp0_10])] (fun wl => St NB w wl [blkR b21 [.int .i64 a0.p_.Id, .bool a0.p_.Mobile, vp0_0, vp0_1, vp0_2, .int .i64 a0.p_.Events, vp0_3, .int .i64 a0.s_.Id, .int .i64 a0.s_.Frame, .int .i64 a0.s_.Epoch, vp0_4, vp0_5, vp0_6, vp0_7, vp0_8, vp0_9, vp0_10] 139, blkR b24 ((Vector.replicate 17 false).toList.map Value.bool) 137, blkR b528 [.int .i64 a0.p_.Id, .bool a0.p_.Mobile, vp0_0, vp0_1, vp0_2, .int .i64 a0.p_.Events, vp0_3] 68, blkR b529 [.int .i64 a0.s_.Id, .int .i64 a0.s_.Frame, .int .i64 a0.s_.Epoch, vp0_4, vp0_5, vp0_6, vp0_7, vp0_8, vp0_9, vp0_10] 74] ∧ w554.heap.size ≤ wl.heap.size ∧ Ext w560 wl) (fun jn => ?_) ?_
    · rcases Bool.eq_false_or_eq_true r559 with hg564 | hg564
      · replace H := H.know 17 rfl hg564
        replace hm := condT hm hg564
        refine kg_takeT 9 H rfl rfl rfl (q_fieldAddr0 rfl fo74_2) rfl (by as_aux_lemma => kernel_rfl) (by as_aux_lemma => kernel_rfl) (by as_aux_lemma => kernel_rfl) (by as_aux_lemma => kernel_rfl) (fun _ _ _ h => h) ?_; clear H a; intro a H
        refine kg_take 10 H rfl rfl rfl (q_load rfl (LdC.old ((hS556.blk 3 rfl).ld ag3 rfl) hE561 (Nat.le_refl _) (by simp))) rfl (by as_aux_lemma => kernel_rfl) (by as_aux_lemma => kernel_rfl) (by as_aux_lemma => kernel_rfl) (by as_aux_lemma => kernel_rfl) (fun _ _ _ h => h) ?_; clear H a; intro a H
        replace hm := bindS hm; obtain ⟨r567, hr567, hm⟩ := hm
        refine kg_call 11 H rfl rfl rfl rfl en100 (g_valid_between_w (A := A) hr567) rfl (by as_aux_lemma => kernel_rfl) (fun v w hv => .inl (ChgF.of_ext (by obtain ⟨_, hE0⟩ := hv; exact hE0))) ?_
        clear H; intro x570 w568 hv; clear a; intro a H; obtain ⟨rfl, hE569⟩ := hv
        replace hS := hS.ext hE569
        replace hW := Nat.le_trans hW hE569.size
        refine k_takeT 12 H rfl (q_pickT rfl rfl) rfl (by as_aux_lemma => kernel_rfl) (by as_aux_lemma => kernel_rfl) (by as_aux_lemma => kernel_rfl) (by as_aux_lemma => kernel_rfl) (fun _ _ _ h => h) ?_; clear H a; intro a H
        obtain rfl := Option.some.inj hm
        exact jn _ _ _ H ⟨rfl, rfl, rfl, rfl, rfl, rfl, rfl, rfl, rfl, rfl, rfl, rfl, rfl, rfl, rfl, rfl, rfl, rfl, rfl, rfl, rfl, rfl, rfl, rfl, rfl, rfl, rfl, rfl, rfl, rfl, rfl, rfl, rfl, rfl, rfl, rfl, rfl, rfl, rfl, rfl, rfl, trivial⟩ ⟨hS, hW, hE569⟩
      · replace H := H.know 17 rfl hg564
        replace hm := condF hm hg564
        refine k_no 9 H rfl rfl rfl (by decide) rfl (by as_aux_lemma => kernel_rfl) (by as_aux_lemma => kernel_rfl) (by as_aux_lemma => kernel_rfl) (by as_aux_lemma => kernel_rfl) (fun _ _ _ h => h) ?_; clear H a; intro a H
        refine k_no 10 H rfl rfl rfl (by decide) rfl (by as_aux_lemma => kernel_rfl) (by as_aux_lemma => kernel_rfl) (by as_aux_lemma => kernel_rfl) (by as_aux_lemma => kernel_rfl) (fun _ _ _ h => h) ?_; clear H a; intro a H
        refine k_no 11 H rfl rfl rfl (by decide) rfl (by as_aux_lemma => kernel_rfl) (by as_aux_lemma => kernel_rfl) (by as_aux_lemma => kernel_rfl) (by as_aux_lemma => kernel_rfl) (fun _ _ _ h => h) ?_; clear H a; intro a H
        refine k_takeT 12 H rfl (q_pickF rfl rfl) rfl (by as_aux_lemma => kernel_rfl) (by as_aux_lemma => kernel_rfl) (by as_aux_lemma => kernel_rfl) (by as_aux_lemma => kernel_rfl) (fun _ _ _ h => h) ?_; clear H a; intro a H
        obtain rfl := Option.some.inj hm
        exact jn _ _ _ H ⟨rfl, rfl, rfl, rfl, rfl, rfl, rfl, rfl, rfl, rfl, rfl, rfl, rfl, rfl, rfl, rfl, rfl, rfl, rfl, rfl, rfl, rfl, rfl, rfl, rfl, rfl, rfl, rfl, rfl, rfl, rfl, rfl, rfl, rfl, rfl, rfl, rfl, rfl, rfl, rfl, rfl, trivial⟩ ⟨hS, hW, Ext.rfl'⟩
    · clear H hS hm hW a; intro a w565 H hR; simp only [ent, List.map_cons, List.map_nil] at H; obtain ⟨hS, hW, hE566⟩ := hR; have hm := hq563
      refine k_takeT 20 H rfl (q_move rfl) rfl (by as_aux_lemma => kernel_rfl) (by as_aux_lemma => kernel_rfl) (by as_aux_lemma => kernel_rfl) (by as_aux_lemma => kernel_rfl) (fun _ _ _ h => h) ?_; clear H a; intro a H
      replace hm := bindS hm; obtain ⟨q571, hm, hq571⟩ := hm
      refine k_mid8 H 43 21 22 23 24 25 26 27 28 [(1, .pointer (some ⟨b21, 0, none⟩)), (2, .pointer (some ⟨b24, 0, none⟩)), (3, .pointer (some ⟨b528, 0, none⟩)), (4, .pointer (some ⟨b529, 0, none⟩)), (9, .pointer (some ⟨b529, 0, none⟩)), (10, .int .i64 a0.s_.Id), (11, .pointer (some ⟨b528, 0, none⟩)), (12, .int .i64 a0.p_.Id), (13, .bool (decide (a0.s_.Id = a0.p_.Id))), (14, .pointer (some ⟨b529, 1, none⟩)), (15, .int .i64 a0.s_.Frame), (16, .bool r559), (21, .bool q563), (22, .pointer (some ⟨b529, 3, none⟩)), (23, vp0_4), (24, .int .i64 ((a0.s_.Procs.length : Nat) : Int)), (25, .pointer (some ⟨b528, 3, none⟩)), (26, vp0_1), (27, .int .i64 ((a0.p_.Procs.length : Nat) : Int)), (28, .bool (decide (a0.s_.Procs.length = a0.p_.Procs.length))), (37, .bool q571), (64, .agg #[.int .i64 a0.p_.Id, .bool a0.p_.Mobile, vp0_0, vp0_1, vp0_2, .int .i64 a0.p_.Events, vp0_3, .int .i64 a0.s_.Id, .int .i64 a0.s_.Frame, .int .i64 a0.s_.Epoch, vp0_4, vp0_5, vp0_6, vp0_7, vp0_8, vp0_9, vp0_10]), (66, .agg #[.int .i64 a0.p_.Id, .bool a0.p_.Mobile, vp0_0, vp0_1, vp0_2, .int .i64 a0.p_.Events, vp0_3, .int .i64 a0.s_.Id, .int .i64 a0.s_.Frame, .int .i64 a0.s_.Epoch, vp0_4, vp0_5, vp0_6, vp0_7, vp0_8, vp0_9, vp0_10]), (68, .agg #[.int .i64 a0.p_.Id, .bool a0.p_.Mobile, vp0_0, vp0_1, vp0_2, .int .i64 a0.p_.Events, vp0_3, .int .i64 a0.s_.Id, .int .i64 a0.s_.Frame, .int .i64 a0.s_.Epoch, vp0_4, vp0_5, vp0_6, vp0_7, vp0_8, vp0_9, vp0_10]), (69, .agg #[.int .i64 a0.p_.Id, .bool a0.p_.Mobile, vp0_0, vp0_1, vp0_2, .int .i64 a0.p_.Events, vp0_3, .int .i64 a0.s_.Id, .int .i64 a0.s_.Frame, .int .i64 a0.s_.Epoch, vp0_4, vp0_5, vp0_6, vp0_7, vp0_8, vp0_9, vp0_10]), (70, .func (.func 104) [.agg #[.int .i64 a0.p_.Id, .bool a0.p_.Mobile, vp0_0, vp0_1, vp0_2, .int .i64 a0.p_.Events, vp0_3, .int .i64 a0.s_.Id, .int .i64 a0.s_.Frame, .int .i64 a0.s_.Epoch, vp0_4, vp0_5, vp0_6, vp0_7, vp0_8, vp0_9, vp0_10]].toArray [].toArray), (72, .agg #[.int .i64 a0.p_.Id, .bool a0.p_.Mobile, vp0_0, vp0_1, vp0_2, .int .i64 a0.p_.Events, vp0_3, .int .i64 a0.s_.Id, .int .i64 a0.s_.Frame, .int .i64 a0.s_.Epoch, vp0_4, vp0_5, vp0_6, vp0_7, vp0_8, vp0_9, vp0_10]), (74, .agg #[.int .i64 a0.p_.Id, .bool a0.p_.Mobile, vp0_0, vp0_1, vp0_2, .int .i64 a0.p_.Events, vp0_3, .int .i64 a0.s_.Id, .int .i64 a0.s_.Frame, .int .i64 a0.s_.Epoch, vp0_4, vp0_5, vp0_6, vp0_7, vp0_8, vp0_9, vp0_10]), (76, .agg #[.int .i64 a0.p_.Id, .bool a0.p_.Mobile, vp0_0, vp0_1, vp0_2, .int .i64 a0.p_.Events, vp0_3, .int .i64 a0.s_.Id, .int .i64 a0.s_.Frame, .int .i64 a0.s_.Epoch, vp0_4, vp0_5, vp0_6, vp0_7, vp0_8, vp0_9, vp0_10]), (78, .pointer (some ⟨b529, 7, none⟩)), (79, vp0_8), (82, .agg #[.int .i64 a0.p_.Id, .bool a0.p_.Mobile, vp0_0, vp0_1, vp0_2, .int .i64 a0.p_.Events, vp0_3, .int .i64 a0.s_.Id, .int .i64 a0.s_.Frame, .int .i64 a0.s_.Epoch, vp0_4, vp0_5, vp0_6, vp0_7, vp0_8, vp0_9, vp0_10]), (84, .agg #[.int .i64 a0.p_.Id, .bool a0.p_.Mobile, vp0_0, vp0_1, vp0_2, .int .i64 a0.p_.Events, vp0_3, .int .i64 a0.s_.Id, .int .i64 a0.s_.Frame, .int .i64 a0.s_.Epoch, vp0_4, vp0_5, vp0_6, vp0_7, vp0_8, vp0_9, vp0_10]), (86, .agg #[.int .i64 a0.p_.Id, .bool a0.p_.Mobile, vp0_0, vp0_1, vp0_2, .int .i64 a0.p_.Events, vp0_3, .int .i64 a0.s_.Id, .int .i64 a0.s_.Frame, .int .i64 a0.s_.Epoch, vp0_4, vp0_5, vp0_6, vp0_7, vp0_8, vp0_9, vp0_10]), (88, .agg #[.int .i64 a0.p_.Id, .bool a0.p_.Mobile, vp0_0, vp0_1, vp0_2, .int .i64 a0.p_.Events, vp0_3, .int .i64 a0.s_.Id, .int .i64 a0.s_.Frame, .int .i64 a0.s_.Epoch, vp0_4, vp0_5, vp0_6, vp0_7, vp0_8, vp0_9, vp0_10]), (89, .func (.func 116) [].toArray [.pointer (some ⟨b529, 0, none⟩), .pointer (some ⟨b528, 0, none⟩)].toArray), (91, .agg #[.int .i64 a0.p_.Id, .bool a0.p_.Mobile, vp0_0, vp0_1, vp0_2, .int .i64 a0.p_.Events, vp0_3, .int .i64 a0.s_.Id, .int .i64 a0.s_.Frame, .int .i64 a0.s_.Epoch, vp0_4, vp0_5, vp0_6, vp0_7, vp0_8, vp0_9, vp0_10]), (92, .func (.func 118) [].toArray [.pointer (some ⟨b529, 0, none⟩), .pointer (some ⟨b528, 0, none⟩)].toArray), (94, .agg #[.int .i64 a0.p_.Id, .bool a0.p_.Mobile, vp0_0, vp0_1, vp0_2, .int .i64 a0.p_.Events, vp0_3, .int .i64 a0.s_.Id, .int .i64 a0.s_.Frame, .int .i64 a0.s_.Epoch, vp0_4, vp0_5, vp0_6, vp0_7, vp0_8, vp0_9, vp0_10]), (95, .agg #[.int .i64 a0.p_.Id, .bool a0.p_.Mobile, vp0_0, vp0_1, vp0_2, .int .i64 a0.p_.Events, vp0_3, .int .i64 a0.s_.Id, .int .i64 a0.s_.Frame, .int .i64 a0.s_.Epoch, vp0_4, vp0_5, vp0_6, vp0_7, vp0_8, vp0_9, vp0_10]), (96, .func (.func 119) [.agg #[.int .i64 a0.p_.Id, .bool a0.p_.Mobile, vp0_0, vp0_1, vp0_2, .int .i64 a0.p_.Events, vp0_3, .int .i64 a0.s_.Id, .int .i64 a0.s_.Frame, .int .i64 a0.s_.Epoch, vp0_4, vp0_5, vp0_6, vp0_7, vp0_8, vp0_9, vp0_10]].toArray [].toArray), (98, .agg #[.int .i64 a0.p_.Id, .bool a0.p_.Mobile, vp0_0, vp0_1, vp0_2, .int .i64 a0.p_.Events, vp0_3, .int .i64 a0.s_.Id, .int .i64 a0.s_.Frame, .int .i64 a0.s_.Epoch, vp0_4, vp0_5, vp0_6, vp0_7, vp0_8, vp0_9, vp0_10])] (fun wl => St NB w wl [blkR b21 [.int .i64 a0.p_.Id, .bool a0.p_.Mobile, vp0_0, vp0_1, vp0_2, .int .i64 a0.p_.Events, vp0_3, .int .i64 a0.s_.Id, .int .i64 a0.s_.Frame, .int .i64 a0.s_.Epoch, vp0_4, vp0_5, vp0_6, vp0_7, vp0_8, vp0_9, vp0_10] 139, blkR b24 ((Vector.replicate 17 false).toList.map Value.bool) 137, blkR b528 [.int .i64 a0.p_.Id, .bool a0.p_.Mobile, vp0_0, vp0_1, vp0_2, .int .i64 a0.p_.Events, vp0_3] 68, blkR b529 [.int .i64 a0.s_.Id, .int .i64 a0.s_.Frame, .int .i64 a0.s_.Epoch, vp0_4, vp0_5, vp0_6, vp0_7, vp0_8, vp0_9, vp0_10] 74] ∧ w554.heap.size ≤ wl.heap.size ∧ Ext w565 wl) (fun jn => ?_) ?_
      · rcases Bool.eq_false_or_eq_true (decide (a0.s_.Procs.length = a0.p_.Procs.length)) with hg572 | hg572
        · replace H := H.know 29 rfl hg572
          replace hm := condT hm hg572
          refine kg_takeT 21 H rfl rfl rfl (q_fieldAddr0 rfl fo74_8) rfl (by as_aux_lemma => kernel_rfl) (by as_aux_lemma => kernel_rfl) (by as_aux_lemma => kernel_rfl) (by as_aux_lemma => kernel_rfl) (fun _ _ _ h => h) ?_; clear H a; intro a H
          refine kg_take 22 H rfl rfl rfl (q_load rfl (LdC.old ((hS556.blk 3 rfl).ld ag71 rfl) (Ext.trans' hE561 hE566) (Nat.le_refl _) (by simp))) rfl (by as_aux_lemma => kernel_rfl) (by as_aux_lemma => kernel_rfl) (by as_aux_lemma => kernel_rfl) (by as_aux_lemma => kernel_rfl) (fun _ _ _ h => h) ?_; clear H a; intro a H
          obtain ⟨A575, c575, hv575, hl575, hm575⟩ := SlR.formV (hrp0_9.ext RGPort.mono hS.x)
          refine kg_takeT 23 H rfl rfl rfl (q_lenV Tryd.underlying71 rfl hv575) rfl (by as_aux_lemma => kernel_rfl) (by as_aux_lemma => kernel_rfl) (by as_aux_lemma => kernel_rfl) (by as_aux_lemma => kernel_rfl) (fun _ _ _ h => h) ?_; clear H a; intro a H
          refine kg_takeT 24 H rfl rfl rfl (q_fieldAddr0 rfl fo68_4) rfl (by as_aux_lemma => kernel_rfl) (by as_aux_lemma => kernel_rfl) (by as_aux_lemma => kernel_rfl) (by as_aux_lemma => kernel_rfl) (fun _ _ _ h => h) ?_; clear H a; intro a H
          refine kg_take 25 H rfl rfl rfl (q_load rfl (LdC.old ((hS556.blk 2 rfl).ld ag66 rfl) (Ext.trans' hE561 hE566) (Nat.le_refl _) (by simp))) rfl (by as_aux_lemma => kernel_rfl) (by as_aux_lemma => kernel_rfl) (by as_aux_lemma => kernel_rfl) (by as_aux_lemma => kernel_rfl) (fun _ _ _ h => h) ?_; clear H a; intro a H
          obtain ⟨A576, c576, hv576, hl576, hm576⟩ := SlR.formV (hrp0_2.ext (Flat.mono _) hS.x)
          refine kg_takeT 26 H rfl rfl rfl (q_lenV Tryd.underlying66 rfl hv576) rfl (by as_aux_lemma => kernel_rfl) (by as_aux_lemma => kernel_rfl) (by as_aux_lemma => kernel_rfl) (by as_aux_lemma => kernel_rfl) (fun _ _ _ h => h) ?_; clear H a; intro a H
          refine kg_takeT 27 H rfl rfl rfl (q_eqlN (i := a0.s_.Ports.length) (j := a0.p_.Ports.length) rfl rfl) rfl (by as_aux_lemma => kernel_rfl) (by as_aux_lemma => kernel_rfl) (by as_aux_lemma => kernel_rfl) (by as_aux_lemma => kernel_rfl) (fun _ _ _ h => h) ?_; clear H a; intro a H
          refine k_takeT 28 H rfl (q_pickT rfl rfl) rfl (by as_aux_lemma => kernel_rfl) (by as_aux_lemma => kernel_rfl) (by as_aux_lemma => kernel_rfl) (by as_aux_lemma => kernel_rfl) (fun _ _ _ h => h) ?_; clear H a; intro a H
          obtain rfl := Option.some.inj hm
          exact jn _ _ _ H ⟨rfl, rfl, rfl, rfl, rfl, rfl, rfl, rfl, rfl, rfl, rfl, rfl, rfl, rfl, rfl, rfl, rfl, rfl, rfl, rfl, rfl, rfl, rfl, rfl, rfl, rfl, rfl, rfl, rfl, rfl, rfl, rfl, rfl, rfl, rfl, rfl, rfl, rfl, rfl, rfl, rfl, rfl, trivial⟩ ⟨hS, hW, Ext.rfl'⟩
        · replace H := H.know 29 rfl hg572
          replace hm := condF hm hg572
          refine k_no 21 H rfl rfl rfl (by decide) rfl (by as_aux_lemma => kernel_rfl) (by as_aux_lemma => kernel_rfl) (by as_aux_lemma => kernel_rfl) (by as_aux_lemma => kernel_rfl) (fun _ _ _ h => h) ?_; clear H a; intro a H
          refine k_no 22 H rfl rfl rfl (by decide) rfl (by as_aux_lemma => kernel_rfl) (by as_aux_lemma => kernel_rfl) (by as_aux_lemma => kernel_rfl) (by as_aux_lemma => kernel_rfl) (fun _ _ _ h => h) ?_; clear H a; intro a H
          refine k_no 23 H rfl rfl rfl (by decide) rfl (by as_aux_lemma => kernel_rfl) (by as_aux_lemma => kernel_rfl) (by as_aux_lemma => kernel_rfl) (by as_aux_lemma => kernel_rfl) (fun _ _ _ h => h) ?_; clear H a; intro a H
          refine k_no 24 H rfl rfl rfl (by decide) rfl (by as_aux_lemma => kernel_rfl) (by as_aux_lemma => kernel_rfl) (by as_aux_lemma => kernel_rfl) (by as_aux_lemma => kernel_rfl) (fun _ _ _ h => h) ?_; clear H a; intro a H
          refine k_no 25 H rfl rfl rfl (by decide) rfl (by as_aux_lemma => kernel_rfl) (by as_aux_lemma => kernel_rfl) (by as_aux_lemma => kernel_rfl) (by as_aux_lemma => kernel_rfl) (fun _ _ _ h => h) ?_; clear H a; intro a H
          refine k_no 26 H rfl rfl rfl (by decide) rfl (by as_aux_lemma => kernel_rfl) (by as_aux_lemma => kernel_rfl) (by as_aux_lemma => kernel_rfl) (by as_aux_lemma => kernel_rfl) (fun _ _ _ h => h) ?_; clear H a; intro a H
          refine k_no 27 H rfl rfl rfl (by decide) rfl (by as_aux_lemma => kernel_rfl) (by as_aux_lemma => kernel_rfl) (by as_aux_lemma => kernel_rfl) (by as_aux_lemma => kernel_rfl) (fun _ _ _ h => h) ?_; clear H a; intro a H
          refine k_takeT 28 H rfl (q_pickF rfl rfl) rfl (by as_aux_lemma => kernel_rfl) (by as_aux_lemma => kernel_rfl) (by as_aux_lemma => kernel_rfl) (by as_aux_lemma => kernel_rfl) (fun _ _ _ h => h) ?_; clear H a; intro a H
          obtain rfl := Option.some.inj hm
          exact jn _ _ _ H ⟨rfl, rfl, rfl, rfl, rfl, rfl, rfl, rfl, rfl, rfl, rfl, rfl, rfl, rfl, rfl, rfl, rfl, rfl, rfl, rfl, rfl, rfl, rfl, rfl, rfl, rfl, rfl, rfl, rfl, rfl, rfl, rfl, rfl, rfl, rfl, rfl, rfl, rfl, rfl, rfl, rfl, rfl, trivial⟩ ⟨hS, hW, Ext.rfl'⟩
      · clear H hS hm hW a; intro a w573 H hR; simp only [ent, List.map_cons, List.map_nil] at H; obtain ⟨hS, hW, hE574⟩ := hR; have hm := hq571
        refine k_takeT 29 H rfl (q_move rfl) rfl (by as_aux_lemma => kernel_rfl) (by as_aux_lemma => kernel_rfl) (by as_aux_lemma => kernel_rfl) (by as_aux_lemma => kernel_rfl) (fun _ _ _ h => h) ?_; clear H a; intro a H
        replace hm := bindS hm; obtain ⟨q577, hm, hq577⟩ := hm
        refine k_mid8 H 34 30 31 32 33 34 35 36 37 [(1, .pointer (some ⟨b21, 0, none⟩)), (2, .pointer (some ⟨b24, 0, none⟩)), (3, .pointer (some ⟨b528, 0, none⟩)), (4, .pointer (some ⟨b529, 0, none⟩)), (9, .pointer (some ⟨b529, 0, none⟩)), (10, .int .i64 a0.s_.Id), (11, .pointer (some ⟨b528, 0, none⟩)), (12, .int .i64 a0.p_.Id), (13, .bool (decide (a0.s_.Id = a0.p_.Id))), (14, .pointer (some ⟨b529, 1, none⟩)), (15, .int .i64 a0.s_.Frame), (16, .bool r559), (21, .bool q563), (22, .pointer (some ⟨b529, 3, none⟩)), (23, vp0_4), (24, .int .i64 ((a0.s_.Procs.length : Nat) : Int)), (25, .pointer (some ⟨b528, 3, none⟩)), (26, vp0_1), (27, .int .i64 ((a0.p_.Procs.length : Nat) : Int)), (28, .bool (decide (a0.s_.Procs.length = a0.p_.Procs.length))), (37, .bool q571), (46, .bool q577), (64, .agg #[.int .i64 a0.p_.Id, .bool a0.p_.Mobile, vp0_0, vp0_1, vp0_2, .int .i64 a0.p_.Events, vp0_3, .int .i64 a0.s_.Id, .int .i64 a0.s_.Frame, .int .i64 a0.s_.Epoch, vp0_4, vp0_5, vp0_6, vp0_7, vp0_8, vp0_9, vp0_10]), (66, .agg #[.int .i64 a0.p_.Id, .bool a0.p_.Mobile, vp0_0, vp0_1, vp0_2, .int .i64 a0.p_.Events, vp0_3, .int .i64 a0.s_.Id, .int .i64 a0.s_.Frame, .int .i64 a0.s_.Epoch, vp0_4, vp0_5, vp0_6, vp0_7, vp0_8, vp0_9, vp0_10]), (68, .agg #[.int .i64 a0.p_.Id, .bool a0.p_.Mobile, vp0_0, vp0_1, vp0_2, .int .i64 a0.p_.Events, vp0_3, .int .i64 a0.s_.Id, .int .i64 a0.s_.Frame, .int .i64 a0.s_.Epoch, vp0_4, vp0_5, vp0_6, vp0_7, vp0_8, vp0_9, vp0_10]), (69, .agg #[.int .i64 a0.p_.Id, .bool a0.p_.Mobile, vp0_0, vp0_1, vp0_2, .int .i64 a0.p_.Events, vp0_3, .int .i64 a0.s_.Id, .int .i64 a0.s_.Frame, .int .i64 a0.s_.Epoch, vp0_4, vp0_5, vp0_6, vp0_7, vp0_8, vp0_9, vp0_10]), (70, .func (.func 104) [.agg #[.int .i64 a0.p_.Id, .bool a0.p_.Mobile, vp0_0, vp0_1, vp0_2, .int .i64 a0.p_.Events, vp0_3, .int .i64 a0.s_.Id, .int .i64 a0.s_.Frame, .int .i64 a0.s_.Epoch, vp0_4, vp0_5, vp0_6, vp0_7, vp0_8, vp0_9, vp0_10]].toArray [].toArray), (72, .agg #[.int .i64 a0.p_.Id, .bool a0.p_.Mobile, vp0_0, vp0_1, vp0_2, .int .i64 a0.p_.Events, vp0_3, .int .i64 a0.s_.Id, .int .i64 a0.s_.Frame, .int .i64 a0.s_.Epoch, vp0_4, vp0_5, vp0_6, vp0_7, vp0_8, vp0_9, vp0_10]), (74, .agg #[.int .i64 a0.p_.Id, .bool a0.p_.Mobile, vp0_0, vp0_1, vp0_2, .int .i64 a0.p_.Events, vp0_3, .int .i64 a0.s_.Id, .int .i64 a0.s_.Frame, .int .i64 a0.s_.Epoch, vp0_4, vp0_5, vp0_6, vp0_7, vp0_8, vp0_9, vp0_10]), (76, .agg #[.int .i64 a0.p_.Id, .bool a0.p_.Mobile, vp0_0, vp0_1, vp0_2, .int .i64 a0.p_.Events, vp0_3, .int .i64 a0.s_.Id, .int .i64 a0.s_.Frame, .int .i64 a0.s_.Epoch, vp0_4, vp0_5, vp0_6, vp0_7, vp0_8, vp0_9, vp0_10]), (78, .pointer (some ⟨b529, 7, none⟩)), (79, vp0_8), (82, .agg #[.int .i64 a0.p_.Id, .bool a0.p_.Mobile, vp0_0, vp0_1, vp0_2, .int .i64 a0.p_.Events, vp0_3, .int .i64 a0.s_.Id, .int .i64 a0.s_.Frame, .int .i64 a0.s_.Epoch, vp0_4, vp0_5, vp0_6, vp0_7, vp0_8, vp0_9, vp0_10]), (84, .agg #[.int .i64 a0.p_.Id, .bool a0.p_.Mobile, vp0_0, vp0_1, vp0_2, .int .i64 a0.p_.Events, vp0_3, .int .i64 a0.s_.Id, .int .i64 a0.s_.Frame, .int .i64 a0.s_.Epoch, vp0_4, vp0_5, vp0_6, vp0_7, vp0_8, vp0_9, vp0_10]), (86, .agg #[.int .i64 a0.p_.Id, .bool a0.p_.Mobile, vp0_0, vp0_1, vp0_2, .int .i64 a0.p_.Events, vp0_3, .int .i64 a0.s_.Id, .int .i64 a0.s_.Frame, .int .i64 a0.s_.Epoch, vp0_4, vp0_5, vp0_6, vp0_7, vp0_8, vp0_9, vp0_10]), (88, .agg #[.int .i64 a0.p_.Id, .bool a0.p_.Mobile, vp0_0, vp0_1, vp0_2, .int .i64 a0.p_.Events, vp0_3, .int .i64 a0.s_.Id, .int .i64 a0.s_.Frame, .int .i64 a0.s_.Epoch, vp0_4, vp0_5, vp0_6, vp0_7, vp0_8, vp0_9, vp0_10]), (89, .func (.func 116) [].toArray [.pointer (some ⟨b529, 0, none⟩), .pointer (some ⟨b528, 0, none⟩)].toArray), (91, .agg #[.int .i64 a0.p_.Id, .bool a0.p_.Mobile, vp0_0, vp0_1, vp0_2, .int .i64 a0.p_.Events, vp0_3, .int .i64 a0.s_.Id, .int .i64 a0.s_.Frame, .int .i64 a0.s_.Epoch, vp0_4, vp0_5, vp0_6, vp0_7, vp0_8, vp0_9, vp0_10]), (92, .func (.func 118) [].toArray [.pointer (some ⟨b529, 0, none⟩), .pointer (some ⟨b528, 0, none⟩)].toArray), (94, .agg #[.int .i64 a0.p_.Id, .bool a0.p_.Mobile, vp0_0, vp0_1, vp0_2, .int .i64 a0.p_.Events, vp0_3, .int .i64 a0.s_.Id, .int .i64 a0.s_.Frame, .int .i64 a0.s_.Epoch, vp0_4, vp0_5, vp0_6, vp0_7, vp0_8, vp0_9, vp0_10]), (95, .agg #[.int .i64 a0.p_.Id, .bool a0.p_.Mobile, vp0_0, vp0_1, vp0_2, .int .i64 a0.p_.Events, vp0_3, .int .i64 a0.s_.Id, .int .i64 a0.s_.Frame, .int .i64 a0.s_.Epoch, vp0_4, vp0_5, vp0_6, vp0_7, vp0_8, vp0_9, vp0_10]), (96, .func (.func 119) [.agg #[.int .i64 a0.p_.Id, .bool a0.p_.Mobile, vp0_0, vp0_1, vp0_2, .int .i64 a0.p_.Events, vp0_3, .int .i64 a0.s_.Id, .int .i64 a0.s_.Frame, .int .i64 a0.s_.Epoch, vp0_4, vp0_5, vp0_6, vp0_7, vp0_8, vp0_9, vp0_10]].toArray [].toArray), (98, .agg #[.int .i64 a0.p_.Id, .bool a0.p_.Mobile, vp0_0, vp0_1, vp0_2, .int .i64 a0.p_.Events, vp0_3, .int .i64 a0.s_.Id, .int .i64 a0.s_.Frame, .int .i64 a0.s_.Epoch, vp0_4, vp0_5, vp0_6, vp0_7, vp0_8, vp0_9, vp0_10])] (fun wl => St NB w wl [blkR b21 [.int .i64 a0.p_.Id, .bool a0.p_.Mobile, vp0_0, vp0_1, vp0_2, .int .i64 a0.p_.Events, vp0_3, .int .i64 a0.s_.Id, .int .i64 a0.s_.Frame, .int .i64 a0.s_.Epoch, vp0_4, vp0_5, vp0_6, vp0_7, vp0_8, vp0_9, vp0_10] 139, blkR b24 ((Vector.replicate 17 false).toList.map Value.bool) 137, blkR b528 [.int .i64 a0.p_.Id, .bool a0.p_.Mobile, vp0_0, vp0_1, vp0_2, .int .i64 a0.p_.Events, vp0_3] 68, blkR b529 [.int .i64 a0.s_.Id, .int .i64 a0.s_.Frame, .int .i64 a0.s_.Epoch, vp0_4, vp0_5, vp0_6, vp0_7, vp0_8, vp0_9, vp0_10] 74] ∧ w554.heap.size ≤ wl.heap.size ∧ Ext w573 wl) (fun jn => ?_) ?_
        · rcases Bool.eq_false_or_eq_true q571 with hg578 | hg578
          · replace H := H.know 38 rfl hg578
            replace hm := condT hm hg578
            refine kg_takeT 30 H rfl rfl rfl (q_fieldAddr0 rfl fo74_9) rfl (by as_aux_lemma => kernel_rfl) (by as_aux_lemma => kernel_rfl) (by as_aux_lemma => kernel_rfl) (by as_aux_lemma => kernel_rfl) (fun _ _ _ h => h) ?_; clear H a; intro a H
            refine kg_take 31 H rfl rfl rfl (q_load rfl (LdC.old ((hS556.blk 3 rfl).ld ag72 rfl) (Ext.trans' (Ext.trans' hE561 hE566) hE574) (Nat.le_refl _) (by simp))) rfl (by as_aux_lemma => kernel_rfl) (by as_aux_lemma => kernel_rfl) (by as_aux_lemma => kernel_rfl) (by as_aux_lemma => kernel_rfl) (fun _ _ _ h => h) ?_; clear H a; intro a H
            obtain ⟨A581, c581, hv581, hl581, hm581⟩ := SlR.formV (hrp0_10.ext (Flat.mono _) hS.x)
            refine kg_takeT 32 H rfl rfl rfl (q_lenV Tryd.underlying72 rfl hv581) rfl (by as_aux_lemma => kernel_rfl) (by as_aux_lemma => kernel_rfl) (by as_aux_lemma => kernel_rfl) (by as_aux_lemma => kernel_rfl) (fun _ _ _ h => h) ?_; clear H a; intro a H
            refine kg_takeT 33 H rfl rfl rfl (q_fieldAddr0 rfl fo68_2) rfl (by as_aux_lemma => kernel_rfl) (by as_aux_lemma => kernel_rfl) (by as_aux_lemma => kernel_rfl) (by as_aux_lemma => kernel_rfl) (fun _ _ _ h => h) ?_; clear H a; intro a H
            refine kg_take 34 H rfl rfl rfl (q_load rfl (LdC.old ((hS556.blk 2 rfl).ld ag64 rfl) (Ext.trans' (Ext.trans' hE561 hE566) hE574) (Nat.le_refl _) (by simp))) rfl (by as_aux_lemma => kernel_rfl) (by as_aux_lemma => kernel_rfl) (by as_aux_lemma => kernel_rfl) (by as_aux_lemma => kernel_rfl) (fun _ _ _ h => h) ?_; clear H a; intro a H
            obtain ⟨A582, c582, hv582, hl582, hm582⟩ := SlR.formV (hrp0_0.ext (Flat.mono _) hS.x)
            refine kg_takeT 35 H rfl rfl rfl (q_lenV Tryd.underlying64 rfl hv582) rfl (by as_aux_lemma => kernel_rfl) (by as_aux_lemma => kernel_rfl) (by as_aux_lemma => kernel_rfl) (by as_aux_lemma => kernel_rfl) (fun _ _ _ h => h) ?_; clear H a; intro a H
            refine kg_takeT 36 H rfl rfl rfl (q_eqlN (i := a0.s_.Pages.length) (j := a0.p_.Pages.length) rfl rfl) rfl (by as_aux_lemma => kernel_rfl) (by as_aux_lemma => kernel_rfl) (by as_aux_lemma => kernel_rfl) (by as_aux_lemma => kernel_rfl) (fun _ _ _ h => h) ?_; clear H a; intro a H
            refine k_takeT 37 H rfl (q_pickT rfl rfl) rfl (by as_aux_lemma => kernel_rfl) (by as_aux_lemma => kernel_rfl) (by as_aux_lemma => kernel_rfl) (by as_aux_lemma => kernel_rfl) (fun _ _ _ h => h) ?_; clear H a; intro a H
            obtain rfl := Option.some.inj hm
            exact jn _ _ _ H ⟨rfl, rfl, rfl, rfl, rfl, rfl, rfl, rfl, rfl, rfl, rfl, rfl, rfl, rfl, rfl, rfl, rfl, rfl, rfl, rfl, rfl, rfl, rfl, rfl, rfl, rfl, rfl, rfl, rfl, rfl, rfl, rfl, rfl, rfl, rfl, rfl, rfl, rfl, rfl, rfl, rfl, rfl, rfl, trivial⟩ ⟨hS, hW, Ext.rfl'⟩
          · replace H := H.know 38 rfl hg578
            replace hm := condF hm hg578
            refine k_no 30 H rfl rfl rfl (by decide) rfl (by as_aux_lemma => kernel_rfl) (by as_aux_lemma => kernel_rfl) (by as_aux_lemma => kernel_rfl) (by as_aux_lemma => kernel_rfl) (fun _ _ _ h => h) ?_; clear H a; intro a H
            refine k_no 31 H rfl rfl rfl (by decide) rfl (by as_aux_lemma => kernel_rfl) (by as_aux_lemma => kernel_rfl) (by as_aux_lemma => kernel_rfl) (by as_aux_lemma => kernel_rfl) (fun _ _ _ h => h) ?_; clear H a; intro a H
            refine k_no 32 H rfl rfl rfl (by decide) rfl (by as_aux_lemma => kernel_rfl) (by as_aux_lemma => kernel_rfl) (by as_aux_lemma => kernel_rfl) (by as_aux_lemma => kernel_rfl) (fun _ _ _ h => h) ?_; clear H a; intro a H
            refine k_no 33 H rfl rfl rfl (by decide) rfl (by as_aux_lemma => kernel_rfl) (by as_aux_lemma => kernel_rfl) (by as_aux_lemma => kernel_rfl) (by as_aux_lemma => kernel_rfl) (fun _ _ _ h => h) ?_; clear H a; intro a H
            refine k_no 34 H rfl rfl rfl (by decide) rfl (by as_aux_lemma => kernel_rfl) (by as_aux_lemma => kernel_rfl) (by as_aux_lemma => kernel_rfl) (by as_aux_lemma => kernel_rfl) (fun _ _ _ h => h) ?_; clear H a; intro a H
            refine k_no 35 H rfl rfl rfl (by decide) rfl (by as_aux_lemma => kernel_rfl) (by as_aux_lemma => kernel_rfl) (by as_aux_lemma => kernel_rfl) (by as_aux_lemma => kernel_rfl) (fun _ _ _ h => h) ?_; clear H a; intro a H
            refine k_no 36 H rfl rfl rfl (by decide) rfl (by as_aux_lemma => kernel_rfl) (by as_aux_lemma => kernel_rfl) (by as_aux_lemma => kernel_rfl) (by as_aux_lemma => kernel_rfl) (fun _ _ _ h => h) ?_; clear H a; intro a H
            refine k_takeT 37 H rfl (q_pickF rfl rfl) rfl (by as_aux_lemma => kernel_rfl) (by as_aux_lemma => kernel_rfl) (by as_aux_lemma => kernel_rfl) (by as_aux_lemma => kernel_rfl) (fun _ _ _ h => h) ?_; clear H a; intro a H
            obtain rfl := Option.some.inj hm
            exact jn _ _ _ H ⟨rfl, rfl, rfl, rfl, rfl, rfl, rfl, rfl, rfl, rfl, rfl, rfl, rfl, rfl, rfl, rfl, rfl, rfl, rfl, rfl, rfl, rfl, rfl, rfl, rfl, rfl, rfl, rfl, rfl, rfl, rfl, rfl, rfl, rfl, rfl, rfl, rfl, rfl, rfl, rfl, rfl, rfl, rfl, trivial⟩ ⟨hS, hW, Ext.rfl'⟩
        · clear H hS hm hW a; intro a w579 H hR; simp only [ent, List.map_cons, List.map_nil] at H; obtain ⟨hS, hW, hE580⟩ := hR; have hm := hq577
          refine k_takeT 38 H rfl (q_move rfl) rfl (by as_aux_lemma => kernel_rfl) (by as_aux_lemma => kernel_rfl) (by as_aux_lemma => kernel_rfl) (by as_aux_lemma => kernel_rfl) (fun _ _ _ h => h) ?_; clear H a; intro a H
          replace hm := bindS hm; obtain ⟨q583, hm, hq583⟩ := hm
          refine k_mid7 H 26 39 40 41 42 43 44 45 [(1, .pointer (some ⟨b21, 0, none⟩)), (2, .pointer (some ⟨b24, 0, none⟩)), (3, .pointer (some ⟨b528, 0, none⟩)), (4, .pointer (some ⟨b529, 0, none⟩)), (9, .pointer (some ⟨b529, 0, none⟩)), (10, .int .i64 a0.s_.Id), (11, .pointer (some ⟨b528, 0, none⟩)), (12, .int .i64 a0.p_.Id), (13, .bool (decide (a0.s_.Id = a0.p_.Id))), (14, .pointer (some ⟨b529, 1, none⟩)), (15, .int .i64 a0.s_.Frame), (16, .bool r559), (21, .bool q563), (22, .pointer (some ⟨b529, 3, none⟩)), (23, vp0_4), (24, .int .i64 ((a0.s_.Procs.length : Nat) : Int)), (25, .pointer (some ⟨b528, 3, none⟩)), (26, vp0_1), (27, .int .i64 ((a0.p_.Procs.length : Nat) : Int)), (28, .bool (decide (a0.s_.Procs.length = a0.p_.Procs.length))), (37, .bool q571), (46, .bool q577), (54, .bool q583), (64, .agg #[.int .i64 a0.p_.Id, .bool a0.p_.Mobile, vp0_0, vp0_1, vp0_2, .int .i64 a0.p_.Events, vp0_3, .int .i64 a0.s_.Id, .int .i64 a0.s_.Frame, .int .i64 a0.s_.Epoch, vp0_4, vp0_5, vp0_6, vp0_7, vp0_8, vp0_9, vp0_10]), (66, .agg #[.int .i64 a0.p_.Id, .bool a0.p_.Mobile, vp0_0, vp0_1, vp0_2, .int .i64 a0.p_.Events, vp0_3, .int .i64 a0.s_.Id, .int .i64 a0.s_.Frame, .int .i64 a0.s_.Epoch, vp0_4, vp0_5, vp0_6, vp0_7, vp0_8, vp0_9, vp0_10]), (68, .agg #[.int .i64 a0.p_.Id, .bool a0.p_.Mobile, vp0_0, vp0_1, vp0_2, .int .i64 a0.p_.Events, vp0_3, .int .i64 a0.s_.Id, .int .i64 a0.s_.Frame, .int .i64 a0.s_.Epoch, vp0_4, vp0_5, vp0_6, vp0_7, vp0_8, vp0_9, vp0_10]), (69, .agg #[.int .i64 a0.p_.Id, .bool a0.p_.Mobile, vp0_0, vp0_1, vp0_2, .int .i64 a0.p_.Events, vp0_3, .int .i64 a0.s_.Id, .int .i64 a0.s_.Frame, .int .i64 a0.s_.Epoch, vp0_4, vp0_5, vp0_6, vp0_7, vp0_8, vp0_9, vp0_10]), (70, .func (.func 104) [.agg #[.int .i64 a0.p_.Id, .bool a0.p_.Mobile, vp0_0, vp0_1, vp0_2, .int .i64 a0.p_.Events, vp0_3, .int .i64 a0.s_.Id, .int .i64 a0.s_.Frame, .int .i64 a0.s_.Epoch, vp0_4, vp0_5, vp0_6, vp0_7, vp0_8, vp0_9, vp0_10]].toArray [].toArray), (72, .agg #[.int .i64 a0.p_.Id, .bool a0.p_.Mobile, vp0_0, vp0_1, vp0_2, .int .i64 a0.p_.Events, vp0_3, .int .i64 a0.s_.Id, .int .i64 a0.s_.Frame, .int .i64 a0.s_.Epoch, vp0_4, vp0_5, vp0_6, vp0_7, vp0_8, vp0_9, vp0_10]), (74, .agg #[.int .i64 a0.p_.Id, .bool a0.p_.Mobile, vp0_0, vp0_1, vp0_2, .int .i64 a0.p_.Events, vp0_3, .int .i64 a0.s_.Id, .int .i64 a0.s_.Frame, .int .i64 a0.s_.Epoch, vp0_4, vp0_5, vp0_6, vp0_7, vp0_8, vp0_9, vp0_10]), (76, .agg #[.int .i64 a0.p_.Id, .bool a0.p_.Mobile, vp0_0, vp0_1, vp0_2, .int .i64 a0.p_.Events, vp0_3, .int .i64 a0.s_.Id, .int .i64 a0.s_.Frame, .int .i64 a0.s_.Epoch, vp0_4, vp0_5, vp0_6, vp0_7, vp0_8, vp0_9, vp0_10]), (78, .pointer (some ⟨b529, 7, none⟩)), (79, vp0_8), (82, .agg #[.int .i64 a0.p_.Id, .bool a0.p_.Mobile, vp0_0, vp0_1, vp0_2, .int .i64 a0.p_.Events, vp0_3, .int .i64 a0.s_.Id, .int .i64 a0.s_.Frame, .int .i64 a0.s_.Epoch, vp0_4, vp0_5, vp0_6, vp0_7, vp0_8, vp0_9, vp0_10]), (84, .agg #[.int .i64 a0.p_.Id, .bool a0.p_.Mobile, vp0_0, vp0_1, vp0_2, .int .i64 a0.p_.Events, vp0_3, .int .i64 a0.s_.Id, .int .i64 a0.s_.Frame, .int .i64 a0.s_.Epoch, vp0_4, vp0_5, vp0_6, vp0_7, vp0_8, vp0_9, vp0_10]), (86, .agg #[.int .i64 a0.p_.Id, .bool a0.p_.Mobile, vp0_0, vp0_1, vp0_2, .int .i64 a0.p_.Events, vp0_3, .int .i64 a0.s_.Id, .int .i64 a0.s_.Frame, .int .i64 a0.s_.Epoch, vp0_4, vp0_5, vp0_6, vp0_7, vp0_8, vp0_9, vp0_10]), (88, .agg #[.int .i64 a0.p_.Id, .bool a0.p_.Mobile, vp0_0, vp0_1, vp0_2, .int .i64 a0.p_.Events, vp0_3, .int .i64 a0.s_.Id, .int .i64 a0.s_.Frame, .int .i64 a0.s_.Epoch, vp0_4, vp0_5, vp0_6, vp0_7, vp0_8, vp0_9, vp0_10]), (89, .func (.func 116) [].toArray [.pointer (some ⟨b529, 0, none⟩), .pointer (some ⟨b528, 0, none⟩)].toArray), (91, .agg #[.int .i64 a0.p_.Id, .bool a0.p_.Mobile, vp0_0, vp0_1, vp0_2, .int .i64 a0.p_.Events, vp0_3, .int .i64 a0.s_.Id, .int .i64 a0.s_.Frame, .int .i64 a0.s_.Epoch, vp0_4, vp0_5, vp0_6, vp0_7, vp0_8, vp0_9, vp0_10]), (92, .func (.func 118) [].toArray [.pointer (some ⟨b529, 0, none⟩), .pointer (some ⟨b528, 0, none⟩)].toArray), (94, .agg #[.int .i64 a0.p_.Id, .bool a0.p_.Mobile, vp0_0, vp0_1, vp0_2, .int .i64 a0.p_.Events, vp0_3, .int .i64 a0.s_.Id, .int .i64 a0.s_.Frame, .int .i64 a0.s_.Epoch, vp0_4, vp0_5, vp0_6, vp0_7, vp0_8, vp0_9, vp0_10]), (95, .agg #[.int .i64 a0.p_.Id, .bool a0.p_.Mobile, vp0_0, vp0_1, vp0_2, .int .i64 a0.p_.Events, vp0_3, .int .i64 a0.s_.Id, .int .i64 a0.s_.Frame, .int .i64 a0.s_.Epoch, vp0_4, vp0_5, vp0_6, vp0_7, vp0_8, vp0_9, vp0_10]), (96, .func (.func 119) [.agg #[.int .i64 a0.p_.Id, .bool a0.p_.Mobile, vp0_0, vp0_1, vp0_2, .int .i64 a0.p_.Events, vp0_3, .int .i64 a0.s_.Id, .int .i64 a0.s_.Frame, .int .i64 a0.s_.Epoch, vp0_4, vp0_5, vp0_6, vp0_7, vp0_8, vp0_9, vp0_10]].toArray [].toArray), (98, .agg #[.int .i64 a0.p_.Id, .bool a0.p_.Mobile, vp0_0, vp0_1, vp0_2, .int .i64 a0.p_.Events, vp0_3, .int .i64 a0.s_.Id, .int .i64 a0.s_.Frame, .int .i64 a0.s_.Epoch, vp0_4, vp0_5, vp0_6, vp0_7, vp0_8, vp0_9, vp0_10])] (fun wl => St NB w wl [blkR b21 [.int .i64 a0.p_.Id, .bool a0.p_.Mobile, vp0_0, vp0_1, vp0_2, .int .i64 a0.p_.Events, vp0_3, .int .i64 a0.s_.Id, .int .i64 a0.s_.Frame, .int .i64 a0.s_.Epoch, vp0_4, vp0_5, vp0_6, vp0_7, vp0_8, vp0_9, vp0_10] 139, blkR b24 ((Vector.replicate 17 false).toList.map Value.bool) 137, blkR b528 [.int .i64 a0.p_.Id, .bool a0.p_.Mobile, vp0_0, vp0_1, vp0_2, .int .i64 a0.p_.Events, vp0_3] 68, blkR b529 [.int .i64 a0.s_.Id, .int .i64 a0.s_.Frame, .int .i64 a0.s_.Epoch, vp0_4, vp0_5, vp0_6, vp0_7, vp0_8, vp0_9, vp0_10] 74] ∧ w554.heap.size ≤ wl.heap.size ∧ Ext w579 wl) (fun jn => ?_) ?_
          · rcases Bool.eq_false_or_eq_true q577 with hg584 | hg584
            · replace H := H.know 47 rfl hg584
              replace hm := condT hm hg584
              refine kg_takeT 39 H rfl rfl rfl (q_fieldAddr0 rfl fo74_6) rfl (by as_aux_lemma => kernel_rfl) (by as_aux_lemma => kernel_rfl) (by as_aux_lemma => kernel_rfl) (by as_aux_lemma => kernel_rfl) (fun _ _ _ h => h) ?_; clear H a; intro a H
              refine kg_take 40 H rfl rfl rfl (q_load rfl (LdC.old ((hS556.blk 3 rfl).ld ag28 rfl) (Ext.trans' (Ext.trans' (Ext.trans' hE561 hE566) hE574) hE580) (Nat.le_refl _) (by simp))) rfl (by as_aux_lemma => kernel_rfl) (by as_aux_lemma => kernel_rfl) (by as_aux_lemma => kernel_rfl) (by as_aux_lemma => kernel_rfl) (fun _ _ _ h => h) ?_; clear H a; intro a H
              obtain ⟨A587, c587, hv587, hl587, hm587⟩ := SlR.formV (hrp0_7.ext (Flat.mono _) hS.x)
              refine kg_takeT 41 H rfl rfl rfl (q_lenV Tryd.underlying28 rfl hv587) rfl (by as_aux_lemma => kernel_rfl) (by as_aux_lemma => kernel_rfl) (by as_aux_lemma => kernel_rfl) (by as_aux_lemma => kernel_rfl) (fun _ _ _ h => h) ?_; clear H a; intro a H
              refine kg_takeT 42 H rfl rfl rfl (q_fieldAddr0 rfl fo68_5) rfl (by as_aux_lemma => kernel_rfl) (by as_aux_lemma => kernel_rfl) (by as_aux_lemma => kernel_rfl) (by as_aux_lemma => kernel_rfl) (fun _ _ _ h => h) ?_; clear H a; intro a H
              refine kg_take 43 H rfl rfl rfl (q_load rfl (LdC.old ((hS556.blk 2 rfl).ld ag3 rfl) (Ext.trans' (Ext.trans' (Ext.trans' hE561 hE566) hE574) hE580) (Nat.le_refl _) (by simp))) rfl (by as_aux_lemma => kernel_rfl) (by as_aux_lemma => kernel_rfl) (by as_aux_lemma => kernel_rfl) (by as_aux_lemma => kernel_rfl) (fun _ _ _ h => h) ?_; clear H a; intro a H
              refine kg_takeT 44 H rfl rfl rfl (q_eqlD rfl rfl) rfl (by as_aux_lemma => kernel_rfl) (by as_aux_lemma => kernel_rfl) (by as_aux_lemma => kernel_rfl) (by as_aux_lemma => kernel_rfl) (fun _ _ _ h => h) ?_; clear H a; intro a H
              refine k_takeT 45 H rfl (q_pickT rfl rfl) rfl (by as_aux_lemma => kernel_rfl) (by as_aux_lemma => kernel_rfl) (by as_aux_lemma => kernel_rfl) (by as_aux_lemma => kernel_rfl) (fun _ _ _ h => h) ?_; clear H a; intro a H
              obtain rfl := Option.some.inj hm
              exact jn _ _ _ H ⟨rfl, rfl, rfl, rfl, rfl, rfl, rfl, rfl, rfl, rfl, rfl, rfl, rfl, rfl, rfl, rfl, rfl, rfl, rfl, rfl, rfl, rfl, rfl, rfl, rfl, rfl, rfl, rfl, rfl, rfl, rfl, rfl, rfl, rfl, rfl, rfl, rfl, rfl, rfl, rfl, rfl, rfl, rfl, rfl, trivial⟩ ⟨hS, hW, Ext.rfl'⟩
            · replace H := H.know 47 rfl hg584
              replace hm := condF hm hg584
              refine k_no 39 H rfl rfl rfl (by decide) rfl (by as_aux_lemma => kernel_rfl) (by as_aux_lemma => kernel_rfl) (by as_aux_lemma => kernel_rfl) (by as_aux_lemma => kernel_rfl) (fun _ _ _ h => h) ?_; clear H a; intro a H
              refine k_no 40 H rfl rfl rfl (by decide) rfl (by as_aux_lemma => kernel_rfl) (by as_aux_lemma => kernel_rfl) (by as_aux_lemma => kernel_rfl) (by as_aux_lemma => kernel_rfl) (fun _ _ _ h => h) ?_; clear H a; intro a H
              refine k_no 41 H rfl rfl rfl (by decide) rfl (by as_aux_lemma => kernel_rfl) (by as_aux_lemma => kernel_rfl) (by as_aux_lemma => kernel_rfl) (by as_aux_lemma => kernel_rfl) (fun _ _ _ h => h) ?_; clear H a; intro a H
              refine k_no 42 H rfl rfl rfl (by decide) rfl (by as_aux_lemma => kernel_rfl) (by as_aux_lemma => kernel_rfl) (by as_aux_lemma => kernel_rfl) (by as_aux_lemma => kernel_rfl) (fun _ _ _ h => h) ?_; clear H a; intro a H
              refine k_no 43 H rfl rfl rfl (by decide) rfl (by as_aux_lemma => kernel_rfl) (by as_aux_lemma => kernel_rfl) (by as_aux_lemma => kernel_rfl) (by as_aux_lemma => kernel_rfl) (fun _ _ _ h => h) ?_; clear H a; intro a H
              refine k_no 44 H rfl rfl rfl (by decide) rfl (by as_aux_lemma => kernel_rfl) (by as_aux_lemma => kernel_rfl) (by as_aux_lemma => kernel_rfl) (by as_aux_lemma => kernel_rfl) (fun _ _ _ h => h) ?_; clear H a; intro a H
              refine k_takeT 45 H rfl (q_pickF rfl rfl) rfl (by as_aux_lemma => kernel_rfl) (by as_aux_lemma => kernel_rfl) (by as_aux_lemma => kernel_rfl) (by as_aux_lemma => kernel_rfl) (fun _ _ _ h => h) ?_; clear H a; intro a H
              obtain rfl := Option.some.inj hm
              exact jn _ _ _ H ⟨rfl, rfl, rfl, rfl, rfl, rfl, rfl, rfl, rfl, rfl, rfl, rfl, rfl, rfl, rfl, rfl, rfl, rfl, rfl, rfl, rfl, rfl, rfl, rfl, rfl, rfl, rfl, rfl, rfl, rfl, rfl, rfl, rfl, rfl, rfl, rfl, rfl, rfl, rfl, rfl, rfl, rfl, rfl, rfl, trivial⟩ ⟨hS, hW, Ext.rfl'⟩
          · clear H hS hm hW a; intro a w585 H hR; simp only [ent, List.map_cons, List.map_nil] at H; obtain ⟨hS, hW, hE586⟩ := hR; have hm := hq583
            refine k_takeT 46 H rfl (q_move rfl) rfl (by as_aux_lemma => kernel_rfl) (by as_aux_lemma => kernel_rfl) (by as_aux_lemma => kernel_rfl) (by as_aux_lemma => kernel_rfl) (fun _ _ _ h => h) ?_; clear H a; intro a H
            replace hm := bindS hm; obtain ⟨q588, hm, hq588⟩ := hm
            refine k_mid8 H 17 47 48 49 50 51 52 53 54 [(1, .pointer (some ⟨b21, 0, none⟩)), (2, .pointer (some ⟨b24, 0, none⟩)), (3, .pointer (some ⟨b528, 0, none⟩)), (4, .pointer (some ⟨b529, 0, none⟩)), (9, .pointer (some ⟨b529, 0, none⟩)), (10, .int .i64 a0.s_.Id), (11, .pointer (some ⟨b528, 0, none⟩)), (12, .int .i64 a0.p_.Id), (13, .bool (decide (a0.s_.Id = a0.p_.Id))), (14, .pointer (some ⟨b529, 1, none⟩)), (15, .int .i64 a0.s_.Frame), (16, .bool r559), (21, .bool q563), (22, .pointer (some ⟨b529, 3, none⟩)), (23, vp0_4), (24, .int .i64 ((a0.s_.Procs.length : Nat) : Int)), (25, .pointer (some ⟨b528, 3, none⟩)), (26, vp0_1), (27, .int .i64 ((a0.p_.Procs.length : Nat) : Int)), (28, .bool (decide (a0.s_.Procs.length = a0.p_.Procs.length))), (37, .bool q571), (46, .bool q577), (54, .bool q583), (63, .bool q588), (64, .agg #[.int .i64 a0.p_.Id, .bool a0.p_.Mobile, vp0_0, vp0_1, vp0_2, .int .i64 a0.p_.Events, vp0_3, .int .i64 a0.s_.Id, .int .i64 a0.s_.Frame, .int .i64 a0.s_.Epoch, vp0_4, vp0_5, vp0_6, vp0_7, vp0_8, vp0_9, vp0_10]), (66, .agg #[.int .i64 a0.p_.Id, .bool a0.p_.Mobile, vp0_0, vp0_1, vp0_2, .int .i64 a0.p_.Events, vp0_3, .int .i64 a0.s_.Id, .int .i64 a0.s_.Frame, .int .i64 a0.s_.Epoch, vp0_4, vp0_5, vp0_6, vp0_7, vp0_8, vp0_9, vp0_10]), (68, .agg #[.int .i64 a0.p_.Id, .bool a0.p_.Mobile, vp0_0, vp0_1, vp0_2, .int .i64 a0.p_.Events, vp0_3, .int .i64 a0.s_.Id, .int .i64 a0.s_.Frame, .int .i64 a0.s_.Epoch, vp0_4, vp0_5, vp0_6, vp0_7, vp0_8, vp0_9, vp0_10]), (69, .agg #[.int .i64 a0.p_.Id, .bool a0.p_.Mobile, vp0_0, vp0_1, vp0_2, .int .i64 a0.p_.Events, vp0_3, .int .i64 a0.s_.Id, .int .i64 a0.s_.Frame, .int .i64 a0.s_.Epoch, vp0_4, vp0_5, vp0_6, vp0_7, vp0_8, vp0_9, vp0_10]), (70, .func (.func 104) [.agg #[.int .i64 a0.p_.Id, .bool a0.p_.Mobile, vp0_0, vp0_1, vp0_2, .int .i64 a0.p_.Events, vp0_3, .int .i64 a0.s_.Id, .int .i64 a0.s_.Frame, .int .i64 a0.s_.Epoch, vp0_4, vp0_5, vp0_6, vp0_7, vp0_8, vp0_9, vp0_10]].toArray [].toArray), (72, .agg #[.int .i64 a0.p_.Id, .bool a0.p_.Mobile, vp0_0, vp0_1, vp0_2, .int .i64 a0.p_.Events, vp0_3, .int .i64 a0.s_.Id, .int .i64 a0.s_.Frame, .int .i64 a0.s_.Epoch, vp0_4, vp0_5, vp0_6, vp0_7, vp0_8, vp0_9, vp0_10]), (74, .agg #[.int .i64 a0.p_.Id, .bool a0.p_.Mobile, vp0_0, vp0_1, vp0_2, .int .i64 a0.p_.Events, vp0_3, .int .i64 a0.s_.Id, .int .i64 a0.s_.Frame, .int .i64 a0.s_.Epoch, vp0_4, vp0_5, vp0_6, vp0_7, vp0_8, vp0_9, vp0_10]), (76, .agg #[.int .i64 a0.p_.Id, .bool a0.p_.Mobile, vp0_0, vp0_1, vp0_2, .int .i64 a0.p_.Events, vp0_3, .int .i64 a0.s_.Id, .int .i64 a0.s_.Frame, .int .i64 a0.s_.Epoch, vp0_4, vp0_5, vp0_6, vp0_7, vp0_8, vp0_9, vp0_10]), (78, .pointer (some ⟨b529, 7, none⟩)), (79, vp0_8), (82, .agg #[.int .i64 a0.p_.Id, .bool a0.p_.Mobile, vp0_0, vp0_1, vp0_2, .int .i64 a0.p_.Events, vp0_3, .int .i64 a0.s_.Id, .int .i64 a0.s_.Frame, .int .i64 a0.s_.Epoch, vp0_4, vp0_5, vp0_6, vp0_7, vp0_8, vp0_9, vp0_10]), (84, .agg #[.int .i64 a0.p_.Id, .bool a0.p_.Mobile, vp0_0, vp0_1, vp0_2, .int .i64 a0.p_.Events, vp0_3, .int .i64 a0.s_.Id, .int .i64 a0.s_.Frame, .int .i64 a0.s_.Epoch, vp0_4, vp0_5, vp0_6, vp0_7, vp0_8, vp0_9, vp0_10]), (86, .agg #[.int .i64 a0.p_.Id, .bool a0.p_.Mobile, vp0_0, vp0_1, vp0_2, .int .i64 a0.p_.Events, vp0_3, .int .i64 a0.s_.Id, .int .i64 a0.s_.Frame, .int .i64 a0.s_.Epoch, vp0_4, vp0_5, vp0_6, vp0_7, vp0_8, vp0_9, vp0_10]), (88, .agg #[.int .i64 a0.p_.Id, .bool a0.p_.Mobile, vp0_0, vp0_1, vp0_2, .int .i64 a0.p_.Events, vp0_3, .int .i64 a0.s_.Id, .int .i64 a0.s_.Frame, .int .i64 a0.s_.Epoch, vp0_4, vp0_5, vp0_6, vp0_7, vp0_8, vp0_9, vp0_10]), (89, .func (.func 116) [].toArray [.pointer (some ⟨b529, 0, none⟩), .pointer (some ⟨b528, 0, none⟩)].toArray), (91, .agg #[.int .i64 a0.p_.Id, .bool a0.p_.Mobile, vp0_0, vp0_1, vp0_2, .int .i64 a0.p_.Events, vp0_3, .int .i64 a0.s_.Id, .int .i64 a0.s_.Frame, .int .i64 a0.s_.Epoch, vp0_4, vp0_5, vp0_6, vp0_7, vp0_8, vp0_9, vp0_10]), (92, .func (.func 118) [].toArray [.pointer (some ⟨b529, 0, none⟩), .pointer (some ⟨b528, 0, none⟩)].toArray), (94, .agg #[.int .i64 a0.p_.Id, .bool a0.p_.Mobile, vp0_0, vp0_1, vp0_2, .int .i64 a0.p_.Events, vp0_3, .int .i64 a0.s_.Id, .int .i64 a0.s_.Frame, .int .i64 a0.s_.Epoch, vp0_4, vp0_5, vp0_6, vp0_7, vp0_8, vp0_9, vp0_10]), (95, .agg #[.int .i64 a0.p_.Id, .bool a0.p_.Mobile, vp0_0, vp0_1, vp0_2, .int .i64 a0.p_.Events, vp0_3, .int .i64 a0.s_.Id, .int .i64 a0.s_.Frame, .int .i64 a0.s_.Epoch, vp0_4, vp0_5, vp0_6, vp0_7, vp0_8, vp0_9, vp0_10]), (96, .func (.func 119) [.agg #[.int .i64 a0.p_.Id, .bool a0.p_.Mobile, vp0_0, vp0_1, vp0_2, .int .i64 a0.p_.Events, vp0_3, .int .i64 a0.s_.Id, .int .i64 a0.s_.Frame, .int .i64 a0.s_.Epoch, vp0_4, vp0_5, vp0_6, vp0_7, vp0_8, vp0_9, vp0_10]].toArray [].toArray), (98, .agg #[.int .i64 a0.p_.Id, .bool a0.p_.Mobile, vp0_0, vp0_1, vp0_2, .int .i64 a0.p_.Events, vp0_3, .int .i64 a0.s_.Id, .int .i64 a0.s_.Frame, .int .i64 a0.s_.Epoch, vp0_4, vp0_5, vp0_6, vp0_7, vp0_8, vp0_9, vp0_10])] (fun wl => St NB w wl [blkR b21 [.int .i64 a0.p_.Id, .bool a0.p_.Mobile, vp0_0, vp0_1, vp0_2, .int .i64 a0.p_.Events, vp0_3, .int .i64 a0.s_.Id, .int .i64 a0.s_.Frame, .int .i64 a0.s_.Epoch, vp0_4, vp0_5, vp0_6, vp0_7, vp0_8, vp0_9, vp0_10] 139, blkR b24 ((Vector.replicate 17 false).toList.map Value.bool) 137, blkR b528 [.int .i64 a0.p_.Id, .bool a0.p_.Mobile, vp0_0, vp0_1, vp0_2, .int .i64 a0.p_.Events, vp0_3] 68, blkR b529 [.int .i64 a0.s_.Id, .int .i64 a0.s_.Frame, .int .i64 a0.s_.Epoch, vp0_4, vp0_5, vp0_6, vp0_7, vp0_8, vp0_9, vp0_10] 74] ∧ w554.heap.size ≤ wl.heap.size ∧ Ext w585 wl) (fun jn => ?_) ?_
            · rcases Bool.eq_false_or_eq_true q583 with hg589 | hg589
              · replace H := H.know 55 rfl hg589
                replace hm := condT hm hg589
                refine kg_takeT 47 H rfl rfl rfl (q_fieldAddr0 rfl fo74_7) rfl (by as_aux_lemma => kernel_rfl) (by as_aux_lemma => kernel_rfl) (by as_aux_lemma => kernel_rfl) (by as_aux_lemma => kernel_rfl) (fun _ _ _ h => h) ?_; clear H a; intro a H
                refine kg_take 48 H rfl rfl rfl (q_load rfl (LdC.old ((hS556.blk 3 rfl).ld ag23 rfl) (Ext.trans' (Ext.trans' (Ext.trans' (Ext.trans' hE561 hE566) hE574) hE580) hE586) (Nat.le_refl _) (by simp))) rfl (by as_aux_lemma => kernel_rfl) (by as_aux_lemma => kernel_rfl) (by as_aux_lemma => kernel_rfl) (by as_aux_lemma => kernel_rfl) (fun _ _ _ h => h) ?_; clear H a; intro a H
                obtain ⟨A592, c592, hv592, hl592, hm592⟩ := SlR.formV (hrp0_8.ext (Flat.mono _) hS.x)
                refine kg_takeT 49 H rfl rfl rfl (q_lenV Tryd.underlying23 rfl hv592) rfl (by as_aux_lemma => kernel_rfl) (by as_aux_lemma => kernel_rfl) (by as_aux_lemma => kernel_rfl) (by as_aux_lemma => kernel_rfl) (fun _ _ _ h => h) ?_; clear H a; intro a H
                refine kg_takeT 50 H rfl rfl rfl (q_fieldAddr0 rfl fo68_6) rfl (by as_aux_lemma => kernel_rfl) (by as_aux_lemma => kernel_rfl) (by as_aux_lemma => kernel_rfl) (by as_aux_lemma => kernel_rfl) (fun _ _ _ h => h) ?_; clear H a; intro a H
                refine kg_take 51 H rfl rfl rfl (q_load rfl (LdC.old ((hS556.blk 2 rfl).ld ag23 rfl) (Ext.trans' (Ext.trans' (Ext.trans' (Ext.trans' hE561 hE566) hE574) hE580) hE586) (Nat.le_refl _) (by simp))) rfl (by as_aux_lemma => kernel_rfl) (by as_aux_lemma => kernel_rfl) (by as_aux_lemma => kernel_rfl) (by as_aux_lemma => kernel_rfl) (fun _ _ _ h => h) ?_; clear H a; intro a H
                obtain ⟨A593, c593, hv593, hl593, hm593⟩ := SlR.formV (hrp0_3.ext (Flat.mono _) hS.x)
                refine kg_takeT 52 H rfl rfl rfl (q_lenV Tryd.underlying23 rfl hv593) rfl (by as_aux_lemma => kernel_rfl) (by as_aux_lemma => kernel_rfl) (by as_aux_lemma => kernel_rfl) (by as_aux_lemma => kernel_rfl) (fun _ _ _ h => h) ?_; clear H a; intro a H
                refine kg_takeT 53 H rfl rfl rfl (q_eqlN (i := a0.s_.Sems.length) (j := a0.p_.Sems.length) rfl rfl) rfl (by as_aux_lemma => kernel_rfl) (by as_aux_lemma => kernel_rfl) (by as_aux_lemma => kernel_rfl) (by as_aux_lemma => kernel_rfl) (fun _ _ _ h => h) ?_; clear H a; intro a H
                refine k_takeT 54 H rfl (q_pickT rfl rfl) rfl (by as_aux_lemma => kernel_rfl) (by as_aux_lemma => kernel_rfl) (by as_aux_lemma => kernel_rfl) (by as_aux_lemma => kernel_rfl) (fun _ _ _ h => h) ?_; clear H a; intro a H
                obtain rfl := Option.some.inj hm
                exact jn _ _ _ H ⟨rfl, rfl, rfl, rfl, rfl, rfl, rfl, rfl, rfl, rfl, rfl, rfl, rfl, rfl, rfl, rfl, rfl, rfl, rfl, rfl, rfl, rfl, rfl, rfl, rfl, rfl, rfl, rfl, rfl, rfl, rfl, rfl, rfl, rfl, rfl, rfl, rfl, rfl, rfl, rfl, rfl, rfl, rfl, rfl, rfl, trivial⟩ ⟨hS, hW, Ext.rfl'⟩
              · replace H := H.know 55 rfl hg589
                replace hm := condF hm hg589
                refine k_no 47 H rfl rfl rfl (by decide) rfl (by as_aux_lemma => kernel_rfl) (by as_aux_lemma => kernel_rfl) (by as_aux_lemma => kernel_rfl) (by as_aux_lemma => kernel_rfl) (fun _ _ _ h => h) ?_; clear H a; intro a H
                refine k_no 48 H rfl rfl rfl (by decide) rfl (by as_aux_lemma => kernel_rfl) (by as_aux_lemma => kernel_rfl) (by as_aux_lemma => kernel_rfl) (by as_aux_lemma => kernel_rfl) (fun _ _ _ h => h) ?_; clear H a; intro a H
                refine k_no 49 H rfl rfl rfl (by decide) rfl (by as_aux_lemma => kernel_rfl) (by as_aux_lemma => kernel_rfl) (by as_aux_lemma => kernel_rfl) (by as_aux_lemma => kernel_rfl) (fun _ _ _ h => h) ?_; clear H a; intro a H
                refine k_no 50 H rfl rfl rfl (by decide) rfl (by as_aux_lemma => kernel_rfl) (by as_aux_lemma => kernel_rfl) (by as_aux_lemma => kernel_rfl) (by as_aux_lemma => kernel_rfl) (fun _ _ _ h => h) ?_; clear H a; intro a H
                refine k_no 51 H rfl rfl rfl (by decide) rfl (by as_aux_lemma => kernel_rfl) (by as_aux_lemma => kernel_rfl) (by as_aux_lemma => kernel_rfl) (by as_aux_lemma => kernel_rfl) (fun _ _ _ h => h) ?_; clear H a; intro a H
                refine k_no 52 H rfl rfl rfl (by decide) rfl (by as_aux_lemma => kernel_rfl) (by as_aux_lemma => kernel_rfl) (by as_aux_lemma => kernel_rfl) (by as_aux_lemma => kernel_rfl) (fun _ _ _ h => h) ?_; clear H a; intro a H
                refine k_no 53 H rfl rfl rfl (by decide) rfl (by as_aux_lemma => kernel_rfl) (by as_aux_lemma => kernel_rfl) (by as_aux_lemma => kernel_rfl) (by as_aux_lemma => kernel_rfl) (fun _ _ _ h => h) ?_; clear H a; intro a H
                refine k_takeT 54 H rfl (q_pickF rfl rfl) rfl (by as_aux_lemma => kernel_rfl) (by as_aux_lemma => kernel_rfl) (by as_aux_lemma => kernel_rfl) (by as_aux_lemma => kernel_rfl) (fun _ _ _ h => h) ?_; clear H a; intro a H
                obtain rfl := Option.some.inj hm
                exact jn _ _ _ H ⟨rfl, rfl, rfl, rfl, rfl, rfl, rfl, rfl, rfl, rfl, rfl, rfl, rfl, rfl, rfl, rfl, rfl, rfl, rfl, rfl, rfl, rfl, rfl, rfl, rfl, rfl, rfl, rfl, rfl, rfl, rfl, rfl, rfl, rfl, rfl, rfl, rfl, rfl, rfl, rfl, rfl, rfl, rfl, rfl, rfl, trivial⟩ ⟨hS, hW, Ext.rfl'⟩
            · clear H hS hm hW a; intro a w590 H hR; simp only [ent, List.map_cons, List.map_nil] at H; obtain ⟨hS, hW, hE591⟩ := hR; have hm := hq588
              replace hm := bindS hm; obtain ⟨r594, hr594, hm⟩ := hm
              refine k_of_kk 56 (by as_aux_lemma => kernel_rfl) ?_
              refine kk_call 56 H rfl rfl en101 (g_valid_asked_procs_w (A := A) (⟨_, _, _, _, _, _, _, _, _, _, _, rfl, (hrp0_0.ext (Flat.mono _) hS.x), (hrp0_1.ext (Flat.mono _) hS.x), (hrp0_2.ext (Flat.mono _) hS.x), (hrp0_3.ext (Flat.mono _) hS.x), (hrp0_4.ext (Flat.mono _) hS.x), (hrp0_5.ext (Flat.mono _) hS.x), (hrp0_6.ext (Flat.mono _) hS.x), (hrp0_7.ext (Flat.mono _) hS.x), (hrp0_8.ext (Flat.mono _) hS.x), (hrp0_9.ext RGPort.mono hS.x), (hrp0_10.ext (Flat.mono _) hS.x)⟩ : RGValidAsked _ [.int .i64 a0.p_.Id, .bool a0.p_.Mobile, vp0_0, vp0_1, vp0_2, .int .i64 a0.p_.Events, vp0_3, .int .i64 a0.s_.Id, .int .i64 a0.s_.Frame, .int .i64 a0.s_.Epoch, vp0_4, vp0_5, vp0_6, vp0_7, vp0_8, vp0_9, vp0_10] a0) (g1 := 102) (fs1 := []) (cp1 := []) (a1 := (fun x0 => g_valid_numbers x0)) en102 (fun w1 e1 x0 r hr => g_valid_numbers_w (A := A) hr) hr594) rfl (fun v w hv => .inl (ChgF.of_ext (by obtain ⟨_, hE0⟩ := hv; exact hE0))) ?_
              clear H; intro x597 w595 hv; clear a; intro a H; obtain ⟨rfl, hE596⟩ := hv
              replace hS := hS.ext hE596
              replace hW := Nat.le_trans hW hE596.size
              replace hm := bindS hm; obtain ⟨r598, hr598, hm⟩ := hm
              refine k_of_kk 58 (by as_aux_lemma => kernel_rfl) ?_
              refine kk_call 58 H rfl rfl en101 (g_valid_asked_procs_w (A := A) (⟨_, _, _, _, _, _, _, _, _, _, _, rfl, (hrp0_0.ext (Flat.mono _) hS.x), (hrp0_1.ext (Flat.mono _) hS.x), (hrp0_2.ext (Flat.mono _) hS.x), (hrp0_3.ext (Flat.mono _) hS.x), (hrp0_4.ext (Flat.mono _) hS.x), (hrp0_5.ext (Flat.mono _) hS.x), (hrp0_6.ext (Flat.mono _) hS.x), (hrp0_7.ext (Flat.mono _) hS.x), (hrp0_8.ext (Flat.mono _) hS.x), (hrp0_9.ext RGPort.mono hS.x), (hrp0_10.ext (Flat.mono _) hS.x)⟩ : RGValidAsked _ [.int .i64 a0.p_.Id, .bool a0.p_.Mobile, vp0_0, vp0_1, vp0_2, .int .i64 a0.p_.Events, vp0_3, .int .i64 a0.s_.Id, .int .i64 a0.s_.Frame, .int .i64 a0.s_.Epoch, vp0_4, vp0_5, vp0_6, vp0_7, vp0_8, vp0_9, vp0_10] a0) (g1 := 103) (fs1 := []) (cp1 := []) (a1 := (fun x0 => g_valid_asked_rules_1 x0)) en103 (fun w1 e1 x0 r hr => g_valid_asked_rules_1_w (A := A) hr) hr598) rfl (fun v w hv => .inl (ChgF.of_ext (by obtain ⟨_, hE0⟩ := hv; exact hE0))) ?_
              clear H; intro x601 w599 hv; clear a; intro a H; obtain ⟨rfl, hE600⟩ := hv
              replace hS := hS.ext hE600
              replace hW := Nat.le_trans hW hE600.size
              replace hm := bindS hm; obtain ⟨r602, hr602, hm⟩ := hm
              refine k_of_kk 62 (by as_aux_lemma => kernel_rfl) ?_
              refine kk_call 62 H rfl rfl en101 (g_valid_asked_procs_w (A := A) (⟨_, _, _, _, _, _, _, _, _, _, _, rfl, (hrp0_0.ext (Flat.mono _) hS.x), (hrp0_1.ext (Flat.mono _) hS.x), (hrp0_2.ext (Flat.mono _) hS.x), (hrp0_3.ext (Flat.mono _) hS.x), (hrp0_4.ext (Flat.mono _) hS.x), (hrp0_5.ext (Flat.mono _) hS.x), (hrp0_6.ext (Flat.mono _) hS.x), (hrp0_7.ext (Flat.mono _) hS.x), (hrp0_8.ext (Flat.mono _) hS.x), (hrp0_9.ext RGPort.mono hS.x), (hrp0_10.ext (Flat.mono _) hS.x)⟩ : RGValidAsked _ [.int .i64 a0.p_.Id, .bool a0.p_.Mobile, vp0_0, vp0_1, vp0_2, .int .i64 a0.p_.Events, vp0_3, .int .i64 a0.s_.Id, .int .i64 a0.s_.Frame, .int .i64 a0.s_.Epoch, vp0_4, vp0_5, vp0_6, vp0_7, vp0_8, vp0_9, vp0_10] a0) (g1 := 104) (fs1 := [.agg #[.int .i64 a0.p_.Id, .bool a0.p_.Mobile, vp0_0, vp0_1, vp0_2, .int .i64 a0.p_.Events, vp0_3, .int .i64 a0.s_.Id, .int .i64 a0.s_.Frame, .int .i64 a0.s_.Epoch, vp0_4, vp0_5, vp0_6, vp0_7, vp0_8, vp0_9, vp0_10]]) (cp1 := []) (a1 := (fun x0 => g_valid_asked_object a0 x0)) en104 (fun w1 e1 x0 r hr => g_valid_asked_object_w (A := A) (⟨_, _, _, _, _, _, _, _, _, _, _, rfl, ((hrp0_0.ext (Flat.mono _) hS.x).ext (Flat.mono _) e1), ((hrp0_1.ext (Flat.mono _) hS.x).ext (Flat.mono _) e1), ((hrp0_2.ext (Flat.mono _) hS.x).ext (Flat.mono _) e1), ((hrp0_3.ext (Flat.mono _) hS.x).ext (Flat.mono _) e1), ((hrp0_4.ext (Flat.mono _) hS.x).ext (Flat.mono _) e1), ((hrp0_5.ext (Flat.mono _) hS.x).ext (Flat.mono _) e1), ((hrp0_6.ext (Flat.mono _) hS.x).ext (Flat.mono _) e1), ((hrp0_7.ext (Flat.mono _) hS.x).ext (Flat.mono _) e1), ((hrp0_8.ext (Flat.mono _) hS.x).ext (Flat.mono _) e1), ((hrp0_9.ext RGPort.mono hS.x).ext RGPort.mono e1), ((hrp0_10.ext (Flat.mono _) hS.x).ext (Flat.mono _) e1)⟩ : RGValidAsked _ [.int .i64 a0.p_.Id, .bool a0.p_.Mobile, vp0_0, vp0_1, vp0_2, .int .i64 a0.p_.Events, vp0_3, .int .i64 a0.s_.Id, .int .i64 a0.s_.Frame, .int .i64 a0.s_.Epoch, vp0_4, vp0_5, vp0_6, vp0_7, vp0_8, vp0_9, vp0_10] a0) hr) hr602) rfl (fun v w hv => .inl (ChgF.of_ext (by obtain ⟨_, hE0⟩ := hv; exact hE0))) ?_
              clear H; intro x605 w603 hv; clear a; intro a H; obtain ⟨rfl, hE604⟩ := hv
              replace hS := hS.ext hE604
              replace hW := Nat.le_trans hW hE604.size
              replace hm := bindS hm; obtain ⟨r606, hr606, hm⟩ := hm
              refine k_of_kk 64 (by as_aux_lemma => kernel_rfl) ?_
              refine kk_call 64 H rfl rfl en105 (g_valid_asked_queue_w (A := A) (⟨_, _, _, _, _, _, _, _, _, _, _, rfl, (hrp0_0.ext (Flat.mono _) hS.x), (hrp0_1.ext (Flat.mono _) hS.x), (hrp0_2.ext (Flat.mono _) hS.x), (hrp0_3.ext (Flat.mono _) hS.x), (hrp0_4.ext (Flat.mono _) hS.x), (hrp0_5.ext (Flat.mono _) hS.x), (hrp0_6.ext (Flat.mono _) hS.x), (hrp0_7.ext (Flat.mono _) hS.x), (hrp0_8.ext (Flat.mono _) hS.x), (hrp0_9.ext RGPort.mono hS.x), (hrp0_10.ext (Flat.mono _) hS.x)⟩ : RGValidAsked _ [.int .i64 a0.p_.Id, .bool a0.p_.Mobile, vp0_0, vp0_1, vp0_2, .int .i64 a0.p_.Events, vp0_3, .int .i64 a0.s_.Id, .int .i64 a0.s_.Frame, .int .i64 a0.s_.Epoch, vp0_4, vp0_5, vp0_6, vp0_7, vp0_8, vp0_9, vp0_10] a0) hr606) rfl (fun v w hv => .inl (ChgF.of_ext (by obtain ⟨_, hE0⟩ := hv; exact hE0))) ?_
              clear H; intro x609 w607 hv; clear a; intro a H; obtain ⟨rfl, hE608⟩ := hv
              replace hS := hS.ext hE608
              replace hW := Nat.le_trans hW hE608.size
              replace hm := bindS hm; obtain ⟨r610, hr610, hm⟩ := hm
              refine k_of_kk 66 (by as_aux_lemma => kernel_rfl) ?_
              refine kk_call 66 H rfl rfl en106 (g_valid_asked_rise_w (A := A) (⟨_, _, _, _, _, _, _, _, _, _, _, rfl, (hrp0_0.ext (Flat.mono _) hS.x), (hrp0_1.ext (Flat.mono _) hS.x), (hrp0_2.ext (Flat.mono _) hS.x), (hrp0_3.ext (Flat.mono _) hS.x), (hrp0_4.ext (Flat.mono _) hS.x), (hrp0_5.ext (Flat.mono _) hS.x), (hrp0_6.ext (Flat.mono _) hS.x), (hrp0_7.ext (Flat.mono _) hS.x), (hrp0_8.ext (Flat.mono _) hS.x), (hrp0_9.ext RGPort.mono hS.x), (hrp0_10.ext (Flat.mono _) hS.x)⟩ : RGValidAsked _ [.int .i64 a0.p_.Id, .bool a0.p_.Mobile, vp0_0, vp0_1, vp0_2, .int .i64 a0.p_.Events, vp0_3, .int .i64 a0.s_.Id, .int .i64 a0.s_.Frame, .int .i64 a0.s_.Epoch, vp0_4, vp0_5, vp0_6, vp0_7, vp0_8, vp0_9, vp0_10] a0) hr610) rfl (fun v w hv => .inl (ChgF.of_ext (by obtain ⟨_, hE0⟩ := hv; exact hE0))) ?_
              clear H; intro x613 w611 hv; clear a; intro a H; obtain ⟨rfl, hE612⟩ := hv
              replace hS := hS.ext hE612
              replace hW := Nat.le_trans hW hE612.size
              replace hm := bindS hm; obtain ⟨r614, hr614, hm⟩ := hm
              refine k_of_kk 68 (by as_aux_lemma => kernel_rfl) ?_
              refine kk_call 68 H rfl rfl en107 (g_valid_asked_timed_w (A := A) (⟨_, _, _, _, _, _, _, _, _, _, _, rfl, (hrp0_0.ext (Flat.mono _) hS.x), (hrp0_1.ext (Flat.mono _) hS.x), (hrp0_2.ext (Flat.mono _) hS.x), (hrp0_3.ext (Flat.mono _) hS.x), (hrp0_4.ext (Flat.mono _) hS.x), (hrp0_5.ext (Flat.mono _) hS.x), (hrp0_6.ext (Flat.mono _) hS.x), (hrp0_7.ext (Flat.mono _) hS.x), (hrp0_8.ext (Flat.mono _) hS.x), (hrp0_9.ext RGPort.mono hS.x), (hrp0_10.ext (Flat.mono _) hS.x)⟩ : RGValidAsked _ [.int .i64 a0.p_.Id, .bool a0.p_.Mobile, vp0_0, vp0_1, vp0_2, .int .i64 a0.p_.Events, vp0_3, .int .i64 a0.s_.Id, .int .i64 a0.s_.Frame, .int .i64 a0.s_.Epoch, vp0_4, vp0_5, vp0_6, vp0_7, vp0_8, vp0_9, vp0_10] a0) hr614) rfl (fun v w hv => .inl (ChgF.of_ext (by obtain ⟨_, hE0⟩ := hv; exact hE0))) ?_
              clear H; intro x617 w615 hv; clear a; intro a H; obtain ⟨rfl, hE616⟩ := hv
              replace hS := hS.ext hE616
              replace hW := Nat.le_trans hW hE616.size
              replace hm := bindS hm; obtain ⟨r618, hr618, hm⟩ := hm
              refine k_of_kk 71 (by as_aux_lemma => kernel_rfl) ?_
              refine kk_call 71 H rfl rfl en108 (g_slices_ContainsFunc_int_w (A := A) (hrp0_8.ext (Flat.mono _) hS.x) (g1 := 109) (fs1 := []) (cp1 := []) (a1 := (fun x0 => g_valid_asked_rules_2 x0)) en109 (fun w1 e1 x0 r hr => g_valid_asked_rules_2_w (A := A) hr) hr618) rfl (fun v w hv => .inl (ChgF.of_ext (by obtain ⟨_, hE0⟩ := hv; exact hE0))) ?_
              clear H; intro x621 w619 hv; clear a; intro a H; obtain ⟨rfl, hE620⟩ := hv
              replace hS := hS.ext hE620
              replace hW := Nat.le_trans hW hE620.size
              refine k_takeT 72 H rfl (q_not rfl) rfl (by as_aux_lemma => kernel_rfl) (by as_aux_lemma => kernel_rfl) (by as_aux_lemma => kernel_rfl) (by as_aux_lemma => kernel_rfl) (fun _ _ _ h => h) ?_; clear H a; intro a H
              replace hm := bindS hm; obtain ⟨r622, hr622, hm⟩ := hm
              refine k_of_kk 74 (by as_aux_lemma => kernel_rfl) ?_
              refine kk_call 74 H rfl rfl en110 (g_valid_asked_ports_w (A := A) (⟨_, _, _, _, _, _, _, _, _, _, _, rfl, (hrp0_0.ext (Flat.mono _) hS.x), (hrp0_1.ext (Flat.mono _) hS.x), (hrp0_2.ext (Flat.mono _) hS.x), (hrp0_3.ext (Flat.mono _) hS.x), (hrp0_4.ext (Flat.mono _) hS.x), (hrp0_5.ext (Flat.mono _) hS.x), (hrp0_6.ext (Flat.mono _) hS.x), (hrp0_7.ext (Flat.mono _) hS.x), (hrp0_8.ext (Flat.mono _) hS.x), (hrp0_9.ext RGPort.mono hS.x), (hrp0_10.ext (Flat.mono _) hS.x)⟩ : RGValidAsked _ [.int .i64 a0.p_.Id, .bool a0.p_.Mobile, vp0_0, vp0_1, vp0_2, .int .i64 a0.p_.Events, vp0_3, .int .i64 a0.s_.Id, .int .i64 a0.s_.Frame, .int .i64 a0.s_.Epoch, vp0_4, vp0_5, vp0_6, vp0_7, vp0_8, vp0_9, vp0_10] a0) (g1 := 111) (fs1 := []) (cp1 := []) (a1 := (fun x0 x1 => g_valid_asked_rules_3 x0 x1)) en111 (fun w1 e1 x0 ds1 x1 r hd1 hr => g_valid_asked_rules_3_w (A := A) hd1 hr) hr622) rfl (fun v w hv => .inl (ChgF.of_ext (by obtain ⟨_, hE0⟩ := hv; exact hE0))) ?_
              clear H; intro x625 w623 hv; clear a; intro a H; obtain ⟨rfl, hE624⟩ := hv
              replace hS := hS.ext hE624
              replace hW := Nat.le_trans hW hE624.size
              replace hm := bindS hm; obtain ⟨r626, hr626, hm⟩ := hm
              refine k_of_kk 76 (by as_aux_lemma => kernel_rfl) ?_
              refine kk_call 76 H rfl rfl en110 (g_valid_asked_ports_w (A := A) (⟨_, _, _, _, _, _, _, _, _, _, _, rfl, (hrp0_0.ext (Flat.mono _) hS.x), (hrp0_1.ext (Flat.mono _) hS.x), (hrp0_2.ext (Flat.mono _) hS.x), (hrp0_3.ext (Flat.mono _) hS.x), (hrp0_4.ext (Flat.mono _) hS.x), (hrp0_5.ext (Flat.mono _) hS.x), (hrp0_6.ext (Flat.mono _) hS.x), (hrp0_7.ext (Flat.mono _) hS.x), (hrp0_8.ext (Flat.mono _) hS.x), (hrp0_9.ext RGPort.mono hS.x), (hrp0_10.ext (Flat.mono _) hS.x)⟩ : RGValidAsked _ [.int .i64 a0.p_.Id, .bool a0.p_.Mobile, vp0_0, vp0_1, vp0_2, .int .i64 a0.p_.Events, vp0_3, .int .i64 a0.s_.Id, .int .i64 a0.s_.Frame, .int .i64 a0.s_.Epoch, vp0_4, vp0_5, vp0_6, vp0_7, vp0_8, vp0_9, vp0_10] a0) (g1 := 114) (fs1 := []) (cp1 := []) (a1 := (fun x0 x1 => g_valid_asked_rules_4 x0 x1)) en114 (fun w1 e1 x0 ds1 x1 r hd1 hr => g_valid_asked_rules_4_w (A := A) hd1 hr) hr626) rfl (fun v w hv => .inl (ChgF.of_ext (by obtain ⟨_, hE0⟩ := hv; exact hE0))) ?_
              clear H; intro x629 w627 hv; clear a; intro a H; obtain ⟨rfl, hE628⟩ := hv
              replace hS := hS.ext hE628
              replace hW := Nat.le_trans hW hE628.size
              replace hm := bindS hm; obtain ⟨r630, hr630, hm⟩ := hm
              refine k_of_kk 78 (by as_aux_lemma => kernel_rfl) ?_
              refine kk_call 78 H rfl rfl en115 (g_valid_asked_rights_w (A := A) (⟨_, _, _, _, _, _, _, _, _, _, _, rfl, (hrp0_0.ext (Flat.mono _) hS.x), (hrp0_1.ext (Flat.mono _) hS.x), (hrp0_2.ext (Flat.mono _) hS.x), (hrp0_3.ext (Flat.mono _) hS.x), (hrp0_4.ext (Flat.mono _) hS.x), (hrp0_5.ext (Flat.mono _) hS.x), (hrp0_6.ext (Flat.mono _) hS.x), (hrp0_7.ext (Flat.mono _) hS.x), (hrp0_8.ext (Flat.mono _) hS.x), (hrp0_9.ext RGPort.mono hS.x), (hrp0_10.ext (Flat.mono _) hS.x)⟩ : RGValidAsked _ [.int .i64 a0.p_.Id, .bool a0.p_.Mobile, vp0_0, vp0_1, vp0_2, .int .i64 a0.p_.Events, vp0_3, .int .i64 a0.s_.Id, .int .i64 a0.s_.Frame, .int .i64 a0.s_.Epoch, vp0_4, vp0_5, vp0_6, vp0_7, vp0_8, vp0_9, vp0_10] a0) hr630) rfl (fun v w hv => .inl (ChgF.of_ext (by obtain ⟨_, hE0⟩ := hv; exact hE0))) ?_
              clear H; intro x633 w631 hv; clear a; intro a H; obtain ⟨rfl, hE632⟩ := hv
              replace hS := hS.ext hE632
              replace hW := Nat.le_trans hW hE632.size
              replace hm := bindS hm; obtain ⟨r634, hr634, hm⟩ := hm
              refine k_of_kk 81 (by as_aux_lemma => kernel_rfl) ?_
              refine kk_call 81 H rfl rfl en101 (g_valid_asked_procs_w (A := A) (⟨_, _, _, _, _, _, _, _, _, _, _, rfl, (hrp0_0.ext (Flat.mono _) hS.x), (hrp0_1.ext (Flat.mono _) hS.x), (hrp0_2.ext (Flat.mono _) hS.x), (hrp0_3.ext (Flat.mono _) hS.x), (hrp0_4.ext (Flat.mono _) hS.x), (hrp0_5.ext (Flat.mono _) hS.x), (hrp0_6.ext (Flat.mono _) hS.x), (hrp0_7.ext (Flat.mono _) hS.x), (hrp0_8.ext (Flat.mono _) hS.x), (hrp0_9.ext RGPort.mono hS.x), (hrp0_10.ext (Flat.mono _) hS.x)⟩ : RGValidAsked _ [.int .i64 a0.p_.Id, .bool a0.p_.Mobile, vp0_0, vp0_1, vp0_2, .int .i64 a0.p_.Events, vp0_3, .int .i64 a0.s_.Id, .int .i64 a0.s_.Frame, .int .i64 a0.s_.Epoch, vp0_4, vp0_5, vp0_6, vp0_7, vp0_8, vp0_9, vp0_10] a0) (g1 := 116) (fs1 := []) (cp1 := [.pointer (some ⟨b529, 0, none⟩), .pointer (some ⟨b528, 0, none⟩)]) (a1 := (fun x0 => g_valid_asked_rules_5 x0 a0.s_ a0.p_)) en116 (fun w1 e1 x0 r hr => g_valid_asked_rules_5_w (A := A) ((hS.blk 3 rfl).ext e1) (⟨_, _, _, _, _, _, _, rfl, ((hrp0_4.ext (Flat.mono _) hS.x).ext (Flat.mono _) e1), ((hrp0_5.ext (Flat.mono _) hS.x).ext (Flat.mono _) e1), ((hrp0_6.ext (Flat.mono _) hS.x).ext (Flat.mono _) e1), ((hrp0_7.ext (Flat.mono _) hS.x).ext (Flat.mono _) e1), ((hrp0_8.ext (Flat.mono _) hS.x).ext (Flat.mono _) e1), ((hrp0_9.ext RGPort.mono hS.x).ext RGPort.mono e1), ((hrp0_10.ext (Flat.mono _) hS.x).ext (Flat.mono _) e1)⟩ : RGState _ [.int .i64 a0.s_.Id, .int .i64 a0.s_.Frame, .int .i64 a0.s_.Epoch, vp0_4, vp0_5, vp0_6, vp0_7, vp0_8, vp0_9, vp0_10] a0.s_) ((hS.blk 2 rfl).ext e1) (⟨_, _, _, _, rfl, ((hrp0_0.ext (Flat.mono _) hS.x).ext (Flat.mono _) e1), ((hrp0_1.ext (Flat.mono _) hS.x).ext (Flat.mono _) e1), ((hrp0_2.ext (Flat.mono _) hS.x).ext (Flat.mono _) e1), ((hrp0_3.ext (Flat.mono _) hS.x).ext (Flat.mono _) e1)⟩ : RGPlan _ [.int .i64 a0.p_.Id, .bool a0.p_.Mobile, vp0_0, vp0_1, vp0_2, .int .i64 a0.p_.Events, vp0_3] a0.p_) hr) hr634) rfl (fun v w hv => .inl (ChgF.of_ext (by obtain ⟨_, hE0⟩ := hv; exact hE0))) ?_
              clear H; intro x637 w635 hv; clear a; intro a H; obtain ⟨rfl, hE636⟩ := hv
              replace hS := hS.ext hE636
              replace hW := Nat.le_trans hW hE636.size
              replace hm := bindS hm; obtain ⟨r638, hr638, hm⟩ := hm
              refine k_of_kk 84 (by as_aux_lemma => kernel_rfl) ?_
              refine kk_call 84 H rfl rfl en101 (g_valid_asked_procs_w (A := A) (⟨_, _, _, _, _, _, _, _, _, _, _, rfl, (hrp0_0.ext (Flat.mono _) hS.x), (hrp0_1.ext (Flat.mono _) hS.x), (hrp0_2.ext (Flat.mono _) hS.x), (hrp0_3.ext (Flat.mono _) hS.x), (hrp0_4.ext (Flat.mono _) hS.x), (hrp0_5.ext (Flat.mono _) hS.x), (hrp0_6.ext (Flat.mono _) hS.x), (hrp0_7.ext (Flat.mono _) hS.x), (hrp0_8.ext (Flat.mono _) hS.x), (hrp0_9.ext RGPort.mono hS.x), (hrp0_10.ext (Flat.mono _) hS.x)⟩ : RGValidAsked _ [.int .i64 a0.p_.Id, .bool a0.p_.Mobile, vp0_0, vp0_1, vp0_2, .int .i64 a0.p_.Events, vp0_3, .int .i64 a0.s_.Id, .int .i64 a0.s_.Frame, .int .i64 a0.s_.Epoch, vp0_4, vp0_5, vp0_6, vp0_7, vp0_8, vp0_9, vp0_10] a0) (g1 := 118) (fs1 := []) (cp1 := [.pointer (some ⟨b529, 0, none⟩), .pointer (some ⟨b528, 0, none⟩)]) (a1 := (fun x0 => g_valid_asked_rules_6 x0 a0.s_ a0.p_)) en118 (fun w1 e1 x0 r hr => g_valid_asked_rules_6_w (A := A) ((hS.blk 3 rfl).ext e1) (⟨_, _, _, _, _, _, _, rfl, ((hrp0_4.ext (Flat.mono _) hS.x).ext (Flat.mono _) e1), ((hrp0_5.ext (Flat.mono _) hS.x).ext (Flat.mono _) e1), ((hrp0_6.ext (Flat.mono _) hS.x).ext (Flat.mono _) e1), ((hrp0_7.ext (Flat.mono _) hS.x).ext (Flat.mono _) e1), ((hrp0_8.ext (Flat.mono _) hS.x).ext (Flat.mono _) e1), ((hrp0_9.ext RGPort.mono hS.x).ext RGPort.mono e1), ((hrp0_10.ext (Flat.mono _) hS.x).ext (Flat.mono _) e1)⟩ : RGState _ [.int .i64 a0.s_.Id, .int .i64 a0.s_.Frame, .int .i64 a0.s_.Epoch, vp0_4, vp0_5, vp0_6, vp0_7, vp0_8, vp0_9, vp0_10] a0.s_) ((hS.blk 2 rfl).ext e1) (⟨_, _, _, _, rfl, ((hrp0_0.ext (Flat.mono _) hS.x).ext (Flat.mono _) e1), ((hrp0_1.ext (Flat.mono _) hS.x).ext (Flat.mono _) e1), ((hrp0_2.ext (Flat.mono _) hS.x).ext (Flat.mono _) e1), ((hrp0_3.ext (Flat.mono _) hS.x).ext (Flat.mono _) e1)⟩ : RGPlan _ [.int .i64 a0.p_.Id, .bool a0.p_.Mobile, vp0_0, vp0_1, vp0_2, .int .i64 a0.p_.Events, vp0_3] a0.p_) hr) hr638) rfl (fun v w hv => .inl (ChgF.of_ext (by obtain ⟨_, hE0⟩ := hv; exact hE0))) ?_
              clear H; intro x641 w639 hv; clear a; intro a H; obtain ⟨rfl, hE640⟩ := hv
              replace hS := hS.ext hE640
              replace hW := Nat.le_trans hW hE640.size
              replace hm := bindS hm; obtain ⟨r642, hr642, hm⟩ := hm
              refine k_of_kk 88 (by as_aux_lemma => kernel_rfl) ?_
              refine kk_call 88 H rfl rfl en101 (g_valid_asked_procs_w (A := A) (⟨_, _, _, _, _, _, _, _, _, _, _, rfl, (hrp0_0.ext (Flat.mono _) hS.x), (hrp0_1.ext (Flat.mono _) hS.x), (hrp0_2.ext (Flat.mono _) hS.x), (hrp0_3.ext (Flat.mono _) hS.x), (hrp0_4.ext (Flat.mono _) hS.x), (hrp0_5.ext (Flat.mono _) hS.x), (hrp0_6.ext (Flat.mono _) hS.x), (hrp0_7.ext (Flat.mono _) hS.x), (hrp0_8.ext (Flat.mono _) hS.x), (hrp0_9.ext RGPort.mono hS.x), (hrp0_10.ext (Flat.mono _) hS.x)⟩ : RGValidAsked _ [.int .i64 a0.p_.Id, .bool a0.p_.Mobile, vp0_0, vp0_1, vp0_2, .int .i64 a0.p_.Events, vp0_3, .int .i64 a0.s_.Id, .int .i64 a0.s_.Frame, .int .i64 a0.s_.Epoch, vp0_4, vp0_5, vp0_6, vp0_7, vp0_8, vp0_9, vp0_10] a0) (g1 := 119) (fs1 := [.agg #[.int .i64 a0.p_.Id, .bool a0.p_.Mobile, vp0_0, vp0_1, vp0_2, .int .i64 a0.p_.Events, vp0_3, .int .i64 a0.s_.Id, .int .i64 a0.s_.Frame, .int .i64 a0.s_.Epoch, vp0_4, vp0_5, vp0_6, vp0_7, vp0_8, vp0_9, vp0_10]]) (cp1 := []) (a1 := (fun x0 => g_valid_asked_queued a0 x0)) en119 (fun w1 e1 x0 r hr => g_valid_asked_queued_w (A := A) (⟨_, _, _, _, _, _, _, _, _, _, _, rfl, ((hrp0_0.ext (Flat.mono _) hS.x).ext (Flat.mono _) e1), ((hrp0_1.ext (Flat.mono _) hS.x).ext (Flat.mono _) e1), ((hrp0_2.ext (Flat.mono _) hS.x).ext (Flat.mono _) e1), ((hrp0_3.ext (Flat.mono _) hS.x).ext (Flat.mono _) e1), ((hrp0_4.ext (Flat.mono _) hS.x).ext (Flat.mono _) e1), ((hrp0_5.ext (Flat.mono _) hS.x).ext (Flat.mono _) e1), ((hrp0_6.ext (Flat.mono _) hS.x).ext (Flat.mono _) e1), ((hrp0_7.ext (Flat.mono _) hS.x).ext (Flat.mono _) e1), ((hrp0_8.ext (Flat.mono _) hS.x).ext (Flat.mono _) e1), ((hrp0_9.ext RGPort.mono hS.x).ext RGPort.mono e1), ((hrp0_10.ext (Flat.mono _) hS.x).ext (Flat.mono _) e1)⟩ : RGValidAsked _ [.int .i64 a0.p_.Id, .bool a0.p_.Mobile, vp0_0, vp0_1, vp0_2, .int .i64 a0.p_.Events, vp0_3, .int .i64 a0.s_.Id, .int .i64 a0.s_.Frame, .int .i64 a0.s_.Epoch, vp0_4, vp0_5, vp0_6, vp0_7, vp0_8, vp0_9, vp0_10] a0) hr) hr642) rfl (fun v w hv => .inl (ChgF.of_ext (by obtain ⟨_, hE0⟩ := hv; exact hE0))) ?_
              clear H; intro x645 w643 hv; clear a; intro a H; obtain ⟨rfl, hE644⟩ := hv
              replace hS := hS.ext hE644
              replace hW := Nat.le_trans hW hE644.size
              replace hm := bindS hm; obtain ⟨r646, hr646, hm⟩ := hm
              refine k_of_kk 90 (by as_aux_lemma => kernel_rfl) ?_
              refine kk_call 90 H rfl rfl en110 (g_valid_asked_ports_w (A := A) (⟨_, _, _, _, _, _, _, _, _, _, _, rfl, (hrp0_0.ext (Flat.mono _) hS.x), (hrp0_1.ext (Flat.mono _) hS.x), (hrp0_2.ext (Flat.mono _) hS.x), (hrp0_3.ext (Flat.mono _) hS.x), (hrp0_4.ext (Flat.mono _) hS.x), (hrp0_5.ext (Flat.mono _) hS.x), (hrp0_6.ext (Flat.mono _) hS.x), (hrp0_7.ext (Flat.mono _) hS.x), (hrp0_8.ext (Flat.mono _) hS.x), (hrp0_9.ext RGPort.mono hS.x), (hrp0_10.ext (Flat.mono _) hS.x)⟩ : RGValidAsked _ [.int .i64 a0.p_.Id, .bool a0.p_.Mobile, vp0_0, vp0_1, vp0_2, .int .i64 a0.p_.Events, vp0_3, .int .i64 a0.s_.Id, .int .i64 a0.s_.Frame, .int .i64 a0.s_.Epoch, vp0_4, vp0_5, vp0_6, vp0_7, vp0_8, vp0_9, vp0_10] a0) (g1 := 120) (fs1 := []) (cp1 := []) (a1 := (fun x0 x1 => g_valid_asked_rules_7 x0 x1)) en120 (fun w1 e1 x0 ds1 x1 r hd1 hr => g_valid_asked_rules_7_w (A := A) hd1 hr) hr646) rfl (fun v w hv => .inl (ChgF.of_ext (by obtain ⟨_, hE0⟩ := hv; exact hE0))) ?_
              clear H; intro x649 w647 hv; clear a; intro a H; obtain ⟨rfl, hE648⟩ := hv
              replace hS := hS.ext hE648
              replace hW := Nat.le_trans hW hE648.size
              refine k_takeT 91 H rfl (q_buildArr (cs := [.bool (decide (a0.s_.Id = a0.p_.Id)), .bool q563, .bool q588, .bool r594, .bool r598, .bool r602, .bool r606, .bool r610, .bool r614, .bool (!r618), .bool r622, .bool r626, .bool r630, .bool r634, .bool r638, .bool r642, .bool r646]) Tryd.underlying137 sz4 ze137 rfl (by as_aux_lemma => kernel_rfl)) rfl (by as_aux_lemma => kernel_rfl) (by as_aux_lemma => kernel_rfl) (by as_aux_lemma => kernel_rfl) (by as_aux_lemma => kernel_rfl) (fun _ _ _ h => h) ?_; clear H a; intro a H
              replace hS := hS.pick 1 rfl; dsimp only [List.eraseIdx] at hS
              refine k_storeAll 92 H rfl rfl rfl (vs := ((#v[decide (a0.s_.Id = a0.p_.Id), q563, q588, r594, r598, r602, r606, r610, r614, (!r618), r622, r626, r630, r634, r638, r642, r646]).toList.map Value.bool)) rfl (sz137.trans (by simp)) (hS.blk 0 rfl) (by simp) (by simp) (by as_aux_lemma => kernel_rfl) (.inr (by as_aux_lemma => kernel_rfl)) ?_
              clear H; intro w650 hN hC651 hz; clear a; intro a H; replace hS := hS.setBlk hN hC651; clear hN hz; replace hW := Nat.le_trans hW hC651.size
              refine k_done (by as_aux_lemma => kernel_rfl) ?_
              refine then_normal (wp_ret ?_)
              obtain rfl := Option.some.inj hm
              replace hS := hS.take 1; simp only [List.take_succ_cons, List.take_zero] at hS
              refine retL H (.inr rfl) rfl (vs := [.agg ((#v[decide (a0.s_.Id = a0.p_.Id), q563, q588, r594, r598, r602, r606, r610, r614, (!r618), r622, r626, r630, r634, r638, r642, r646]).toList.map Value.bool).toArray]) (resCell rfl ((hS.blk 0 rfl).ldAll ag137 (sz137.trans (by simp))) resNil) ?_
              replace hS := hS.take 0; simp only [List.take_succ_cons, List.take_zero] at hS
              exact ⟨rfl, hS.x⟩
theorem g_valid_Faults_w {w : World} {A : Nat → Addr} {cs0 : List Value} {a0 : GPlan} {cs1 : List Value} {a1 : GState} (hG : EV A w) (h0 : RGPlan w cs0 a0) (h1 : RGState w cs1 a1) {r : List Int} (hm : g_valid_Faults a0 a1 = some r) :
    Calls Tryd.prog 26 [.agg cs0.toArray, .agg cs1.toArray].toArray w (Ret fun u w' => ∃ h_0, u = h_0 ∧ St NB w w' [ownR 3 1 h_0 r.length (r.flatMap eI)]) := by
  obtain ⟨vp0_0, vp0_1, vp0_2, vp0_3, rfl, hrp0_0, hrp0_1, hrp0_2, hrp0_3⟩ := h0
  obtain ⟨vp1_0, vp1_1, vp1_2, vp1_3, vp1_4, vp1_5, vp1_6, rfl, hrp1_0, hrp1_1, hrp1_2, hrp1_3, hrp1_4, hrp1_5, hrp1_6⟩ := h1
  have hS := St.begin NB w
  unfold g_valid_Faults at hm
  refine enter Tryd.func26 rfl rfl rfl ?_; intro a H; dsimp only [enumL, Nat.zero_add, Nat.reduceAdd] at H
  refine wp_seq (wp_region_lit (n_box H rfl (cs := [.int .i64 a0.Id, .bool a0.Mobile, vp0_0, vp0_1, vp0_2, .int .i64 a0.Events, vp0_3]) rfl rfl ?_))
  clear H; intro b21 w22 hN hE23 hs; clear a; intro a H
  replace hS := hS.newBlk hN hE23 hs; clear hN hs
  refine n_box H rfl (cs := [.int .i64 a1.Id, .int .i64 a1.Frame, .int .i64 a1.Epoch, vp1_0, vp1_1, vp1_2, vp1_3, vp1_4, vp1_5, vp1_6]) rfl rfl ?_
  clear H; intro b24 w25 hN hE26 hs; clear a; intro a H
  replace hS := hS.newBlk hN hE26 hs; clear hN hs
  refine n_q H (q_assign rfl) rfl ?_; clear H a; intro a H
  refine n_nil (then_normal (wp_seq (wp_seq (wp_region_lit (n_q H (q_load rfl ((hS.blk 1 rfl).ldAll ag68 sz68)) rfl ?_))))); clear H a; intro a H
  replace hm := bindS hm; obtain ⟨r27, hr27, hm⟩ := hm
  refine n_call H rfl en62 (g_plan_Check_w (A := A) (hG.ext hS.x) (⟨_, _, _, _, rfl, (hrp0_0.ext (Flat.mono _) hS.x), (hrp0_1.ext (Flat.mono _) hS.x), (hrp0_2.ext (Flat.mono _) hS.x), (hrp0_3.ext (Flat.mono _) hS.x)⟩ : RGPlan _ [.int .i64 a0.Id, .bool a0.Mobile, vp0_0, vp0_1, vp0_2, .int .i64 a0.Events, vp0_3] a0) hr27) rfl ?_
  clear H; intro u28 w30 hv; clear a; intro a H; obtain ⟨_, rfl, hE31⟩ := hv
  replace hS := hS.new hE31; simp only [List.cons_append, List.nil_append] at hS
  refine n_q H (q_cast (q_nnilI Tryd.underlying36 rfl rfl (hS.any 0 rfl : IsE A w30 u28 r27).form) (show _ = Value.bool (!decide (r27 = .nil)) by rw [IsErr.isNil (hS.any 0 rfl : IsE A w30 u28 r27)])) rfl ?_; clear H a; intro a H
  refine n_nil (then_normal (c_cond H rfl (fun hc33 => ?_) (fun hc33 => ?_)))
  · replace hm := condT hm hc33
    refine wp_seq (wp_region_lit (n_buildSlice H Tryd.underlying23 sz3 ze3 rfl rfl rfl (cs := [.int .i64 0]) (by kernel_rfl) rfl ?_))
    clear H; intro b36 w34 hN hE35 hs; clear a; intro a H
    replace hS := hS.newBlk hN hE35 hs; clear hN hs
    replace hS := hS.blkOwnL (e := eI) (k := 1) [0] rfl rfl (by simp [maxLen])
    refine n_q H (q_assign rfl) rfl ?_; clear H a; intro a H
    refine n_nil (then_normal (wp_ret (then_ret ?_)))
    obtain rfl := Option.some.inj hm
    replace hS := hS.take 1; simp only [List.take_succ_cons, List.take_zero] at hS
    refine ret1 H (.inr rfl) rfl rfl ?_
    exact ⟨_, rfl, hS⟩
  · replace hm := condF hm hc33
    refine wp_skip (then_normal (wp_seq (wp_region_lit (n_q H (q_assign rfl) rfl ?_)))); clear H a; intro a H
    refine n_nil (then_normal (wp_seq (wp_seq (wp_region_lit (n_q H (q_load rfl ((hS.blk 2 rfl).ldAll ag68 sz68)) rfl (W_q (q_load rfl ((hS.blk 1 rfl).ldAll ag74 sz74)) rfl (W_q (q_build (cs := [.int .i64 a0.Id, .bool a0.Mobile, vp0_0, vp0_1, vp0_2, .int .i64 a0.Events, vp0_3, .int .i64 a1.Id, .int .i64 a1.Frame, .int .i64 a1.Epoch, vp1_0, vp1_1, vp1_2, vp1_3, vp1_4, vp1_5, vp1_6]) ze139 bd139 pl139 rfl (by kernel_rfl)) rfl ?_))))))); clear H a; intro a H
    replace hm := bindS hm; obtain ⟨r38, hr38, hm⟩ := hm
    refine n_call H rfl en63 (g_valid_asked_rules_w (A := A) (⟨_, _, _, _, _, _, _, _, _, _, _, rfl, (hrp0_0.ext (Flat.mono _) hS.x), (hrp0_1.ext (Flat.mono _) hS.x), (hrp0_2.ext (Flat.mono _) hS.x), (hrp0_3.ext (Flat.mono _) hS.x), (hrp1_0.ext (Flat.mono _) hS.x), (hrp1_1.ext (Flat.mono _) hS.x), (hrp1_2.ext (Flat.mono _) hS.x), (hrp1_3.ext (Flat.mono _) hS.x), (hrp1_4.ext (Flat.mono _) hS.x), (hrp1_5.ext RGPort.mono hS.x), (hrp1_6.ext (Flat.mono _) hS.x)⟩ : RGValidAsked _ [.int .i64 a0.Id, .bool a0.Mobile, vp0_0, vp0_1, vp0_2, .int .i64 a0.Events, vp0_3, .int .i64 a1.Id, .int .i64 a1.Frame, .int .i64 a1.Epoch, vp1_0, vp1_1, vp1_2, vp1_3, vp1_4, vp1_5, vp1_6] (⟨a0, a1⟩ : GValidAsked)) hr38) rfl ?_
    clear H; intro x41 w39 hv; clear a; intro a H; obtain ⟨rfl, hE40⟩ := hv
    replace hS := hS.ext hE40
    refine n_q H (q_move rfl) rfl ?_; clear H a; intro a H
    refine n_nil (then_normal (wp_block ?_))
    replace hS := hS.nilOwn 3 1
    replace hS := hS.take 1; simp only [List.take_succ_cons, List.take_zero] at hS
    replace hm := bindS hm; obtain ⟨q42, hm, hm42⟩ := hm; replace hm := iter_some hm; obtain ⟨n42, hm⟩ := hm
    refine c_loop (σ := Nat × (List Int) × Nat × Value) (fun (m, l43, i46, v44) => [(5, v44), (15, .agg (r38.toList.map Value.bool).toArray), (16, .int .i64 ((i46 : Nat) : Int))]) (fun (m, l43, i46, v44) wl => iterN (g_valid_Faults_L4 r38) m (l43, i46) = some q42 ∧ St NB w wl [ownR 3 1 v44 l43.length (l43.flatMap eI)]) (fun (m, l43, i46, v44) => m) (n42, ([] : List Int), 0, .slice none 0 0) H ⟨rfl, rfl, rfl, trivial⟩ ⟨hm, hS⟩ ?_
    clear H hS hm a; intro xx a w48 H hR; obtain ⟨m, l43, i46, v44⟩ := xx; simp only [ent, List.map_cons, List.map_nil] at H; (try dsimp only at hR); obtain ⟨hm, hS⟩ := hR
    replace hm := iterN_step hm; obtain ⟨m42, o42, rfl, hm, hn42⟩ := hm; try dsimp only [g_valid_Faults_L4] at hm
    refine wp_seq (wp_region_lit (n_q H (q_lssN (i := i46) (j := 17) rfl rfl) rfl ?_)); clear H a; intro a H
    refine n_nil (then_normal (wp_seq (c_cond H rfl (fun hc49 => ?_) (fun hc49 => ?_))))
    · replace hm := condT hm hc49
      have hlt50 : i46 < 17 := of_decide_eq_true hc49
      refine wp_skip (then_normal ?_)
      replace hm := bindS hm; obtain ⟨j51, hm, hm51⟩ := hm
      refine c_join (σ := (List Int) × Value) H (fun (l552, v553) => [(5, v553), (15, .agg (r38.toList.map Value.bool).toArray), (16, .int .i64 ((i46 : Nat) : Int))]) (fun (l552, v553) wl => (g_valid_Faults_J3 i46) l552 = some o42 ∧ St NB w wl [ownR 3 1 v553 l552.length (l552.flatMap eI)]) ?_ ?_
      · skip
        refine wp_block (wp_seq (wp_region_lit (n_q H (q_move rfl) rfl ?_))); clear H a; intro a H
        replace hm := bindS hm; obtain ⟨x555, hx555, hm⟩ := hm
        obtain ⟨h0x555, h1x555, hxx555⟩ := rdV_some hx555
        refine n_q H (q_ixVal Tryd.underlying137 sz4 ag4 rfl rfl h0x555 h1x555 (arr_at1 (f := Value.bool) hxx555)) rfl (W_q (q_assign rfl) rfl (W_q (q_assign rfl) rfl ?_)); clear H a; intro a H
        refine n_nil (then_normal (wp_seq (wp_region_lit (n_q H (q_move rfl) rfl (W_q (q_not rfl) rfl ?_))))); clear H a; intro a H
        refine n_nil (then_normal (c_cond H rfl (fun hc556 => ?_) (fun hc556 => ?_)))
        · replace hm := condT hm hc556
          refine wp_region_lit (n_q H (q_move rfl) rfl (W_q (q_move rfl) rfl (W_q (q_incr (i := i46) (j := 1) rfl rfl (by omega)) rfl ?_))); clear H a; intro a H
          refine n_buildSlice H Tryd.underlying23 sz3 ze3 rfl rfl rfl (cs := [.int .i64 ((i46 + 1 : Nat) : Int)]) (by kernel_rfl) rfl ?_
          clear H; intro b559 w557 hN hE558 hs; clear a; intro a H
          replace hS := hS.newBlk hN hE558 hs; clear hN hs
          replace hS := hS.blkOwnL (e := eI) (k := 1) [((i46 + 1 : Nat) : Int)] rfl rfl (by simp [maxLen])
          replace hS := hS.pick 1 rfl; dsimp only [List.eraseIdx] at hS
          replace hm := chkS hm; obtain ⟨hk561, hm⟩ := hm
          refine n_app (e := eI) H rfl rfl Tryd.underlying23 Tryd.underlying23 (by simp) el3 (hS.own 0 rfl) (((hS.own 1 rfl).slr rfl (fun _ _ => rfl)).src (fun _ _ => rfl)) eI_one hk561 (by simp only [maxLen]; omega) rfl ?_
          clear H; intro v564 w562 hN hC563 hb; clear a; intro a H; replace hS := hS.setOwn hN hC563 hb; clear hN hb
          refine n_q H (q_assign rfl) rfl ?_; clear H a; intro a H
          refine n_nil (block_normal (then_normal ?_))
          obtain rfl := Option.some.inj hm; replace hm := hm51; try dsimp only at hm
          replace hS := hS.take 1; simp only [List.take_succ_cons, List.take_zero] at hS
          exact join ((l43 ++ [((i46 + 1 : Nat) : Int)]), v564) H ⟨rfl, rfl, rfl, trivial⟩ ⟨hm, hS⟩
        · replace hm := condF hm hc556
          refine wp_skip (block_normal (then_normal ?_))
          obtain rfl := Option.some.inj hm; replace hm := hm51; try dsimp only at hm
          exact join (l43, v44) H ⟨rfl, rfl, rfl, trivial⟩ ⟨hm, hS⟩
      · clear H hS hm a; intro xx a w566 H hR
        obtain ⟨l552, v553⟩ := xx
        simp only [ent, List.map_cons, List.map_nil] at H; (try dsimp only at hR); obtain ⟨hm, hS⟩ := hR; try dsimp only [g_valid_Faults_J3] at hm
        refine wp_region_lit (n_q H (q_incr (i := i46) (j := 1) rfl rfl (by omega)) rfl (W_q (q_move rfl) rfl ?_)); clear H a; intro a H
        refine n_nil (then_normal ?_)
        obtain rfl := Option.some.inj hm
        exact round (m42, l552, i46 + 1, v553) H ⟨rfl, rfl, rfl, trivial⟩ ⟨hn42, hS⟩ (Nat.lt_succ_self _)
    · replace hm := condF hm hc49
      refine wp_exit (then_exit (then_exit (block_exit ?_)))
      obtain rfl := Option.some.inj hm; have hz : _ = q42 := hn42; subst hz; replace hm := hm42; try dsimp only at hm
      refine then_normal (wp_seq (wp_region_lit (n_q H (q_move rfl) rfl (W_q (q_assign rfl) rfl ?_)))); clear H a; intro a H
      refine n_nil (then_normal (wp_ret ?_))
      obtain rfl := Option.some.inj hm
      refine ret1 H (.inr rfl) rfl rfl ?_
      exact ⟨_, rfl, hS⟩
theorem g_valid_upTo_w {w : World} {A : Nat → Addr} {cs0 : List Value} {a0 : GPlan} {cs1 : List Value} {a1 : GState} {a2 : Int} (hG : EV A w) (h0 : RGPlan w cs0 a0) (h1 : RGState w cs1 a1) {r : ErrM} (hm : g_valid_upTo a0 a1 a2 = some r) :
    Calls Tryd.prog 64 [.agg cs0.toArray, .agg cs1.toArray, .int .i64 a2].toArray w (Ret fun u w' => ∃ h_0, u = h_0 ∧ St NB w w' [erQ A h_0 r]) := by
  obtain ⟨vp0_0, vp0_1, vp0_2, vp0_3, rfl, hrp0_0, hrp0_1, hrp0_2, hrp0_3⟩ := h0
  obtain ⟨vp1_0, vp1_1, vp1_2, vp1_3, vp1_4, vp1_5, vp1_6, rfl, hrp1_0, hrp1_1, hrp1_2, hrp1_3, hrp1_4, hrp1_5, hrp1_6⟩ := h1
  have hS := St.begin NB w
  unfold g_valid_upTo at hm
  refine enter Tryd.func64 rfl rfl rfl ?_; intro a H; dsimp only [enumL, Nat.zero_add, Nat.reduceAdd] at H
  refine wp_seq (wp_region_lit (n_box H rfl (cs := [.int .i64 a0.Id, .bool a0.Mobile, vp0_0, vp0_1, vp0_2, .int .i64 a0.Events, vp0_3]) rfl rfl ?_))
  clear H; intro b21 w22 hN hE23 hs; clear a; intro a H
  replace hS := hS.newBlk hN hE23 hs; clear hN hs
  refine n_box H rfl (cs := [.int .i64 a1.Id, .int .i64 a1.Frame, .int .i64 a1.Epoch, vp1_0, vp1_1, vp1_2, vp1_3, vp1_4, vp1_5, vp1_6]) rfl rfl ?_
  clear H; intro b24 w25 hN hE26 hs; clear a; intro a H
  replace hS := hS.newBlk hN hE26 hs; clear hN hs
  refine n_q H (q_assign rfl) rfl ?_; clear H a; intro a H
  refine n_nil (then_normal (wp_seq (wp_region_lit (n_q H (q_load rfl ((hS.blk 1 rfl).ldAll ag68 sz68)) rfl (W_q (q_load rfl ((hS.blk 0 rfl).ldAll ag74 sz74)) rfl ?_))))); clear H a; intro a H
  replace hm := bindS hm; obtain ⟨r27, hr27, hm⟩ := hm
  refine n_call H rfl en26 (g_valid_Faults_w (A := A) (hG.ext hS.x) (⟨_, _, _, _, rfl, (hrp0_0.ext (Flat.mono _) hS.x), (hrp0_1.ext (Flat.mono _) hS.x), (hrp0_2.ext (Flat.mono _) hS.x), (hrp0_3.ext (Flat.mono _) hS.x)⟩ : RGPlan _ [.int .i64 a0.Id, .bool a0.Mobile, vp0_0, vp0_1, vp0_2, .int .i64 a0.Events, vp0_3] a0) (⟨_, _, _, _, _, _, _, rfl, (hrp1_0.ext (Flat.mono _) hS.x), (hrp1_1.ext (Flat.mono _) hS.x), (hrp1_2.ext (Flat.mono _) hS.x), (hrp1_3.ext (Flat.mono _) hS.x), (hrp1_4.ext (Flat.mono _) hS.x), (hrp1_5.ext RGPort.mono hS.x), (hrp1_6.ext (Flat.mono _) hS.x)⟩ : RGState _ [.int .i64 a1.Id, .int .i64 a1.Frame, .int .i64 a1.Epoch, vp1_0, vp1_1, vp1_2, vp1_3, vp1_4, vp1_5, vp1_6] a1) hr27) rfl ?_
  clear H; intro u28 w30 hv; clear a; intro a H; obtain ⟨_, rfl, hE31⟩ := hv
  replace hS := hS.new hE31; simp only [List.cons_append, List.nil_append] at hS
  refine n_q H (q_assign rfl) rfl ?_; clear H a; intro a H
  refine n_nil (then_normal (wp_seq (wp_block ?_)))
  replace hm := bindS hm; obtain ⟨j33, hm, hm33⟩ := hm
  refine c_join (σ := Bool) H (fun q534 => [(7, u28), (11, .bool q534)]) (fun q534 wl => (g_valid_upTo_J2 r27) q534 = some r ∧ St NB w wl [ownR 3 1 u28 r27.length (r27.flatMap eI)]) ?_ ?_
  · skip
    refine wp_region_lit (n_q H (q_move rfl) rfl ?_); clear H a; intro a H
    obtain ⟨A535, c535, hv535, hl535, hm535⟩ := SlR.formV ((hS.own 0 rfl).slr rfl (fun _ _ => rfl))
    refine n_q H (q_lenV Tryd.underlying23 rfl hv535) rfl (W_q (q_eqlN (i := r27.length) (j := 0) rfl rfl) rfl (W_q (q_move rfl) rfl ?_)); clear H a; intro a H
    rcases Bool.eq_false_or_eq_true (decide (r27.length = 0)) with hg536 | hg536
    · replace H := H.know 15 rfl hg536
      replace hm := condT hm hg536
      refine n_no H rfl rfl (by decide) rfl (W_no rfl rfl (by decide) rfl (W_no rfl rfl (by decide) rfl (W_no rfl rfl (by decide) rfl (W_no rfl rfl (by decide) rfl (W_q (q_pickT rfl rfl) rfl (W_q (q_assign rfl) rfl ?_)))))); clear H a; intro a H
      refine n_nil (then_normal ?_)
      obtain rfl := Option.some.inj hm; replace hm := hm33; try dsimp only at hm
      replace hS := hS.take 1; simp only [List.take_succ_cons, List.take_zero] at hS
      exact join true H ⟨rfl, rfl, trivial⟩ ⟨hm, hS⟩
    · replace H := H.know 15 rfl hg536
      replace hm := condF hm hg536
      refine n_yes H rfl rfl (n_q H (q_move rfl) rfl (W_yes rfl rfl ?_)); clear H a; intro a H
      replace hm := bindS hm; obtain ⟨x537, hx537, hm⟩ := hm
      obtain ⟨adx537, hAx537⟩ := SlR.adV ((hS.own 0 rfl).slr rfl (fun _ _ => rfl)) hv535 hx537
      refine n_q H (q_ixV (i := 0) Tryd.underlying23 sz3 rfl hv535 hAx537 rfl (natI hx537)) rfl (W_yes rfl rfl (W_q (q_load rfl (SlR.ldOneV ((hS.own 0 rfl).slr rfl (fun _ _ => rfl)) hv535 hAx537 ag3 hx537 rfl)) rfl (W_yes rfl rfl (W_q (q_move rfl) rfl (W_yes rfl rfl (W_q (q_gtr rfl rfl) rfl (W_q (q_pickF rfl rfl) rfl (W_q (q_assign rfl) rfl ?_)))))))); clear H a; intro a H
      refine n_nil (then_normal ?_)
      obtain rfl := Option.some.inj hm; replace hm := hm33; try dsimp only at hm
      replace hS := hS.take 1; simp only [List.take_succ_cons, List.take_zero] at hS
      exact join (decide (a2 < x537)) H ⟨rfl, rfl, trivial⟩ ⟨hm, hS⟩
  · clear H hS hm a; intro q534 a w538 H hR
    simp only [ent, List.map_cons, List.map_nil] at H; (try dsimp only at hR); obtain ⟨hm, hS⟩ := hR; try dsimp only [g_valid_upTo_J2] at hm
    refine c_cond H rfl (fun hc539 => ?_) (fun hc539 => ?_)
    · replace hm := condT hm hc539
      refine wp_seq (wp_region_lit (n_q H (q_assign rfl) rfl ?_)); clear H a; intro a H
      refine n_nil (then_normal (wp_ret (block_ret (then_ret ?_))))
      obtain rfl := Option.some.inj hm
      replace hS := hS.dNil (A := A)
      replace hS := hS.take 1; simp only [List.take_succ_cons, List.take_zero] at hS
      refine ret1 H (.inr rfl) rfl rfl ?_
      exact ⟨_, rfl, hS⟩
    · replace hm := condF hm hc539
      refine wp_seq (wp_region_lit (n_q H (q_move rfl) rfl ?_)); clear H a; intro a H
      obtain ⟨A541, c541, hv541, hl541, hm541⟩ := SlR.formV ((hS.own 0 rfl).slr rfl (fun _ _ => rfl))
      replace hm := bindS hm; obtain ⟨x542, hx542, hm⟩ := hm
      obtain ⟨adx542, hAx542⟩ := SlR.adV ((hS.own 0 rfl).slr rfl (fun _ _ => rfl)) hv541 hx542
      refine n_q H (q_ixV (i := 0) Tryd.underlying23 sz3 rfl hv541 hAx542 rfl (natI hx542)) rfl (W_q (q_load rfl (SlR.ldOneV ((hS.own 0 rfl).slr rfl (fun _ _ => rfl)) hv541 hAx542 ag3 hx542 rfl)) rfl (W_q (q_eqlD rfl rfl) rfl (W_q (q_assign rfl) rfl ?_))); clear H a; intro a H
      refine n_nil (then_normal (c_cond H rfl (fun hc543 => ?_) (fun hc543 => ?_)))
      · replace hm := condT hm hc543
        refine wp_seq (wp_region_lit (n_q H (q_load rfl ((hG.ext hS.x).ld gPlan (by decide) ag36)) rfl (W_q (q_assign rfl) rfl ?_))); clear H a; intro a H
        refine n_nil (then_normal (wp_ret (block_ret (then_ret ?_))))
        obtain rfl := Option.some.inj hm
        replace hS := hS.dVar (A := A) (g := gPlan) (by decide)
        replace hS := hS.take 1; simp only [List.take_succ_cons, List.take_zero] at hS
        refine ret1 H (.inr rfl) rfl rfl ?_
        exact ⟨_, rfl, hS⟩
      · replace hm := condF hm hc543
        refine wp_skip (block_normal (then_normal (wp_seq (c_ord [] 8 (by kernel_rfl) ?_))))
        obtain ⟨w545, hw545⟩ : ∃ x, x = w538.drew := ⟨_, rfl⟩; rw [← hw545]; have hE546 : Ext w538 w545 := by rw [hw545]; exact Ext.drew' _
        clear hw545
        replace hS := hS.ext hE546
        have hS547 := hS
        have hW := Nat.le_refl w545.heap.size
        refine k_takeT 0 H rfl (q_move rfl) rfl (by kernel_rfl) (by kernel_rfl) (by kernel_rfl) (by kernel_rfl) (fun _ _ _ h => h) ?_; clear H a; intro a H
        replace hm := bindS hm; obtain ⟨x548, hx548, hm⟩ := hm
        obtain ⟨adx548, hAx548⟩ := SlR.adV ((hS.own 0 rfl).slr rfl (fun _ _ => rfl)) hv541 hx548
        refine k_takeT 1 H rfl (q_ixV (i := 0) Tryd.underlying23 sz3 rfl hv541 hAx548 rfl (natI hx548)) rfl (by kernel_rfl) (by kernel_rfl) (by kernel_rfl) (by kernel_rfl) (fun _ _ _ h => h) ?_; clear H a; intro a H
        refine k_take 2 H rfl (q_load rfl (LdC.old (SlR.ldOneV ((hS547.own 0 rfl).slr rfl (fun _ _ => rfl)) hv541 hAx548 ag3 hx548 rfl) Ext.rfl' (Nat.le_refl _) (by simp))) rfl (by kernel_rfl) (by kernel_rfl) (by kernel_rfl) (by kernel_rfl) (fun _ _ _ h => h) ?_; clear H a; intro a H
        refine k_take 3 H rfl (q_load rfl (LdC.old ((hG.ext hS547.x).ld gState (by decide) ag36) Ext.rfl' (Nat.le_refl _) (by simp))) rfl (by kernel_rfl) (by kernel_rfl) (by kernel_rfl) (by kernel_rfl) (fun _ _ _ h => h) ?_; clear H a; intro a H
        refine k_takeT 4 H rfl (q_build (cs := [.int .i64 x548, sv 329 A gState]) ze146 bd146 pl146 rfl ((fill1 rfl rfl (by simp)).trans ((fill1 (IsErr.var (by decide) : IsE A w545 _ (.v gState)).one rfl (by simp)).trans rfl))) rfl (by kernel_rfl) (by kernel_rfl) (by kernel_rfl) (by kernel_rfl) (fun _ _ _ h => h) ?_; clear H a; intro a H
        refine k_box 5 H rfl rfl (cs := [.int .i64 x548, sv 329 A gState]) rfl rfl (by kernel_rfl) ?_
        clear H; intro b549 w550 hN hE551 hs; clear a; intro a H
        have hge_b549 : w545.heap.size ≤ b549 := hs ▸ hW
        replace hS := hS.newBlk hN hE551 hs; clear hN hs
        replace hW := Nat.le_trans hW hE551.size
        refine k_takeT 6 H rfl (q_makeInterface Tryd.underlying142 (by simp) rfl) rfl (by kernel_rfl) (by kernel_rfl) (by kernel_rfl) (by kernel_rfl) (fun _ _ _ h => h) ?_; clear H a; intro a H
        replace hS := hS.dAt (g := gState) (by decide)
        refine k_takeT 7 H rfl (q_assign rfl) rfl (by kernel_rfl) (by kernel_rfl) (by kernel_rfl) (by kernel_rfl) (fun _ _ _ h => h) ?_; clear H a; intro a H
        refine k_done (by kernel_rfl) ?_
        refine then_normal (wp_ret ?_)
        obtain rfl := Option.some.inj hm
        replace hS := hS.take 1; simp only [List.take_succ_cons, List.take_zero] at hS
        refine ret1 H (.inr rfl) rfl rfl ?_
        exact ⟨_, rfl, hS⟩
theorem g_valid_Check_w {w : World} {A : Nat → Addr} {cs0 : List Value} {a0 : GPlan} {cs1 : List Value} {a1 : GState} (hG : EV A w) (h0 : RGPlan w cs0 a0) (h1 : RGState w cs1 a1) {r : ErrM} (hm : g_valid_Check a0 a1 = some r) :
    Calls Tryd.prog 27 [.agg cs0.toArray, .agg cs1.toArray].toArray w (Ret fun u w' => ∃ h_0, u = h_0 ∧ St NB w w' [erQ A h_0 r]) := by
  obtain ⟨vp0_0, vp0_1, vp0_2, vp0_3, rfl, hrp0_0, hrp0_1, hrp0_2, hrp0_3⟩ := h0
  obtain ⟨vp1_0, vp1_1, vp1_2, vp1_3, vp1_4, vp1_5, vp1_6, rfl, hrp1_0, hrp1_1, hrp1_2, hrp1_3, hrp1_4, hrp1_5, hrp1_6⟩ := h1
  have hS := St.begin NB w
  unfold g_valid_Check at hm
  refine enter Tryd.func27 rfl rfl rfl ?_; intro a H; dsimp only [enumL, Nat.zero_add, Nat.reduceAdd] at H
  refine wp_seq (wp_region_lit (n_box H rfl (cs := [.int .i64 a0.Id, .bool a0.Mobile, vp0_0, vp0_1, vp0_2, .int .i64 a0.Events, vp0_3]) rfl rfl ?_))
  clear H; intro b21 w22 hN hE23 hs; clear a; intro a H
  replace hS := hS.newBlk hN hE23 hs; clear hN hs
  refine n_box H rfl (cs := [.int .i64 a1.Id, .int .i64 a1.Frame, .int .i64 a1.Epoch, vp1_0, vp1_1, vp1_2, vp1_3, vp1_4, vp1_5, vp1_6]) rfl rfl ?_
  clear H; intro b24 w25 hN hE26 hs; clear a; intro a H
  replace hS := hS.newBlk hN hE26 hs; clear hN hs
  refine n_q H (q_assign rfl) rfl ?_; clear H a; intro a H
  refine n_nil (then_normal (wp_seq (wp_region_lit (n_q H (q_load rfl ((hS.blk 1 rfl).ldAll ag68 sz68)) rfl (W_q (q_load rfl ((hS.blk 0 rfl).ldAll ag74 sz74)) rfl ?_))))); clear H a; intro a H
  replace hm := bindS hm; obtain ⟨r27, hr27, hm⟩ := hm
  refine n_call H rfl en64 (g_valid_upTo_w (A := A) (hG.ext hS.x) (⟨_, _, _, _, rfl, (hrp0_0.ext (Flat.mono _) hS.x), (hrp0_1.ext (Flat.mono _) hS.x), (hrp0_2.ext (Flat.mono _) hS.x), (hrp0_3.ext (Flat.mono _) hS.x)⟩ : RGPlan _ [.int .i64 a0.Id, .bool a0.Mobile, vp0_0, vp0_1, vp0_2, .int .i64 a0.Events, vp0_3] a0) (⟨_, _, _, _, _, _, _, rfl, (hrp1_0.ext (Flat.mono _) hS.x), (hrp1_1.ext (Flat.mono _) hS.x), (hrp1_2.ext (Flat.mono _) hS.x), (hrp1_3.ext (Flat.mono _) hS.x), (hrp1_4.ext (Flat.mono _) hS.x), (hrp1_5.ext RGPort.mono hS.x), (hrp1_6.ext (Flat.mono _) hS.x)⟩ : RGState _ [.int .i64 a1.Id, .int .i64 a1.Frame, .int .i64 a1.Epoch, vp1_0, vp1_1, vp1_2, vp1_3, vp1_4, vp1_5, vp1_6] a1) hr27) rfl ?_
  clear H; intro u28 w30 hv; clear a; intro a H; obtain ⟨_, rfl, hE31⟩ := hv
  replace hS := hS.new hE31; simp only [List.cons_append, List.nil_append] at hS
  refine n_q H (q_assign rfl) rfl ?_; clear H a; intro a H
  refine n_nil (then_normal (wp_ret ?_))
  obtain rfl := Option.some.inj hm
  replace hS := hS.take 1; simp only [List.take_succ_cons, List.take_zero] at hS
  refine ret1 H (.inr rfl) rfl rfl ?_
  exact ⟨_, rfl, hS⟩
theorem g_valid_Rest_w {w : World} {A : Nat → Addr} {cs0 : List Value} {a0 : GPlan} {cs1 : List Value} {a1 : GState} (hG : EV A w) (h0 : RGPlan w cs0 a0) (h1 : RGState w cs1 a1) {r : ErrM} (hm : g_valid_Rest a0 a1 = some r) :
    Calls Tryd.prog 28 [.agg cs0.toArray, .agg cs1.toArray].toArray w (Ret fun u w' => ∃ h_0, u = h_0 ∧ St NB w w' [erQ A h_0 r]) := by
  obtain ⟨vp0_0, vp0_1, vp0_2, vp0_3, rfl, hrp0_0, hrp0_1, hrp0_2, hrp0_3⟩ := h0
  obtain ⟨vp1_0, vp1_1, vp1_2, vp1_3, vp1_4, vp1_5, vp1_6, rfl, hrp1_0, hrp1_1, hrp1_2, hrp1_3, hrp1_4, hrp1_5, hrp1_6⟩ := h1
  have hS := St.begin NB w
  unfold g_valid_Rest at hm
  refine enter Tryd.func28 rfl rfl rfl ?_; intro a H; dsimp only [enumL, Nat.zero_add, Nat.reduceAdd] at H
  refine wp_seq (wp_region_lit (n_box H rfl (cs := [.int .i64 a0.Id, .bool a0.Mobile, vp0_0, vp0_1, vp0_2, .int .i64 a0.Events, vp0_3]) rfl rfl ?_))
  clear H; intro b21 w22 hN hE23 hs; clear a; intro a H
  replace hS := hS.newBlk hN hE23 hs; clear hN hs
  refine n_box H rfl (cs := [.int .i64 a1.Id, .int .i64 a1.Frame, .int .i64 a1.Epoch, vp1_0, vp1_1, vp1_2, vp1_3, vp1_4, vp1_5, vp1_6]) rfl rfl ?_
  clear H; intro b24 w25 hN hE26 hs; clear a; intro a H
  replace hS := hS.newBlk hN hE26 hs; clear hN hs
  refine n_q H (q_assign rfl) rfl ?_; clear H a; intro a H
  refine n_nil (then_normal (wp_seq (wp_region_lit (n_q H (q_load rfl ((hS.blk 1 rfl).ldAll ag68 sz68)) rfl (W_q (q_load rfl ((hS.blk 0 rfl).ldAll ag74 sz74)) rfl ?_))))); clear H a; intro a H
  replace hm := bindS hm; obtain ⟨r27, hr27, hm⟩ := hm
  refine n_call H rfl en64 (g_valid_upTo_w (A := A) (hG.ext hS.x) (⟨_, _, _, _, rfl, (hrp0_0.ext (Flat.mono _) hS.x), (hrp0_1.ext (Flat.mono _) hS.x), (hrp0_2.ext (Flat.mono _) hS.x), (hrp0_3.ext (Flat.mono _) hS.x)⟩ : RGPlan _ [.int .i64 a0.Id, .bool a0.Mobile, vp0_0, vp0_1, vp0_2, .int .i64 a0.Events, vp0_3] a0) (⟨_, _, _, _, _, _, _, rfl, (hrp1_0.ext (Flat.mono _) hS.x), (hrp1_1.ext (Flat.mono _) hS.x), (hrp1_2.ext (Flat.mono _) hS.x), (hrp1_3.ext (Flat.mono _) hS.x), (hrp1_4.ext (Flat.mono _) hS.x), (hrp1_5.ext RGPort.mono hS.x), (hrp1_6.ext (Flat.mono _) hS.x)⟩ : RGState _ [.int .i64 a1.Id, .int .i64 a1.Frame, .int .i64 a1.Epoch, vp1_0, vp1_1, vp1_2, vp1_3, vp1_4, vp1_5, vp1_6] a1) hr27) rfl ?_
  clear H; intro u28 w30 hv; clear a; intro a H; obtain ⟨_, rfl, hE31⟩ := hv
  replace hS := hS.new hE31; simp only [List.cons_append, List.nil_append] at hS
  refine n_q H (q_assign rfl) rfl ?_; clear H a; intro a H
  refine n_nil (then_normal (wp_ret ?_))
  obtain rfl := Option.some.inj hm
  replace hS := hS.take 1; simp only [List.take_succ_cons, List.take_zero] at hS
  refine ret1 H (.inr rfl) rfl rfl ?_
  exact ⟨_, rfl, hS⟩
theorem g_law11_ints_w {w : World} {A : Nat → Addr} {v0 : Value} {a0 : List Int} {v1 : Value} {a1 : List Int} (h0 : SlR w 1 (Flat eI) v0 a0) (h1 : SlR w 1 (Flat eI) v1 a1) {r : Bool} (hm : g_law11_ints a0 a1 = some r) :
    Calls Tryd.prog 48 [v0, v1].toArray w (Ret fun u w' => u = .bool r ∧ Ext w w') := by
  have hS := St.begin NB w
  unfold g_law11_ints at hm
  refine enter Tryd.func48 rfl rfl rfl ?_; intro a H; dsimp only [enumL, Nat.zero_add, Nat.reduceAdd] at H
  refine wp_seq (wp_region_lit (n_q H (q_assign rfl) rfl ?_)); clear H a; intro a H
  refine n_nil (then_normal (wp_seq (wp_seq (wp_region_lit (n_q H (q_move rfl) rfl ?_))))); clear H a; intro a H
  obtain ⟨A21, c21, hv21, hl21, hm21⟩ := SlR.formV (h0.ext (Flat.mono _) hS.x)
  refine n_q H (q_lenV Tryd.underlying23 rfl hv21) rfl (W_q (q_move rfl) rfl ?_); clear H a; intro a H
  obtain ⟨A22, c22, hv22, hl22, hm22⟩ := SlR.formV (h1.ext (Flat.mono _) hS.x)
  refine n_q H (q_lenV Tryd.underlying23 rfl hv22) rfl (W_q (q_neqN (i := a0.length) (j := a1.length) rfl rfl) rfl ?_); clear H a; intro a H
  refine n_nil (then_normal (c_cond H rfl (fun hc23 => ?_) (fun hc23 => ?_)))
  · replace hm := condT hm hc23
    refine wp_seq (wp_region_lit (n_q H (q_assign rfl) rfl ?_)); clear H a; intro a H
    refine n_nil (then_normal (wp_ret (then_ret ?_)))
    obtain rfl := Option.some.inj hm
    refine ret1 H (.inr rfl) rfl rfl ?_
    exact ⟨rfl, hS.x⟩
  · replace hm := condF hm hc23
    refine wp_skip (then_normal (wp_seq (wp_seq (wp_region_lit (n_q H (q_move rfl) rfl (W_q (q_lenV Tryd.underlying23 rfl hv21) rfl (W_q (q_move rfl) rfl ?_))))))); clear H a; intro a H
    refine n_nil (then_normal (wp_block ?_))
    replace hm := bindS hm; obtain ⟨q24, hm, hm24⟩ := hm; replace hm := iter_some hm; obtain ⟨n24, hm⟩ := hm
    refine c_loop (σ := Nat × Nat) (fun (m, i25) => [(0, v0), (1, v1), (12, .int .i64 ((a0.length : Nat) : Int)), (13, .int .i64 ((i25 : Nat) : Int))]) (fun (m, i25) wl => iterN (g_law11_ints_L1 a0 a1) m i25 = some q24 ∧ St NB w wl []) (fun (m, i25) => m) (n24, 0) H ⟨rfl, rfl, rfl, rfl, trivial⟩ ⟨hm, hS⟩ ?_
    clear H hS hm a; intro xx a w26 H hR; obtain ⟨m, i25⟩ := xx; simp only [ent, List.map_cons, List.map_nil] at H; (try dsimp only at hR); obtain ⟨hm, hS⟩ := hR
    replace hm := iterN_step hm; obtain ⟨m24, o24, rfl, hm, hn24⟩ := hm; try dsimp only [g_law11_ints_L1] at hm
    refine wp_seq (wp_region_lit (n_q H (q_lssN (i := i25) (j := a0.length) rfl rfl) rfl ?_)); clear H a; intro a H
    refine n_nil (then_normal (wp_seq (c_cond H rfl (fun hc27 => ?_) (fun hc27 => ?_))))
    · replace hm := condT hm hc27
      have hlt28 : i25 < a0.length := of_decide_eq_true hc27
      refine wp_skip (then_normal (wp_seq (wp_block (wp_seq (wp_region_lit (n_q H (q_move rfl) rfl (W_q (q_assign rfl) rfl ?_))))))); clear H a; intro a H
      refine n_nil (then_normal (wp_seq (c_quiet (by kernel_rfl) (by kernel_rfl) ?_)))
      refine qq_q H (q_move rfl) rfl ?_; clear H a; intro a H
      refine qq_q H (q_move rfl) rfl ?_; clear H a; intro a H
      replace hm := bindS hm; obtain ⟨x29, hx29, hm⟩ := hm
      obtain ⟨adx29, hAx29⟩ := SlR.adV (h0.ext (Flat.mono _) hS.x) hv21 hx29
      refine qq_q H (q_ixV (i := i25) Tryd.underlying23 sz3 rfl hv21 hAx29 rfl (natI hx29)) rfl ?_; clear H a; intro a H
      refine qq_q H (q_load rfl (SlR.ldOneV (h0.ext (Flat.mono _) hS.x) hv21 hAx29 ag3 hx29 rfl)) rfl ?_; clear H a; intro a H
      refine qq_q H (q_move rfl) rfl ?_; clear H a; intro a H
      refine qq_q H (q_move rfl) rfl ?_; clear H a; intro a H
      replace hm := bindS hm; obtain ⟨x30, hx30, hm⟩ := hm
      obtain ⟨adx30, hAx30⟩ := SlR.adV (h1.ext (Flat.mono _) hS.x) hv22 hx30
      refine qq_q H (q_ixV (i := i25) Tryd.underlying23 sz3 rfl hv22 hAx30 rfl (natI hx30)) rfl ?_; clear H a; intro a H
      refine qq_q H (q_load rfl (SlR.ldOneV (h1.ext (Flat.mono _) hS.x) hv22 hAx30 ag3 hx30 rfl)) rfl ?_; clear H a; intro a H
      refine qq_q H (q_neqD rfl rfl) rfl ?_; clear H a; intro a H
      refine qq_nil ?_; intro w31 hE32
      replace hS := hS.ext hE32
      refine then_normal (c_cond H rfl (fun hc33 => ?_) (fun hc33 => ?_))
      · replace hm := condT hm hc33
        refine wp_seq (wp_region_lit (n_q H (q_assign rfl) rfl ?_)); clear H a; intro a H
        refine n_nil (then_normal (wp_ret (block_ret (then_ret (then_ret (block_ret (then_ret ?_)))))))
        obtain rfl := Option.some.inj hm; have hz : _ = q24 := hn24; subst hz; replace hm := hm24; try dsimp only at hm
        obtain rfl := Option.some.inj hm
        refine ret1 H (.inr rfl) rfl rfl ?_
        exact ⟨rfl, hS.x⟩
      · replace hm := condF hm hc33
        refine wp_skip (block_normal (then_normal (wp_region_lit (n_q H (q_incr (i := i25) (j := 1) rfl rfl (by omega)) rfl (W_q (q_move rfl) rfl ?_))))); clear H a; intro a H
        refine n_nil (then_normal ?_)
        obtain rfl := Option.some.inj hm
        exact round (m24, i25 + 1) H ⟨rfl, rfl, rfl, rfl, trivial⟩ ⟨hn24, hS⟩ (Nat.lt_succ_self _)
    · replace hm := condF hm hc27
      refine wp_exit (then_exit (then_exit (block_exit ?_)))
      obtain rfl := Option.some.inj hm; have hz : _ = q24 := hn24; subst hz; replace hm := hm24; try dsimp only at hm
      refine then_normal (wp_seq (wp_region_lit (n_q H (q_assign rfl) rfl ?_))); clear H a; intro a H
      refine n_nil (then_normal (wp_ret ?_))
      obtain rfl := Option.some.inj hm
      refine ret1 H (.inr rfl) rfl rfl ?_
      exact ⟨rfl, hS.x⟩
theorem g_law11_some_w {w : World} {A : Nat → Addr} {r : GPlan × GState} (hm : g_law11_some = some r) :
    Calls Tryd.prog 61 [].toArray w (Ret fun u w' => ∃ h_0 h_1 h_2 h_3 h_4 h_5 h_6 h_7 h_8 h_9 h_10, u = .tuple #[.agg #[.int .i64 r.1.Id, .bool r.1.Mobile, h_0, h_1, h_2, .int .i64 r.1.Events, h_3], .agg #[.int .i64 r.2.Id, .int .i64 r.2.Frame, .int .i64 r.2.Epoch, h_4, h_5, h_6, h_7, h_8, h_9, h_10]] ∧ St NB w w' [ownR 87 2 h_0 r.1.Pages.length (r.1.Pages.flatMap eGPagePlan), ownR 167 3 h_1 r.1.Procs.length (r.1.Procs.flatMap eGProcPlan), ownR 169 4 h_2 r.1.Ports.length (r.1.Ports.flatMap eGPortPlan), ownR 3 1 h_3 r.1.Sems.length (r.1.Sems.flatMap eI), ownR 80 21 h_4 r.2.Procs.length (r.2.Procs.flatMap eGProc), ownR 3 1 h_5 r.2.Ready.length (r.2.Ready.flatMap eI), ownR 254 2 h_6 r.2.Timers.length (r.2.Timers.flatMap eGTimer), ownR 4 1 h_7 r.2.Up.length (r.2.Up.flatMap eF), ownR 3 1 h_8 r.2.Sems.length (r.2.Sems.flatMap eI), deepR 120 2 RGPort h_9 r.2.Ports, ownR 96 66 h_10 r.2.Pages.length (r.2.Pages.flatMap eGPage)]) := by
  have hS := St.begin NB w
  unfold g_law11_some at hm
  refine enter Tryd.func61 rfl rfl rfl ?_; intro a H; dsimp only [enumL, Nat.zero_add, Nat.reduceAdd] at H
  refine wp_seq (wp_region_lit (n_alloc H ze68 rfl ?_))
  clear H; intro b21 w22 hN hE23 hs; clear a; intro a H
  replace hS := hS.newBlk hN hE23 hs; clear hN hs
  refine n_alloc H ze74 rfl ?_
  clear H; intro b24 w25 hN hE26 hs; clear a; intro a H
  replace hS := hS.newBlk hN hE26 hs; clear hN hs
  refine n_nil (then_normal (wp_seq (wp_region_lit (n_q H (q_build (cs := [.int .i64 7, .string ⟨#[]⟩]) ze87 bd87 pl87 rfl (by kernel_rfl)) rfl ?_)))); clear H a; intro a H
  refine n_buildSlice H Tryd.underlying64 sz87 ze87 rfl rfl rfl (cs := [.int .i64 7, .string ⟨#[]⟩]) (by kernel_rfl) rfl ?_
  clear H; intro b29 w27 hN hE28 hs; clear a; intro a H
  replace hS := hS.newBlk hN hE28 hs; clear hN hs
  replace hS := hS.blkOwnL (e := eGPagePlan) (k := 2) [(⟨7, ⟨#[]⟩⟩ : GPagePlan)] rfl rfl (by simp [maxLen])
  refine n_q H (q_build (cs := [.int .i64 0, .int .i64 0, .bool true]) ze167 bd167 pl167 rfl (by kernel_rfl)) rfl (W_q (q_build (cs := [.int .i64 0, .int .i64 0, .bool true]) ze167 bd167 pl167 rfl (by kernel_rfl)) rfl ?_); clear H a; intro a H
  refine n_buildSlice H Tryd.underlying65 sz167 ze167 rfl rfl rfl (cs := [.int .i64 0, .int .i64 0, .bool true, .int .i64 0, .int .i64 0, .bool true]) (by kernel_rfl) rfl ?_
  clear H; intro b33 w31 hN hE32 hs; clear a; intro a H
  replace hS := hS.newBlk hN hE32 hs; clear hN hs
  replace hS := hS.blkOwnL (e := eGProcPlan) (k := 3) [(⟨0, 0, true⟩ : GProcPlan), (⟨0, 0, true⟩ : GProcPlan)] rfl rfl (by simp [maxLen])
  refine n_q H (q_build (cs := [.int .i64 3, .int .i64 4, .int .i64 2, .int .i64 0]) ze169 bd169 pl169 rfl (by kernel_rfl)) rfl ?_; clear H a; intro a H
  refine n_buildSlice H Tryd.underlying66 sz169 ze169 rfl rfl rfl (cs := [.int .i64 3, .int .i64 4, .int .i64 2, .int .i64 0]) (by kernel_rfl) rfl ?_
  clear H; intro b37 w35 hN hE36 hs; clear a; intro a H
  replace hS := hS.newBlk hN hE36 hs; clear hN hs
  replace hS := hS.blkOwnL (e := eGPortPlan) (k := 4) [(⟨3, 4, 2, 0⟩ : GPortPlan)] rfl rfl (by simp [maxLen])
  refine n_buildSlice H Tryd.underlying23 sz3 ze3 rfl rfl rfl (cs := [.int .i64 0]) (by kernel_rfl) rfl ?_
  clear H; intro b41 w39 hN hE40 hs; clear a; intro a H
  replace hS := hS.newBlk hN hE40 hs; clear hN hs
  replace hS := hS.blkOwnL (e := eI) (k := 1) [0] rfl rfl (by simp [maxLen])
  refine n_q H (q_build (cs := [.int .i64 7, .bool false, .slice (some ⟨b29, 0, none⟩) 1 1, .slice (some ⟨b33, 0, none⟩) 2 2, .slice (some ⟨b37, 0, none⟩) 1 1, .int .i64 2, .slice (some ⟨b41, 0, none⟩) 1 1]) ze68 bd68 pl68 rfl ((fill1 rfl rfl (by simp)).trans ((fill1 (((hS.own 3 rfl).slr rfl (fun _ _ => rfl))).one rfl (by simp)).trans ((fill1 (((hS.own 2 rfl).slr rfl (fun _ _ => rfl))).one rfl (by simp)).trans ((fill1 (((hS.own 1 rfl).slr rfl (fun _ _ => rfl))).one rfl (by simp)).trans ((fill1 rfl rfl (by simp)).trans ((fill1 (((hS.own 0 rfl).slr rfl (fun _ _ => rfl))).one rfl (by simp)).trans rfl))))))) rfl ?_; clear H a; intro a H
  refine n_alloc H ze68 rfl ?_
  clear H; intro b43 w44 hN hE45 hs; clear a; intro a H
  replace hS := hS.newBlk hN hE45 hs; clear hN hs
  refine n_storeAll H rfl rfl (vs := [.int .i64 7, .bool false, .slice (some ⟨b29, 0, none⟩) 1 1, .slice (some ⟨b33, 0, none⟩) 2 2, .slice (some ⟨b37, 0, none⟩) 1 1, .int .i64 2, .slice (some ⟨b41, 0, none⟩) 1 1]) rfl sz68 (hS.blk 0 rfl) rfl (by simp [(((hS.own 4 rfl).slr rfl (fun _ _ => rfl))).one, (((hS.own 3 rfl).slr rfl (fun _ _ => rfl))).one, (((hS.own 2 rfl).slr rfl (fun _ _ => rfl))).one, (((hS.own 1 rfl).slr rfl (fun _ _ => rfl))).one]) ?_
  clear H; intro w46 hN hC47 hz; clear a; intro a H; replace hS := hS.setBlk hN hC47; clear hN hz
  refine n_nil (then_normal (wp_seq (wp_region_lit (n_q H (q_build (cs := ((Vector.replicate 16 0).toList.map (Value.int .u32) ++ [.int .u32 0, .int .i64 1, .int .i64 0, .int .i64 0, .int .i64 0])) ze80 bd80 pl80 rfl (by kernel_rfl)) rfl (W_q (q_build (cs := ((Vector.replicate 16 0).toList.map (Value.int .u32) ++ [.int .u32 0, .int .i64 1, .int .i64 0, .int .i64 0, .int .i64 0])) ze80 bd80 pl80 rfl (by kernel_rfl)) rfl ?_))))); clear H a; intro a H
  refine n_buildSlice H Tryd.underlying69 sz80 ze80 rfl rfl rfl (cs := [(⟨(Vector.replicate 16 0), 0, 1, 0, 0, 0⟩ : GProc), (⟨(Vector.replicate 16 0), 0, 1, 0, 0, 0⟩ : GProc)].flatMap eGProc) (by kernel_rfl) rfl ?_
  clear H; intro b50 w48 hN hE49 hs; clear a; intro a H
  replace hS := hS.newBlk hN hE49 hs; clear hN hs
  replace hS := hS.blkOwnL (e := eGProc) (k := 21) [(⟨(Vector.replicate 16 0), 0, 1, 0, 0, 0⟩ : GProc), (⟨(Vector.replicate 16 0), 0, 1, 0, 0, 0⟩ : GProc)] rfl (by simp [eGProc]) (by simp [maxLen])
  refine n_buildSlice H Tryd.underlying23 sz3 ze3 rfl rfl rfl (cs := [.int .i64 0, .int .i64 1]) (by kernel_rfl) rfl ?_
  clear H; intro b54 w52 hN hE53 hs; clear a; intro a H
  replace hS := hS.newBlk hN hE53 hs; clear hN hs
  replace hS := hS.blkOwnL (e := eI) (k := 1) [0, 1] rfl rfl (by simp [maxLen])
  refine n_buildSlice H Tryd.underlying28 sz4 ze4 rfl rfl rfl (cs := [.bool false, .bool false]) (by kernel_rfl) rfl ?_
  clear H; intro b58 w56 hN hE57 hs; clear a; intro a H
  replace hS := hS.newBlk hN hE57 hs; clear hN hs
  replace hS := hS.blkOwnL (e := eF) (k := 1) [false, false] rfl rfl (by simp [maxLen])
  refine n_buildSlice H Tryd.underlying23 sz3 ze3 rfl rfl rfl (cs := [.int .i64 0]) (by kernel_rfl) rfl ?_
  clear H; intro b62 w60 hN hE61 hs; clear a; intro a H
  replace hS := hS.newBlk hN hE61 hs; clear hN hs
  replace hS := hS.blkOwnL (e := eI) (k := 1) [0] rfl rfl (by simp [maxLen])
  refine n_q H (q_build (cs := [.slice none 0 0, .int .i64 0]) ze120 bd120 pl120 rfl (by kernel_rfl)) rfl ?_; clear H a; intro a H
  refine n_buildSlice H Tryd.underlying71 sz120 ze120 rfl rfl rfl (cs := [.slice none 0 0, .int .i64 0]) (by kernel_rfl) rfl ?_
  clear H; intro b66 w64 hN hE65 hs; clear a; intro a H
  replace hS := hS.newBlk hN hE65 hs; clear hN hs
  refine n_q H (q_build (cs := ([.int .i64 7, .bool false] ++ (Vector.replicate 64 0).toList.map (fun b : UInt8 => Value.int .u8 (b.toNat : Int)))) ze96 bd96 pl96 rfl (by kernel_rfl)) rfl ?_; clear H a; intro a H
  refine n_buildSlice H Tryd.underlying72 sz96 ze96 rfl rfl rfl (cs := [(⟨7, false, (Vector.replicate 64 0)⟩ : GPage)].flatMap eGPage) ((fill_one (k := 66) (ds := eGPage (⟨7, false, (Vector.replicate 64 0)⟩ : GPage)) (by rfl) (by simp [eGPage]) (by rfl)).trans (by simp)) rfl ?_
  clear H; intro b69 w67 hN hE68 hs; clear a; intro a H
  replace hS := hS.newBlk hN hE68 hs; clear hN hs
  replace hS := hS.blkOwnL (e := eGPage) (k := 66) [(⟨7, false, (Vector.replicate 64 0)⟩ : GPage)] rfl (by simp [eGPage]) (by simp [maxLen])
  refine n_q H (q_build (cs := [.int .i64 7, .int .i64 0, .int .i64 0, .slice (some ⟨b50, 0, none⟩) 2 2, .slice (some ⟨b54, 0, none⟩) 2 2, .slice none 0 0, .slice (some ⟨b58, 0, none⟩) 2 2, .slice (some ⟨b62, 0, none⟩) 1 1, .slice (some ⟨b66, 0, none⟩) 1 1, .slice (some ⟨b69, 0, none⟩) 1 1]) ze74 bd74 pl74 rfl ((fill1 rfl rfl (by simp)).trans ((fill1 (((hS.own 5 rfl).slr rfl (fun x _ => eGProc_len x))).one rfl (by simp)).trans ((fill1 (((hS.own 4 rfl).slr rfl (fun _ _ => rfl))).one rfl (by simp)).trans ((fill1 (((hS.own 3 rfl).slr rfl (fun _ _ => rfl))).one rfl (by simp)).trans ((fill1 (((hS.own 2 rfl).slr rfl (fun _ _ => rfl))).one rfl (by simp)).trans ((fill1 ((SlR.ofBlk (k := 2) (R := RGPort) [[.slice none 0 0, .int .i64 0]] [(⟨([] : List ByteArray), 0⟩ : GPort)] (hS.blk 1 rfl) (DIn.cons rfl (by simp) (⟨_, rfl, (SlR.nil _ 1 (Flat eS))⟩ : RGPort _ [.slice none 0 0, .int .i64 0] (⟨([] : List ByteArray), 0⟩ : GPort)) trivial) rfl (by simp [maxLen]))).one rfl (by simp)).trans ((fill1 (((hS.own 0 rfl).slr rfl (fun x _ => eGPage_len x))).one rfl (by simp)).trans rfl)))))))) rfl ?_; clear H a; intro a H
  refine n_alloc H ze74 rfl ?_
  clear H; intro b71 w72 hN hE73 hs; clear a; intro a H
  replace hS := hS.newBlk hN hE73 hs; clear hN hs
  refine n_storeAll H rfl rfl (vs := [.int .i64 7, .int .i64 0, .int .i64 0, .slice (some ⟨b50, 0, none⟩) 2 2, .slice (some ⟨b54, 0, none⟩) 2 2, .slice none 0 0, .slice (some ⟨b58, 0, none⟩) 2 2, .slice (some ⟨b62, 0, none⟩) 1 1, .slice (some ⟨b66, 0, none⟩) 1 1, .slice (some ⟨b69, 0, none⟩) 1 1]) rfl sz74 (hS.blk 0 rfl) rfl (by simp [(((hS.own 6 rfl).slr rfl (fun x _ => eGProc_len x))).one, (((hS.own 5 rfl).slr rfl (fun _ _ => rfl))).one, (((hS.own 4 rfl).slr rfl (fun _ _ => rfl))).one, (((hS.own 3 rfl).slr rfl (fun _ _ => rfl))).one, ((SlR.ofBlk (k := 2) (R := RGPort) [[.slice none 0 0, .int .i64 0]] [(⟨([] : List ByteArray), 0⟩ : GPort)] (hS.blk 2 rfl) (DIn.cons rfl (by simp) (⟨_, rfl, (SlR.nil _ 1 (Flat eS))⟩ : RGPort _ [.slice none 0 0, .int .i64 0] (⟨([] : List ByteArray), 0⟩ : GPort)) trivial) rfl (by simp [maxLen]))).one, (((hS.own 1 rfl).slr rfl (fun x _ => eGPage_len x))).one]) ?_
  clear H; intro w74 hN hC75 hz; clear a; intro a H; replace hS := hS.setBlk hN hC75; clear hN hz
  refine n_nil (then_normal (wp_seq (c_ord (kB w.heap.size (b71 :: (b66 :: (b43 :: (b24 :: [])))) w74.drew.heap.size) 3 (by kernel_rfl) ?_)))
  obtain ⟨w76, hw76⟩ : ∃ x, x = w74.drew := ⟨_, rfl⟩; rw [← hw76]; have hE77 : Ext w74 w76 := by rw [hw76]; exact Ext.drew' _
  clear hw76
  replace hS := hS.ext hE77
  have hh_b71 := (hS.blk 0 rfl).lt
  have hh_b66 := (hS.blk 2 rfl).lt
  have hh_b43 := (hS.blk 7 rfl).lt
  have hh_b24 := (hS.blk 12 rfl).lt
  have hh78 := hS.x.size
  have hW := Nat.le_refl w76.heap.size
  refine k_take 0 H rfl (q_load rfl ((hS.blk 7 rfl).ldAllB hh_b43 (kB_not (by simp)) ag68 sz68)) rfl (by kernel_rfl) (by kernel_rfl) (by kernel_rfl) (by kernel_rfl) (fun _ _ _ h => h) ?_; clear H a; intro a H
  refine k_take 1 H rfl (q_load rfl ((hS.blk 0 rfl).ldAllB hh_b71 (kB_not (by simp)) ag74 sz74)) rfl (by kernel_rfl) (by kernel_rfl) (by kernel_rfl) (by kernel_rfl) (fun _ _ _ h => h) ?_; clear H a; intro a H
  replace hS := hS.pick 13 rfl; dsimp only [List.eraseIdx] at hS
  refine k_storeAll 2 H rfl rfl rfl (vs := [.int .i64 7, .bool false, .slice (some ⟨b29, 0, none⟩) 1 1, .slice (some ⟨b33, 0, none⟩) 2 2, .slice (some ⟨b37, 0, none⟩) 1 1, .int .i64 2, .slice (some ⟨b41, 0, none⟩) 1 1]) rfl sz68 (hS.blk 0 rfl) rfl (by simp [(((hS.own 12 rfl).slr rfl (fun _ _ => rfl))).one, (((hS.own 11 rfl).slr rfl (fun _ _ => rfl))).one, (((hS.own 10 rfl).slr rfl (fun _ _ => rfl))).one, (((hS.own 9 rfl).slr rfl (fun _ _ => rfl))).one]) (by kernel_rfl) (.inl (fun h => mem_kB h (hS.ge (i := 0) rfl) (notin_cons (hS.ne (i := 0) (j := 1) (by decide) rfl rfl) (notin_cons (hS.ne (i := 0) (j := 3) (by decide) rfl rfl) (notin_cons (hS.ne (i := 0) (j := 8) (by decide) rfl rfl) (notin_cons (hS.ne (i := 0) (j := 13) (by decide) rfl rfl) notin_nil)))))) ?_
  clear H; intro w79 hN hC80 hz; clear a; intro a H; replace hS := hS.setBlk hN hC80; clear hN hz; replace hW := Nat.le_trans hW hC80.size
  replace hS := hS.pick 13 rfl; dsimp only [List.eraseIdx] at hS
  refine k_storeAll 3 H rfl rfl rfl (vs := [.int .i64 7, .int .i64 0, .int .i64 0, .slice (some ⟨b50, 0, none⟩) 2 2, .slice (some ⟨b54, 0, none⟩) 2 2, .slice none 0 0, .slice (some ⟨b58, 0, none⟩) 2 2, .slice (some ⟨b62, 0, none⟩) 1 1, .slice (some ⟨b66, 0, none⟩) 1 1, .slice (some ⟨b69, 0, none⟩) 1 1]) rfl sz74 (hS.blk 0 rfl) rfl (by simp [(((hS.own 8 rfl).slr rfl (fun x _ => eGProc_len x))).one, (((hS.own 7 rfl).slr rfl (fun _ _ => rfl))).one, (((hS.own 6 rfl).slr rfl (fun _ _ => rfl))).one, (((hS.own 5 rfl).slr rfl (fun _ _ => rfl))).one, ((SlR.ofBlk (k := 2) (R := RGPort) [[.slice none 0 0, .int .i64 0]] [(⟨([] : List ByteArray), 0⟩ : GPort)] (hS.blk 4 rfl) (DIn.cons rfl (by simp) (⟨_, rfl, (SlR.nil _ 1 (Flat eS))⟩ : RGPort _ [.slice none 0 0, .int .i64 0] (⟨([] : List ByteArray), 0⟩ : GPort)) trivial) rfl (by simp [maxLen]))).one, (((hS.own 3 rfl).slr rfl (fun x _ => eGPage_len x))).one]) (by kernel_rfl) (.inr (by kernel_rfl)) ?_
  clear H; intro w81 hN hC82 hz; clear a; intro a H; replace hS := hS.setBlk hN hC82; clear hN hz; replace hW := Nat.le_trans hW hC82.size
  refine k_done (by kernel_rfl) ?_
  refine then_normal (wp_ret ?_)
  obtain rfl := Option.some.inj hm
  replace hS := hS.nilOwn 254 2
  replace hS := hS.trivAny (F := DIn 2 RGPort [[.slice none 0 0, .int .i64 0]] [(⟨([] : List ByteArray), 0⟩ : GPort)]) (fun w' => (DIn.cons rfl (by simp) ⟨_, rfl, (SlR.nil _ _ _)⟩ trivial))
  replace hS := hS.pick 6 rfl; dsimp only [List.eraseIdx] at hS
  replace hS := hS.litDeep (n := 1) [[.slice none 0 0, .int .i64 0]] [(⟨([] : List ByteArray), 0⟩ : GPort)] rfl (by simp [maxLen]) rfl
  replace hS := hS.pick 2 rfl; dsimp only [List.eraseIdx] at hS
  replace hS := hS.pick 3 rfl; dsimp only [List.eraseIdx] at hS
  replace hS := hS.pick 5 rfl; dsimp only [List.eraseIdx] at hS
  replace hS := hS.pick 3 rfl; dsimp only [List.eraseIdx] at hS
  replace hS := hS.pick 6 rfl; dsimp only [List.eraseIdx] at hS
  replace hS := hS.pick 7 rfl; dsimp only [List.eraseIdx] at hS
  replace hS := hS.pick 6 rfl; dsimp only [List.eraseIdx] at hS
  replace hS := hS.pick 8 rfl; dsimp only [List.eraseIdx] at hS
  replace hS := hS.pick 9 rfl; dsimp only [List.eraseIdx] at hS
  replace hS := hS.pick 11 rfl; dsimp only [List.eraseIdx] at hS
  replace hS := hS.pick 12 rfl; dsimp only [List.eraseIdx] at hS
  replace hS := hS.pick 13 rfl; dsimp only [List.eraseIdx] at hS
  replace hS := hS.pick 14 rfl; dsimp only [List.eraseIdx] at hS
  replace hS := hS.take 13; simp only [List.take_succ_cons, List.take_zero] at hS
  refine retL H (.inr rfl) rfl (vs := [.agg #[.int .i64 7, .bool false, .slice (some ⟨b29, 0, none⟩) 1 1, .slice (some ⟨b33, 0, none⟩) 2 2, .slice (some ⟨b37, 0, none⟩) 1 1, .int .i64 2, .slice (some ⟨b41, 0, none⟩) 1 1], .agg #[.int .i64 7, .int .i64 0, .int .i64 0, .slice (some ⟨b50, 0, none⟩) 2 2, .slice (some ⟨b54, 0, none⟩) 2 2, .slice none 0 0, .slice (some ⟨b58, 0, none⟩) 2 2, .slice (some ⟨b62, 0, none⟩) 1 1, .slice (some ⟨b66, 0, none⟩) 1 1, .slice (some ⟨b69, 0, none⟩) 1 1]]) (resCell rfl ((hS.blk 11 rfl).ldAll ag68 sz68) (resCell rfl ((hS.blk 12 rfl).ldAll ag74 sz74) resNil)) ?_
  replace hS := hS.take 11; simp only [List.take_succ_cons, List.take_zero] at hS
  exact ⟨_, _, _, _, _, _, _, _, _, _, _, rfl, hS⟩
theorem g_law11_awake_w {w : World} {A : Nat → Addr} (hG : EV A w) (hH : HE w) {r : Bool} (hm : g_law11_awake = some r) :
    Calls Tryd.prog 25 [].toArray w (Ret fun u w' => u = .bool r ∧ Ext w w') := by
  have hS := St.begin NB w
  unfold g_law11_awake at hm
  refine enter Tryd.func25 rfl rfl rfl ?_; intro a H; dsimp only [enumL, Nat.zero_add, Nat.reduceAdd] at H
  refine wp_seq (wp_region_lit (n_q H (q_assign rfl) rfl ?_)); clear H a; intro a H
  refine n_nil (then_normal (wp_seq (wp_region_lit ?_)))
  replace hm := bindS hm; obtain ⟨r21, hr21, hm⟩ := hm
  refine n_call H rfl en61 (g_law11_some_w (A := A) hr21) rfl ?_
  clear H; intro x46 w44 hv; clear a; intro a H; obtain ⟨u22, u23, u24, u25, u26, u27, u28, u29, u30, u31, u32, rfl, hE45⟩ := hv
  replace hS := hS.new hE45; simp only [List.cons_append, List.nil_append] at hS
  refine n_q H (q_move rfl) rfl (W_q (q_extract rfl rfl) rfl (W_q (q_extract rfl rfl) rfl ?_)); clear H a; intro a H
  refine n_alloc H ze68 rfl ?_
  clear H; intro b47 w48 hN hE49 hs; clear a; intro a H
  replace hS := hS.newBlk hN hE49 hs; clear hN hs
  refine n_alloc H ze74 rfl ?_
  clear H; intro b50 w51 hN hE52 hs; clear a; intro a H
  replace hS := hS.newBlk hN hE52 hs; clear hN hs
  replace hS := hS.pick 1 rfl; dsimp only [List.eraseIdx] at hS
  refine n_storeAll H rfl rfl (vs := [.int .i64 r21.1.Id, .bool r21.1.Mobile, u22, u23, u24, .int .i64 r21.1.Events, u25]) rfl sz68 (hS.blk 0 rfl) rfl (by simp [(((hS.own 2 rfl).slr rfl (fun _ _ => rfl))).one, (((hS.own 3 rfl).slr rfl (fun _ _ => rfl))).one, (((hS.own 4 rfl).slr rfl (fun _ _ => rfl))).one, (((hS.own 5 rfl).slr rfl (fun _ _ => rfl))).one]) ?_
  clear H; intro w53 hN hC54 hz; clear a; intro a H; replace hS := hS.setBlk hN hC54; clear hN hz
  replace hS := hS.pick 1 rfl; dsimp only [List.eraseIdx] at hS
  refine n_storeAll H rfl rfl (vs := [.int .i64 r21.2.Id, .int .i64 r21.2.Frame, .int .i64 r21.2.Epoch, u26, u27, u28, u29, u30, u31, u32]) rfl sz74 (hS.blk 0 rfl) rfl (by simp [(((hS.own 6 rfl).slr rfl (fun x _ => eGProc_len x))).one, (((hS.own 7 rfl).slr rfl (fun _ _ => rfl))).one, (((hS.own 8 rfl).slr rfl (fun _ _ => rfl))).one, (((hS.own 9 rfl).slr rfl (fun _ _ => rfl))).one, (((hS.own 10 rfl).slr rfl (fun _ _ => rfl))).one, ((hS.deepSl 11 rfl)).one, (((hS.own 12 rfl).slr rfl (fun x _ => eGPage_len x))).one]) ?_
  clear H; intro w55 hN hC56 hz; clear a; intro a H; replace hS := hS.setBlk hN hC56; clear hN hz
  refine n_nil (then_normal (wp_seq ?_))
  replace hm := bindS hm; obtain ⟨j57, hm, hm57⟩ := hm
  refine c_join (σ := Bool) H (fun q558 => [(1, .pointer (some ⟨b47, 0, none⟩)), (2, .pointer (some ⟨b50, 0, none⟩)), (18, .bool q558)]) (fun q558 wl => (g_law11_awake_J2 r21) q558 = some r ∧ St NB w wl [blkR b47 [.int .i64 r21.1.Id, .bool r21.1.Mobile, u22, u23, u24, .int .i64 r21.1.Events, u25] 68, ownR 87 2 u22 r21.1.Pages.length (r21.1.Pages.flatMap eGPagePlan), ownR 167 3 u23 r21.1.Procs.length (r21.1.Procs.flatMap eGProcPlan), ownR 169 4 u24 r21.1.Ports.length (r21.1.Ports.flatMap eGPortPlan), ownR 3 1 u25 r21.1.Sems.length (r21.1.Sems.flatMap eI), blkR b50 [.int .i64 r21.2.Id, .int .i64 r21.2.Frame, .int .i64 r21.2.Epoch, u26, u27, u28, u29, u30, u31, u32] 74, ownR 80 21 u26 r21.2.Procs.length (r21.2.Procs.flatMap eGProc), ownR 3 1 u27 r21.2.Ready.length (r21.2.Ready.flatMap eI), ownR 254 2 u28 r21.2.Timers.length (r21.2.Timers.flatMap eGTimer), ownR 4 1 u29 r21.2.Up.length (r21.2.Up.flatMap eF), ownR 3 1 u30 r21.2.Sems.length (r21.2.Sems.flatMap eI), deepR 120 2 RGPort u31 r21.2.Ports, ownR 96 66 u32 r21.2.Pages.length (r21.2.Pages.flatMap eGPage)]) ?_ ?_
  · skip
    refine wp_region_lit (n_q H (q_load rfl ((hS.blk 1 rfl).ldAll ag68 sz68)) rfl (W_q (q_load rfl ((hS.blk 0 rfl).ldAll ag74 sz74)) rfl ?_)); clear H a; intro a H
    replace hm := bindS hm; obtain ⟨r559, hr559, hm⟩ := hm
    refine n_call H rfl en26 (g_valid_Faults_w (A := A) (hG.ext hS.x) (⟨_, _, _, _, rfl, ((hS.own 2 rfl).slr rfl (fun _ _ => rfl)), ((hS.own 3 rfl).slr rfl (fun _ _ => rfl)), ((hS.own 4 rfl).slr rfl (fun _ _ => rfl)), ((hS.own 5 rfl).slr rfl (fun _ _ => rfl))⟩ : RGPlan _ [.int .i64 r21.1.Id, .bool r21.1.Mobile, u22, u23, u24, .int .i64 r21.1.Events, u25] r21.1) (⟨_, _, _, _, _, _, _, rfl, ((hS.own 6 rfl).slr rfl (fun x _ => eGProc_len x)), ((hS.own 7 rfl).slr rfl (fun _ _ => rfl)), ((hS.own 8 rfl).slr rfl (fun _ _ => rfl)), ((hS.own 9 rfl).slr rfl (fun _ _ => rfl)), ((hS.own 10 rfl).slr rfl (fun _ _ => rfl)), (hS.deepSl 11 rfl), ((hS.own 12 rfl).slr rfl (fun x _ => eGPage_len x))⟩ : RGState _ [.int .i64 r21.2.Id, .int .i64 r21.2.Frame, .int .i64 r21.2.Epoch, u26, u27, u28, u29, u30, u31, u32] r21.2) hr559) rfl ?_
    clear H; intro u560 w562 hv; clear a; intro a H; obtain ⟨_, rfl, hE563⟩ := hv
    replace hS := hS.new hE563; simp only [List.cons_append, List.nil_append] at hS
    obtain ⟨A565, c565, hv565, hl565, hm565⟩ := SlR.formV ((hS.own 0 rfl).slr rfl (fun _ _ => rfl))
    refine n_q H (q_lenV Tryd.underlying23 rfl hv565) rfl (W_q (q_neqN (i := r559.length) (j := 0) rfl rfl) rfl (W_q (q_move rfl) rfl ?_)); clear H a; intro a H
    rcases Bool.eq_false_or_eq_true (!decide (r559.length = 0)) with hg566 | hg566
    · replace H := H.know 13 rfl hg566
      replace hm := condT hm hg566
      refine n_no H rfl rfl (by decide) rfl (W_no rfl rfl (by decide) rfl (W_no rfl rfl (by decide) rfl (W_no rfl rfl (by decide) rfl (W_q (q_pickT rfl rfl) rfl ?_)))); clear H a; intro a H
      refine n_nil (then_normal ?_)
      obtain rfl := Option.some.inj hm; replace hm := hm57; try dsimp only at hm
      replace hS := hS.pick 13 rfl; dsimp only [List.eraseIdx] at hS
      replace hS := hS.pick 13 rfl; dsimp only [List.eraseIdx] at hS
      replace hS := hS.pick 13 rfl; dsimp only [List.eraseIdx] at hS
      replace hS := hS.pick 13 rfl; dsimp only [List.eraseIdx] at hS
      replace hS := hS.pick 13 rfl; dsimp only [List.eraseIdx] at hS
      replace hS := hS.pick 13 rfl; dsimp only [List.eraseIdx] at hS
      replace hS := hS.pick 13 rfl; dsimp only [List.eraseIdx] at hS
      replace hS := hS.pick 8 rfl; dsimp only [List.eraseIdx] at hS
      replace hS := hS.pick 13 rfl; dsimp only [List.eraseIdx] at hS
      replace hS := hS.pick 13 rfl; dsimp only [List.eraseIdx] at hS
      replace hS := hS.pick 13 rfl; dsimp only [List.eraseIdx] at hS
      replace hS := hS.pick 13 rfl; dsimp only [List.eraseIdx] at hS
      replace hS := hS.pick 13 rfl; dsimp only [List.eraseIdx] at hS
      replace hS := hS.take 13; simp only [List.take_succ_cons, List.take_zero] at hS
      exact join true H ⟨rfl, rfl, rfl, trivial⟩ ⟨hm, hS⟩
    · replace H := H.know 13 rfl hg566
      replace hm := condF hm hg566
      refine n_yes H rfl rfl (n_q H (q_load rfl ((hS.blk 2 rfl).ldAll ag68 sz68)) rfl (W_yes rfl rfl (W_q (q_load rfl ((hS.blk 1 rfl).ldAll ag74 sz74)) rfl (W_yes rfl rfl ?_)))); clear H a; intro a H
      replace hm := bindS hm; obtain ⟨r567, hr567, hm⟩ := hm
      refine n_call H rfl en27 (g_valid_Check_w (A := A) (hG.ext hS.x) (⟨_, _, _, _, rfl, ((hS.own 3 rfl).slr rfl (fun _ _ => rfl)), ((hS.own 4 rfl).slr rfl (fun _ _ => rfl)), ((hS.own 5 rfl).slr rfl (fun _ _ => rfl)), ((hS.own 6 rfl).slr rfl (fun _ _ => rfl))⟩ : RGPlan _ [.int .i64 r21.1.Id, .bool r21.1.Mobile, u22, u23, u24, .int .i64 r21.1.Events, u25] r21.1) (⟨_, _, _, _, _, _, _, rfl, ((hS.own 7 rfl).slr rfl (fun x _ => eGProc_len x)), ((hS.own 8 rfl).slr rfl (fun _ _ => rfl)), ((hS.own 9 rfl).slr rfl (fun _ _ => rfl)), ((hS.own 10 rfl).slr rfl (fun _ _ => rfl)), ((hS.own 11 rfl).slr rfl (fun _ _ => rfl)), (hS.deepSl 12 rfl), ((hS.own 13 rfl).slr rfl (fun x _ => eGPage_len x))⟩ : RGState _ [.int .i64 r21.2.Id, .int .i64 r21.2.Frame, .int .i64 r21.2.Epoch, u26, u27, u28, u29, u30, u31, u32] r21.2) hr567) rfl ?_
      clear H; intro u568 w570 hv; clear a; intro a H; obtain ⟨_, rfl, hE571⟩ := hv
      replace hS := hS.new hE571; simp only [List.cons_append, List.nil_append] at hS
      refine n_yes H rfl rfl (n_q H (q_cast (q_nnilI Tryd.underlying36 rfl rfl (hS.any 0 rfl : IsE A w570 u568 r567).form) (show _ = Value.bool (!decide (r567 = .nil)) by rw [IsErr.isNil (hS.any 0 rfl : IsE A w570 u568 r567)])) rfl (W_q (q_pickF rfl rfl) rfl ?_)); clear H a; intro a H
      refine n_nil (then_normal ?_)
      obtain rfl := Option.some.inj hm; replace hm := hm57; try dsimp only at hm
      replace hS := hS.pick 14 rfl; dsimp only [List.eraseIdx] at hS
      replace hS := hS.pick 14 rfl; dsimp only [List.eraseIdx] at hS
      replace hS := hS.pick 14 rfl; dsimp only [List.eraseIdx] at hS
      replace hS := hS.pick 14 rfl; dsimp only [List.eraseIdx] at hS
      replace hS := hS.pick 14 rfl; dsimp only [List.eraseIdx] at hS
      replace hS := hS.pick 14 rfl; dsimp only [List.eraseIdx] at hS
      replace hS := hS.pick 14 rfl; dsimp only [List.eraseIdx] at hS
      replace hS := hS.pick 9 rfl; dsimp only [List.eraseIdx] at hS
      replace hS := hS.pick 14 rfl; dsimp only [List.eraseIdx] at hS
      replace hS := hS.pick 14 rfl; dsimp only [List.eraseIdx] at hS
      replace hS := hS.pick 14 rfl; dsimp only [List.eraseIdx] at hS
      replace hS := hS.pick 14 rfl; dsimp only [List.eraseIdx] at hS
      replace hS := hS.pick 14 rfl; dsimp only [List.eraseIdx] at hS
      replace hS := hS.take 13; simp only [List.take_succ_cons, List.take_zero] at hS
      exact join (!decide (r567 = .nil)) H ⟨rfl, rfl, rfl, trivial⟩ ⟨hm, hS⟩
  · clear H hS hm a; intro q558 a w573 H hR
    simp only [ent, List.map_cons, List.map_nil] at H; (try dsimp only at hR); obtain ⟨hm, hS⟩ := hR; try dsimp only [g_law11_awake_J2] at hm
    refine c_cond H rfl (fun hc574 => ?_) (fun hc574 => ?_)
    · replace hm := condT hm hc574
      refine wp_seq (wp_region_lit (n_q H (q_assign rfl) rfl ?_)); clear H a; intro a H
      refine n_nil (then_normal (wp_ret (then_ret ?_)))
      obtain rfl := Option.some.inj hm
      replace hS := hS.take 0; simp only [List.take_succ_cons, List.take_zero] at hS
      refine ret1 H (.inr rfl) rfl rfl ?_
      exact ⟨rfl, hS.x⟩
    · replace hm := condF hm hc574
      refine wp_skip (then_normal (wp_seq (wp_region_lit (n_q H (q_fieldAddr0 rfl fo74_0) rfl ?_)))); clear H a; intro a H
      replace hS := hS.pick 5 rfl; dsimp only [List.eraseIdx] at hS
      refine n_store1 H rfl rfl sz3 (hS.blk 0 rfl) (by simp) rfl ?_
      clear H; intro w575 hN hC576 hz; clear a; intro a H; replace hS := hS.setBlk hN hC576; clear hN hz
      try simp only [List.set_cons_succ, List.set_cons_zero] at hS
      refine n_nil (then_normal (wp_seq (wp_region_lit (n_q H (q_load rfl ((hS.blk 1 rfl).ldAll ag68 sz68)) rfl (W_q (q_load rfl ((hS.blk 0 rfl).ldAll ag74 sz74)) rfl ?_))))); clear H a; intro a H
      replace hm := bindS hm; obtain ⟨r577, hr577, hm⟩ := hm
      refine n_call H rfl en28 (g_valid_Rest_w (A := A) (hG.ext hS.x) (⟨_, _, _, _, rfl, ((hS.own 2 rfl).slr rfl (fun _ _ => rfl)), ((hS.own 3 rfl).slr rfl (fun _ _ => rfl)), ((hS.own 4 rfl).slr rfl (fun _ _ => rfl)), ((hS.own 5 rfl).slr rfl (fun _ _ => rfl))⟩ : RGPlan _ [.int .i64 r21.1.Id, .bool r21.1.Mobile, u22, u23, u24, .int .i64 r21.1.Events, u25] r21.1) (⟨_, _, _, _, _, _, _, rfl, ((hS.own 6 rfl).slr rfl (fun x _ => eGProc_len x)), ((hS.own 7 rfl).slr rfl (fun _ _ => rfl)), ((hS.own 8 rfl).slr rfl (fun _ _ => rfl)), ((hS.own 9 rfl).slr rfl (fun _ _ => rfl)), ((hS.own 10 rfl).slr rfl (fun _ _ => rfl)), (hS.deepSl 11 rfl), ((hS.own 12 rfl).slr rfl (fun x _ => eGPage_len x))⟩ : RGState _ [.int .i64 8, .int .i64 r21.2.Frame, .int .i64 r21.2.Epoch, u26, u27, u28, u29, u30, u31, u32] (⟨8, r21.2.Frame, r21.2.Epoch, r21.2.Procs, r21.2.Ready, r21.2.Timers, r21.2.Up, r21.2.Sems, r21.2.Ports, r21.2.Pages⟩ : GState)) hr577) rfl ?_
      clear H; intro u578 w580 hv; clear a; intro a H; obtain ⟨_, rfl, hE581⟩ := hv
      replace hS := hS.new hE581; simp only [List.cons_append, List.nil_append] at hS
      refine n_q H (q_assign rfl) rfl ?_; clear H a; intro a H
      refine n_nil (then_normal (wp_seq (wp_region_lit (n_q H (q_load rfl ((hS.blk 2 rfl).ldAll ag68 sz68)) rfl (W_q (q_load rfl ((hS.blk 1 rfl).ldAll ag74 sz74)) rfl ?_))))); clear H a; intro a H
      replace hm := bindS hm; obtain ⟨r583, hr583, hm⟩ := hm
      refine n_call H rfl en26 (g_valid_Faults_w (A := A) (hG.ext hS.x) (⟨_, _, _, _, rfl, ((hS.own 3 rfl).slr rfl (fun _ _ => rfl)), ((hS.own 4 rfl).slr rfl (fun _ _ => rfl)), ((hS.own 5 rfl).slr rfl (fun _ _ => rfl)), ((hS.own 6 rfl).slr rfl (fun _ _ => rfl))⟩ : RGPlan _ [.int .i64 r21.1.Id, .bool r21.1.Mobile, u22, u23, u24, .int .i64 r21.1.Events, u25] r21.1) (⟨_, _, _, _, _, _, _, rfl, ((hS.own 7 rfl).slr rfl (fun x _ => eGProc_len x)), ((hS.own 8 rfl).slr rfl (fun _ _ => rfl)), ((hS.own 9 rfl).slr rfl (fun _ _ => rfl)), ((hS.own 10 rfl).slr rfl (fun _ _ => rfl)), ((hS.own 11 rfl).slr rfl (fun _ _ => rfl)), (hS.deepSl 12 rfl), ((hS.own 13 rfl).slr rfl (fun x _ => eGPage_len x))⟩ : RGState _ [.int .i64 8, .int .i64 r21.2.Frame, .int .i64 r21.2.Epoch, u26, u27, u28, u29, u30, u31, u32] (⟨8, r21.2.Frame, r21.2.Epoch, r21.2.Procs, r21.2.Ready, r21.2.Timers, r21.2.Up, r21.2.Sems, r21.2.Ports, r21.2.Pages⟩ : GState)) hr583) rfl ?_
      clear H; intro u584 w586 hv; clear a; intro a H; obtain ⟨_, rfl, hE587⟩ := hv
      replace hS := hS.new hE587; simp only [List.cons_append, List.nil_append] at hS
      refine n_buildSlice H Tryd.underlying23 sz3 ze3 rfl rfl rfl (cs := [.int .i64 1]) (by kernel_rfl) rfl ?_
      clear H; intro b591 w589 hN hE590 hs; clear a; intro a H
      replace hS := hS.newBlk hN hE590 hs; clear hN hs
      replace hS := hS.blkOwnL (e := eI) (k := 1) [1] rfl rfl (by simp [maxLen])
      replace hm := bindS hm; obtain ⟨r593, hr593, hm⟩ := hm
      refine n_call H rfl en48 (g_law11_ints_w (A := A) ((hS.own 1 rfl).slr rfl (fun _ _ => rfl)) ((hS.own 0 rfl).slr rfl (fun _ _ => rfl)) hr593) rfl ?_
      clear H; intro x596 w594 hv; clear a; intro a H; obtain ⟨rfl, hE595⟩ := hv
      replace hS := hS.ext hE595
      refine n_q H (q_move rfl) rfl ?_; clear H a; intro a H
      rcases Bool.eq_false_or_eq_true r593 with hg597 | hg597
      · replace H := H.know 28 rfl hg597
        replace hm := condT hm hg597
        refine n_yes H rfl rfl (n_q H (q_move rfl) rfl (W_yes rfl rfl ?_)); clear H a; intro a H
        refine n_call H rfl en23 (code_w (hG.ext hS.x) (hS.any 2 rfl : IsE A w594 u578 r577)) rfl ?_
        clear H; intro x600 w598 hv; clear a; intro a H; obtain ⟨rfl, hE599⟩ := hv; replace hS := hS.ext hE599
        refine n_yes H rfl rfl (n_q H (q_eqlD rfl rfl) rfl (W_q (q_pickT rfl rfl) rfl (W_q (q_move rfl) rfl ?_))); clear H a; intro a H
        rcases Bool.eq_false_or_eq_true (decide ((ErrM.code r577) = 9)) with hg601 | hg601
        · replace H := H.know 33 rfl hg601
          replace hm := condT hm hg601
          refine n_yes H rfl rfl (n_q H (q_move rfl) rfl (W_yes rfl rfl ?_)); clear H a; intro a H
          refine n_call H rfl en29 (place_w (hH.ext hS.x) (hS.any 2 rfl : IsE A w598 u578 r577)) rfl ?_
          clear H; intro x604 w602 hv; clear a; intro a H; obtain ⟨rfl, hE603⟩ := hv; replace hS := hS.ext hE603
          refine n_yes H rfl rfl (n_q H (q_eqlD rfl rfl) rfl (W_q (q_pickT rfl rfl) rfl (W_q (q_assign rfl) rfl ?_))); clear H a; intro a H
          refine n_nil (then_normal (wp_ret ?_))
          obtain rfl := Option.some.inj hm
          replace hS := hS.take 0; simp only [List.take_succ_cons, List.take_zero] at hS
          refine ret1 H (.inr rfl) rfl rfl ?_
          exact ⟨rfl, hS.x⟩
        · replace H := H.know 33 rfl hg601
          replace hm := condF hm hg601
          refine n_no H rfl rfl (by decide) rfl (W_no rfl rfl (by decide) rfl (W_no rfl rfl (by decide) rfl (W_q (q_pickF rfl rfl) rfl (W_q (q_assign rfl) rfl ?_)))); clear H a; intro a H
          refine n_nil (then_normal (wp_ret ?_))
          obtain rfl := Option.some.inj hm
          replace hS := hS.take 0; simp only [List.take_succ_cons, List.take_zero] at hS
          refine ret1 H (.inr rfl) rfl rfl ?_
          exact ⟨rfl, hS.x⟩
      · replace H := H.know 28 rfl hg597
        replace hm := condF hm hg597
        refine n_no H rfl rfl (by decide) rfl (W_no rfl rfl (by decide) rfl (W_no rfl rfl (by decide) rfl (W_q (q_pickF rfl rfl) rfl (W_q (q_move rfl) rfl (W_no rfl rfl (by decide) rfl (W_no rfl rfl (by decide) rfl (W_no rfl rfl (by decide) rfl (W_q (q_pickF rfl rfl) rfl (W_q (q_assign rfl) rfl ?_))))))))); clear H a; intro a H
        refine n_nil (then_normal (wp_ret ?_))
        obtain rfl := Option.some.inj hm
        replace hS := hS.take 0; simp only [List.take_succ_cons, List.take_zero] at hS
        refine ret1 H (.inr rfl) rfl rfl ?_
        exact ⟨rfl, hS.x⟩
end Go.Proofs.YtjoihegnjjjdaaaDoor
