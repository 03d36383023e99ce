/- Pz (written by wip/tools) -/
import Derived.Test.YtpnmaabhjgiggaaGreatDoorPzA
set_option linter.unusedVariables false
set_option linter.unusedSimpArgs false
set_option maxRecDepth 10000
namespace Go.Proofs.YtpnmaabhjgiggaaGreatDoor
open Go Go.RowKit
theorem ag28 : aggB Tryz.prog 28 = some false := by kernel_rfl
theorem ag71 : aggB Tryz.prog 71 = some true := by kernel_rfl
theorem bd108 : bdB Tryz.prog 108 = true := by kernel_rfl
theorem pl108 : placesB Tryz.prog 108 = some #[(0, 1), (1, 1)] := by kernel_rfl
theorem bd27 : bdB Tryz.prog 27 = true := by kernel_rfl
theorem pl27 : placesB Tryz.prog 27 = some #[(0, 1), (1, 1), (2, 1), (3, 1), (4, 1), (5, 1), (6, 1)] := by kernel_rfl
theorem bd62 : bdB Tryz.prog 62 = true := by kernel_rfl
theorem pl62 : placesB Tryz.prog 62 = some #[(0, 1), (1, 1), (2, 1)] := by kernel_rfl
theorem bd69 : bdB Tryz.prog 69 = true := by kernel_rfl
theorem pl69 : placesB Tryz.prog 69 = some #[(0, 1), (1, 1)] := by kernel_rfl
theorem bd71 : bdB Tryz.prog 71 = true := by kernel_rfl
theorem pl71 : placesB Tryz.prog 71 = some #[(0, 1), (1, 1)] := by kernel_rfl
theorem bd78 : bdB Tryz.prog 78 = true := by kernel_rfl
theorem pl78 : placesB Tryz.prog 78 = some #[(0, 1), (1, 1), (2, 1), (3, 1)] := by kernel_rfl
theorem el5 : ElemOk Tryz.prog 5 1 1 [.int .u8 0] := ⟨by kernel_rfl, by kernel_rfl, by kernel_rfl, rfl, by decide⟩
theorem el62 : ElemOk Tryz.prog 62 3 24 [.int .i64 0, .int .i64 0, .bool false] := ⟨by kernel_rfl, by kernel_rfl, by kernel_rfl, rfl, by decide⟩
theorem el69 : ElemOk Tryz.prog 69 2 24 [.int .i64 0, .string ⟨#[]⟩] := ⟨by kernel_rfl, by kernel_rfl, by kernel_rfl, rfl, by decide⟩
theorem el78 : ElemOk Tryz.prog 78 4 32 [.int .i64 0, .int .i64 0, .int .i64 0, .int .i64 0] := ⟨by kernel_rfl, by kernel_rfl, by kernel_rfl, rfl, by decide⟩
theorem en100 : entersB Tryz.prog 100 = true := by kernel_rfl
theorem en12 : entersB Tryz.prog 12 = true := by kernel_rfl
theorem en13 : entersB Tryz.prog 13 = true := by kernel_rfl
theorem en15 : entersB Tryz.prog 15 = true := by kernel_rfl
theorem en16 : entersB Tryz.prog 16 = true := by kernel_rfl
theorem en17 : entersB Tryz.prog 17 = true := by kernel_rfl
theorem en26 : entersB Tryz.prog 26 = true := by kernel_rfl
theorem en27 : entersB Tryz.prog 27 = true := by kernel_rfl
theorem en28 : entersB Tryz.prog 28 = true := by kernel_rfl
theorem en29 : entersB Tryz.prog 29 = true := by kernel_rfl
theorem en30 : entersB Tryz.prog 30 = true := by kernel_rfl
theorem en31 : entersB Tryz.prog 31 = true := by kernel_rfl
theorem en32 : entersB Tryz.prog 32 = true := by kernel_rfl
theorem en33 : entersB Tryz.prog 33 = true := by kernel_rfl
theorem en37 : entersB Tryz.prog 37 = true := by kernel_rfl
theorem en43 : entersB Tryz.prog 43 = true := by kernel_rfl
theorem en49 : entersB Tryz.prog 49 = true := by kernel_rfl
theorem en5 : entersB Tryz.prog 5 = true := by kernel_rfl
theorem en50 : entersB Tryz.prog 50 = true := by kernel_rfl
theorem en51 : entersB Tryz.prog 51 = true := by kernel_rfl
theorem en52 : entersB Tryz.prog 52 = true := by kernel_rfl
theorem en53 : entersB Tryz.prog 53 = true := by kernel_rfl
theorem en54 : entersB Tryz.prog 54 = true := by kernel_rfl
theorem en55 : entersB Tryz.prog 55 = true := by kernel_rfl
theorem en56 : entersB Tryz.prog 56 = true := by kernel_rfl
theorem en57 : entersB Tryz.prog 57 = true := by kernel_rfl
theorem en58 : entersB Tryz.prog 58 = true := by kernel_rfl
theorem en59 : entersB Tryz.prog 59 = true := by kernel_rfl
theorem en60 : entersB Tryz.prog 60 = true := by kernel_rfl
theorem en61 : entersB Tryz.prog 61 = true := by kernel_rfl
theorem en74 : entersB Tryz.prog 74 = true := by kernel_rfl
theorem en75 : entersB Tryz.prog 75 = true := by kernel_rfl
theorem en76 : entersB Tryz.prog 76 = true := by kernel_rfl
theorem en77 : entersB Tryz.prog 77 = true := by kernel_rfl
theorem en87 : entersB Tryz.prog 87 = true := by kernel_rfl
theorem en88 : entersB Tryz.prog 88 = true := by kernel_rfl
theorem en97 : entersB Tryz.prog 97 = true := by kernel_rfl
theorem fo108_0 : fOff Tryz.prog 108 0 = some 0 := by kernel_rfl
theorem fo108_1 : fOff Tryz.prog 108 1 = some 1 := by kernel_rfl
theorem fo27_1 : fOff Tryz.prog 27 1 = some 1 := by kernel_rfl
theorem sz22 : sizeB Tryz.prog 22 = some 1 := by kernel_rfl
theorem sz23 : sizeB Tryz.prog 23 = some 1 := by kernel_rfl
theorem sz24 : sizeB Tryz.prog 24 = some 1 := by kernel_rfl
theorem sz28 : sizeB Tryz.prog 28 = some 1 := by kernel_rfl
theorem sz71 : sizeB Tryz.prog 71 = some 2 := by kernel_rfl
theorem ze108 : zeroB Tryz.prog 108 = some [.slice none 0 0, .nilIface] := by kernel_rfl
theorem ze159 : zeroB Tryz.prog 159 = some [.int .u32 0, .int .u32 0, .int .u32 0, .int .u32 0, .int .u32 0, .int .u32 0, .int .u32 0, .int .u32 0, .int .u32 0, .int .u32 0, .int .u32 0, .int .u32 0, .int .u32 0, .int .u32 0, .int .u32 0, .int .u32 0, .int .u32 0, .int .u32 0, .int .u32 0, .int .u32 0, .int .u32 0, .int .u32 0, .int .u32 0, .int .u32 0, .int .u32 0, .int .u32 0, .int .u32 0, .int .u32 0, .int .u32 0, .int .u32 0, .int .u32 0, .int .u32 0, .int .u32 0, .int .u32 0, .int .u32 0, .int .u32 0, .int .u32 0, .int .u32 0, .int .u32 0, .int .u32 0, .int .u32 0, .int .u32 0, .int .u32 0, .int .u32 0, .int .u32 0, .int .u32 0, .int .u32 0, .int .u32 0, .int .u32 0, .int .u32 0, .int .u32 0, .int .u32 0, .int .u32 0, .int .u32 0, .int .u32 0, .int .u32 0, .int .u32 0, .int .u32 0, .int .u32 0, .int .u32 0, .int .u32 0, .int .u32 0, .int .u32 0, .int .u32 0, .int .u32 0, .int .u32 0, .int .u32 0, .int .u32 0, .int .u32 0, .int .u32 0, .int .u32 0, .int .u32 0, .int .u32 0, .int .u32 0, .int .u32 0, .int .u32 0, .int .u32 0, .int .u32 0, .int .u32 0, .int .u32 0, .int .u32 0, .int .u32 0, .int .u32 0, .int .u32 0, .int .u32 0, .int .u32 0, .int .u32 0, .int .u32 0, .int .u32 0, .int .u32 0, .int .u32 0, .int .u32 0, .int .u32 0, .int .u32 0, .int .u32 0, .int .u32 0, .int .u32 0, .int .u32 0, .int .u32 0, .int .u32 0, .int .u32 0, .int .u32 0, .int .u32 0, .int .u32 0, .int .u32 0, .int .u32 0, .int .u32 0, .int .u32 0, .int .u32 0, .int .u32 0, .int .u32 0, .int .u32 0, .int .u32 0, .int .u32 0, .int .u32 0, .int .u32 0, .int .u32 0, .int .u32 0, .int .u32 0, .int .u32 0, .int .u32 0, .int .u32 0, .int .u32 0, .int .u32 0, .int .u32 0, .int .u32 0, .int .u32 0, .int .u32 0, .int .u32 0, .int .u32 0, .int .u32 0, .int .u32 0, .int .u32 0, .int .u32 0, .int .u32 0, .int .u32 0, .int .u32 0, .int .u32 0, .int .u32 0, .int .u32 0, .int .u32 0, .int .u32 0, .int .u32 0, .int .u32 0, .int .u32 0, .int .u32 0, .int .u32 0, .int .u32 0, .int .u32 0, .int .u32 0, .int .u32 0, .int .u32 0, .int .u32 0, .int .u32 0, .int .u32 0, .int .u32 0, .int .u32 0, .int .u32 0, .int .u32 0, .int .u32 0, .int .u32 0, .int .u32 0, .int .u32 0, .int .u32 0, .int .u32 0, .int .u32 0, .int .u32 0, .int .u32 0, .int .u32 0, .int .u32 0, .int .u32 0, .int .u32 0, .int .u32 0, .int .u32 0, .int .u32 0, .int .u32 0, .int .u32 0, .int .u32 0, .int .u32 0, .int .u32 0, .int .u32 0, .int .u32 0, .int .u32 0, .int .u32 0, .int .u32 0, .int .u32 0, .int .u32 0, .int .u32 0, .int .u32 0, .int .u32 0, .int .u32 0, .int .u32 0, .int .u32 0, .int .u32 0, .int .u32 0, .int .u32 0, .int .u32 0, .int .u32 0, .int .u32 0, .int .u32 0, .int .u32 0, .int .u32 0, .int .u32 0, .int .u32 0, .int .u32 0, .int .u32 0, .int .u32 0, .int .u32 0, .int .u32 0, .int .u32 0, .int .u32 0, .int .u32 0, .int .u32 0, .int .u32 0, .int .u32 0, .int .u32 0, .int .u32 0, .int .u32 0, .int .u32 0, .int .u32 0, .int .u32 0, .int .u32 0, .int .u32 0, .int .u32 0, .int .u32 0, .int .u32 0, .int .u32 0, .int .u32 0, .int .u32 0, .int .u32 0, .int .u32 0, .int .u32 0, .int .u32 0, .int .u32 0, .int .u32 0, .int .u32 0, .int .u32 0, .int .u32 0, .int .u32 0, .int .u32 0, .int .u32 0, .int .u32 0, .int .u32 0, .int .u32 0, .int .u32 0, .int .u32 0, .int .u32 0, .int .u32 0, .int .u32 0, .int .u32 0, .int .u32 0, .int .u32 0, .int .u32 0, .int .u32 0, .int .u32 0, .int .u32 0] := by kernel_rfl
theorem ze27 : zeroB Tryz.prog 27 = some [.int .i64 0, .bool false, .slice none 0 0, .slice none 0 0, .slice none 0 0, .int .i64 0, .slice none 0 0] := by kernel_rfl
theorem ze5 : zeroB Tryz.prog 5 = some [.int .u8 0] := by kernel_rfl
theorem ze71 : zeroB Tryz.prog 71 = some [.int .i64 0, .int .i64 0] := by kernel_rfl

theorem g_law10_small_w {w : World} {A : Nat → Addr} {r : GPlan} (hm : g_law10_small = some r) :
    Calls Tryz.prog 12 [].toArray w (Ret fun u w' => ∃ h_0 h_1 h_2 h_3, u = .agg #[.int .i64 r.Id, .bool r.Mobile, h_0, h_1, h_2, .int .i64 r.Events, h_3] ∧ St NB w w' [ownR 69 2 h_0 r.Pages.length (r.Pages.flatMap eGPagePlan), ownR 62 3 h_1 r.Procs.length (r.Procs.flatMap eGProcPlan), ownR 78 4 h_2 r.Ports.length (r.Ports.flatMap eGPortPlan), ownR 3 1 h_3 r.Sems.length (r.Sems.flatMap eI)]) := by
  have hS := St.begin NB w
  unfold g_law10_small at hm
  refine enter Tryz.func12 rfl rfl rfl ?_; intro a H; dsimp only [enumL, Nat.zero_add, Nat.reduceAdd] at H
  refine wp_seq (wp_region_lit (n_alloc H ze27 rfl ?_))
  clear H; intro b21 w22 hN hE23 hs; clear a; intro a H
  replace hS := hS.newBlk hN hE23 hs; clear hN hs
  refine n_nil (then_normal (wp_seq (wp_region_lit (n_q H (q_build (cs := [.int .i64 5, .string ⟨#[97, 98]⟩]) ze69 bd69 pl69 rfl (by kernel_rfl)) rfl (W_q (q_build (cs := [.int .i64 3, .string ⟨#[]⟩]) ze69 bd69 pl69 rfl (by kernel_rfl)) rfl ?_))))); clear H a; intro a H
  refine n_buildSlice H Tryz.underlying22 sz69 ze69 rfl rfl rfl (cs := [.int .i64 5, .string ⟨#[97, 98]⟩, .int .i64 3, .string ⟨#[]⟩]) (by kernel_rfl) rfl ?_
  clear H; intro b26 w24 hN hE25 hs; clear a; intro a H
  replace hS := hS.newBlk hN hE25 hs; clear hN hs
  replace hS := hS.blkOwnL (e := eGPagePlan) (k := 2) [(⟨5, ⟨#[97, 98]⟩⟩ : GPagePlan), (⟨3, ⟨#[]⟩⟩ : GPagePlan)] rfl rfl (by simp [maxLen])
  refine n_q H (q_build (cs := [.int .i64 0, .int .i64 7, .bool true]) ze62 bd62 pl62 rfl (by kernel_rfl)) rfl (W_q (q_build (cs := [.int .i64 64, .int .i64 9, .bool false]) ze62 bd62 pl62 rfl (by kernel_rfl)) rfl ?_); clear H a; intro a H
  refine n_buildSlice H Tryz.underlying23 sz62 ze62 rfl rfl rfl (cs := [.int .i64 0, .int .i64 7, .bool true, .int .i64 64, .int .i64 9, .bool false]) (by kernel_rfl) rfl ?_
  clear H; intro b30 w28 hN hE29 hs; clear a; intro a H
  replace hS := hS.newBlk hN hE29 hs; clear hN hs
  replace hS := hS.blkOwnL (e := eGProcPlan) (k := 3) [(⟨0, 7, true⟩ : GProcPlan), (⟨64, 9, false⟩ : GProcPlan)] rfl rfl (by simp [maxLen])
  refine n_q H (q_build (cs := [.int .i64 1, .int .i64 4, .int .i64 1, .int .i64 2]) ze78 bd78 pl78 rfl (by kernel_rfl)) rfl (W_q (q_build (cs := [.int .i64 4, .int .i64 8, .int .i64 2, .int .i64 0]) ze78 bd78 pl78 rfl (by kernel_rfl)) rfl ?_); clear H a; intro a H
  refine n_buildSlice H Tryz.underlying24 sz78 ze78 rfl rfl rfl (cs := [.int .i64 1, .int .i64 4, .int .i64 1, .int .i64 2, .int .i64 4, .int .i64 8, .int .i64 2, .int .i64 0]) (by kernel_rfl) rfl ?_
  clear H; intro b34 w32 hN hE33 hs; clear a; intro a H
  replace hS := hS.newBlk hN hE33 hs; clear hN hs
  replace hS := hS.blkOwnL (e := eGPortPlan) (k := 4) [(⟨1, 4, 1, 2⟩ : GPortPlan), (⟨4, 8, 2, 0⟩ : GPortPlan)] rfl rfl (by simp [maxLen])
  refine n_buildSlice H Tryz.underlying25 sz3 ze3 rfl rfl rfl (cs := [.int .i64 2]) (by kernel_rfl) rfl ?_
  clear H; intro b38 w36 hN hE37 hs; clear a; intro a H
  replace hS := hS.newBlk hN hE37 hs; clear hN hs
  replace hS := hS.blkOwnL (e := eI) (k := 1) [2] rfl rfl (by simp [maxLen])
  refine n_q H (q_build (cs := [.int .i64 3, .bool true, .slice (some ⟨b26, 0, none⟩) 2 2, .slice (some ⟨b30, 0, none⟩) 2 2, .slice (some ⟨b34, 0, none⟩) 2 2, .int .i64 1, .slice (some ⟨b38, 0, none⟩) 1 1]) ze27 bd27 pl27 rfl ((fill1 rfl rfl (by simp)).trans ((fill1 rfl rfl (by simp)).trans ((fill1 (((hS.own 3 rfl).slr rfl (fun _ _ => rfl))).one rfl (by simp)).trans ((fill1 (((hS.own 2 rfl).slr rfl (fun _ _ => rfl))).one rfl (by simp)).trans ((fill1 (((hS.own 1 rfl).slr rfl (fun _ _ => rfl))).one rfl (by simp)).trans ((fill1 rfl rfl (by simp)).trans ((fill1 (((hS.own 0 rfl).slr rfl (fun _ _ => rfl))).one rfl (by simp)).trans rfl)))))))) rfl ?_; clear H a; intro a H
  replace hS := hS.pk4
  refine n_storeAll H rfl rfl (vs := [.int .i64 3, .bool true, .slice (some ⟨b26, 0, none⟩) 2 2, .slice (some ⟨b30, 0, none⟩) 2 2, .slice (some ⟨b34, 0, none⟩) 2 2, .int .i64 1, .slice (some ⟨b38, 0, none⟩) 1 1]) rfl sz27 (hS.blk 0 rfl) rfl (by simp [(((hS.own 4 rfl).slr rfl (fun _ _ => rfl))).one, (((hS.own 3 rfl).slr rfl (fun _ _ => rfl))).one, (((hS.own 2 rfl).slr rfl (fun _ _ => rfl))).one, (((hS.own 1 rfl).slr rfl (fun _ _ => rfl))).one]) ?_
  clear H; intro w40 hN hC41 hz; clear a; intro a H; replace hS := hS.setBlk hN hC41; clear hN hz
  refine n_nil (then_normal (wp_ret ?_))
  obtain rfl := Option.some.inj hm
  replace hS := hS.pk1
  replace hS := hS.pk2
  replace hS := hS.pk3
  replace hS := hS.pk4
  refine retL H (.inr rfl) rfl (vs := [.agg #[.int .i64 3, .bool true, .slice (some ⟨b26, 0, none⟩) 2 2, .slice (some ⟨b30, 0, none⟩) 2 2, .slice (some ⟨b34, 0, none⟩) 2 2, .int .i64 1, .slice (some ⟨b38, 0, none⟩) 1 1]]) (resCell rfl ((hS.blk 4 rfl).ldAll ag27 sz27) resNil) ?_
  replace hS := hS.tk4
  exact ⟨_, _, _, _, rfl, hS⟩
theorem g_plan_Bound_w {w : World} {A : Nat → Addr} {cs0 : List Value} {a0 : GPlan} (hG : EV A w) (h0 : RGPlan w cs0 a0) {r : Int × ErrM} (hm : g_plan_Bound a0 = some r) :
    Calls Tryz.prog 13 [.agg cs0.toArray].toArray w (Ret fun u w' => ∃ h_0, u = .tuple #[.int .i64 r.1, h_0] ∧ St NB w w' [erQ A h_0 r.2]) := by
  obtain ⟨vp0_0, vp0_1, vp0_2, vp0_3, rfl, hrp0_0, hrp0_1, hrp0_2, hrp0_3⟩ := h0
  have hS := St.begin NB w
  unfold g_plan_Bound at hm
  refine enter Tryz.func13 rfl rfl rfl ?_; intro a H; dsimp only [enumL, Nat.zero_add, Nat.reduceAdd] at H
  refine wp_seq (wp_region_lit (n_box H rfl (cs := [.int .i64 a0.Id, .bool a0.Mobile, vp0_0, vp0_1, vp0_2, .int .i64 a0.Events, vp0_3]) rfl rfl ?_))
  clear H; intro b21 w22 hN hE23 hs; clear a; intro a H
  replace hS := hS.newBlk hN hE23 hs; clear hN hs
  refine n_q H (q_assign rfl) rfl (W_q (q_assign rfl) rfl ?_); clear H a; intro a H
  refine n_nil (then_normal (wp_seq (wp_seq (wp_region_lit (n_q H (q_load rfl ((hS.blk 0 rfl).ldAll ag27 sz27)) rfl ?_))))); clear H a; intro a H
  replace hm := bindS hm; obtain ⟨r24, hr24, hm⟩ := hm
  refine n_call H rfl en14 (g_plan_Check_w (A := A) (hG.ext hS.x) (⟨_, _, _, _, rfl, (hrp0_0.ext (Flat.mono _) hS.x), (hrp0_1.ext (Flat.mono _) hS.x), (hrp0_2.ext (Flat.mono _) hS.x), (hrp0_3.ext (Flat.mono _) hS.x)⟩ : RGPlan _ [.int .i64 a0.Id, .bool a0.Mobile, vp0_0, vp0_1, vp0_2, .int .i64 a0.Events, vp0_3] a0) hr24) rfl ?_
  clear H; intro u25 w27 hv; clear a; intro a H; obtain ⟨_, rfl, hE28⟩ := hv
  replace hS := hS.new hE28; simp only [List.cons_append, List.nil_append] at hS
  refine n_q H (q_cast (q_nnilI Tryz.underlying41 rfl rfl (hS.any 0 rfl : IsE A w27 u25 r24).form) (show _ = Value.bool (!decide (r24 = .nil)) by rw [IsErr.isNil (hS.any 0 rfl : IsE A w27 u25 r24)])) rfl ?_; clear H a; intro a H
  refine n_nil (then_normal (c_cond H rfl (fun hc30 => ?_) (fun hc30 => ?_)))
  · replace hm := condT hm hc30
    refine wp_seq (c_quiet (by kernel_rfl) (by kernel_rfl) ?_)
    refine qq_q H (q_load rfl ((hG.ext hS.x).ld gPlan (by decide) ag41)) rfl ?_; clear H a; intro a H
    refine qq_q H (q_assign rfl) rfl ?_; clear H a; intro a H
    refine qq_q H (q_assign rfl) rfl ?_; clear H a; intro a H
    refine qq_nil ?_; intro w31 hE32
    replace hS := hS.ext hE32
    refine then_normal (wp_ret (then_ret ?_))
    obtain rfl := Option.some.inj hm
    replace hS := hS.dVar (A := A) (g := gPlan) (by decide)
    replace hS := hS.tk1
    refine ret2 H (.inr rfl) rfl rfl rfl ?_
    exact ⟨_, rfl, hS⟩
  · replace hm := condF hm hc30
    refine wp_skip (then_normal (wp_seq (wp_region_lit (n_q H (q_load rfl ((hS.blk 1 rfl).ldAll ag27 sz27)) rfl ?_)))); clear H a; intro a H
    replace hm := bindS hm; obtain ⟨r34, hr34, hm⟩ := hm
    refine n_call H rfl en22 (g_plan_bound_w (A := A) (hG.ext hS.x) (⟨_, _, _, _, rfl, (hrp0_0.ext (Flat.mono _) hS.x), (hrp0_1.ext (Flat.mono _) hS.x), (hrp0_2.ext (Flat.mono _) hS.x), (hrp0_3.ext (Flat.mono _) hS.x)⟩ : RGPlan _ [.int .i64 a0.Id, .bool a0.Mobile, vp0_0, vp0_1, vp0_2, .int .i64 a0.Events, vp0_3] a0) hr34) rfl ?_
    clear H; intro x37 w35 hv; clear a; intro a H; obtain ⟨rfl, hE36⟩ := hv
    replace hS := hS.ext hE36
    refine n_q H (q_assign rfl) rfl (W_q (q_assign rfl) rfl ?_); clear H a; intro a H
    refine n_nil (then_normal (wp_ret ?_))
    obtain rfl := Option.some.inj hm
    replace hS := hS.dNil (A := A)
    replace hS := hS.tk1
    refine ret2 H (.inr rfl) rfl rfl rfl ?_
    exact ⟨_, rfl, hS⟩
theorem g_wire_NewWriter_w {w : World} {A : Nat → Addr} {r : GWireWriter} (hm : g_wire_NewWriter = some r) :
    Calls Tryz.prog 28 [].toArray w (Ret fun u w' => ∃ (h_0 : Nat) (h_1 : Value) (h_2 : Value), u = .pointer (some ⟨h_0, 0, none⟩) ∧ St NB w w' [blkR h_0 [h_1, h_2] 108, ownR 5 1 h_1 r.buf_.length (r.buf_.flatMap eB), erQ A h_2 r.err_]) := by
  have hS := St.begin NB w
  unfold g_wire_NewWriter at hm
  refine enter Tryz.func28 rfl rfl rfl ?_; intro a H; dsimp only [enumL, Nat.zero_add, Nat.reduceAdd] at H
  refine wp_seq (wp_region_lit (n_q H (q_assign rfl) rfl ?_)); clear H a; intro a H
  refine n_nil (then_normal (wp_seq (wp_region_lit (n_q H (q_build (cs := [.slice none 0 0, .nilIface]) ze108 bd108 pl108 rfl (by kernel_rfl)) rfl ?_)))); clear H a; intro a H
  refine n_box H rfl (cs := [.slice none 0 0, .nilIface]) rfl rfl ?_
  clear H; intro b21 w22 hN hE23 hs; clear a; intro a H
  replace hS := hS.newBlk hN hE23 hs; clear hN hs
  refine n_q H (q_assign rfl) rfl ?_; clear H a; intro a H
  refine n_nil (then_normal (wp_ret ?_))
  obtain rfl := Option.some.inj hm
  replace hS := hS.nilOwn 5 1
  replace hS := hS.dNil (A := A)
  replace hS := hS.pk1
  replace hS := hS.pk2
  refine ret1 H (.inr rfl) rfl rfl ?_
  exact ⟨_, _, _, rfl, hS⟩
theorem g_slices_Clone_byte_w {w : World} {A : Nat → Addr} {v0 : Value} {a0 : List UInt8} (h0 : SlR w 1 (Flat eB) v0 a0) {r : List UInt8} (hm : g_slices_Clone_byte a0 = some r) :
    Calls Tryz.prog 56 [v0].toArray w (Ret fun u w' => ∃ h_0, u = h_0 ∧ St NB w w' [ownR 5 1 h_0 r.length (r.flatMap eB)]) := by
  have hS := St.begin NB w
  unfold g_slices_Clone_byte at hm
  refine enter Tryz.func56 rfl rfl rfl ?_; intro a H; dsimp only [enumL, Nat.zero_add, Nat.reduceAdd] at H
  refine wp_seq (wp_region_lit (n_q H (q_assign rfl) rfl ?_)); clear H a; intro a H
  refine n_nil (then_normal (wp_seq (wp_seq (wp_region_lit (n_q H (q_move rfl) rfl ?_))))); clear H a; intro a H
  obtain ⟨A21, c21, hv21, hl21, hm21⟩ := SlR.formV (h0.ext (Flat.mono _) hS.x)
  refine n_q H (q_nilV Tryz.underlying28 rfl hv21 rfl) rfl ?_; clear H a; intro a H
  refine n_nil (then_normal (c_cond H rfl (fun hc22 => ?_) (fun hc22 => ?_)))
  · obtain rfl := SlR.nilV (h0.ext (Flat.mono _) hS.x) hv21 hc22; replace hm := chkS hm; obtain ⟨_, hm⟩ := hm
    refine wp_seq (wp_region_lit (n_q H (q_assign rfl) rfl ?_)); clear H a; intro a H
    refine n_nil (then_normal (wp_ret (then_ret ?_)))
    obtain rfl := Option.some.inj hm
    replace hS := hS.nilOwn 5 1
    refine ret1 H (.inr rfl) rfl rfl ?_
    exact ⟨_, rfl, hS⟩
  · skip
    refine wp_skip (then_normal (wp_seq (wp_region_lit (n_buildSlice H Tryz.underlying28 sz5 ze5 rfl rfl rfl (cs := []) rfl rfl ?_))))
    clear H; intro b26 w24 hN hE25 hs; clear a; intro a H
    replace hS := hS.newBlk hN hE25 hs; clear hN hs
    replace hS := hS.blkOwnL (e := eB) (k := 1) ([] : List UInt8) rfl rfl (by simp [maxLen])
    refine n_q H (q_move rfl) rfl ?_; clear H a; intro a H
    replace hm := chkS hm; obtain ⟨hk28, hm⟩ := hm
    refine n_app (e := eB) H rfl rfl Tryz.underlying28 Tryz.underlying28 (by simp) el5 (hS.own 0 rfl) ((h0.ext (Flat.mono _) hS.x).src (fun _ _ => rfl)) eB_one hk28 (by simp only [maxLen]; omega) rfl ?_
    clear H; intro v31 w29 hN hC30 hb; clear a; intro a H; replace hS := hS.setOwn hN hC30 hb; clear hN hb
    refine n_q H (q_assign rfl) rfl ?_; clear H a; intro a H
    refine n_nil (then_normal (wp_ret ?_))
    obtain rfl := Option.some.inj hm
    refine ret1 H (.inr rfl) rfl rfl ?_
    exact ⟨_, rfl, hS⟩
theorem g_wire_Writer_Done_w {w : World} {A : Nat → Addr} {fp : Nat → Prop} {b0 : Nat} {v0_0 : Value} {v0_1 : Value} {a0 : GWireWriter} (hP : Sep w fp [blkR b0 [v0_0, v0_1] 108, ownR 5 1 v0_0 a0.buf_.length (a0.buf_.flatMap eB), erQ A v0_1 a0.err_]) {r : List UInt8 × ErrM × GWireWriter} (hm : g_wire_Writer_Done a0 = some r) :
    Calls Tryz.prog 27 [.pointer (some ⟨b0, 0, none⟩)].toArray w (Ret fun u w' => ∃ h_0 h_1 h_2 h_3, u = .tuple #[h_0, h_1] ∧ St fp w w' [blkR b0 [h_2, h_3] 108, ownR 5 1 h_2 r.2.2.buf_.length (r.2.2.buf_.flatMap eB), ownR 5 1 h_0 r.1.length (r.1.flatMap eB), erQ A h_1 r.2.1]) := by
  have hS := St.init hP
  unfold g_wire_Writer_Done at hm
  refine enter Tryz.func27 rfl rfl rfl ?_; intro a H; dsimp only [enumL, Nat.zero_add, Nat.reduceAdd] at H
  refine wp_seq (wp_region_lit (n_q H (q_assign rfl) rfl (W_q (q_assign rfl) rfl ?_))); clear H a; intro a H
  refine n_nil (then_normal (wp_seq (wp_seq (wp_region_lit (n_q H (q_move rfl) rfl (W_q (q_nilCheck rfl) rfl (W_q (q_fieldAddr0 rfl fo108_1) rfl (W_q (q_load rfl ((hS.blk 0 rfl).ld ag41 rfl)) rfl (W_q (q_cast (q_nnilI Tryz.underlying41 rfl rfl (hS.any 2 rfl : IsE A w v0_1 a0.err_).form) (show _ = Value.bool (!decide (a0.err_ = .nil)) by rw [IsErr.isNil (hS.any 2 rfl : IsE A w v0_1 a0.err_)])) rfl ?_))))))))); clear H a; intro a H
  refine n_nil (then_normal (c_cond H rfl (fun hc21 => ?_) (fun hc21 => ?_)))
  · replace hm := condT hm hc21
    refine wp_seq (c_quiet (by kernel_rfl) (by kernel_rfl) ?_)
    refine qq_q H (q_move rfl) rfl ?_; clear H a; intro a H
    refine qq_q H (q_nilCheck rfl) rfl ?_; clear H a; intro a H
    refine qq_q H (q_fieldAddr0 rfl fo108_1) rfl ?_; clear H a; intro a H
    refine qq_q H (q_load rfl ((hS.blk 0 rfl).ld ag41 rfl)) rfl ?_; clear H a; intro a H
    refine qq_q H (q_assign rfl) rfl ?_; clear H a; intro a H
    refine qq_q H (q_assign rfl) rfl ?_; clear H a; intro a H
    refine qq_nil ?_; intro w22 hE23
    replace hS := hS.ext hE23
    refine then_normal (wp_ret (then_ret ?_))
    obtain rfl := Option.some.inj hm
    replace hS := hS.nilOwn 5 1
    replace hS := hS.pk3
    replace hS := hS.pk1
    replace hS := hS.pk3
    replace hS := hS.pk3
    refine ret2 H (.inr rfl) rfl rfl rfl ?_
    exact ⟨_, _, _, _, rfl, hS⟩
  · replace hm := condF hm hc21
    refine wp_skip (then_normal (wp_seq (wp_region_lit (n_q H (q_move rfl) rfl (W_q (q_nilCheck rfl) rfl (W_q (q_fieldAddr0 rfl fo108_0) rfl (W_q (q_load rfl ((hS.blk 0 rfl).ld ag28 rfl)) rfl ?_))))))); clear H a; intro a H
    replace hm := bindS hm; obtain ⟨r25, hr25, hm⟩ := hm
    refine n_call H rfl en56 (g_slices_Clone_byte_w (A := A) ((hS.own 1 rfl).slr rfl (fun _ _ => rfl)) hr25) rfl ?_
    clear H; intro u26 w28 hv; clear a; intro a H; obtain ⟨_, rfl, hE29⟩ := hv
    replace hS := hS.new hE29; simp only [List.cons_append, List.nil_append] at hS
    refine n_q H (q_assign rfl) rfl (W_q (q_assign rfl) rfl ?_); clear H a; intro a H
    refine n_nil (then_normal (wp_ret ?_))
    obtain rfl := Option.some.inj hm
    replace hS := hS.dNil (A := A)
    replace hS := hS.pk1
    replace hS := hS.pk3
    replace hS := hS.pk3
    replace hS := hS.tk4
    refine ret2 H (.inr rfl) rfl rfl rfl ?_
    exact ⟨_, _, _, _, rfl, hS⟩
theorem g_wire_Writer_put_w {w : World} {A : Nat → Addr} {fp : Nat → Prop} {b0 : Nat} {v0_0 : Value} {v0_1 : Value} {a0 : GWireWriter} {v1 : Value} {a1 : List UInt8} (hP : Sep w fp [blkR b0 [v0_0, v0_1] 108, ownR 5 1 v0_0 a0.buf_.length (a0.buf_.flatMap eB), erQ A v0_1 a0.err_]) (h1 : ∀ w', ChgP fp w w' → SlR w' 1 (Flat eB) v1 a1) {r : GWireWriter} (hm : g_wire_Writer_put a0 a1 = some r) :
    Calls Tryz.prog 57 [.pointer (some ⟨b0, 0, none⟩), v1].toArray w (Ret fun u w' => ∃ h_0 h_1, u = .tuple #[] ∧ St fp w w' [blkR b0 [h_0, h_1] 108, ownR 5 1 h_0 r.buf_.length (r.buf_.flatMap eB), erQ A h_1 r.err_]) := by
  have hS := St.init hP
  unfold g_wire_Writer_put at hm
  refine enter Tryz.func57 rfl rfl rfl ?_; intro a H; dsimp only [enumL, Nat.zero_add, Nat.reduceAdd] at H
  refine wp_seq (wp_region_lit (n_q H (q_move rfl) rfl (W_q (q_nilCheck rfl) rfl (W_q (q_fieldAddr0 rfl fo108_1) rfl (W_q (q_load rfl ((hS.blk 0 rfl).ld ag41 rfl)) rfl (W_q (q_cast (q_nilI Tryz.underlying41 rfl rfl (hS.any 2 rfl : IsE A w v0_1 a0.err_).form) (show _ = Value.bool (decide (a0.err_ = .nil)) by rw [IsErr.isNil (hS.any 2 rfl : IsE A w v0_1 a0.err_)])) rfl ?_)))))); clear H a; intro a H
  refine n_nil (then_normal (c_cond H rfl (fun hc21 => ?_) (fun hc21 => ?_)))
  · replace hm := condT hm hc21
    refine wp_region_lit (n_q H (q_move rfl) rfl (W_q (q_move rfl) rfl (W_q (q_nilCheck rfl) rfl (W_q (q_fieldAddr0 rfl fo108_0) rfl (W_q (q_load rfl ((hS.blk 0 rfl).ld ag28 rfl)) rfl (W_q (q_move rfl) rfl ?_)))))); clear H a; intro a H
    replace hS := hS.pk1
    replace hm := chkS hm; obtain ⟨hk22, hm⟩ := hm
    refine n_app (e := eB) H rfl rfl Tryz.underlying28 Tryz.underlying28 (by simp) el5 (hS.own 0 rfl) ((h1 _ hS.chg).src (fun _ _ => rfl)) eB_one hk22 (by simp only [maxLen]; omega) rfl ?_
    clear H; intro v25 w23 hN hC24 hb; clear a; intro a H; replace hS := hS.setOwn hN hC24 hb; clear hN hb
    refine n_q H (q_nilCheck rfl) rfl (W_q (q_fieldAddr0 rfl fo108_0) rfl ?_); clear H a; intro a H
    replace hS := hS.pk1
    refine n_store1 H rfl rfl sz28 (hS.blk 0 rfl) (by simp) (((hS.own 1 rfl).slr rfl (fun _ _ => rfl))).one ?_
    clear H; intro w27 hN hC28 hz; clear a; intro a H; replace hS := hS.setBlk hN hC28; clear hN hz
    try simp only [List.set_cons_succ, List.set_cons_zero] at hS
    refine n_nil ?_
    obtain rfl := Option.some.inj hm
    refine ret0 H (.inl rfl) rfl ?_
    exact ⟨_, _, rfl, hS⟩
  · replace hm := condF hm hc21
    refine wp_skip ?_
    obtain rfl := Option.some.inj hm
    refine ret0 H (.inl rfl) rfl ?_
    exact ⟨_, _, rfl, hS⟩
theorem g_wire_most_w {w : World} {A : Nat → Addr} {a0 : Int} {r : Int} (hm : g_wire_most a0 = some r) :
    Calls Tryz.prog 75 [.int .i64 a0].toArray w (Ret fun u w' => u = .int .i64 r ∧ Ext w w') := by
  have hS := St.begin NB w
  unfold g_wire_most at hm
  refine enter Tryz.func75 rfl rfl rfl ?_; intro a H; dsimp only [enumL, Nat.zero_add, Nat.reduceAdd] at H
  refine wp_seq (wp_region_lit (n_q H (q_assign rfl) rfl ?_)); clear H a; intro a H
  refine n_nil (then_normal (wp_seq (wp_region_lit (n_q H (q_move rfl) rfl (W_q (q_mulW rfl rfl) rfl ?_))))); clear H a; intro a H
  replace hm := chkS hm; obtain ⟨hk21, hm⟩ := hm
  refine n_q H (q_shl rfl rfl hk21) rfl (W_q (q_subW rfl rfl) rfl (W_q (q_assign rfl) rfl ?_)); clear H a; intro a H
  refine n_nil (then_normal (wp_ret ?_))
  obtain rfl := Option.some.inj hm
  refine ret1 H (.inr rfl) rfl rfl ?_
  exact ⟨rfl, hS.x⟩
theorem g_wire_at_w {w : World} {A : Nat → Addr} {a0 : Int} {v1 : Value} {a1 : ErrM} (h1 : IsE A w v1 a1) {r : ErrM} (hm : g_wire_at a0 a1 = some r) :
    Calls Tryz.prog 87 [.int .i64 a0, v1].toArray w (Ret fun u w' => ∃ h_0, u = h_0 ∧ St NB w w' [erQ A h_0 r]) := by
  have hS := St.begin NB w
  unfold g_wire_at at hm
  refine enter Tryz.func87 rfl rfl rfl ?_; intro a H; dsimp only [enumL, Nat.zero_add, Nat.reduceAdd] at H
  refine wp_seq (wp_region_lit (n_q H (q_assign rfl) rfl ?_)); clear H a; intro a H
  refine n_nil (then_normal (wp_seq (wp_region_lit (n_q H (q_move rfl) rfl (W_q (q_move rfl) rfl (W_q (q_build (cs := [.int .i64 a0, v1]) ze94 bd94 pl94 rfl ((fill1 rfl rfl (by simp)).trans ((fill1 (IsErr.ext h1 hS.x).one rfl (by simp)).trans rfl))) rfl ?_)))))); clear H a; intro a H
  refine n_box H rfl (cs := [.int .i64 a0, v1]) rfl rfl ?_
  clear H; intro b21 w22 hN hE23 hs; clear a; intro a H
  replace hS := hS.newBlk hN hE23 hs; clear hN hs
  replace hm := bindS hm; obtain ⟨r24, hr24, hm⟩ := hm
  have hIr24 := (IsErr.ext h1 hS.x)
  refine n_q H (q_makeInterface Tryz.underlying90 (by simp) rfl) rfl ?_; clear H a; intro a H
  replace hS := hS.dAtE hIr24 hr24
  refine n_q H (q_assign rfl) rfl ?_; clear H a; intro a H
  refine n_nil (then_normal (wp_ret ?_))
  obtain rfl := Option.some.inj hm
  refine ret1 H (.inr rfl) rfl rfl ?_
  exact ⟨_, rfl, hS⟩
theorem g_wire_Writer_spoil_w {w : World} {A : Nat → Addr} {fp : Nat → Prop} {b0 : Nat} {v0_0 : Value} {v0_1 : Value} {a0 : GWireWriter} {v1 : Value} {a1 : ErrM} (hP : Sep w fp [blkR b0 [v0_0, v0_1] 108, ownR 5 1 v0_0 a0.buf_.length (a0.buf_.flatMap eB), erQ A v0_1 a0.err_]) (h1 : ∀ w', ChgP fp w w' → IsE A w' v1 a1) {r : GWireWriter} (hm : g_wire_Writer_spoil a0 a1 = some r) :
    Calls Tryz.prog 76 [.pointer (some ⟨b0, 0, none⟩), v1].toArray w (Ret fun u w' => ∃ h_0 h_1, u = .tuple #[] ∧ St fp w w' [blkR b0 [h_0, h_1] 108, ownR 5 1 h_0 r.buf_.length (r.buf_.flatMap eB), erQ A h_1 r.err_]) := by
  have hS := St.init hP
  unfold g_wire_Writer_spoil at hm
  refine enter Tryz.func76 rfl rfl rfl ?_; intro a H; dsimp only [enumL, Nat.zero_add, Nat.reduceAdd] at H
  refine wp_seq (wp_region_lit (n_q H (q_move rfl) rfl (W_q (q_nilCheck rfl) rfl (W_q (q_fieldAddr0 rfl fo108_1) rfl (W_q (q_load rfl ((hS.blk 0 rfl).ld ag41 rfl)) rfl (W_q (q_cast (q_nilI Tryz.underlying41 rfl rfl (hS.any 2 rfl : IsE A w v0_1 a0.err_).form) (show _ = Value.bool (decide (a0.err_ = .nil)) by rw [IsErr.isNil (hS.any 2 rfl : IsE A w v0_1 a0.err_)])) rfl ?_)))))); clear H a; intro a H
  refine n_nil (then_normal (c_cond H rfl (fun hc21 => ?_) (fun hc21 => ?_)))
  · replace hm := condT hm hc21
    refine wp_region_lit (n_q H (q_move rfl) rfl (W_q (q_move rfl) rfl (W_q (q_nilCheck rfl) rfl (W_q (q_fieldAddr0 rfl fo108_0) rfl (W_q (q_load rfl ((hS.blk 0 rfl).ld ag28 rfl)) rfl ?_))))); clear H a; intro a H
    obtain ⟨A22, c22, hv22, hl22, hm22⟩ := SlR.formV ((hS.own 1 rfl).slr rfl (fun _ _ => rfl))
    refine n_q H (q_lenV Tryz.underlying28 rfl hv22) rfl (W_q (q_move rfl) rfl ?_); clear H a; intro a H
    replace hm := bindS hm; obtain ⟨r23, hr23, hm⟩ := hm
    refine n_call H rfl en87 (g_wire_at_w (A := A) (h1 _ hS.chg) hr23) rfl ?_
    clear H; intro u24 w26 hv; clear a; intro a H; obtain ⟨_, rfl, hE27⟩ := hv
    replace hS := hS.new hE27; simp only [List.cons_append, List.nil_append] at hS
    refine n_q H (q_nilCheck rfl) rfl (W_q (q_fieldAddr0 rfl fo108_1) rfl ?_); clear H a; intro a H
    replace hS := hS.pk1
    refine n_store1 H rfl rfl sz41 (hS.blk 0 rfl) (by simp) (hS.any 1 rfl : IsE A w26 u24 r23).one ?_
    clear H; intro w29 hN hC30 hz; clear a; intro a H; replace hS := hS.setBlk hN hC30; clear hN hz
    try simp only [List.set_cons_succ, List.set_cons_zero] at hS
    refine n_nil ?_
    obtain rfl := Option.some.inj hm
    replace hS := hS.pk1
    replace hS := hS.pk2
    replace hS := hS.pk2
    replace hS := hS.tk3
    refine ret0 H (.inl rfl) rfl ?_
    exact ⟨_, _, rfl, hS⟩
  · replace hm := condF hm hc21
    refine wp_skip ?_
    obtain rfl := Option.some.inj hm
    refine ret0 H (.inl rfl) rfl ?_
    exact ⟨_, _, rfl, hS⟩
theorem g_wire_Writer_num_w {w : World} {A : Nat → Addr} {fp : Nat → Prop} {b0 : Nat} {v0_0 : Value} {v0_1 : Value} {a0 : GWireWriter} {a1 : Int} {a2 : Int} (hG : ∀ w', ChgP fp w w' → EV A w') (hP : Sep w fp [blkR b0 [v0_0, v0_1] 108, ownR 5 1 v0_0 a0.buf_.length (a0.buf_.flatMap eB), erQ A v0_1 a0.err_]) {r : GWireWriter} (hm : g_wire_Writer_num a0 a1 a2 = some r) :
    Calls Tryz.prog 58 [.pointer (some ⟨b0, 0, none⟩), .int .i64 a1, .int .i64 a2].toArray w (Ret fun u w' => ∃ h_0 h_1, u = .tuple #[] ∧ St fp w w' [blkR b0 [h_0, h_1] 108, ownR 5 1 h_0 r.buf_.length (r.buf_.flatMap eB), erQ A h_1 r.err_]) := by
  have hS := St.init hP
  unfold g_wire_Writer_num at hm
  refine enter Tryz.func58 rfl rfl rfl ?_; intro a H; dsimp only [enumL, Nat.zero_add, Nat.reduceAdd] at H
  refine wp_seq ?_
  replace hm := bindS hm; obtain ⟨j21, hm, hm21⟩ := hm
  refine c_join (σ := Bool) H (fun q522 => [(0, .pointer (some ⟨b0, 0, none⟩)), (1, .int .i64 a1), (2, .int .i64 a2), (14, .bool q522)]) (fun q522 wl => (g_wire_Writer_num_J3 a0 a1 a2) q522 = some r ∧ St fp w wl [blkR b0 [v0_0, v0_1] 108, ownR 5 1 v0_0 a0.buf_.length (a0.buf_.flatMap eB), erQ A v0_1 a0.err_]) ?_ ?_
  · skip
    refine wp_region_lit (n_q H (q_move rfl) rfl (W_q (q_lss rfl rfl) rfl (W_q (q_move rfl) rfl ?_))); clear H a; intro a H
    rcases Bool.eq_false_or_eq_true (decide (a1 < 0)) with hg523 | hg523
    · replace H := H.know 9 rfl hg523
      replace hm := condT hm hg523
      refine n_no H rfl rfl (by decide) rfl (W_no rfl rfl (by decide) rfl (W_no rfl rfl (by decide) rfl (W_no rfl rfl (by decide) rfl (W_q (q_pickT rfl rfl) rfl ?_)))); clear H a; intro a H
      refine n_nil (then_normal ?_)
      obtain rfl := Option.some.inj hm; replace hm := hm21; try dsimp only at hm
      exact join true H ⟨rfl, rfl, rfl, rfl, trivial⟩ ⟨hm, hS⟩
    · replace H := H.know 9 rfl hg523
      replace hm := condF hm hg523
      refine n_yes H rfl rfl (n_q H (q_move rfl) rfl (W_yes rfl rfl (W_q (q_move rfl) rfl (W_yes rfl rfl ?_)))); clear H a; intro a H
      replace hm := bindS hm; obtain ⟨r524, hr524, hm⟩ := hm
      refine n_call H rfl en75 (g_wire_most_w (A := A) hr524) rfl ?_
      clear H; intro x527 w525 hv; clear a; intro a H; obtain ⟨rfl, hE526⟩ := hv
      replace hS := hS.ext hE526
      refine n_yes H rfl rfl (n_q H (q_gtr rfl rfl) rfl (W_q (q_pickF rfl rfl) rfl ?_)); clear H a; intro a H
      refine n_nil (then_normal ?_)
      obtain rfl := Option.some.inj hm; replace hm := hm21; try dsimp only at hm
      exact join (decide (r524 < a1)) H ⟨rfl, rfl, rfl, rfl, trivial⟩ ⟨hm, hS⟩
  · clear H hS hm a; intro q522 a w528 H hR
    simp only [ent, List.map_cons, List.map_nil] at H; (try dsimp only at hR); obtain ⟨hm, hS⟩ := hR; try dsimp only [g_wire_Writer_num_J3] at hm
    refine c_cond H rfl (fun hc529 => ?_) (fun hc529 => ?_)
    · replace hm := condT hm hc529
      refine wp_seq (wp_region_lit (n_q H (q_move rfl) rfl (W_q (q_load rfl ((hG _ hS.chg).ld gRange (by decide) ag41)) rfl ?_))); clear H a; intro a H
      replace hS := hS.pk2
      replace hS := hS.pk2
      replace hS := hS.pk2
      obtain ⟨fp530, hG530, hK530, hR530, hF530⟩ := hS.frame (rs1 := [blkR b0 [v0_0, v0_1] 108, ownR 5 1 v0_0 a0.buf_.length (a0.buf_.flatMap eB), erQ A v0_1 a0.err_])
      replace hm := bindS hm; obtain ⟨r531, hr531, hm⟩ := hm
      refine n_call H rfl en76 (g_wire_Writer_spoil_w (A := A) hG530 (fun w' hw => (IsErr.var (by decide) : IsE A w' _ (.v gRange))) hr531) rfl ?_
      clear H; intro x537 w535 hv; clear a; intro a H; obtain ⟨u532, u533, rfl, hE536⟩ := hv
      replace hS := hF530 _ _ hE536; simp only [List.cons_append, List.nil_append] at hS; clear hG530 hK530 hR530 hF530
      refine n_nil (then_normal (wp_ret (then_ret ?_)))
      obtain rfl := Option.some.inj hm
      refine ret0 H (.inr rfl) rfl ?_
      exact ⟨_, _, rfl, hS⟩
    · replace hm := condF hm hc529
      refine wp_skip (then_normal (wp_seq (wp_region_lit (n_q H (q_move rfl) rfl (W_q (q_subW rfl rfl) rfl (W_q (q_assign rfl) rfl ?_)))))); clear H a; intro a H
      refine n_nil (then_normal (wp_block ?_))
      replace hm := bindS hm; obtain ⟨q538, hm, hm538⟩ := hm; replace hm := iter_some hm; obtain ⟨n538, hm⟩ := hm
      refine c_loop (σ := Nat × Int × (List UInt8) × ErrM × Value × Value) (fun (m, z539, l540, e543, v541, u544) => [(0, .pointer (some ⟨b0, 0, none⟩)), (1, .int .i64 a1), (6, .int .i64 z539)]) (fun (m, z539, l540, e543, v541, u544) wl => iterN (g_wire_Writer_num_L2 a1) m (z539, l540, e543) = some q538 ∧ St fp w wl [blkR b0 [v541, u544] 108, ownR 5 1 v541 l540.length (l540.flatMap eB), erQ A u544 e543]) (fun (m, z539, l540, e543, v541, u544) => m) (n538, (IntKind.i64.wrap (a2 - 1)), a0.buf_, a0.err_, v0_0, v0_1) H ⟨rfl, rfl, rfl, trivial⟩ ⟨hm, hS⟩ ?_
      clear H hS hm a; intro xx a w546 H hR; obtain ⟨m, z539, l540, e543, v541, u544⟩ := xx; simp only [ent, List.map_cons, List.map_nil] at H; (try dsimp only at hR); obtain ⟨hm, hS⟩ := hR
      replace hm := iterN_step hm; obtain ⟨m538, o538, rfl, hm, hn538⟩ := hm; try dsimp only [g_wire_Writer_num_L2] at hm
      refine wp_seq (wp_seq (wp_region_lit (n_q H (q_move rfl) rfl (W_q (q_geq rfl rfl) rfl ?_)))); clear H a; intro a H
      refine n_nil (then_normal (c_cond H rfl (fun hc547 => ?_) (fun hc547 => ?_)))
      · replace hm := condT hm hc547
        refine wp_skip (then_normal (wp_seq (wp_block (wp_region_lit (n_q H (q_move rfl) rfl (W_q (q_move rfl) rfl (W_q (q_move rfl) rfl (W_q (q_mulW rfl rfl) rfl ?_)))))))); clear H a; intro a H
        replace hm := chkS hm; obtain ⟨hk548, hm⟩ := hm
        refine n_q H (q_shr rfl rfl hk548) rfl (W_q (q_convI Tryz.underlying3 Tryz.underlying5 ⟨_, rfl⟩ rfl) rfl ?_); clear H a; intro a H
        refine n_buildSlice H Tryz.underlying28 sz5 ze5 rfl rfl rfl (cs := [.int .u8 (IntKind.u8.wrap (shR .i64 a1 (IntKind.i64.wrap (8 * z539))))]) (by kernel_rfl) rfl ?_
        clear H; intro b551 w549 hN hE550 hs; clear a; intro a H
        replace hS := hS.newBlk hN hE550 hs; clear hN hs
        replace hS := hS.blkOwnL (e := eB) (k := 1) [(byteOf (shR .i64 a1 (IntKind.i64.wrap (8 * z539))))] (by simp [eB_wrap, eB_lit]) rfl (by simp [maxLen])
        replace hS := hS.pk3
        replace hS := hS.pk3
        replace hS := hS.pk3
        obtain ⟨fp553, hG553, hK553, hR553, hF553⟩ := hS.frame (rs1 := [blkR b0 [v541, u544] 108, ownR 5 1 v541 l540.length (l540.flatMap eB), erQ A u544 e543])
        replace hm := bindS hm; obtain ⟨r554, hr554, hm⟩ := hm
        refine n_call H rfl en57 (g_wire_Writer_put_w (A := A) hG553 (fun w' hw => (restOwn (hR553 0 _ rfl _ hw)).slr rfl (fun _ _ => rfl)) hr554) rfl ?_
        clear H; intro x560 w558 hv; clear a; intro a H; obtain ⟨u555, u556, rfl, hE559⟩ := hv
        replace hS := hF553 _ _ hE559; simp only [List.cons_append, List.nil_append] at hS; clear hG553 hK553 hR553 hF553
        refine n_nil (block_normal (then_normal (wp_region_lit (n_q H (q_move rfl) rfl (W_q (q_subW rfl rfl) rfl (W_q (q_assign rfl) rfl ?_)))))); clear H a; intro a H
        refine n_nil (then_normal ?_)
        obtain rfl := Option.some.inj hm
        replace hS := hS.tk3
        exact round (m538, (IntKind.i64.wrap (z539 - 1)), r554.buf_, r554.err_, u555, u556) H ⟨rfl, rfl, rfl, trivial⟩ ⟨hn538, hS⟩ (Nat.lt_succ_self _)
      · replace hm := condF hm hc547
        refine wp_exit (then_exit (then_exit (block_exit ?_)))
        obtain rfl := Option.some.inj hm; have hz : _ = q538 := hn538; subst hz; replace hm := hm538; try dsimp only at hm
        obtain rfl := Option.some.inj hm
        refine ret0 H (.inl rfl) rfl ?_
        exact ⟨_, _, rfl, hS⟩
theorem g_wire_Writer_Record_w {w : World} {A : Nat → Addr} {fp : Nat → Prop} {b0 : Nat} {v0_0 : Value} {v0_1 : Value} {a0 : GWireWriter} {a1 : Int} {v2 : Value} {a2 : List UInt8} (hG : ∀ w', ChgP fp w w' → EV A w') (hP : Sep w fp [blkR b0 [v0_0, v0_1] 108, ownR 5 1 v0_0 a0.buf_.length (a0.buf_.flatMap eB), erQ A v0_1 a0.err_]) (h2 : ∀ w', ChgP fp w w' → SlR w' 1 (Flat eB) v2 a2) {r : GWireWriter} (hm : g_wire_Writer_Record a0 a1 a2 = some r) :
    Calls Tryz.prog 74 [.pointer (some ⟨b0, 0, none⟩), .int .i64 a1, v2].toArray w (Ret fun u w' => ∃ h_0 h_1, u = .tuple #[] ∧ St fp w w' [blkR b0 [h_0, h_1] 108, ownR 5 1 h_0 r.buf_.length (r.buf_.flatMap eB), erQ A h_1 r.err_]) := by
  have hS := St.init hP
  unfold g_wire_Writer_Record at hm
  refine enter Tryz.func74 rfl rfl rfl ?_; intro a H; dsimp only [enumL, Nat.zero_add, Nat.reduceAdd] at H
  refine wp_block ?_
  replace hm := bindS hm; obtain ⟨j21, hm, hm21⟩ := hm
  refine c_join (σ := Bool) H (fun q522 => [(0, .pointer (some ⟨b0, 0, none⟩)), (1, .int .i64 a1), (2, v2), (16, .bool q522)]) (fun q522 wl => (g_wire_Writer_Record_J1 a0 a1 a2) q522 = some r ∧ St fp w wl [blkR b0 [v0_0, v0_1] 108, ownR 5 1 v0_0 a0.buf_.length (a0.buf_.flatMap eB), erQ A v0_1 a0.err_]) ?_ ?_
  · skip
    refine wp_region_lit (n_q H (q_move rfl) rfl (W_q (q_lss rfl rfl) rfl (W_q (q_move rfl) rfl ?_))); clear H a; intro a H
    rcases Bool.eq_false_or_eq_true (decide (a1 < 1)) with hg523 | hg523
    · replace H := H.know 19 rfl hg523
      replace hm := condT hm hg523
      refine n_no H rfl rfl (by decide) rfl (W_no rfl rfl (by decide) rfl (W_no rfl rfl (by decide) rfl (W_q (q_pickT rfl rfl) rfl (W_q (q_assign rfl) rfl ?_)))); clear H a; intro a H
      refine n_nil (then_normal ?_)
      obtain rfl := Option.some.inj hm; replace hm := hm21; try dsimp only at hm
      exact join true H ⟨rfl, rfl, rfl, rfl, trivial⟩ ⟨hm, hS⟩
    · replace H := H.know 19 rfl hg523
      replace hm := condF hm hg523
      refine n_yes H rfl rfl (n_q H (q_move rfl) rfl (W_yes rfl rfl ?_)); clear H a; intro a H
      replace hm := bindS hm; obtain ⟨r524, hr524, hm⟩ := hm
      refine n_call H rfl en75 (g_wire_most_w (A := A) hr524) rfl ?_
      clear H; intro x527 w525 hv; clear a; intro a H; obtain ⟨rfl, hE526⟩ := hv
      replace hS := hS.ext hE526
      refine n_yes H rfl rfl (n_q H (q_gtr rfl rfl) rfl (W_q (q_pickF rfl rfl) rfl (W_q (q_assign rfl) rfl ?_))); clear H a; intro a H
      refine n_nil (then_normal ?_)
      obtain rfl := Option.some.inj hm; replace hm := hm21; try dsimp only at hm
      exact join (decide (r524 < a1)) H ⟨rfl, rfl, rfl, rfl, trivial⟩ ⟨hm, hS⟩
  · clear H hS hm a; intro q522 a w528 H hR
    simp only [ent, List.map_cons, List.map_nil] at H; (try dsimp only at hR); obtain ⟨hm, hS⟩ := hR; try dsimp only [g_wire_Writer_Record_J1] at hm
    refine c_cond H rfl (fun hc529 => ?_) (fun hc529 => ?_)
    · replace hm := condT hm hc529
      refine wp_region_lit (n_q H (q_move rfl) rfl (W_q (q_load rfl ((hG _ hS.chg).ld gTag (by decide) ag41)) rfl ?_)); clear H a; intro a H
      replace hS := hS.pk2
      replace hS := hS.pk2
      replace hS := hS.pk2
      obtain ⟨fp530, hG530, hK530, hR530, hF530⟩ := hS.frame (rs1 := [blkR b0 [v0_0, v0_1] 108, ownR 5 1 v0_0 a0.buf_.length (a0.buf_.flatMap eB), erQ A v0_1 a0.err_])
      replace hm := bindS hm; obtain ⟨r531, hr531, hm⟩ := hm
      refine n_call H rfl en76 (g_wire_Writer_spoil_w (A := A) hG530 (fun w' hw => (IsErr.var (by decide) : IsE A w' _ (.v gTag))) hr531) rfl ?_
      clear H; intro x537 w535 hv; clear a; intro a H; obtain ⟨u532, u533, rfl, hE536⟩ := hv
      replace hS := hF530 _ _ hE536; simp only [List.cons_append, List.nil_append] at hS; clear hG530 hK530 hR530 hF530
      refine n_nil (block_normal ?_)
      obtain rfl := Option.some.inj hm
      refine ret0 H (.inl rfl) rfl ?_
      exact ⟨_, _, rfl, hS⟩
    · replace hm := condF hm hc529
      refine wp_seq (wp_region_lit (n_q H (q_move rfl) rfl ?_)); clear H a; intro a H
      obtain ⟨A538, c538, hv538, hl538, hm538⟩ := SlR.formV (h2 _ hS.chg)
      refine n_q H (q_lenV Tryz.underlying28 rfl hv538) rfl (W_q (q_gtrN (i := a2.length) (j := 65535) rfl rfl) rfl (W_q (q_assign rfl) rfl ?_)); clear H a; intro a H
      refine n_nil (then_normal (c_cond H rfl (fun hc539 => ?_) (fun hc539 => ?_)))
      · replace hm := condT hm hc539
        refine wp_region_lit (n_q H (q_move rfl) rfl (W_q (q_load rfl ((hG _ hS.chg).ld gLength (by decide) ag41)) rfl ?_)); clear H a; intro a H
        replace hS := hS.pk2
        replace hS := hS.pk2
        replace hS := hS.pk2
        obtain ⟨fp540, hG540, hK540, hR540, hF540⟩ := hS.frame (rs1 := [blkR b0 [v0_0, v0_1] 108, ownR 5 1 v0_0 a0.buf_.length (a0.buf_.flatMap eB), erQ A v0_1 a0.err_])
        replace hm := bindS hm; obtain ⟨r541, hr541, hm⟩ := hm
        refine n_call H rfl en76 (g_wire_Writer_spoil_w (A := A) hG540 (fun w' hw => (IsErr.var (by decide) : IsE A w' _ (.v gLength))) hr541) rfl ?_
        clear H; intro x547 w545 hv; clear a; intro a H; obtain ⟨u542, u543, rfl, hE546⟩ := hv
        replace hS := hF540 _ _ hE546; simp only [List.cons_append, List.nil_append] at hS; clear hG540 hK540 hR540 hF540
        refine n_nil (block_normal ?_)
        obtain rfl := Option.some.inj hm
        refine ret0 H (.inl rfl) rfl ?_
        exact ⟨_, _, rfl, hS⟩
      · replace hm := condF hm hc539
        refine wp_seq (wp_region_lit (n_q H (q_move rfl) rfl (W_q (q_move rfl) rfl ?_))); clear H a; intro a H
        replace hS := hS.pk2
        replace hS := hS.pk2
        replace hS := hS.pk2
        obtain ⟨fp548, hG548, hK548, hR548, hF548⟩ := hS.frame (rs1 := [blkR b0 [v0_0, v0_1] 108, ownR 5 1 v0_0 a0.buf_.length (a0.buf_.flatMap eB), erQ A v0_1 a0.err_])
        replace hm := bindS hm; obtain ⟨r549, hr549, hm⟩ := hm
        refine n_call H rfl en58 (g_wire_Writer_num_w (A := A) (fun w' hw => hG _ (hK548 _ hw)) hG548 hr549) rfl ?_
        clear H; intro x555 w553 hv; clear a; intro a H; obtain ⟨u550, u551, rfl, hE554⟩ := hv
        replace hS := hF548 _ _ hE554; simp only [List.cons_append, List.nil_append] at hS; clear hG548 hK548 hR548 hF548
        refine n_nil (then_normal (wp_seq (wp_region_lit (n_q H (q_move rfl) rfl (W_q (q_move rfl) rfl (W_q (q_lenV Tryz.underlying28 rfl hv538) rfl ?_)))))); clear H a; intro a H
        replace hS := hS.pk2
        replace hS := hS.pk2
        replace hS := hS.pk2
        obtain ⟨fp556, hG556, hK556, hR556, hF556⟩ := hS.frame (rs1 := [blkR b0 [u550, u551] 108, ownR 5 1 u550 r549.buf_.length (r549.buf_.flatMap eB), erQ A u551 r549.err_])
        replace hm := bindS hm; obtain ⟨r557, hr557, hm⟩ := hm
        refine n_call H rfl en58 (g_wire_Writer_num_w (A := A) (fun w' hw => hG _ (hK556 _ hw)) hG556 hr557) rfl ?_
        clear H; intro x563 w561 hv; clear a; intro a H; obtain ⟨u558, u559, rfl, hE562⟩ := hv
        replace hS := hF556 _ _ hE562; simp only [List.cons_append, List.nil_append] at hS; clear hG556 hK556 hR556 hF556
        refine n_nil (then_normal (wp_region_lit (n_q H (q_move rfl) rfl (W_q (q_move rfl) rfl ?_)))); clear H a; intro a H
        replace hS := hS.pk2
        replace hS := hS.pk2
        replace hS := hS.pk2
        obtain ⟨fp564, hG564, hK564, hR564, hF564⟩ := hS.frame (rs1 := [blkR b0 [u558, u559] 108, ownR 5 1 u558 r557.buf_.length (r557.buf_.flatMap eB), erQ A u559 r557.err_])
        replace hm := bindS hm; obtain ⟨r565, hr565, hm⟩ := hm
        refine n_call H rfl en57 (g_wire_Writer_put_w (A := A) hG564 (fun w' hw => h2 _ (hK564 _ hw)) hr565) rfl ?_
        clear H; intro x571 w569 hv; clear a; intro a H; obtain ⟨u566, u567, rfl, hE570⟩ := hv
        replace hS := hF564 _ _ hE570; simp only [List.cons_append, List.nil_append] at hS; clear hG564 hK564 hR564 hF564
        refine n_nil (block_normal ?_)
        obtain rfl := Option.some.inj hm
        refine ret0 H (.inl rfl) rfl ?_
        exact ⟨_, _, rfl, hS⟩
theorem g_plan_record_w {w : World} {A : Nat → Addr} {fp : Nat → Prop} {b0 : Nat} {v0_0 : Value} {v0_1 : Value} {a0 : GWireWriter} {a1 : Int} {g2 : Nat} {fs2 : List Value} {cp2 : List Value} {Gd2 : World → Prop} {a2 : GWireWriter → Option GWireWriter} (hG : ∀ w', ChgP fp w w' → EV A w') (hP : Sep w fp [blkR b0 [v0_0, v0_1] 108, ownR 5 1 v0_0 a0.buf_.length (a0.buf_.flatMap eB), erQ A v0_1 a0.err_]) (he2 : entersB Tryz.prog g2 = true) (hd2 : ∀ w', ChgP fp w w' → Gd2 w') (hf2 : ∀ (w1 : World) (g : Nat → Prop) (b_0 : Nat) (v_0_0 : Value) (v_0_1 : Value) (x_0 : GWireWriter) (r : GWireWriter), (∀ w', ChgP g w1 w' → Gd2 w') → Sep w1 g [blkR b_0 [v_0_0, v_0_1] 108, ownR 5 1 v_0_0 x_0.buf_.length (x_0.buf_.flatMap eB), erQ A v_0_1 x_0.err_] → a2 x_0 = some r → Calls Tryz.prog g2 (fs2 ++ [Value.pointer (some ⟨b_0, 0, none⟩)] ++ cp2).toArray w1 (Ret fun u w' => ∃ h_0 h_1, u = .tuple #[] ∧ St g w1 w' [blkR b_0 [h_0, h_1] 108, ownR 5 1 h_0 r.buf_.length (r.buf_.flatMap eB), erQ A h_1 r.err_])) {r : GWireWriter} (hm : g_plan_record a0 a1 a2 = some r) :
    Calls Tryz.prog 49 [.pointer (some ⟨b0, 0, none⟩), .int .i64 a1, .func (.func g2) fs2.toArray cp2.toArray].toArray w (Ret fun u w' => ∃ h_0 h_1, u = .tuple #[] ∧ St fp w w' [blkR b0 [h_0, h_1] 108, ownR 5 1 h_0 r.buf_.length (r.buf_.flatMap eB), erQ A h_1 r.err_]) := by
  have hS := St.init hP
  unfold g_plan_record at hm
  refine enter Tryz.func49 rfl rfl rfl ?_; intro a H; dsimp only [enumL, Nat.zero_add, Nat.reduceAdd] at H
  refine wp_seq (wp_region_lit ?_)
  replace hm := bindS hm; obtain ⟨r21, hr21, hm⟩ := hm
  refine n_call H rfl en28 (g_wire_NewWriter_w (A := A) hr21) rfl ?_
  clear H; intro x28 w26 hv; clear a; intro a H; obtain ⟨u22, u23, u24, rfl, hE27⟩ := hv
  replace hS := hS.new hE27; simp only [List.cons_append, List.nil_append] at hS
  refine n_q H (q_assign rfl) rfl ?_; clear H a; intro a H
  refine n_nil (then_normal (wp_seq (wp_region_lit (n_q H (q_move rfl) rfl (W_q (q_move rfl) rfl ?_))))); clear H a; intro a H
  replace hS := hS.pk2
  replace hS := hS.pk2
  replace hS := hS.pk2
  obtain ⟨fp29, hG29, hK29, hR29, hF29⟩ := hS.frame (rs1 := [blkR u22 [u23, u24] 108, ownR 5 1 u23 r21.buf_.length (r21.buf_.flatMap eB), erQ A u24 r21.err_])
  replace hm := bindS hm; obtain ⟨r30, hr30, hm⟩ := hm
  refine n_callv H rfl rfl he2 (hf2 _ _ _ _ _ _ _ (fun w' hw => hd2 _ (hK29 _ hw)) hG29 hr30) rfl ?_
  clear H; intro x36 w34 hv; clear a; intro a H; obtain ⟨u31, u32, rfl, hE35⟩ := hv
  replace hS := hF29 _ _ hE35; simp only [List.cons_append, List.nil_append] at hS; clear hG29 hK29 hR29 hF29
  refine n_nil (then_normal (wp_seq (wp_region_lit (n_q H (q_move rfl) rfl ?_)))); clear H a; intro a H
  replace hS := hS.pk2
  replace hS := hS.pk2
  replace hS := hS.pk2
  obtain ⟨fp37, hG37, hK37, hR37, hF37⟩ := hS.frame (rs1 := [blkR u22 [u31, u32] 108, ownR 5 1 u31 r30.buf_.length (r30.buf_.flatMap eB), erQ A u32 r30.err_])
  replace hm := bindS hm; obtain ⟨r38, hr38, hm⟩ := hm
  refine n_call H rfl en27 (g_wire_Writer_Done_w (A := A) hG37 hr38) rfl ?_
  clear H; intro x48 w46 hv; clear a; intro a H; obtain ⟨u39, u40, u41, u42, rfl, hE47⟩ := hv
  replace hS := hF37 _ _ hE47; simp only [List.cons_append, List.nil_append] at hS; clear hG37 hK37 hR37 hF37
  refine n_q H (q_move rfl) rfl (W_q (q_extract rfl rfl) rfl (W_q (q_extract rfl rfl) rfl (W_q (q_assign rfl) rfl (W_q (q_assign rfl) rfl ?_)))); clear H a; intro a H
  refine n_nil (then_normal (wp_region_lit (n_q H (q_move rfl) rfl (W_q (q_move rfl) rfl (W_q (q_move rfl) rfl ?_))))); clear H a; intro a H
  replace hS := hS.pk6
  replace hS := hS.pk6
  replace hS := hS.pk6
  obtain ⟨fp49, hG49, hK49, hR49, hF49⟩ := hS.frame (rs1 := [blkR b0 [v0_0, v0_1] 108, ownR 5 1 v0_0 a0.buf_.length (a0.buf_.flatMap eB), erQ A v0_1 a0.err_])
  replace hm := bindS hm; obtain ⟨r50, hr50, hm⟩ := hm
  refine n_call H rfl en74 (g_wire_Writer_Record_w (A := A) (fun w' hw => hG _ (hK49 _ hw)) hG49 (fun w' hw => (restOwn (hR49 2 _ rfl _ hw)).slr rfl (fun _ _ => rfl)) hr50) rfl ?_
  clear H; intro x56 w54 hv; clear a; intro a H; obtain ⟨u51, u52, rfl, hE55⟩ := hv
  replace hS := hF49 _ _ hE55; simp only [List.cons_append, List.nil_append] at hS; clear hG49 hK49 hR49 hF49
  refine n_nil ?_
  obtain rfl := Option.some.inj hm
  replace hS := hS.tk3
  refine ret0 H (.inl rfl) rfl ?_
  exact ⟨_, _, rfl, hS⟩
theorem g_wire_Writer_Raw_w {w : World} {A : Nat → Addr} {fp : Nat → Prop} {b0 : Nat} {v0_0 : Value} {v0_1 : Value} {a0 : GWireWriter} {v1 : Value} {a1 : List UInt8} (hP : Sep w fp [blkR b0 [v0_0, v0_1] 108, ownR 5 1 v0_0 a0.buf_.length (a0.buf_.flatMap eB), erQ A v0_1 a0.err_]) (h1 : ∀ w', ChgP fp w w' → SlR w' 1 (Flat eB) v1 a1) {r : GWireWriter} (hm : g_wire_Writer_Raw a0 a1 = some r) :
    Calls Tryz.prog 29 [.pointer (some ⟨b0, 0, none⟩), v1].toArray w (Ret fun u w' => ∃ h_0 h_1, u = .tuple #[] ∧ St fp w w' [blkR b0 [h_0, h_1] 108, ownR 5 1 h_0 r.buf_.length (r.buf_.flatMap eB), erQ A h_1 r.err_]) := by
  have hS := St.init hP
  unfold g_wire_Writer_Raw at hm
  refine enter Tryz.func29 rfl rfl rfl ?_; intro a H; dsimp only [enumL, Nat.zero_add, Nat.reduceAdd] at H
  refine wp_region_lit (n_q H (q_move rfl) rfl (W_q (q_move rfl) rfl ?_)); clear H a; intro a H
  replace hS := hS.pk2
  replace hS := hS.pk2
  replace hS := hS.pk2
  obtain ⟨fp21, hG21, hK21, hR21, hF21⟩ := hS.frame (rs1 := [blkR b0 [v0_0, v0_1] 108, ownR 5 1 v0_0 a0.buf_.length (a0.buf_.flatMap eB), erQ A v0_1 a0.err_])
  replace hm := bindS hm; obtain ⟨r22, hr22, hm⟩ := hm
  refine n_call H rfl en57 (g_wire_Writer_put_w (A := A) hG21 (fun w' hw => h1 _ (hK21 _ hw)) hr22) rfl ?_
  clear H; intro x28 w26 hv; clear a; intro a H; obtain ⟨u23, u24, rfl, hE27⟩ := hv
  replace hS := hF21 _ _ hE27; simp only [List.cons_append, List.nil_append] at hS; clear hG21 hK21 hR21 hF21
  refine n_nil ?_
  obtain rfl := Option.some.inj hm
  refine ret0 H (.inl rfl) rfl ?_
  exact ⟨_, _, rfl, hS⟩
theorem g_wire_Writer_U8_w {w : World} {A : Nat → Addr} {fp : Nat → Prop} {b0 : Nat} {v0_0 : Value} {v0_1 : Value} {a0 : GWireWriter} {a1 : Int} (hG : ∀ w', ChgP fp w w' → EV A w') (hP : Sep w fp [blkR b0 [v0_0, v0_1] 108, ownR 5 1 v0_0 a0.buf_.length (a0.buf_.flatMap eB), erQ A v0_1 a0.err_]) {r : GWireWriter} (hm : g_wire_Writer_U8 a0 a1 = some r) :
    Calls Tryz.prog 51 [.pointer (some ⟨b0, 0, none⟩), .int .i64 a1].toArray w (Ret fun u w' => ∃ h_0 h_1, u = .tuple #[] ∧ St fp w w' [blkR b0 [h_0, h_1] 108, ownR 5 1 h_0 r.buf_.length (r.buf_.flatMap eB), erQ A h_1 r.err_]) := by
  have hS := St.init hP
  unfold g_wire_Writer_U8 at hm
  refine enter Tryz.func51 rfl rfl rfl ?_; intro a H; dsimp only [enumL, Nat.zero_add, Nat.reduceAdd] at H
  refine wp_region_lit (n_q H (q_move rfl) rfl (W_q (q_move rfl) rfl ?_)); clear H a; intro a H
  replace hS := hS.pk2
  replace hS := hS.pk2
  replace hS := hS.pk2
  obtain ⟨fp21, hG21, hK21, hR21, hF21⟩ := hS.frame (rs1 := [blkR b0 [v0_0, v0_1] 108, ownR 5 1 v0_0 a0.buf_.length (a0.buf_.flatMap eB), erQ A v0_1 a0.err_])
  replace hm := bindS hm; obtain ⟨r22, hr22, hm⟩ := hm
  refine n_call H rfl en58 (g_wire_Writer_num_w (A := A) (fun w' hw => hG _ (hK21 _ hw)) hG21 hr22) rfl ?_
  clear H; intro x28 w26 hv; clear a; intro a H; obtain ⟨u23, u24, rfl, hE27⟩ := hv
  replace hS := hF21 _ _ hE27; simp only [List.cons_append, List.nil_append] at hS; clear hG21 hK21 hR21 hF21
  refine n_nil ?_
  obtain rfl := Option.some.inj hm
  refine ret0 H (.inl rfl) rfl ?_
  exact ⟨_, _, rfl, hS⟩
theorem g_plan_records_1_w {w : World} {A : Nat → Addr} {fp : Nat → Prop} {b0 : Nat} {v0_0 : Value} {v0_1 : Value} {a0 : GWireWriter} {b1 : Nat} {a1 : GPagePlan} (hG : ∀ w', ChgP fp w w' → EV A w') (hP : Sep w fp [blkR b0 [v0_0, v0_1] 108, ownR 5 1 v0_0 a0.buf_.length (a0.buf_.flatMap eB), erQ A v0_1 a0.err_]) (hc1_0 : ∀ w', ChgP fp w w' → Blk w' b1 [.int .i64 a1.Rights, .string a1.Init] 69) {r : GWireWriter} (hm : g_plan_records_1 a0 a1 = some r) :
    Calls Tryz.prog 50 [.pointer (some ⟨b0, 0, none⟩), .pointer (some ⟨b1, 0, none⟩)].toArray w (Ret fun u w' => ∃ h_0 h_1, u = .tuple #[] ∧ St fp w w' [blkR b0 [h_0, h_1] 108, ownR 5 1 h_0 r.buf_.length (r.buf_.flatMap eB), erQ A h_1 r.err_]) := by
  have hS := St.init hP
  unfold g_plan_records_1 at hm
  refine enter Tryz.func50 rfl rfl rfl ?_; intro a H; dsimp only [enumL, Nat.zero_add, Nat.reduceAdd] at H
  refine wp_seq (wp_region_lit (n_q H (q_move rfl) rfl (W_q (q_fieldAddr0 rfl fo69_0) rfl (W_q (q_load rfl ((hc1_0 _ hS.chg).ld ag3 rfl)) rfl ?_)))); clear H a; intro a H
  replace hS := hS.pk2
  replace hS := hS.pk2
  replace hS := hS.pk2
  obtain ⟨fp21, hG21, hK21, hR21, hF21⟩ := hS.frame (rs1 := [blkR b0 [v0_0, v0_1] 108, ownR 5 1 v0_0 a0.buf_.length (a0.buf_.flatMap eB), erQ A v0_1 a0.err_])
  replace hm := bindS hm; obtain ⟨r22, hr22, hm⟩ := hm
  refine n_call H rfl en51 (g_wire_Writer_U8_w (A := A) (fun w' hw => hG _ (hK21 _ hw)) hG21 hr22) rfl ?_
  clear H; intro x28 w26 hv; clear a; intro a H; obtain ⟨u23, u24, rfl, hE27⟩ := hv
  replace hS := hF21 _ _ hE27; simp only [List.cons_append, List.nil_append] at hS; clear hG21 hK21 hR21 hF21
  refine n_nil (then_normal (wp_region_lit (n_q H (q_move rfl) rfl (W_q (q_fieldAddr0 rfl fo69_1) rfl (W_q (q_load rfl ((hc1_0 _ hS.chg).ld ag9 rfl)) rfl ?_))))); clear H a; intro a H
  replace hm := chkS hm; obtain ⟨hk29, hm⟩ := hm
  refine n_bytes H Tryz.underlying9 Tryz.underlying28 Tryz.underlying5 rfl (by simp only [maxLen]; exact hk29) rfl ?_
  clear H; intro v32 w30 hN hE31 hs; clear a; intro a H
  replace hS := hS.newOwn hN hE31 (by rw [hs]; intro c hc; rw [List.mem_singleton.1 hc]; exact Nat.le_refl _); clear hN hs
  replace hS := hS.pk3
  replace hS := hS.pk3
  replace hS := hS.pk3
  obtain ⟨fp34, hG34, hK34, hR34, hF34⟩ := hS.frame (rs1 := [blkR b0 [u23, u24] 108, ownR 5 1 u23 r22.buf_.length (r22.buf_.flatMap eB), erQ A u24 r22.err_])
  replace hm := bindS hm; obtain ⟨r35, hr35, hm⟩ := hm
  refine n_call H rfl en29 (g_wire_Writer_Raw_w (A := A) hG34 (fun w' hw => (restOwn (hR34 0 _ rfl _ hw)).slr rfl (fun _ _ => rfl)) hr35) rfl ?_
  clear H; intro x41 w39 hv; clear a; intro a H; obtain ⟨u36, u37, rfl, hE40⟩ := hv
  replace hS := hF34 _ _ hE40; simp only [List.cons_append, List.nil_append] at hS; clear hG34 hK34 hR34 hF34
  refine n_nil ?_
  obtain rfl := Option.some.inj hm
  replace hS := hS.tk3
  refine ret0 H (.inl rfl) rfl ?_
  exact ⟨_, _, rfl, hS⟩
theorem g_wire_Writer_U32_w {w : World} {A : Nat → Addr} {fp : Nat → Prop} {b0 : Nat} {v0_0 : Value} {v0_1 : Value} {a0 : GWireWriter} {a1 : Int} (hG : ∀ w', ChgP fp w w' → EV A w') (hP : Sep w fp [blkR b0 [v0_0, v0_1] 108, ownR 5 1 v0_0 a0.buf_.length (a0.buf_.flatMap eB), erQ A v0_1 a0.err_]) {r : GWireWriter} (hm : g_wire_Writer_U32 a0 a1 = some r) :
    Calls Tryz.prog 31 [.pointer (some ⟨b0, 0, none⟩), .int .i64 a1].toArray w (Ret fun u w' => ∃ h_0 h_1, u = .tuple #[] ∧ St fp w w' [blkR b0 [h_0, h_1] 108, ownR 5 1 h_0 r.buf_.length (r.buf_.flatMap eB), erQ A h_1 r.err_]) := by
  have hS := St.init hP
  unfold g_wire_Writer_U32 at hm
  refine enter Tryz.func31 rfl rfl rfl ?_; intro a H; dsimp only [enumL, Nat.zero_add, Nat.reduceAdd] at H
  refine wp_region_lit (n_q H (q_move rfl) rfl (W_q (q_move rfl) rfl ?_)); clear H a; intro a H
  replace hS := hS.pk2
  replace hS := hS.pk2
  replace hS := hS.pk2
  obtain ⟨fp21, hG21, hK21, hR21, hF21⟩ := hS.frame (rs1 := [blkR b0 [v0_0, v0_1] 108, ownR 5 1 v0_0 a0.buf_.length (a0.buf_.flatMap eB), erQ A v0_1 a0.err_])
  replace hm := bindS hm; obtain ⟨r22, hr22, hm⟩ := hm
  refine n_call H rfl en58 (g_wire_Writer_num_w (A := A) (fun w' hw => hG _ (hK21 _ hw)) hG21 hr22) rfl ?_
  clear H; intro x28 w26 hv; clear a; intro a H; obtain ⟨u23, u24, rfl, hE27⟩ := hv
  replace hS := hF21 _ _ hE27; simp only [List.cons_append, List.nil_append] at hS; clear hG21 hK21 hR21 hF21
  refine n_nil ?_
  obtain rfl := Option.some.inj hm
  refine ret0 H (.inl rfl) rfl ?_
  exact ⟨_, _, rfl, hS⟩
theorem g_wire_Writer_Flag_w {w : World} {A : Nat → Addr} {fp : Nat → Prop} {b0 : Nat} {v0_0 : Value} {v0_1 : Value} {a0 : GWireWriter} {a1 : Bool} (hP : Sep w fp [blkR b0 [v0_0, v0_1] 108, ownR 5 1 v0_0 a0.buf_.length (a0.buf_.flatMap eB), erQ A v0_1 a0.err_]) {r : GWireWriter} (hm : g_wire_Writer_Flag a0 a1 = some r) :
    Calls Tryz.prog 32 [.pointer (some ⟨b0, 0, none⟩), .bool a1].toArray w (Ret fun u w' => ∃ h_0 h_1, u = .tuple #[] ∧ St fp w w' [blkR b0 [h_0, h_1] 108, ownR 5 1 h_0 r.buf_.length (r.buf_.flatMap eB), erQ A h_1 r.err_]) := by
  have hS := St.init hP
  unfold g_wire_Writer_Flag at hm
  refine enter Tryz.func32 rfl rfl rfl ?_; intro a H; dsimp only [enumL, Nat.zero_add, Nat.reduceAdd] at H
  refine wp_seq (wp_region_lit (n_q H (q_move rfl) rfl ?_)); clear H a; intro a H
  refine n_nil (then_normal (c_cond H rfl (fun hc21 => ?_) (fun hc21 => ?_)))
  · replace hm := condT hm hc21
    refine wp_region_lit (n_q H (q_move rfl) rfl ?_); clear H a; intro a H
    refine n_buildSlice H Tryz.underlying28 sz5 ze5 rfl rfl rfl (cs := [.int .u8 1]) (by kernel_rfl) rfl ?_
    clear H; intro b24 w22 hN hE23 hs; clear a; intro a H
    replace hS := hS.newBlk hN hE23 hs; clear hN hs
    replace hS := hS.blkOwnL (e := eB) (k := 1) [(byteOf 1)] (by kernel_rfl) rfl (by simp [maxLen])
    replace hS := hS.pk3
    replace hS := hS.pk3
    replace hS := hS.pk3
    obtain ⟨fp26, hG26, hK26, hR26, hF26⟩ := hS.frame (rs1 := [blkR b0 [v0_0, v0_1] 108, ownR 5 1 v0_0 a0.buf_.length (a0.buf_.flatMap eB), erQ A v0_1 a0.err_])
    replace hm := bindS hm; obtain ⟨r27, hr27, hm⟩ := hm
    refine n_call H rfl en57 (g_wire_Writer_put_w (A := A) hG26 (fun w' hw => (restOwn (hR26 0 _ rfl _ hw)).slr rfl (fun _ _ => rfl)) hr27) rfl ?_
    clear H; intro x33 w31 hv; clear a; intro a H; obtain ⟨u28, u29, rfl, hE32⟩ := hv
    replace hS := hF26 _ _ hE32; simp only [List.cons_append, List.nil_append] at hS; clear hG26 hK26 hR26 hF26
    refine n_nil ?_
    obtain rfl := Option.some.inj hm
    replace hS := hS.tk3
    refine ret0 H (.inl rfl) rfl ?_
    exact ⟨_, _, rfl, hS⟩
  · replace hm := condF hm hc21
    refine wp_region_lit (n_q H (q_move rfl) rfl ?_); clear H a; intro a H
    refine n_buildSlice H Tryz.underlying28 sz5 ze5 rfl rfl rfl (cs := [.int .u8 0]) (by kernel_rfl) rfl ?_
    clear H; intro b36 w34 hN hE35 hs; clear a; intro a H
    replace hS := hS.newBlk hN hE35 hs; clear hN hs
    replace hS := hS.blkOwnL (e := eB) (k := 1) [(byteOf 0)] (by kernel_rfl) rfl (by simp [maxLen])
    replace hS := hS.pk3
    replace hS := hS.pk3
    replace hS := hS.pk3
    obtain ⟨fp38, hG38, hK38, hR38, hF38⟩ := hS.frame (rs1 := [blkR b0 [v0_0, v0_1] 108, ownR 5 1 v0_0 a0.buf_.length (a0.buf_.flatMap eB), erQ A v0_1 a0.err_])
    replace hm := bindS hm; obtain ⟨r39, hr39, hm⟩ := hm
    refine n_call H rfl en57 (g_wire_Writer_put_w (A := A) hG38 (fun w' hw => (restOwn (hR38 0 _ rfl _ hw)).slr rfl (fun _ _ => rfl)) hr39) rfl ?_
    clear H; intro x45 w43 hv; clear a; intro a H; obtain ⟨u40, u41, rfl, hE44⟩ := hv
    replace hS := hF38 _ _ hE44; simp only [List.cons_append, List.nil_append] at hS; clear hG38 hK38 hR38 hF38
    refine n_nil ?_
    obtain rfl := Option.some.inj hm
    replace hS := hS.tk3
    refine ret0 H (.inl rfl) rfl ?_
    exact ⟨_, _, rfl, hS⟩
theorem g_plan_records_2_w {w : World} {A : Nat → Addr} {fp : Nat → Prop} {b0 : Nat} {v0_0 : Value} {v0_1 : Value} {a0 : GWireWriter} {b1 : Nat} {a1 : GProcPlan} (hG : ∀ w', ChgP fp w w' → EV A w') (hP : Sep w fp [blkR b0 [v0_0, v0_1] 108, ownR 5 1 v0_0 a0.buf_.length (a0.buf_.flatMap eB), erQ A v0_1 a0.err_]) (hc1_0 : ∀ w', ChgP fp w w' → Blk w' b1 [.int .i64 a1.Entry, .int .i64 a1.Prio, .bool a1.Auto] 62) {r : GWireWriter} (hm : g_plan_records_2 a0 a1 = some r) :
    Calls Tryz.prog 52 [.pointer (some ⟨b0, 0, none⟩), .pointer (some ⟨b1, 0, none⟩)].toArray w (Ret fun u w' => ∃ h_0 h_1, u = .tuple #[] ∧ St fp w w' [blkR b0 [h_0, h_1] 108, ownR 5 1 h_0 r.buf_.length (r.buf_.flatMap eB), erQ A h_1 r.err_]) := by
  have hS := St.init hP
  unfold g_plan_records_2 at hm
  refine enter Tryz.func52 rfl rfl rfl ?_; intro a H; dsimp only [enumL, Nat.zero_add, Nat.reduceAdd] at H
  refine wp_seq (wp_region_lit (n_q H (q_move rfl) rfl (W_q (q_fieldAddr0 rfl fo62_0) rfl (W_q (q_load rfl ((hc1_0 _ hS.chg).ld ag3 rfl)) rfl ?_)))); clear H a; intro a H
  replace hS := hS.pk2
  replace hS := hS.pk2
  replace hS := hS.pk2
  obtain ⟨fp21, hG21, hK21, hR21, hF21⟩ := hS.frame (rs1 := [blkR b0 [v0_0, v0_1] 108, ownR 5 1 v0_0 a0.buf_.length (a0.buf_.flatMap eB), erQ A v0_1 a0.err_])
  replace hm := bindS hm; obtain ⟨r22, hr22, hm⟩ := hm
  refine n_call H rfl en31 (g_wire_Writer_U32_w (A := A) (fun w' hw => hG _ (hK21 _ hw)) hG21 hr22) rfl ?_
  clear H; intro x28 w26 hv; clear a; intro a H; obtain ⟨u23, u24, rfl, hE27⟩ := hv
  replace hS := hF21 _ _ hE27; simp only [List.cons_append, List.nil_append] at hS; clear hG21 hK21 hR21 hF21
  refine n_nil (then_normal (wp_seq (wp_region_lit (n_q H (q_move rfl) rfl (W_q (q_fieldAddr0 rfl fo62_1) rfl (W_q (q_load rfl ((hc1_0 _ hS.chg).ld ag3 rfl)) rfl ?_)))))); clear H a; intro a H
  replace hS := hS.pk2
  replace hS := hS.pk2
  replace hS := hS.pk2
  obtain ⟨fp29, hG29, hK29, hR29, hF29⟩ := hS.frame (rs1 := [blkR b0 [u23, u24] 108, ownR 5 1 u23 r22.buf_.length (r22.buf_.flatMap eB), erQ A u24 r22.err_])
  replace hm := bindS hm; obtain ⟨r30, hr30, hm⟩ := hm
  refine n_call H rfl en51 (g_wire_Writer_U8_w (A := A) (fun w' hw => hG _ (hK29 _ hw)) hG29 hr30) rfl ?_
  clear H; intro x36 w34 hv; clear a; intro a H; obtain ⟨u31, u32, rfl, hE35⟩ := hv
  replace hS := hF29 _ _ hE35; simp only [List.cons_append, List.nil_append] at hS; clear hG29 hK29 hR29 hF29
  refine n_nil (then_normal (wp_region_lit (n_q H (q_move rfl) rfl (W_q (q_fieldAddr0 rfl fo62_2) rfl (W_q (q_load rfl ((hc1_0 _ hS.chg).ld ag4 rfl)) rfl ?_))))); clear H a; intro a H
  replace hS := hS.pk2
  replace hS := hS.pk2
  replace hS := hS.pk2
  obtain ⟨fp37, hG37, hK37, hR37, hF37⟩ := hS.frame (rs1 := [blkR b0 [u31, u32] 108, ownR 5 1 u31 r30.buf_.length (r30.buf_.flatMap eB), erQ A u32 r30.err_])
  replace hm := bindS hm; obtain ⟨r38, hr38, hm⟩ := hm
  refine n_call H rfl en32 (g_wire_Writer_Flag_w (A := A) hG37 hr38) rfl ?_
  clear H; intro x44 w42 hv; clear a; intro a H; obtain ⟨u39, u40, rfl, hE43⟩ := hv
  replace hS := hF37 _ _ hE43; simp only [List.cons_append, List.nil_append] at hS; clear hG37 hK37 hR37 hF37
  refine n_nil ?_
  obtain rfl := Option.some.inj hm
  refine ret0 H (.inl rfl) rfl ?_
  exact ⟨_, _, rfl, hS⟩
theorem g_plan_records_3_w {w : World} {A : Nat → Addr} {fp : Nat → Prop} {b0 : Nat} {v0_0 : Value} {v0_1 : Value} {a0 : GWireWriter} {b1 : Nat} {a1 : GPortPlan} (hG : ∀ w', ChgP fp w w' → EV A w') (hP : Sep w fp [blkR b0 [v0_0, v0_1] 108, ownR 5 1 v0_0 a0.buf_.length (a0.buf_.flatMap eB), erQ A v0_1 a0.err_]) (hc1_0 : ∀ w', ChgP fp w w' → Blk w' b1 [.int .i64 a1.Kind, .int .i64 a1.Size, .int .i64 a1.Depth, .int .i64 a1.Refresh] 78) {r : GWireWriter} (hm : g_plan_records_3 a0 a1 = some r) :
    Calls Tryz.prog 53 [.pointer (some ⟨b0, 0, none⟩), .pointer (some ⟨b1, 0, none⟩)].toArray w (Ret fun u w' => ∃ h_0 h_1, u = .tuple #[] ∧ St fp w w' [blkR b0 [h_0, h_1] 108, ownR 5 1 h_0 r.buf_.length (r.buf_.flatMap eB), erQ A h_1 r.err_]) := by
  have hS := St.init hP
  unfold g_plan_records_3 at hm
  refine enter Tryz.func53 rfl rfl rfl ?_; intro a H; dsimp only [enumL, Nat.zero_add, Nat.reduceAdd] at H
  refine wp_seq (wp_region_lit (n_q H (q_move rfl) rfl (W_q (q_fieldAddr0 rfl fo78_0) rfl (W_q (q_load rfl ((hc1_0 _ hS.chg).ld ag3 rfl)) rfl ?_)))); clear H a; intro a H
  replace hS := hS.pk2
  replace hS := hS.pk2
  replace hS := hS.pk2
  obtain ⟨fp21, hG21, hK21, hR21, hF21⟩ := hS.frame (rs1 := [blkR b0 [v0_0, v0_1] 108, ownR 5 1 v0_0 a0.buf_.length (a0.buf_.flatMap eB), erQ A v0_1 a0.err_])
  replace hm := bindS hm; obtain ⟨r22, hr22, hm⟩ := hm
  refine n_call H rfl en51 (g_wire_Writer_U8_w (A := A) (fun w' hw => hG _ (hK21 _ hw)) hG21 hr22) rfl ?_
  clear H; intro x28 w26 hv; clear a; intro a H; obtain ⟨u23, u24, rfl, hE27⟩ := hv
  replace hS := hF21 _ _ hE27; simp only [List.cons_append, List.nil_append] at hS; clear hG21 hK21 hR21 hF21
  refine n_nil (then_normal (wp_seq (wp_region_lit (n_q H (q_move rfl) rfl (W_q (q_fieldAddr0 rfl fo78_1) rfl (W_q (q_load rfl ((hc1_0 _ hS.chg).ld ag3 rfl)) rfl ?_)))))); clear H a; intro a H
  replace hS := hS.pk2
  replace hS := hS.pk2
  replace hS := hS.pk2
  obtain ⟨fp29, hG29, hK29, hR29, hF29⟩ := hS.frame (rs1 := [blkR b0 [u23, u24] 108, ownR 5 1 u23 r22.buf_.length (r22.buf_.flatMap eB), erQ A u24 r22.err_])
  replace hm := bindS hm; obtain ⟨r30, hr30, hm⟩ := hm
  refine n_call H rfl en51 (g_wire_Writer_U8_w (A := A) (fun w' hw => hG _ (hK29 _ hw)) hG29 hr30) rfl ?_
  clear H; intro x36 w34 hv; clear a; intro a H; obtain ⟨u31, u32, rfl, hE35⟩ := hv
  replace hS := hF29 _ _ hE35; simp only [List.cons_append, List.nil_append] at hS; clear hG29 hK29 hR29 hF29
  refine n_nil (then_normal (wp_seq (wp_region_lit (n_q H (q_move rfl) rfl (W_q (q_fieldAddr0 rfl fo78_2) rfl (W_q (q_load rfl ((hc1_0 _ hS.chg).ld ag3 rfl)) rfl ?_)))))); clear H a; intro a H
  replace hS := hS.pk2
  replace hS := hS.pk2
  replace hS := hS.pk2
  obtain ⟨fp37, hG37, hK37, hR37, hF37⟩ := hS.frame (rs1 := [blkR b0 [u31, u32] 108, ownR 5 1 u31 r30.buf_.length (r30.buf_.flatMap eB), erQ A u32 r30.err_])
  replace hm := bindS hm; obtain ⟨r38, hr38, hm⟩ := hm
  refine n_call H rfl en51 (g_wire_Writer_U8_w (A := A) (fun w' hw => hG _ (hK37 _ hw)) hG37 hr38) rfl ?_
  clear H; intro x44 w42 hv; clear a; intro a H; obtain ⟨u39, u40, rfl, hE43⟩ := hv
  replace hS := hF37 _ _ hE43; simp only [List.cons_append, List.nil_append] at hS; clear hG37 hK37 hR37 hF37
  refine n_nil (then_normal (wp_region_lit (n_q H (q_move rfl) rfl (W_q (q_fieldAddr0 rfl fo78_3) rfl (W_q (q_load rfl ((hc1_0 _ hS.chg).ld ag3 rfl)) rfl ?_))))); clear H a; intro a H
  replace hS := hS.pk2
  replace hS := hS.pk2
  replace hS := hS.pk2
  obtain ⟨fp45, hG45, hK45, hR45, hF45⟩ := hS.frame (rs1 := [blkR b0 [u39, u40] 108, ownR 5 1 u39 r38.buf_.length (r38.buf_.flatMap eB), erQ A u40 r38.err_])
  replace hm := bindS hm; obtain ⟨r46, hr46, hm⟩ := hm
  refine n_call H rfl en51 (g_wire_Writer_U8_w (A := A) (fun w' hw => hG _ (hK45 _ hw)) hG45 hr46) rfl ?_
  clear H; intro x52 w50 hv; clear a; intro a H; obtain ⟨u47, u48, rfl, hE51⟩ := hv
  replace hS := hF45 _ _ hE51; simp only [List.cons_append, List.nil_append] at hS; clear hG45 hK45 hR45 hF45
  refine n_nil ?_
  obtain rfl := Option.some.inj hm
  refine ret0 H (.inl rfl) rfl ?_
  exact ⟨_, _, rfl, hS⟩
theorem g_plan_records_4_w {w : World} {A : Nat → Addr} {fp : Nat → Prop} {b0 : Nat} {v0_0 : Value} {v0_1 : Value} {a0 : GWireWriter} {b1 : Nat} {v1_0 : Value} {v1_1 : Value} {v1_2 : Value} {v1_3 : Value} {a1 : GPlan} (hG : ∀ w', ChgP fp w w' → EV A w') (hP : Sep w fp [blkR b0 [v0_0, v0_1] 108, ownR 5 1 v0_0 a0.buf_.length (a0.buf_.flatMap eB), erQ A v0_1 a0.err_]) (hc1_0 : ∀ w', ChgP fp w w' → Blk w' b1 [.int .i64 a1.Id, .bool a1.Mobile, v1_0, v1_1, v1_2, .int .i64 a1.Events, v1_3] 27) (hc1_1 : ∀ w', ChgP fp w w' → SlR w' 2 (Flat eGPagePlan) v1_0 a1.Pages) (hc1_2 : ∀ w', ChgP fp w w' → SlR w' 3 (Flat eGProcPlan) v1_1 a1.Procs) (hc1_3 : ∀ w', ChgP fp w w' → SlR w' 4 (Flat eGPortPlan) v1_2 a1.Ports) (hc1_4 : ∀ w', ChgP fp w w' → SlR w' 1 (Flat eI) v1_3 a1.Sems) {r : GWireWriter} (hm : g_plan_records_4 a0 a1 = some r) :
    Calls Tryz.prog 54 [.pointer (some ⟨b0, 0, none⟩), .pointer (some ⟨b1, 0, none⟩)].toArray w (Ret fun u w' => ∃ h_0 h_1, u = .tuple #[] ∧ St fp w w' [blkR b0 [h_0, h_1] 108, ownR 5 1 h_0 r.buf_.length (r.buf_.flatMap eB), erQ A h_1 r.err_]) := by
  have hS := St.init hP
  unfold g_plan_records_4 at hm
  refine enter Tryz.func54 rfl rfl rfl ?_; intro a H; dsimp only [enumL, Nat.zero_add, Nat.reduceAdd] at H
  refine wp_region_lit (n_q H (q_move rfl) rfl (W_q (q_fieldAddr0 rfl fo27_5) rfl (W_q (q_load rfl ((hc1_0 _ hS.chg).ld ag3 rfl)) rfl ?_))); clear H a; intro a H
  replace hS := hS.pk2
  replace hS := hS.pk2
  replace hS := hS.pk2
  obtain ⟨fp21, hG21, hK21, hR21, hF21⟩ := hS.frame (rs1 := [blkR b0 [v0_0, v0_1] 108, ownR 5 1 v0_0 a0.buf_.length (a0.buf_.flatMap eB), erQ A v0_1 a0.err_])
  replace hm := bindS hm; obtain ⟨r22, hr22, hm⟩ := hm
  refine n_call H rfl en51 (g_wire_Writer_U8_w (A := A) (fun w' hw => hG _ (hK21 _ hw)) hG21 hr22) rfl ?_
  clear H; intro x28 w26 hv; clear a; intro a H; obtain ⟨u23, u24, rfl, hE27⟩ := hv
  replace hS := hF21 _ _ hE27; simp only [List.cons_append, List.nil_append] at hS; clear hG21 hK21 hR21 hF21
  refine n_nil ?_
  obtain rfl := Option.some.inj hm
  refine ret0 H (.inl rfl) rfl ?_
  exact ⟨_, _, rfl, hS⟩
theorem g_plan_records_5_w {w : World} {A : Nat → Addr} {fp : Nat → Prop} {b0 : Nat} {v0_0 : Value} {v0_1 : Value} {a0 : GWireWriter} {b1 : Nat} {v1_0 : Value} {v1_1 : Value} {v1_2 : Value} {v1_3 : Value} {a1 : GPlan} (hG : ∀ w', ChgP fp w w' → EV A w') (hP : Sep w fp [blkR b0 [v0_0, v0_1] 108, ownR 5 1 v0_0 a0.buf_.length (a0.buf_.flatMap eB), erQ A v0_1 a0.err_]) (hc1_0 : ∀ w', ChgP fp w w' → Blk w' b1 [.int .i64 a1.Id, .bool a1.Mobile, v1_0, v1_1, v1_2, .int .i64 a1.Events, v1_3] 27) (hc1_1 : ∀ w', ChgP fp w w' → SlR w' 2 (Flat eGPagePlan) v1_0 a1.Pages) (hc1_2 : ∀ w', ChgP fp w w' → SlR w' 3 (Flat eGProcPlan) v1_1 a1.Procs) (hc1_3 : ∀ w', ChgP fp w w' → SlR w' 4 (Flat eGPortPlan) v1_2 a1.Ports) (hc1_4 : ∀ w', ChgP fp w w' → SlR w' 1 (Flat eI) v1_3 a1.Sems) {r : GWireWriter} (hm : g_plan_records_5 a0 a1 = some r) :
    Calls Tryz.prog 55 [.pointer (some ⟨b0, 0, none⟩), .pointer (some ⟨b1, 0, none⟩)].toArray w (Ret fun u w' => ∃ h_0 h_1, u = .tuple #[] ∧ St fp w w' [blkR b0 [h_0, h_1] 108, ownR 5 1 h_0 r.buf_.length (r.buf_.flatMap eB), erQ A h_1 r.err_]) := by
  have hS := St.init hP
  unfold g_plan_records_5 at hm
  refine enter Tryz.func55 rfl rfl rfl ?_; intro a H; dsimp only [enumL, Nat.zero_add, Nat.reduceAdd] at H
  refine wp_seq (wp_region_lit (n_q H (q_fieldAddr0 rfl fo27_6) rfl (W_q (q_load rfl ((hc1_0 _ hS.chg).ld ag25 rfl)) rfl ?_))); clear H a; intro a H
  obtain ⟨A21, c21, hv21, hl21, hm21⟩ := SlR.formV (hc1_4 _ hS.chg)
  refine n_q H (q_lenV Tryz.underlying25 rfl hv21) rfl (W_q (q_move rfl) rfl ?_); clear H a; intro a H
  refine n_nil (then_normal (wp_block ?_))
  replace hm := bindS hm; obtain ⟨q22, hm, hm22⟩ := hm; replace hm := iter_some hm; obtain ⟨n22, hm⟩ := hm
  refine c_loop (σ := Nat × Nat × (List UInt8) × ErrM × Value × Value) (fun (m, i23, l24, e27, v25, u28) => [(0, .pointer (some ⟨b0, 0, none⟩)), (6, v1_3), (7, .int .i64 ((a1.Sems.length : Nat) : Int)), (8, .int .i64 ((i23 : Nat) : Int))]) (fun (m, i23, l24, e27, v25, u28) wl => iterN (g_plan_records_5_L1 a1) m (i23, l24, e27) = some q22 ∧ St fp w wl [blkR b0 [v25, u28] 108, ownR 5 1 v25 l24.length (l24.flatMap eB), erQ A u28 e27]) (fun (m, i23, l24, e27, v25, u28) => m) (n22, 0, a0.buf_, a0.err_, v0_0, v0_1) H ⟨rfl, rfl, rfl, rfl, trivial⟩ ⟨hm, hS⟩ ?_
  clear H hS hm a; intro xx a w30 H hR; obtain ⟨m, i23, l24, e27, v25, u28⟩ := xx; simp only [ent, List.map_cons, List.map_nil] at H; (try dsimp only at hR); obtain ⟨hm, hS⟩ := hR
  replace hm := iterN_step hm; obtain ⟨m22, o22, rfl, hm, hn22⟩ := hm; try dsimp only [g_plan_records_5_L1] at hm
  refine wp_seq (wp_region_lit (n_q H (q_lssN (i := i23) (j := a1.Sems.length) rfl rfl) rfl ?_)); clear H a; intro a H
  refine n_nil (then_normal (wp_seq (c_cond H rfl (fun hc31 => ?_) (fun hc31 => ?_))))
  · replace hm := condT hm hc31
    have hlt32 : i23 < a1.Sems.length := of_decide_eq_true hc31
    refine wp_skip (then_normal (wp_seq (wp_block (wp_seq (wp_region_lit ?_)))))
    replace hm := bindS hm; obtain ⟨x33, hx33, hm⟩ := hm
    obtain ⟨adx33, hAx33⟩ := SlR.adV (hc1_4 _ hS.chg) hv21 hx33
    refine n_q H (q_ixV (i := i23) Tryz.underlying25 sz3 rfl hv21 hAx33 rfl (natI hx33)) rfl (W_q (q_load rfl (SlR.ldOneV (hc1_4 _ hS.chg) hv21 hAx33 ag3 hx33 rfl)) rfl (W_q (q_assign rfl) rfl ?_)); clear H a; intro a H
    refine n_nil (then_normal (wp_region_lit (n_q H (q_move rfl) rfl (W_q (q_move rfl) rfl ?_)))); clear H a; intro a H
    replace hS := hS.pk2
    replace hS := hS.pk2
    replace hS := hS.pk2
    obtain ⟨fp34, hG34, hK34, hR34, hF34⟩ := hS.frame (rs1 := [blkR b0 [v25, u28] 108, ownR 5 1 v25 l24.length (l24.flatMap eB), erQ A u28 e27])
    replace hm := bindS hm; obtain ⟨r35, hr35, hm⟩ := hm
    refine n_call H rfl en51 (g_wire_Writer_U8_w (A := A) (fun w' hw => hG _ (hK34 _ hw)) hG34 hr35) rfl ?_
    clear H; intro x41 w39 hv; clear a; intro a H; obtain ⟨u36, u37, rfl, hE40⟩ := hv
    replace hS := hF34 _ _ hE40; simp only [List.cons_append, List.nil_append] at hS; clear hG34 hK34 hR34 hF34
    refine n_nil (block_normal (then_normal (wp_region_lit (n_q H (q_incr (i := i23) (j := 1) rfl rfl (by omega)) rfl (W_q (q_move rfl) rfl ?_))))); clear H a; intro a H
    refine n_nil (then_normal ?_)
    obtain rfl := Option.some.inj hm
    exact round (m22, i23 + 1, r35.buf_, r35.err_, u36, u37) H ⟨rfl, rfl, rfl, rfl, trivial⟩ ⟨hn22, hS⟩ (Nat.lt_succ_self _)
  · replace hm := condF hm hc31
    refine wp_exit (then_exit (then_exit (block_exit ?_)))
    obtain rfl := Option.some.inj hm; have hz : _ = q22 := hn22; subst hz; replace hm := hm22; try dsimp only at hm
    obtain rfl := Option.some.inj hm
    refine ret0 H (.inl rfl) rfl ?_
    exact ⟨_, _, rfl, hS⟩
theorem g_plan_records_w {w : World} {A : Nat → Addr} {cs0 : List Value} {a0 : GPlan} (hG : EV A w) (h0 : RGPlan w cs0 a0) {r : GWireWriter} (hm : g_plan_records a0 = some r) :
    Calls Tryz.prog 26 [.agg cs0.toArray].toArray w (Ret fun u w' => ∃ (h_0 : Nat) (h_1 : Value) (h_2 : Value), u = .pointer (some ⟨h_0, 0, none⟩) ∧ St NB w w' [blkR h_0 [h_1, h_2] 108, ownR 5 1 h_1 r.buf_.length (r.buf_.flatMap eB), erQ A h_2 r.err_]) := by
  obtain ⟨vp0_0, vp0_1, vp0_2, vp0_3, rfl, hrp0_0, hrp0_1, hrp0_2, hrp0_3⟩ := h0
  have hS := St.begin NB w
  unfold g_plan_records at hm
  refine enter Tryz.func26 rfl rfl rfl ?_; intro a H; dsimp only [enumL, Nat.zero_add, Nat.reduceAdd] at H
  refine wp_seq (wp_region_lit (n_box H rfl (cs := [.int .i64 a0.Id, .bool a0.Mobile, vp0_0, vp0_1, vp0_2, .int .i64 a0.Events, vp0_3]) rfl rfl ?_))
  clear H; intro b21 w22 hN hE23 hs; clear a; intro a H
  replace hS := hS.newBlk hN hE23 hs; clear hN hs
  refine n_q H (q_assign rfl) rfl ?_; clear H a; intro a H
  refine n_nil (then_normal (wp_seq (wp_region_lit ?_)))
  replace hm := bindS hm; obtain ⟨r24, hr24, hm⟩ := hm
  refine n_call H rfl en28 (g_wire_NewWriter_w (A := A) hr24) rfl ?_
  clear H; intro x31 w29 hv; clear a; intro a H; obtain ⟨u25, u26, u27, rfl, hE30⟩ := hv
  replace hS := hS.new hE30; simp only [List.cons_append, List.nil_append] at hS
  refine n_q H (q_assign rfl) rfl ?_; clear H a; intro a H
  refine n_nil (then_normal (wp_seq (wp_seq (wp_region_lit (n_q H (q_fieldAddr0 rfl fo27_2) rfl (W_q (q_load rfl ((hS.blk 3 rfl).ld ag22 rfl)) rfl ?_)))))); clear H a; intro a H
  obtain ⟨A32, c32, hv32, hl32, hm32⟩ := SlR.formV (hrp0_0.ext (Flat.mono _) hS.x)
  refine n_q H (q_lenV Tryz.underlying22 rfl hv32) rfl (W_q (q_move rfl) rfl ?_); clear H a; intro a H
  refine n_nil (then_normal (wp_block ?_))
  replace hS := hS.pk2
  replace hS := hS.pk2
  replace hS := hS.pk2
  replace hS := hS.pk3
  replace hm := bindS hm; obtain ⟨q33, hm, hm33⟩ := hm; replace hm := iter_some hm; obtain ⟨n33, hm⟩ := hm
  refine c_loop (σ := Nat × Nat × (List UInt8) × ErrM × Value × Value) (fun (m, i34, l35, e38, v36, u39) => [(1, .pointer (some ⟨b21, 0, none⟩)), (3, .pointer (some ⟨u25, 0, none⟩)), (12, vp0_0), (13, .int .i64 ((a0.Pages.length : Nat) : Int)), (14, .int .i64 ((i34 : Nat) : Int))]) (fun (m, i34, l35, e38, v36, u39) wl => iterN (g_plan_records_L3 a0) m (i34, l35, e38) = some q33 ∧ St NB w wl [blkR b21 [.int .i64 a0.Id, .bool a0.Mobile, vp0_0, vp0_1, vp0_2, .int .i64 a0.Events, vp0_3] 27, blkR u25 [v36, u39] 108, ownR 5 1 v36 l35.length (l35.flatMap eB), erQ A u39 e38]) (fun (m, i34, l35, e38, v36, u39) => m) (n33, 0, r24.buf_, r24.err_, u26, u27) H ⟨rfl, rfl, rfl, rfl, rfl, trivial⟩ ⟨hm, hS⟩ ?_
  clear H hS hm a; intro xx a w41 H hR; obtain ⟨m, i34, l35, e38, v36, u39⟩ := xx; simp only [ent, List.map_cons, List.map_nil] at H; (try dsimp only at hR); obtain ⟨hm, hS⟩ := hR
  replace hm := iterN_step hm; obtain ⟨m33, o33, rfl, hm, hn33⟩ := hm; try dsimp only [g_plan_records_L3] at hm
  refine wp_seq (wp_region_lit (n_q H (q_lssN (i := i34) (j := a0.Pages.length) rfl rfl) rfl ?_)); clear H a; intro a H
  refine n_nil (then_normal (wp_seq (c_cond H rfl (fun hc42 => ?_) (fun hc42 => ?_))))
  · replace hm := condT hm hc42
    have hlt43 : i34 < a0.Pages.length := of_decide_eq_true hc42
    refine wp_skip (then_normal (wp_seq (wp_block (wp_seq (wp_region_lit ?_)))))
    replace hm := bindS hm; obtain ⟨x44, hx44, hm⟩ := hm
    obtain ⟨adx44, hAx44⟩ := SlR.adV (hrp0_0.ext (Flat.mono _) hS.x) hv32 hx44
    refine n_q H (q_ixV (i := i34) Tryz.underlying22 sz69 rfl hv32 hAx44 rfl (natI hx44)) rfl (W_q (q_load rfl (SlR.ldAggV (hrp0_0.ext (Flat.mono _) hS.x) hv32 hAx44 ag69 sz69 hx44)) rfl ?_); clear H a; intro a H
    refine n_alloc H ze69 rfl ?_
    clear H; intro b45 w46 hN hE47 hs; clear a; intro a H
    replace hS := hS.newBlk hN hE47 hs; clear hN hs
    refine n_storeAll H rfl rfl (vs := [.int .i64 x44.Rights, .string x44.Init]) rfl sz69 (hS.blk 0 rfl) rfl (by simp) ?_
    clear H; intro w48 hN hC49 hz; clear a; intro a H; replace hS := hS.setBlk hN hC49; clear hN hz
    refine n_nil (then_normal (wp_region_lit (n_q H (q_move rfl) rfl (W_q (q_makeFunc (f := []) (c := [.pointer (some ⟨b45, 0, none⟩)]) rfl rfl) rfl ?_)))); clear H a; intro a H
    replace hS := hS.pk4
    replace hS := hS.pk4
    replace hS := hS.pk4
    obtain ⟨fp50, hG50, hK50, hR50, hF50⟩ := hS.frame (rs1 := [blkR u25 [v36, u39] 108, ownR 5 1 v36 l35.length (l35.flatMap eB), erQ A u39 e38])
    replace hm := bindS hm; obtain ⟨r51, hr51, hm⟩ := hm
    refine n_call H rfl en49 (g_plan_record_w (A := A) (fun w' hw => hG.ext (hK50 _ hw).ext) hG50 (g2 := 50) (fs2 := []) (cp2 := [.pointer (some ⟨b45, 0, none⟩)]) (Gd2 := (fun w' => EV A w' ∧ Blk w' b45 [.int .i64 x44.Rights, .string x44.Init] 69)) (a2 := (fun x0 => g_plan_records_1 x0 x44)) en50 (fun w' hw => ⟨hG.ext (hK50 _ hw).ext, restBlk (hR50 0 _ rfl _ hw)⟩) (fun w1 g _ _ _ _ r hgd hp hr => g_plan_records_1_w (A := A) (fun w' hw => (hgd w' hw).1) hp (fun w' hw => (hgd w' hw).2) hr) hr51) rfl ?_
    clear H; intro x57 w55 hv; clear a; intro a H; obtain ⟨u52, u53, rfl, hE56⟩ := hv
    replace hS := hF50 _ _ hE56; simp only [List.cons_append, List.nil_append] at hS; clear hG50 hK50 hR50 hF50
    refine n_nil (block_normal (then_normal (wp_region_lit (n_q H (q_incr (i := i34) (j := 1) rfl rfl (by omega)) rfl (W_q (q_move rfl) rfl ?_))))); clear H a; intro a H
    refine n_nil (then_normal ?_)
    obtain rfl := Option.some.inj hm
    replace hS := hS.pk2
    replace hS := hS.pk2
    replace hS := hS.pk2
    replace hS := hS.pk4
    replace hS := hS.tk4
    exact round (m33, i34 + 1, r51.buf_, r51.err_, u52, u53) H ⟨rfl, rfl, rfl, rfl, rfl, trivial⟩ ⟨hn33, hS⟩ (Nat.lt_succ_self _)
  · replace hm := condF hm hc42
    refine wp_exit (then_exit (then_exit (block_exit ?_)))
    obtain rfl := Option.some.inj hm; have hz : _ = q33 := hn33; subst hz; replace hm := hm33; try dsimp only at hm
    refine then_normal (wp_seq (wp_seq (wp_region_lit (n_q H (q_fieldAddr0 rfl fo27_3) rfl (W_q (q_load rfl ((hS.blk 0 rfl).ld ag23 rfl)) rfl ?_))))); clear H a; intro a H
    obtain ⟨A58, c58, hv58, hl58, hm58⟩ := SlR.formV (hrp0_1.ext (Flat.mono _) hS.x)
    refine n_q H (q_lenV Tryz.underlying23 rfl hv58) rfl (W_q (q_move rfl) rfl ?_); clear H a; intro a H
    refine n_nil (then_normal (wp_block ?_))
    replace hm := bindS hm; obtain ⟨q59, hm, hm59⟩ := hm; replace hm := iter_some hm; obtain ⟨n59, hm⟩ := hm
    refine c_loop (σ := Nat × Nat × (List UInt8) × ErrM × Value × Value) (fun (m, i60, l61, e64, v62, u65) => [(1, .pointer (some ⟨b21, 0, none⟩)), (3, .pointer (some ⟨u25, 0, none⟩)), (23, vp0_1), (24, .int .i64 ((a0.Procs.length : Nat) : Int)), (25, .int .i64 ((i60 : Nat) : Int))]) (fun (m, i60, l61, e64, v62, u65) wl => iterN (g_plan_records_L2 a0) m (i60, l61, e64) = some q59 ∧ St NB w wl [blkR b21 [.int .i64 a0.Id, .bool a0.Mobile, vp0_0, vp0_1, vp0_2, .int .i64 a0.Events, vp0_3] 27, blkR u25 [v62, u65] 108, ownR 5 1 v62 l61.length (l61.flatMap eB), erQ A u65 e64]) (fun (m, i60, l61, e64, v62, u65) => m) (n59, 0, l35, e38, v36, u39) H ⟨rfl, rfl, rfl, rfl, rfl, trivial⟩ ⟨hm, hS⟩ ?_
    clear H hS hm a; intro xx a w67 H hR; obtain ⟨m, i60, l61, e64, v62, u65⟩ := xx; simp only [ent, List.map_cons, List.map_nil] at H; (try dsimp only at hR); obtain ⟨hm, hS⟩ := hR
    replace hm := iterN_step hm; obtain ⟨m59, o59, rfl, hm, hn59⟩ := hm; try dsimp only [g_plan_records_L2] at hm
    refine wp_seq (wp_region_lit (n_q H (q_lssN (i := i60) (j := a0.Procs.length) rfl rfl) rfl ?_)); clear H a; intro a H
    refine n_nil (then_normal (wp_seq (c_cond H rfl (fun hc68 => ?_) (fun hc68 => ?_))))
    · replace hm := condT hm hc68
      have hlt69 : i60 < a0.Procs.length := of_decide_eq_true hc68
      refine wp_skip (then_normal (wp_seq (wp_block (wp_seq (wp_region_lit ?_)))))
      replace hm := bindS hm; obtain ⟨x70, hx70, hm⟩ := hm
      obtain ⟨adx70, hAx70⟩ := SlR.adV (hrp0_1.ext (Flat.mono _) hS.x) hv58 hx70
      refine n_q H (q_ixV (i := i60) Tryz.underlying23 sz62 rfl hv58 hAx70 rfl (natI hx70)) rfl (W_q (q_load rfl (SlR.ldAggV (hrp0_1.ext (Flat.mono _) hS.x) hv58 hAx70 ag62 sz62 hx70)) rfl ?_); clear H a; intro a H
      refine n_alloc H ze62 rfl ?_
      clear H; intro b71 w72 hN hE73 hs; clear a; intro a H
      replace hS := hS.newBlk hN hE73 hs; clear hN hs
      refine n_storeAll H rfl rfl (vs := [.int .i64 x70.Entry, .int .i64 x70.Prio, .bool x70.Auto]) rfl sz62 (hS.blk 0 rfl) rfl (by simp) ?_
      clear H; intro w74 hN hC75 hz; clear a; intro a H; replace hS := hS.setBlk hN hC75; clear hN hz
      refine n_nil (then_normal (wp_region_lit (n_q H (q_move rfl) rfl (W_q (q_makeFunc (f := []) (c := [.pointer (some ⟨b71, 0, none⟩)]) rfl rfl) rfl ?_)))); clear H a; intro a H
      replace hS := hS.pk4
      replace hS := hS.pk4
      replace hS := hS.pk4
      obtain ⟨fp76, hG76, hK76, hR76, hF76⟩ := hS.frame (rs1 := [blkR u25 [v62, u65] 108, ownR 5 1 v62 l61.length (l61.flatMap eB), erQ A u65 e64])
      replace hm := bindS hm; obtain ⟨r77, hr77, hm⟩ := hm
      refine n_call H rfl en49 (g_plan_record_w (A := A) (fun w' hw => hG.ext (hK76 _ hw).ext) hG76 (g2 := 52) (fs2 := []) (cp2 := [.pointer (some ⟨b71, 0, none⟩)]) (Gd2 := (fun w' => EV A w' ∧ Blk w' b71 [.int .i64 x70.Entry, .int .i64 x70.Prio, .bool x70.Auto] 62)) (a2 := (fun x0 => g_plan_records_2 x0 x70)) en52 (fun w' hw => ⟨hG.ext (hK76 _ hw).ext, restBlk (hR76 0 _ rfl _ hw)⟩) (fun w1 g _ _ _ _ r hgd hp hr => g_plan_records_2_w (A := A) (fun w' hw => (hgd w' hw).1) hp (fun w' hw => (hgd w' hw).2) hr) hr77) rfl ?_
      clear H; intro x83 w81 hv; clear a; intro a H; obtain ⟨u78, u79, rfl, hE82⟩ := hv
      replace hS := hF76 _ _ hE82; simp only [List.cons_append, List.nil_append] at hS; clear hG76 hK76 hR76 hF76
      refine n_nil (block_normal (then_normal (wp_region_lit (n_q H (q_incr (i := i60) (j := 1) rfl rfl (by omega)) rfl (W_q (q_move rfl) rfl ?_))))); clear H a; intro a H
      refine n_nil (then_normal ?_)
      obtain rfl := Option.some.inj hm
      replace hS := hS.pk2
      replace hS := hS.pk2
      replace hS := hS.pk2
      replace hS := hS.pk4
      replace hS := hS.tk4
      exact round (m59, i60 + 1, r77.buf_, r77.err_, u78, u79) H ⟨rfl, rfl, rfl, rfl, rfl, trivial⟩ ⟨hn59, hS⟩ (Nat.lt_succ_self _)
    · replace hm := condF hm hc68
      refine wp_exit (then_exit (then_exit (block_exit ?_)))
      obtain rfl := Option.some.inj hm; have hz : _ = q59 := hn59; subst hz; replace hm := hm59; try dsimp only at hm
      refine then_normal (wp_seq (wp_seq (wp_region_lit (n_q H (q_fieldAddr0 rfl fo27_4) rfl (W_q (q_load rfl ((hS.blk 0 rfl).ld ag24 rfl)) rfl ?_))))); clear H a; intro a H
      obtain ⟨A84, c84, hv84, hl84, hm84⟩ := SlR.formV (hrp0_2.ext (Flat.mono _) hS.x)
      refine n_q H (q_lenV Tryz.underlying24 rfl hv84) rfl (W_q (q_move rfl) rfl ?_); clear H a; intro a H
      refine n_nil (then_normal (wp_block ?_))
      replace hm := bindS hm; obtain ⟨q85, hm, hm85⟩ := hm; replace hm := iter_some hm; obtain ⟨n85, hm⟩ := hm
      refine c_loop (σ := Nat × Nat × (List UInt8) × ErrM × Value × Value) (fun (m, i86, l87, e90, v88, u91) => [(1, .pointer (some ⟨b21, 0, none⟩)), (3, .pointer (some ⟨u25, 0, none⟩)), (34, vp0_2), (35, .int .i64 ((a0.Ports.length : Nat) : Int)), (36, .int .i64 ((i86 : Nat) : Int))]) (fun (m, i86, l87, e90, v88, u91) wl => iterN (g_plan_records_L1 a0) m (i86, l87, e90) = some q85 ∧ St NB w wl [blkR b21 [.int .i64 a0.Id, .bool a0.Mobile, vp0_0, vp0_1, vp0_2, .int .i64 a0.Events, vp0_3] 27, blkR u25 [v88, u91] 108, ownR 5 1 v88 l87.length (l87.flatMap eB), erQ A u91 e90]) (fun (m, i86, l87, e90, v88, u91) => m) (n85, 0, l61, e64, v62, u65) H ⟨rfl, rfl, rfl, rfl, rfl, trivial⟩ ⟨hm, hS⟩ ?_
      clear H hS hm a; intro xx a w93 H hR; obtain ⟨m, i86, l87, e90, v88, u91⟩ := xx; simp only [ent, List.map_cons, List.map_nil] at H; (try dsimp only at hR); obtain ⟨hm, hS⟩ := hR
      replace hm := iterN_step hm; obtain ⟨m85, o85, rfl, hm, hn85⟩ := hm; try dsimp only [g_plan_records_L1] at hm
      refine wp_seq (wp_region_lit (n_q H (q_lssN (i := i86) (j := a0.Ports.length) rfl rfl) rfl ?_)); clear H a; intro a H
      refine n_nil (then_normal (wp_seq (c_cond H rfl (fun hc94 => ?_) (fun hc94 => ?_))))
      · replace hm := condT hm hc94
        have hlt95 : i86 < a0.Ports.length := of_decide_eq_true hc94
        refine wp_skip (then_normal (wp_seq (wp_block (wp_seq (wp_region_lit ?_)))))
        replace hm := bindS hm; obtain ⟨x96, hx96, hm⟩ := hm
        obtain ⟨adx96, hAx96⟩ := SlR.adV (hrp0_2.ext (Flat.mono _) hS.x) hv84 hx96
        refine n_q H (q_ixV (i := i86) Tryz.underlying24 sz78 rfl hv84 hAx96 rfl (natI hx96)) rfl (W_q (q_load rfl (SlR.ldAggV (hrp0_2.ext (Flat.mono _) hS.x) hv84 hAx96 ag78 sz78 hx96)) rfl ?_); clear H a; intro a H
        refine n_alloc H ze78 rfl ?_
        clear H; intro b97 w98 hN hE99 hs; clear a; intro a H
        replace hS := hS.newBlk hN hE99 hs; clear hN hs
        refine n_storeAll H rfl rfl (vs := [.int .i64 x96.Kind, .int .i64 x96.Size, .int .i64 x96.Depth, .int .i64 x96.Refresh]) rfl sz78 (hS.blk 0 rfl) rfl (by simp) ?_
        clear H; intro w100 hN hC101 hz; clear a; intro a H; replace hS := hS.setBlk hN hC101; clear hN hz
        refine n_nil (then_normal (wp_region_lit (n_q H (q_move rfl) rfl (W_q (q_makeFunc (f := []) (c := [.pointer (some ⟨b97, 0, none⟩)]) rfl rfl) rfl ?_)))); clear H a; intro a H
        replace hS := hS.pk4
        replace hS := hS.pk4
        replace hS := hS.pk4
        obtain ⟨fp102, hG102, hK102, hR102, hF102⟩ := hS.frame (rs1 := [blkR u25 [v88, u91] 108, ownR 5 1 v88 l87.length (l87.flatMap eB), erQ A u91 e90])
        replace hm := bindS hm; obtain ⟨r103, hr103, hm⟩ := hm
        refine n_call H rfl en49 (g_plan_record_w (A := A) (fun w' hw => hG.ext (hK102 _ hw).ext) hG102 (g2 := 53) (fs2 := []) (cp2 := [.pointer (some ⟨b97, 0, none⟩)]) (Gd2 := (fun w' => EV A w' ∧ Blk w' b97 [.int .i64 x96.Kind, .int .i64 x96.Size, .int .i64 x96.Depth, .int .i64 x96.Refresh] 78)) (a2 := (fun x0 => g_plan_records_3 x0 x96)) en53 (fun w' hw => ⟨hG.ext (hK102 _ hw).ext, restBlk (hR102 0 _ rfl _ hw)⟩) (fun w1 g _ _ _ _ r hgd hp hr => g_plan_records_3_w (A := A) (fun w' hw => (hgd w' hw).1) hp (fun w' hw => (hgd w' hw).2) hr) hr103) rfl ?_
        clear H; intro x109 w107 hv; clear a; intro a H; obtain ⟨u104, u105, rfl, hE108⟩ := hv
        replace hS := hF102 _ _ hE108; simp only [List.cons_append, List.nil_append] at hS; clear hG102 hK102 hR102 hF102
        refine n_nil (block_normal (then_normal (wp_region_lit (n_q H (q_incr (i := i86) (j := 1) rfl rfl (by omega)) rfl (W_q (q_move rfl) rfl ?_))))); clear H a; intro a H
        refine n_nil (then_normal ?_)
        obtain rfl := Option.some.inj hm
        replace hS := hS.pk2
        replace hS := hS.pk2
        replace hS := hS.pk2
        replace hS := hS.pk4
        replace hS := hS.tk4
        exact round (m85, i86 + 1, r103.buf_, r103.err_, u104, u105) H ⟨rfl, rfl, rfl, rfl, rfl, trivial⟩ ⟨hn85, hS⟩ (Nat.lt_succ_self _)
      · replace hm := condF hm hc94
        refine wp_exit (then_exit (then_exit (block_exit ?_)))
        obtain rfl := Option.some.inj hm; have hz : _ = q85 := hn85; subst hz; replace hm := hm85; try dsimp only at hm
        refine then_normal (wp_seq (wp_region_lit (n_q H (q_move rfl) rfl (W_q (q_makeFunc (f := []) (c := [.pointer (some ⟨b21, 0, none⟩)]) rfl rfl) rfl ?_)))); clear H a; intro a H
        replace hS := hS.pk3
        replace hS := hS.pk3
        replace hS := hS.pk3
        obtain ⟨fp110, hG110, hK110, hR110, hF110⟩ := hS.frame (rs1 := [blkR u25 [v88, u91] 108, ownR 5 1 v88 l87.length (l87.flatMap eB), erQ A u91 e90])
        replace hm := bindS hm; obtain ⟨r111, hr111, hm⟩ := hm
        refine n_call H rfl en49 (g_plan_record_w (A := A) (fun w' hw => hG.ext (hK110 _ hw).ext) hG110 (g2 := 54) (fs2 := []) (cp2 := [.pointer (some ⟨b21, 0, none⟩)]) (Gd2 := (fun w' => EV A w' ∧ Blk w' b21 [.int .i64 a0.Id, .bool a0.Mobile, vp0_0, vp0_1, vp0_2, .int .i64 a0.Events, vp0_3] 27 ∧ SlR w' 2 (Flat eGPagePlan) vp0_0 a0.Pages ∧ SlR w' 3 (Flat eGProcPlan) vp0_1 a0.Procs ∧ SlR w' 4 (Flat eGPortPlan) vp0_2 a0.Ports ∧ SlR w' 1 (Flat eI) vp0_3 a0.Sems)) (a2 := (fun x0 => g_plan_records_4 x0 a0)) en54 (fun w' hw => ⟨hG.ext (hK110 _ hw).ext, restBlk (hR110 0 _ rfl _ hw), (fun w' hw => hrp0_0.ext (Flat.mono _) (hK110 _ hw).ext) w' hw, (fun w' hw => hrp0_1.ext (Flat.mono _) (hK110 _ hw).ext) w' hw, (fun w' hw => hrp0_2.ext (Flat.mono _) (hK110 _ hw).ext) w' hw, (fun w' hw => hrp0_3.ext (Flat.mono _) (hK110 _ hw).ext) w' hw⟩) (fun w1 g _ _ _ _ r hgd hp hr => g_plan_records_4_w (A := A) (fun w' hw => (hgd w' hw).1) hp (fun w' hw => (hgd w' hw).2.1) (fun w' hw => (hgd w' hw).2.2.1) (fun w' hw => (hgd w' hw).2.2.2.1) (fun w' hw => (hgd w' hw).2.2.2.2.1) (fun w' hw => (hgd w' hw).2.2.2.2.2) hr) hr111) rfl ?_
        clear H; intro x117 w115 hv; clear a; intro a H; obtain ⟨u112, u113, rfl, hE116⟩ := hv
        replace hS := hF110 _ _ hE116; simp only [List.cons_append, List.nil_append] at hS; clear hG110 hK110 hR110 hF110
        refine n_nil (then_normal (wp_seq (wp_region_lit (n_q H (q_move rfl) rfl (W_q (q_makeFunc (f := []) (c := [.pointer (some ⟨b21, 0, none⟩)]) rfl rfl) rfl ?_))))); clear H a; intro a H
        replace hS := hS.pk2
        replace hS := hS.pk2
        replace hS := hS.pk2
        obtain ⟨fp118, hG118, hK118, hR118, hF118⟩ := hS.frame (rs1 := [blkR u25 [u112, u113] 108, ownR 5 1 u112 r111.buf_.length (r111.buf_.flatMap eB), erQ A u113 r111.err_])
        replace hm := bindS hm; obtain ⟨r119, hr119, hm⟩ := hm
        refine n_call H rfl en49 (g_plan_record_w (A := A) (fun w' hw => hG.ext (hK118 _ hw).ext) hG118 (g2 := 55) (fs2 := []) (cp2 := [.pointer (some ⟨b21, 0, none⟩)]) (Gd2 := (fun w' => EV A w' ∧ Blk w' b21 [.int .i64 a0.Id, .bool a0.Mobile, vp0_0, vp0_1, vp0_2, .int .i64 a0.Events, vp0_3] 27 ∧ SlR w' 2 (Flat eGPagePlan) vp0_0 a0.Pages ∧ SlR w' 3 (Flat eGProcPlan) vp0_1 a0.Procs ∧ SlR w' 4 (Flat eGPortPlan) vp0_2 a0.Ports ∧ SlR w' 1 (Flat eI) vp0_3 a0.Sems)) (a2 := (fun x0 => g_plan_records_5 x0 a0)) en55 (fun w' hw => ⟨hG.ext (hK118 _ hw).ext, restBlk (hR118 0 _ rfl _ hw), (fun w' hw => hrp0_0.ext (Flat.mono _) (hK118 _ hw).ext) w' hw, (fun w' hw => hrp0_1.ext (Flat.mono _) (hK118 _ hw).ext) w' hw, (fun w' hw => hrp0_2.ext (Flat.mono _) (hK118 _ hw).ext) w' hw, (fun w' hw => hrp0_3.ext (Flat.mono _) (hK118 _ hw).ext) w' hw⟩) (fun w1 g _ _ _ _ r hgd hp hr => g_plan_records_5_w (A := A) (fun w' hw => (hgd w' hw).1) hp (fun w' hw => (hgd w' hw).2.1) (fun w' hw => (hgd w' hw).2.2.1) (fun w' hw => (hgd w' hw).2.2.2.1) (fun w' hw => (hgd w' hw).2.2.2.2.1) (fun w' hw => (hgd w' hw).2.2.2.2.2) hr) hr119) rfl ?_
        clear H; intro x125 w123 hv; clear a; intro a H; obtain ⟨u120, u121, rfl, hE124⟩ := hv
        replace hS := hF118 _ _ hE124; simp only [List.cons_append, List.nil_append] at hS; clear hG118 hK118 hR118 hF118
        refine n_nil (then_normal (wp_seq (wp_region_lit (n_q H (q_move rfl) rfl (W_q (q_assign rfl) rfl ?_))))); clear H a; intro a H
        refine n_nil (then_normal (wp_ret ?_))
        obtain rfl := Option.some.inj hm
        replace hS := hS.tk3
        refine ret1 H (.inr rfl) rfl rfl ?_
        exact ⟨_, _, _, rfl, hS⟩
theorem g_wire_Writer_U16_w {w : World} {A : Nat → Addr} {fp : Nat → Prop} {b0 : Nat} {v0_0 : Value} {v0_1 : Value} {a0 : GWireWriter} {a1 : Int} (hG : ∀ w', ChgP fp w w' → EV A w') (hP : Sep w fp [blkR b0 [v0_0, v0_1] 108, ownR 5 1 v0_0 a0.buf_.length (a0.buf_.flatMap eB), erQ A v0_1 a0.err_]) {r : GWireWriter} (hm : g_wire_Writer_U16 a0 a1 = some r) :
    Calls Tryz.prog 30 [.pointer (some ⟨b0, 0, none⟩), .int .i64 a1].toArray w (Ret fun u w' => ∃ h_0 h_1, u = .tuple #[] ∧ St fp w w' [blkR b0 [h_0, h_1] 108, ownR 5 1 h_0 r.buf_.length (r.buf_.flatMap eB), erQ A h_1 r.err_]) := by
  have hS := St.init hP
  unfold g_wire_Writer_U16 at hm
  refine enter Tryz.func30 rfl rfl rfl ?_; intro a H; dsimp only [enumL, Nat.zero_add, Nat.reduceAdd] at H
  refine wp_region_lit (n_q H (q_move rfl) rfl (W_q (q_move rfl) rfl ?_)); clear H a; intro a H
  replace hS := hS.pk2
  replace hS := hS.pk2
  replace hS := hS.pk2
  obtain ⟨fp21, hG21, hK21, hR21, hF21⟩ := hS.frame (rs1 := [blkR b0 [v0_0, v0_1] 108, ownR 5 1 v0_0 a0.buf_.length (a0.buf_.flatMap eB), erQ A v0_1 a0.err_])
  replace hm := bindS hm; obtain ⟨r22, hr22, hm⟩ := hm
  refine n_call H rfl en58 (g_wire_Writer_num_w (A := A) (fun w' hw => hG _ (hK21 _ hw)) hG21 hr22) rfl ?_
  clear H; intro x28 w26 hv; clear a; intro a H; obtain ⟨u23, u24, rfl, hE27⟩ := hv
  replace hS := hF21 _ _ hE27; simp only [List.cons_append, List.nil_append] at hS; clear hG21 hK21 hR21 hF21
  refine n_nil ?_
  obtain rfl := Option.some.inj hm
  refine ret0 H (.inl rfl) rfl ?_
  exact ⟨_, _, rfl, hS⟩
theorem g_bytes_Clone_w {w : World} {A : Nat → Addr} {v0 : Value} {a0 : List UInt8} (h0 : SlR w 1 (Flat eB) v0 a0) {r : List UInt8} (hm : g_bytes_Clone a0 = some r) :
    Calls Tryz.prog 59 [v0].toArray w (Ret fun u w' => ∃ h_0, u = h_0 ∧ St NB w w' [ownR 5 1 h_0 r.length (r.flatMap eB)]) := by
  have hS := St.begin NB w
  unfold g_bytes_Clone at hm
  refine enter Tryz.func59 rfl rfl rfl ?_; intro a H; dsimp only [enumL, Nat.zero_add, Nat.reduceAdd] at H
  refine wp_seq (wp_region_lit (n_q H (q_assign rfl) rfl ?_)); clear H a; intro a H
  refine n_nil (then_normal (wp_seq (wp_seq (wp_region_lit (n_q H (q_move rfl) rfl ?_))))); clear H a; intro a H
  obtain ⟨A21, c21, hv21, hl21, hm21⟩ := SlR.formV (h0.ext (Flat.mono _) hS.x)
  refine n_q H (q_nilV Tryz.underlying28 rfl hv21 rfl) rfl ?_; clear H a; intro a H
  refine n_nil (then_normal (c_cond H rfl (fun hc22 => ?_) (fun hc22 => ?_)))
  · obtain rfl := SlR.nilV (h0.ext (Flat.mono _) hS.x) hv21 hc22; replace hm := chkS hm; obtain ⟨_, hm⟩ := hm
    refine wp_seq (wp_region_lit (n_q H (q_assign rfl) rfl ?_)); clear H a; intro a H
    refine n_nil (then_normal (wp_ret (then_ret ?_)))
    obtain rfl := Option.some.inj hm
    replace hS := hS.nilOwn 5 1
    refine ret1 H (.inr rfl) rfl rfl ?_
    exact ⟨_, rfl, hS⟩
  · skip
    refine wp_skip (then_normal (wp_seq (wp_region_lit (n_buildSlice H Tryz.underlying28 sz5 ze5 rfl rfl rfl (cs := []) rfl rfl ?_))))
    clear H; intro b26 w24 hN hE25 hs; clear a; intro a H
    replace hS := hS.newBlk hN hE25 hs; clear hN hs
    replace hS := hS.blkOwnL (e := eB) (k := 1) ([] : List UInt8) rfl rfl (by simp [maxLen])
    refine n_q H (q_move rfl) rfl ?_; clear H a; intro a H
    replace hm := chkS hm; obtain ⟨hk28, hm⟩ := hm
    refine n_app (e := eB) H rfl rfl Tryz.underlying28 Tryz.underlying28 (by simp) el5 (hS.own 0 rfl) ((h0.ext (Flat.mono _) hS.x).src (fun _ _ => rfl)) eB_one hk28 (by simp only [maxLen]; omega) rfl ?_
    clear H; intro v31 w29 hN hC30 hb; clear a; intro a H; replace hS := hS.setOwn hN hC30 hb; clear hN hb
    refine n_q H (q_assign rfl) rfl ?_; clear H a; intro a H
    refine n_nil (then_normal (wp_ret ?_))
    obtain rfl := Option.some.inj hm
    refine ret1 H (.inr rfl) rfl rfl ?_
    exact ⟨_, rfl, hS⟩
theorem g_crc_laid_w {w : World} {A : Nat → Addr} {a0 : Int} {r : List UInt8} (hm : g_crc_laid a0 = some r) :
    Calls Tryz.prog 60 [.int .u32 a0].toArray w (Ret fun u w' => ∃ h_0, u = h_0 ∧ St NB w w' [ownR 5 1 h_0 r.length (r.flatMap eB)]) := by
  have hS := St.begin NB w
  unfold g_crc_laid at hm
  refine enter Tryz.func60 rfl rfl rfl ?_; intro a H; dsimp only [enumL, Nat.zero_add, Nat.reduceAdd] at H
  refine wp_seq (wp_region_lit (n_q H (q_assign rfl) rfl ?_)); clear H a; intro a H
  refine n_nil (then_normal (wp_seq (wp_region_lit (n_q H (q_move rfl) rfl (W_q (q_convI Tryz.underlying29 Tryz.underlying5 ⟨_, rfl⟩ rfl) rfl (W_q (q_move rfl) rfl (W_q (q_shr rfl rfl (by decide)) rfl (W_q (q_convI Tryz.underlying29 Tryz.underlying5 ⟨_, rfl⟩ rfl) rfl (W_q (q_move rfl) rfl (W_q (q_shr rfl rfl (by decide)) rfl (W_q (q_convI Tryz.underlying29 Tryz.underlying5 ⟨_, rfl⟩ rfl) rfl (W_q (q_move rfl) rfl (W_q (q_shr rfl rfl (by decide)) rfl (W_q (q_convI Tryz.underlying29 Tryz.underlying5 ⟨_, rfl⟩ rfl) rfl ?_)))))))))))))); clear H a; intro a H
  refine n_buildSlice H Tryz.underlying28 sz5 ze5 rfl rfl rfl (cs := [.int .u8 (IntKind.u8.wrap a0), .int .u8 (IntKind.u8.wrap (shR .u32 a0 8)), .int .u8 (IntKind.u8.wrap (shR .u32 a0 16)), .int .u8 (IntKind.u8.wrap (shR .u32 a0 24))]) (by kernel_rfl) rfl ?_
  clear H; intro b23 w21 hN hE22 hs; clear a; intro a H
  replace hS := hS.newBlk hN hE22 hs; clear hN hs
  replace hS := hS.blkOwnL (e := eB) (k := 1) [(byteOf a0), (byteOf (shR .u32 a0 8)), (byteOf (shR .u32 a0 16)), (byteOf (shR .u32 a0 24))] (by simp [eB_wrap, eB_lit]) rfl (by simp [maxLen])
  refine n_q H (q_assign rfl) rfl ?_; clear H a; intro a H
  refine n_nil (then_normal (wp_ret ?_))
  obtain rfl := Option.some.inj hm
  refine ret1 H (.inr rfl) rfl rfl ?_
  exact ⟨_, rfl, hS⟩
theorem g_crc_step_w {w : World} {A : Nat → Addr} {a0 : Int} {r : Int} (hm : g_crc_step a0 = some r) :
    Calls Tryz.prog 100 [.int .u32 a0].toArray w (Ret fun u w' => u = .int .u32 r ∧ Ext w w') := by
  have hS := St.begin NB w
  unfold g_crc_step at hm
  refine enter Tryz.func100 rfl rfl rfl ?_; intro a H; dsimp only [enumL, Nat.zero_add, Nat.reduceAdd] at H
  refine wp_seq (wp_region_lit (n_q H (q_assign rfl) rfl ?_)); clear H a; intro a H
  refine n_nil (then_normal (wp_seq (wp_seq (wp_region_lit (n_q H (q_move rfl) rfl (W_q (q_and rfl rfl) rfl (W_q (q_eqlD rfl rfl) rfl ?_))))))); clear H a; intro a H
  refine n_nil (then_normal (c_cond H rfl (fun hc21 => ?_) (fun hc21 => ?_)))
  · replace hm := condT hm hc21
    refine wp_seq (wp_region_lit (n_q H (q_move rfl) rfl (W_q (q_shr rfl rfl (by decide)) rfl (W_q (q_xor rfl rfl) rfl (W_q (q_assign rfl) rfl ?_))))); clear H a; intro a H
    refine n_nil (then_normal (wp_ret (then_ret ?_)))
    obtain rfl := Option.some.inj hm
    refine ret1 H (.inr rfl) rfl rfl ?_
    exact ⟨rfl, hS.x⟩
  · replace hm := condF hm hc21
    refine wp_skip (then_normal (wp_seq (wp_region_lit (n_q H (q_move rfl) rfl (W_q (q_shr rfl rfl (by decide)) rfl (W_q (q_assign rfl) rfl ?_)))))); clear H a; intro a H
    refine n_nil (then_normal (wp_ret ?_))
    obtain rfl := Option.some.inj hm
    refine ret1 H (.inr rfl) rfl rfl ?_
    exact ⟨rfl, hS.x⟩
theorem g_crc_table_w {w : World} {A : Nat → Addr} {r : Vector Int 256} (hm : g_crc_table = some r) :
    Calls Tryz.prog 97 [].toArray w (Ret fun u w' => ∃ (h_0 : Nat), u = .pointer (some ⟨h_0, 0, none⟩) ∧ St NB w w' [blkR h_0 (r.toList.map (Value.int .u32)) 159]) := by
  have hS := St.begin NB w
  unfold g_crc_table at hm
  refine enter Tryz.func97 rfl rfl rfl ?_; intro a H; dsimp only [enumL, Nat.zero_add, Nat.reduceAdd] at H
  refine wp_seq (wp_region_lit (n_q H (q_assign rfl) rfl ?_)); clear H a; intro a H
  refine n_nil (then_normal (wp_seq (wp_region_lit ?_)))
  refine n_q H (q_buildArr (cs := [.int .u32 0, .int .u32 0, .int .u32 0, .int .u32 0, .int .u32 0, .int .u32 0, .int .u32 0, .int .u32 0, .int .u32 0, .int .u32 0, .int .u32 0, .int .u32 0, .int .u32 0, .int .u32 0, .int .u32 0, .int .u32 0, .int .u32 0, .int .u32 0, .int .u32 0, .int .u32 0, .int .u32 0, .int .u32 0, .int .u32 0, .int .u32 0, .int .u32 0, .int .u32 0, .int .u32 0, .int .u32 0, .int .u32 0, .int .u32 0, .int .u32 0, .int .u32 0, .int .u32 0, .int .u32 0, .int .u32 0, .int .u32 0, .int .u32 0, .int .u32 0, .int .u32 0, .int .u32 0, .int .u32 0, .int .u32 0, .int .u32 0, .int .u32 0, .int .u32 0, .int .u32 0, .int .u32 0, .int .u32 0, .int .u32 0, .int .u32 0, .int .u32 0, .int .u32 0, .int .u32 0, .int .u32 0, .int .u32 0, .int .u32 0, .int .u32 0, .int .u32 0, .int .u32 0, .int .u32 0, .int .u32 0, .int .u32 0, .int .u32 0, .int .u32 0, .int .u32 0, .int .u32 0, .int .u32 0, .int .u32 0, .int .u32 0, .int .u32 0, .int .u32 0, .int .u32 0, .int .u32 0, .int .u32 0, .int .u32 0, .int .u32 0, .int .u32 0, .int .u32 0, .int .u32 0, .int .u32 0, .int .u32 0, .int .u32 0, .int .u32 0, .int .u32 0, .int .u32 0, .int .u32 0, .int .u32 0, .int .u32 0, .int .u32 0, .int .u32 0, .int .u32 0, .int .u32 0, .int .u32 0, .int .u32 0, .int .u32 0, .int .u32 0, .int .u32 0, .int .u32 0, .int .u32 0, .int .u32 0, .int .u32 0, .int .u32 0, .int .u32 0, .int .u32 0, .int .u32 0, .int .u32 0, .int .u32 0, .int .u32 0, .int .u32 0, .int .u32 0, .int .u32 0, .int .u32 0, .int .u32 0, .int .u32 0, .int .u32 0, .int .u32 0, .int .u32 0, .int .u32 0, .int .u32 0, .int .u32 0, .int .u32 0, .int .u32 0, .int .u32 0, .int .u32 0, .int .u32 0, .int .u32 0, .int .u32 0, .int .u32 0, .int .u32 0, .int .u32 0, .int .u32 0, .int .u32 0, .int .u32 0, .int .u32 0, .int .u32 0, .int .u32 0, .int .u32 0, .int .u32 0, .int .u32 0, .int .u32 0, .int .u32 0, .int .u32 0, .int .u32 0, .int .u32 0, .int .u32 0, .int .u32 0, .int .u32 0, .int .u32 0, .int .u32 0, .int .u32 0, .int .u32 0, .int .u32 0, .int .u32 0, .int .u32 0, .int .u32 0, .int .u32 0, .int .u32 0, .int .u32 0, .int .u32 0, .int .u32 0, .int .u32 0, .int .u32 0, .int .u32 0, .int .u32 0, .int .u32 0, .int .u32 0, .int .u32 0, .int .u32 0, .int .u32 0, .int .u32 0, .int .u32 0, .int .u32 0, .int .u32 0, .int .u32 0, .int .u32 0, .int .u32 0, .int .u32 0, .int .u32 0, .int .u32 0, .int .u32 0, .int .u32 0, .int .u32 0, .int .u32 0, .int .u32 0, .int .u32 0, .int .u32 0, .int .u32 0, .int .u32 0, .int .u32 0, .int .u32 0, .int .u32 0, .int .u32 0, .int .u32 0, .int .u32 0, .int .u32 0, .int .u32 0, .int .u32 0, .int .u32 0, .int .u32 0, .int .u32 0, .int .u32 0, .int .u32 0, .int .u32 0, .int .u32 0, .int .u32 0, .int .u32 0, .int .u32 0, .int .u32 0, .int .u32 0, .int .u32 0, .int .u32 0, .int .u32 0, .int .u32 0, .int .u32 0, .int .u32 0, .int .u32 0, .int .u32 0, .int .u32 0, .int .u32 0, .int .u32 0, .int .u32 0, .int .u32 0, .int .u32 0, .int .u32 0, .int .u32 0, .int .u32 0, .int .u32 0, .int .u32 0, .int .u32 0, .int .u32 0, .int .u32 0, .int .u32 0, .int .u32 0, .int .u32 0, .int .u32 0, .int .u32 0, .int .u32 0, .int .u32 0, .int .u32 0, .int .u32 0, .int .u32 0, .int .u32 0, .int .u32 0, .int .u32 0, .int .u32 0, .int .u32 0, .int .u32 0, .int .u32 0, .int .u32 0, .int .u32 0, .int .u32 0, .int .u32 0, .int .u32 0, .int .u32 0, .int .u32 0, .int .u32 0]) Tryz.underlying159 sz29 ze159 rfl (by kernel_rfl)) rfl ?_; clear H a; intro a H
  refine n_box H rfl (cs := ((#v[0, 0, 0, 0, 0, 0, 0, 0, 0, 0, 0, 0, 0, 0, 0, 0, 0, 0, 0, 0, 0, 0, 0, 0, 0, 0, 0, 0, 0, 0, 0, 0, 0, 0, 0, 0, 0, 0, 0, 0, 0, 0, 0, 0, 0, 0, 0, 0, 0, 0, 0, 0, 0, 0, 0, 0, 0, 0, 0, 0, 0, 0, 0, 0, 0, 0, 0, 0, 0, 0, 0, 0, 0, 0, 0, 0, 0, 0, 0, 0, 0, 0, 0, 0, 0, 0, 0, 0, 0, 0, 0, 0, 0, 0, 0, 0, 0, 0, 0, 0, 0, 0, 0, 0, 0, 0, 0, 0, 0, 0, 0, 0, 0, 0, 0, 0, 0, 0, 0, 0, 0, 0, 0, 0, 0, 0, 0, 0, 0, 0, 0, 0, 0, 0, 0, 0, 0, 0, 0, 0, 0, 0, 0, 0, 0, 0, 0, 0, 0, 0, 0, 0, 0, 0, 0, 0, 0, 0, 0, 0, 0, 0, 0, 0, 0, 0, 0, 0, 0, 0, 0, 0, 0, 0, 0, 0, 0, 0, 0, 0, 0, 0, 0, 0, 0, 0, 0, 0, 0, 0, 0, 0, 0, 0, 0, 0, 0, 0, 0, 0, 0, 0, 0, 0, 0, 0, 0, 0, 0, 0, 0, 0, 0, 0, 0, 0, 0, 0, 0, 0, 0, 0, 0, 0, 0, 0, 0, 0, 0, 0, 0, 0, 0, 0, 0, 0, 0, 0, 0, 0, 0, 0, 0, 0, 0, 0, 0, 0, 0, 0, 0, 0, 0, 0, 0, 0]).toList.map (Value.int .u32))) rfl rfl ?_
  clear H; intro b21 w22 hN hE23 hs; clear a; intro a H
  replace hS := hS.newBlk hN hE23 hs; clear hN hs
  refine n_q H (q_assign rfl) rfl ?_; clear H a; intro a H
  refine n_nil (then_normal (wp_seq (wp_seq (wp_region_lit (n_q H (q_move rfl) rfl ?_))))); clear H a; intro a H
  refine n_nil (then_normal (wp_block ?_))
  replace hm := bindS hm; obtain ⟨q24, hm, hm24⟩ := hm; replace hm := iter_some hm; obtain ⟨n24, hm⟩ := hm
  refine c_loop (σ := Nat × Nat × (Vector Int 256)) (fun (m, i25, y26) => [(1, .pointer (some ⟨b21, 0, none⟩)), (6, .int .i64 ((i25 : Nat) : Int))]) (fun (m, i25, y26) wl => iterN g_crc_table_L4 m (i25, y26) = some q24 ∧ St NB w wl [blkR b21 (y26.toList.map (Value.int .u32)) 159]) (fun (m, i25, y26) => m) (n24, 0, #v[0, 0, 0, 0, 0, 0, 0, 0, 0, 0, 0, 0, 0, 0, 0, 0, 0, 0, 0, 0, 0, 0, 0, 0, 0, 0, 0, 0, 0, 0, 0, 0, 0, 0, 0, 0, 0, 0, 0, 0, 0, 0, 0, 0, 0, 0, 0, 0, 0, 0, 0, 0, 0, 0, 0, 0, 0, 0, 0, 0, 0, 0, 0, 0, 0, 0, 0, 0, 0, 0, 0, 0, 0, 0, 0, 0, 0, 0, 0, 0, 0, 0, 0, 0, 0, 0, 0, 0, 0, 0, 0, 0, 0, 0, 0, 0, 0, 0, 0, 0, 0, 0, 0, 0, 0, 0, 0, 0, 0, 0, 0, 0, 0, 0, 0, 0, 0, 0, 0, 0, 0, 0, 0, 0, 0, 0, 0, 0, 0, 0, 0, 0, 0, 0, 0, 0, 0, 0, 0, 0, 0, 0, 0, 0, 0, 0, 0, 0, 0, 0, 0, 0, 0, 0, 0, 0, 0, 0, 0, 0, 0, 0, 0, 0, 0, 0, 0, 0, 0, 0, 0, 0, 0, 0, 0, 0, 0, 0, 0, 0, 0, 0, 0, 0, 0, 0, 0, 0, 0, 0, 0, 0, 0, 0, 0, 0, 0, 0, 0, 0, 0, 0, 0, 0, 0, 0, 0, 0, 0, 0, 0, 0, 0, 0, 0, 0, 0, 0, 0, 0, 0, 0, 0, 0, 0, 0, 0, 0, 0, 0, 0, 0, 0, 0, 0, 0, 0, 0, 0, 0, 0, 0, 0, 0, 0, 0, 0, 0, 0, 0, 0, 0, 0, 0, 0, 0]) H ⟨rfl, rfl, trivial⟩ ⟨hm, hS⟩ ?_
  clear H hS hm a; intro xx a w27 H hR; obtain ⟨m, i25, y26⟩ := xx; simp only [ent, List.map_cons, List.map_nil] at H; (try dsimp only at hR); obtain ⟨hm, hS⟩ := hR
  replace hm := iterN_step hm; obtain ⟨m24, o24, rfl, hm, hn24⟩ := hm; try dsimp only [g_crc_table_L4] at hm
  refine wp_seq (wp_region_lit (n_q H (q_lssN (i := i25) (j := 256) rfl rfl) rfl ?_)); clear H a; intro a H
  refine n_nil (then_normal (wp_seq (c_cond H rfl (fun hc28 => ?_) (fun hc28 => ?_))))
  · replace hm := condT hm hc28
    have hlt29 : i25 < 256 := of_decide_eq_true hc28
    refine wp_skip (then_normal (wp_seq (wp_block (wp_seq (wp_region_lit (n_q H (q_move rfl) rfl (W_q (q_assign rfl) rfl ?_))))))); clear H a; intro a H
    refine n_nil (then_normal (wp_seq (wp_region_lit (n_q H (q_move rfl) rfl (W_q (q_convI Tryz.underlying3 Tryz.underlying29 ⟨_, rfl⟩ rfl) rfl (W_q (q_assign rfl) rfl ?_)))))); clear H a; intro a H
    refine n_nil (then_normal (wp_seq (wp_seq (wp_region_lit (n_q H (q_move rfl) rfl ?_))))); clear H a; intro a H
    refine n_nil (then_normal (wp_block ?_))
    replace hm := bindS hm; obtain ⟨q30, hm, hm30⟩ := hm; replace hm := iter_some hm; obtain ⟨n30, hm⟩ := hm
    refine c_loop (σ := Nat × Int × Nat) (fun (m, z31, i32) => [(1, .pointer (some ⟨b21, 0, none⟩)), (2, .int .i64 ((i25 : Nat) : Int)), (3, .int .u32 z31), (6, .int .i64 ((i25 : Nat) : Int)), (11, .int .i64 ((i32 : Nat) : Int))]) (fun (m, z31, i32) wl => iterN g_crc_table_L3 m (z31, i32) = some q30 ∧ St NB w wl [blkR b21 (y26.toList.map (Value.int .u32)) 159]) (fun (m, z31, i32) => m) (n30, (IntKind.u32.wrap ((i25 : Nat) : Int)), 0) H ⟨rfl, rfl, rfl, rfl, rfl, trivial⟩ ⟨hm, hS⟩ ?_
    clear H hS hm a; intro xx a w33 H hR; obtain ⟨m, z31, i32⟩ := xx; simp only [ent, List.map_cons, List.map_nil] at H; (try dsimp only at hR); obtain ⟨hm, hS⟩ := hR
    replace hm := iterN_step hm; obtain ⟨m30, o30, rfl, hm, hn30⟩ := hm; try dsimp only [g_crc_table_L3] at hm
    refine wp_seq (wp_region_lit (n_q H (q_lssN (i := i32) (j := 8) rfl rfl) rfl ?_)); clear H a; intro a H
    refine n_nil (then_normal (wp_seq (c_cond H rfl (fun hc34 => ?_) (fun hc34 => ?_))))
    · replace hm := condT hm hc34
      have hlt35 : i32 < 8 := of_decide_eq_true hc34
      refine wp_skip (then_normal (wp_seq (wp_block (wp_region_lit (n_q H (q_move rfl) rfl ?_))))); clear H a; intro a H
      replace hm := bindS hm; obtain ⟨r36, hr36, hm⟩ := hm
      refine n_call H rfl en100 (g_crc_step_w (A := A) hr36) rfl ?_
      clear H; intro x39 w37 hv; clear a; intro a H; obtain ⟨rfl, hE38⟩ := hv
      replace hS := hS.ext hE38
      refine n_q H (q_assign rfl) rfl ?_; clear H a; intro a H
      refine n_nil (block_normal (then_normal (wp_region_lit (n_q H (q_incr (i := i32) (j := 1) rfl rfl (by omega)) rfl (W_q (q_move rfl) rfl ?_))))); clear H a; intro a H
      refine n_nil (then_normal ?_)
      obtain rfl := Option.some.inj hm
      exact round (m30, r36, i32 + 1) H ⟨rfl, rfl, rfl, rfl, rfl, trivial⟩ ⟨hn30, hS⟩ (Nat.lt_succ_self _)
    · replace hm := condF hm hc34
      refine wp_exit (then_exit (then_exit (block_exit ?_)))
      obtain rfl := Option.some.inj hm; have hz : _ = q30 := hn30; subst hz; replace hm := hm30; try dsimp only at hm
      refine then_normal (wp_region_lit (n_q H (q_move rfl) rfl (W_q (q_move rfl) rfl (W_q (q_move rfl) rfl (W_q (q_nilCheck rfl) rfl ?_))))); clear H a; intro a H
      replace hm := bindS hm; obtain ⟨x40, hx40, hm⟩ := hm
      obtain ⟨h0x40, h1x40, hxx40⟩ := rdV_some hx40
      refine n_q H (q_ixArrB Tryz.underlying159 sz29 rfl rfl h0x40 h1x40) rfl ?_; clear H a; intro a H
      refine n_store1 H rfl rfl sz29 (hS.blk 0 rfl) (by simp; omega) rfl ?_
      clear H; intro w41 hN hC42 hz; clear a; intro a H; replace hN := (congrArg (fun z => Blk w41 b21 z 159) (vec_setO y26 (Value.int .u32) (((i25 : Nat) : Int).toNat) z31)).mp hN; replace hS := hS.setBlk hN hC42; clear hN hz
      refine n_nil (block_normal (then_normal (wp_region_lit (n_q H (q_incr (i := i25) (j := 1) rfl rfl (by omega)) rfl (W_q (q_move rfl) rfl ?_))))); clear H a; intro a H
      refine n_nil (then_normal ?_)
      obtain rfl := Option.some.inj hm
      exact round (m24, i25 + 1, (y26.setIfInBounds (((i25 : Nat) : Int).toNat) z31)) H ⟨rfl, rfl, trivial⟩ ⟨hn24, hS⟩ (Nat.lt_succ_self _)
  · replace hm := condF hm hc28
    refine wp_exit (then_exit (then_exit (block_exit ?_)))
    obtain rfl := Option.some.inj hm; have hz : _ = q24 := hn24; subst hz; replace hm := hm24; try dsimp only at hm
    refine then_normal (wp_seq (wp_region_lit (n_q H (q_move rfl) rfl (W_q (q_assign rfl) rfl ?_)))); clear H a; intro a H
    refine n_nil (then_normal (wp_ret ?_))
    obtain rfl := Option.some.inj hm
    refine ret1 H (.inr rfl) rfl rfl ?_
    exact ⟨_, rfl, hS⟩
theorem g_crc_move_w {w : World} {A : Nat → Addr} {a0 : Int} {v1 : Value} {a1 : List UInt8} (h1 : SlR w 1 (Flat eB) v1 a1) {r : Int} (hm : g_crc_move a0 a1 = some r) :
    Calls Tryz.prog 88 [.int .u32 a0, v1].toArray w (Ret fun u w' => u = .int .u32 r ∧ Ext w w') := by
  have hS := St.begin NB w
  unfold g_crc_move at hm
  refine enter Tryz.func88 rfl rfl rfl ?_; intro a H; dsimp only [enumL, Nat.zero_add, Nat.reduceAdd] at H
  refine wp_seq (wp_region_lit (n_q H (q_assign rfl) rfl ?_)); clear H a; intro a H
  refine n_nil (then_normal (wp_seq (wp_seq (wp_region_lit (n_q H (q_move rfl) rfl ?_))))); clear H a; intro a H
  obtain ⟨A21, c21, hv21, hl21, hm21⟩ := SlR.formV (h1.ext (Flat.mono _) hS.x)
  refine n_q H (q_lenV Tryz.underlying28 rfl hv21) rfl (W_q (q_eqlN (i := a1.length) (j := 0) rfl rfl) rfl ?_); clear H a; intro a H
  refine n_nil (then_normal (c_cond H rfl (fun hc22 => ?_) (fun hc22 => ?_)))
  · replace hm := condT hm hc22
    refine wp_seq (wp_region_lit (n_q H (q_move rfl) rfl (W_q (q_assign rfl) rfl ?_))); clear H a; intro a H
    refine n_nil (then_normal (wp_ret (then_ret ?_)))
    obtain rfl := Option.some.inj hm
    refine ret1 H (.inr rfl) rfl rfl ?_
    exact ⟨rfl, hS.x⟩
  · replace hm := condF hm hc22
    refine wp_skip (then_normal (wp_seq (wp_region_lit ?_)))
    replace hm := bindS hm; obtain ⟨r23, hr23, hm⟩ := hm
    refine n_call H rfl en97 (g_crc_table_w (A := A) hr23) rfl ?_
    clear H; intro x28 w26 hv; clear a; intro a H; obtain ⟨u24, rfl, hE27⟩ := hv
    replace hS := hS.new hE27; simp only [List.cons_append, List.nil_append] at hS
    refine n_q H (q_assign rfl) rfl ?_; clear H a; intro a H
    refine n_nil (then_normal (wp_seq (wp_seq (wp_region_lit (n_q H (q_move rfl) rfl (W_q (q_lenV Tryz.underlying28 rfl hv21) rfl (W_q (q_move rfl) rfl ?_))))))); clear H a; intro a H
    refine n_nil (then_normal (wp_block ?_))
    replace hm := bindS hm; obtain ⟨q29, hm, hm29⟩ := hm; replace hm := iter_some hm; obtain ⟨n29, hm⟩ := hm
    refine c_loop (σ := Nat × Int × Nat) (fun (m, z30, i31) => [(0, .int .u32 z30), (5, .pointer (some ⟨u24, 0, none⟩)), (13, v1), (14, .int .i64 ((a1.length : Nat) : Int)), (15, .int .i64 ((i31 : Nat) : Int))]) (fun (m, z30, i31) wl => iterN (g_crc_move_L1 a1 r23) m (z30, i31) = some q29 ∧ St NB w wl [blkR u24 (r23.toList.map (Value.int .u32)) 159]) (fun (m, z30, i31) => m) (n29, a0, 0) H ⟨rfl, rfl, rfl, rfl, rfl, trivial⟩ ⟨hm, hS⟩ ?_
    clear H hS hm a; intro xx a w32 H hR; obtain ⟨m, z30, i31⟩ := xx; simp only [ent, List.map_cons, List.map_nil] at H; (try dsimp only at hR); obtain ⟨hm, hS⟩ := hR
    replace hm := iterN_step hm; obtain ⟨m29, o29, rfl, hm, hn29⟩ := hm; try dsimp only [g_crc_move_L1] at hm
    refine wp_seq (wp_region_lit (n_q H (q_lssN (i := i31) (j := a1.length) rfl rfl) rfl ?_)); clear H a; intro a H
    refine n_nil (then_normal (wp_seq (c_cond H rfl (fun hc33 => ?_) (fun hc33 => ?_))))
    · replace hm := condT hm hc33
      have hlt34 : i31 < a1.length := of_decide_eq_true hc33
      refine wp_skip (then_normal (wp_seq (wp_block (wp_seq (wp_region_lit ?_)))))
      replace hm := bindS hm; obtain ⟨x35, hx35, hm⟩ := hm
      obtain ⟨adx35, hAx35⟩ := SlR.adV (h1.ext (Flat.mono _) hS.x) hv21 hx35
      refine n_q H (q_ixV (i := i31) Tryz.underlying28 sz5 rfl hv21 hAx35 rfl (natI hx35)) rfl (W_q (q_load rfl (SlR.ldOneV (h1.ext (Flat.mono _) hS.x) hv21 hAx35 ag5 hx35 rfl)) rfl (W_q (q_assign rfl) rfl ?_)); clear H a; intro a H
      refine n_nil (then_normal (wp_region_lit (n_q H (q_move rfl) rfl (W_q (q_move rfl) rfl (W_q (q_convI Tryz.underlying29 Tryz.underlying5 ⟨_, rfl⟩ rfl) rfl (W_q (q_move rfl) rfl (W_q (q_xor rfl rfl) rfl (W_q (q_nilCheck rfl) rfl ?_)))))))); clear H a; intro a H
      replace hm := bindS hm; obtain ⟨x36, hx36, hm⟩ := hm
      obtain ⟨h0x36, h1x36, hxx36⟩ := rdV_some hx36
      refine n_q H (q_ixArrB Tryz.underlying159 sz29 rfl rfl h0x36 h1x36) rfl (W_q (q_load rfl ((hS.blk 0 rfl).ld ag29 (arr_at1O (f := (Value.int .u32)) hxx36))) rfl (W_q (q_move rfl) rfl (W_q (q_shr rfl rfl (by decide)) rfl (W_q (q_xor rfl rfl) rfl (W_q (q_assign rfl) rfl ?_))))); clear H a; intro a H
      refine n_nil (block_normal (then_normal (wp_region_lit (n_q H (q_incr (i := i31) (j := 1) rfl rfl (by omega)) rfl (W_q (q_move rfl) rfl ?_))))); clear H a; intro a H
      refine n_nil (then_normal ?_)
      obtain rfl := Option.some.inj hm
      exact round (m29, (bitXor .u32 x36 (shR .u32 z30 8)), i31 + 1) H ⟨rfl, rfl, rfl, rfl, rfl, trivial⟩ ⟨hn29, hS⟩ (Nat.lt_succ_self _)
    · replace hm := condF hm hc33
      refine wp_exit (then_exit (then_exit (block_exit ?_)))
      obtain rfl := Option.some.inj hm; have hz : _ = q29 := hn29; subst hz; replace hm := hm29; try dsimp only at hm
      refine then_normal (wp_seq (wp_region_lit (n_q H (q_move rfl) rfl (W_q (q_assign rfl) rfl ?_)))); clear H a; intro a H
      refine n_nil (then_normal (wp_ret ?_))
      obtain rfl := Option.some.inj hm
      replace hS := hS.tk0
      refine ret1 H (.inr rfl) rfl rfl ?_
      exact ⟨rfl, hS.x⟩
theorem g_crc_More_w {w : World} {A : Nat → Addr} {a0 : Int} {v1 : Value} {a1 : List UInt8} (h1 : SlR w 1 (Flat eB) v1 a1) {r : Int} (hm : g_crc_More a0 a1 = some r) :
    Calls Tryz.prog 77 [.int .u32 a0, v1].toArray w (Ret fun u w' => u = .int .u32 r ∧ Ext w w') := by
  have hS := St.begin NB w
  unfold g_crc_More at hm
  refine enter Tryz.func77 rfl rfl rfl ?_; intro a H; dsimp only [enumL, Nat.zero_add, Nat.reduceAdd] at H
  refine wp_seq (wp_region_lit (n_q H (q_assign rfl) rfl ?_)); clear H a; intro a H
  refine n_nil (then_normal (wp_seq (wp_region_lit (n_q H (q_move rfl) rfl (W_q (q_compl rfl) rfl (W_q (q_move rfl) rfl ?_)))))); clear H a; intro a H
  replace hm := bindS hm; obtain ⟨r21, hr21, hm⟩ := hm
  refine n_call H rfl en88 (g_crc_move_w (A := A) (h1.ext (Flat.mono _) hS.x) hr21) rfl ?_
  clear H; intro x24 w22 hv; clear a; intro a H; obtain ⟨rfl, hE23⟩ := hv
  replace hS := hS.ext hE23
  refine n_q H (q_compl rfl) rfl (W_q (q_assign rfl) rfl ?_); clear H a; intro a H
  refine n_nil (then_normal (wp_ret ?_))
  obtain rfl := Option.some.inj hm
  refine ret1 H (.inr rfl) rfl rfl ?_
  exact ⟨rfl, hS.x⟩
theorem g_crc_Sum_w {w : World} {A : Nat → Addr} {v0 : Value} {a0 : List UInt8} (h0 : SlR w 1 (Flat eB) v0 a0) {r : Int} (hm : g_crc_Sum a0 = some r) :
    Calls Tryz.prog 61 [v0].toArray w (Ret fun u w' => u = .int .u32 r ∧ Ext w w') := by
  have hS := St.begin NB w
  unfold g_crc_Sum at hm
  refine enter Tryz.func61 rfl rfl rfl ?_; intro a H; dsimp only [enumL, Nat.zero_add, Nat.reduceAdd] at H
  refine wp_seq (wp_region_lit (n_q H (q_assign rfl) rfl ?_)); clear H a; intro a H
  refine n_nil (then_normal (wp_seq (wp_region_lit (n_q H (q_move rfl) rfl ?_)))); clear H a; intro a H
  replace hm := bindS hm; obtain ⟨r21, hr21, hm⟩ := hm
  refine n_call H rfl en77 (g_crc_More_w (A := A) (h0.ext (Flat.mono _) hS.x) hr21) rfl ?_
  clear H; intro x24 w22 hv; clear a; intro a H; obtain ⟨rfl, hE23⟩ := hv
  replace hS := hS.ext hE23
  refine n_q H (q_assign rfl) rfl ?_; clear H a; intro a H
  refine n_nil (then_normal (wp_ret ?_))
  obtain rfl := Option.some.inj hm
  refine ret1 H (.inr rfl) rfl rfl ?_
  exact ⟨rfl, hS.x⟩
theorem g_crc_Seal_w {w : World} {A : Nat → Addr} {v0 : Value} {a0 : List UInt8} (h0 : SlR w 1 (Flat eB) v0 a0) {r : List UInt8} (hm : g_crc_Seal a0 = some r) :
    Calls Tryz.prog 33 [v0].toArray w (Ret fun u w' => ∃ h_0, u = h_0 ∧ St NB w w' [ownR 5 1 h_0 r.length (r.flatMap eB)]) := by
  have hS := St.begin NB w
  unfold g_crc_Seal at hm
  refine enter Tryz.func33 rfl rfl rfl ?_; intro a H; dsimp only [enumL, Nat.zero_add, Nat.reduceAdd] at H
  refine wp_seq (wp_region_lit (n_q H (q_assign rfl) rfl ?_)); clear H a; intro a H
  refine n_nil (then_normal (wp_seq (wp_region_lit (n_q H (q_move rfl) rfl ?_)))); clear H a; intro a H
  replace hm := bindS hm; obtain ⟨r21, hr21, hm⟩ := hm
  refine n_call H rfl en59 (g_bytes_Clone_w (A := A) (h0.ext (Flat.mono _) hS.x) hr21) rfl ?_
  clear H; intro u22 w24 hv; clear a; intro a H; obtain ⟨_, rfl, hE25⟩ := hv
  replace hS := hS.new hE25; simp only [List.cons_append, List.nil_append] at hS
  refine n_q H (q_move rfl) rfl ?_; clear H a; intro a H
  replace hm := bindS hm; obtain ⟨r27, hr27, hm⟩ := hm
  refine n_call H rfl en61 (g_crc_Sum_w (A := A) (h0.ext (Flat.mono _) hS.x) hr27) rfl ?_
  clear H; intro x30 w28 hv; clear a; intro a H; obtain ⟨rfl, hE29⟩ := hv
  replace hS := hS.ext hE29
  replace hm := bindS hm; obtain ⟨r31, hr31, hm⟩ := hm
  refine n_call H rfl en60 (g_crc_laid_w (A := A) hr31) rfl ?_
  clear H; intro u32 w34 hv; clear a; intro a H; obtain ⟨_, rfl, hE35⟩ := hv
  replace hS := hS.new hE35; simp only [List.cons_append, List.nil_append] at hS
  replace hS := hS.pk1
  replace hm := chkS hm; obtain ⟨hk37, hm⟩ := hm
  refine n_app (e := eB) H rfl rfl Tryz.underlying28 Tryz.underlying28 (by simp) el5 (hS.own 0 rfl) (((hS.own 1 rfl).slr rfl (fun _ _ => rfl)).src (fun _ _ => rfl)) eB_one hk37 (by simp only [maxLen]; omega) rfl ?_
  clear H; intro v40 w38 hN hC39 hb; clear a; intro a H; replace hS := hS.setOwn hN hC39 hb; clear hN hb
  refine n_q H (q_assign rfl) rfl ?_; clear H a; intro a H
  refine n_nil (then_normal (wp_ret ?_))
  obtain rfl := Option.some.inj hm
  replace hS := hS.tk1
  refine ret1 H (.inr rfl) rfl rfl ?_
  exact ⟨_, rfl, hS⟩
theorem g_plan_Bytes_w {w : World} {A : Nat → Addr} {cs0 : List Value} {a0 : GPlan} (hG : EV A w) (h0 : RGPlan w cs0 a0) {r : List UInt8 × ErrM} (hm : g_plan_Bytes a0 = some r) :
    Calls Tryz.prog 15 [.agg cs0.toArray].toArray w (Ret fun u w' => ∃ h_0 h_1, u = .tuple #[h_0, h_1] ∧ St NB w w' [ownR 5 1 h_0 r.1.length (r.1.flatMap eB), erQ A h_1 r.2]) := by
  obtain ⟨vp0_0, vp0_1, vp0_2, vp0_3, rfl, hrp0_0, hrp0_1, hrp0_2, hrp0_3⟩ := h0
  have hS := St.begin NB w
  unfold g_plan_Bytes at hm
  refine enter Tryz.func15 rfl rfl rfl ?_; intro a H; dsimp only [enumL, Nat.zero_add, Nat.reduceAdd] at H
  refine wp_seq (wp_region_lit (n_box H rfl (cs := [.int .i64 a0.Id, .bool a0.Mobile, vp0_0, vp0_1, vp0_2, .int .i64 a0.Events, vp0_3]) rfl rfl ?_))
  clear H; intro b21 w22 hN hE23 hs; clear a; intro a H
  replace hS := hS.newBlk hN hE23 hs; clear hN hs
  refine n_q H (q_assign rfl) rfl (W_q (q_assign rfl) rfl ?_); clear H a; intro a H
  refine n_nil (then_normal (wp_seq (wp_seq (wp_region_lit (n_q H (q_load rfl ((hS.blk 0 rfl).ldAll ag27 sz27)) rfl ?_))))); clear H a; intro a H
  replace hm := bindS hm; obtain ⟨r24, hr24, hm⟩ := hm
  refine n_call H rfl en14 (g_plan_Check_w (A := A) (hG.ext hS.x) (⟨_, _, _, _, rfl, (hrp0_0.ext (Flat.mono _) hS.x), (hrp0_1.ext (Flat.mono _) hS.x), (hrp0_2.ext (Flat.mono _) hS.x), (hrp0_3.ext (Flat.mono _) hS.x)⟩ : RGPlan _ [.int .i64 a0.Id, .bool a0.Mobile, vp0_0, vp0_1, vp0_2, .int .i64 a0.Events, vp0_3] a0) hr24) rfl ?_
  clear H; intro u25 w27 hv; clear a; intro a H; obtain ⟨_, rfl, hE28⟩ := hv
  replace hS := hS.new hE28; simp only [List.cons_append, List.nil_append] at hS
  refine n_q H (q_cast (q_nnilI Tryz.underlying41 rfl rfl (hS.any 0 rfl : IsE A w27 u25 r24).form) (show _ = Value.bool (!decide (r24 = .nil)) by rw [IsErr.isNil (hS.any 0 rfl : IsE A w27 u25 r24)])) rfl ?_; clear H a; intro a H
  refine n_nil (then_normal (c_cond H rfl (fun hc30 => ?_) (fun hc30 => ?_)))
  · replace hm := condT hm hc30
    refine wp_seq (c_quiet (by kernel_rfl) (by kernel_rfl) ?_)
    refine qq_q H (q_load rfl ((hG.ext hS.x).ld gPlan (by decide) ag41)) rfl ?_; clear H a; intro a H
    refine qq_q H (q_assign rfl) rfl ?_; clear H a; intro a H
    refine qq_q H (q_assign rfl) rfl ?_; clear H a; intro a H
    refine qq_nil ?_; intro w31 hE32
    replace hS := hS.ext hE32
    refine then_normal (wp_ret (then_ret ?_))
    obtain rfl := Option.some.inj hm
    replace hS := hS.nilOwn 5 1
    replace hS := hS.dVar (A := A) (g := gPlan) (by decide)
    replace hS := hS.pk1
    replace hS := hS.tk2
    refine ret2 H (.inr rfl) rfl rfl rfl ?_
    exact ⟨_, _, rfl, hS⟩
  · replace hm := condF hm hc30
    refine wp_skip (then_normal (wp_seq (wp_region_lit (n_q H (q_load rfl ((hS.blk 1 rfl).ldAll ag27 sz27)) rfl ?_)))); clear H a; intro a H
    replace hm := bindS hm; obtain ⟨r35, hr35, hm⟩ := hm
    refine n_call H rfl en26 (g_plan_records_w (A := A) (hG.ext hS.x) (⟨_, _, _, _, rfl, (hrp0_0.ext (Flat.mono _) hS.x), (hrp0_1.ext (Flat.mono _) hS.x), (hrp0_2.ext (Flat.mono _) hS.x), (hrp0_3.ext (Flat.mono _) hS.x)⟩ : RGPlan _ [.int .i64 a0.Id, .bool a0.Mobile, vp0_0, vp0_1, vp0_2, .int .i64 a0.Events, vp0_3] a0) hr35) rfl ?_
    clear H; intro x42 w40 hv; clear a; intro a H; obtain ⟨u36, u37, u38, rfl, hE41⟩ := hv
    replace hS := hS.new hE41; simp only [List.cons_append, List.nil_append] at hS
    replace hS := hS.pk2
    replace hS := hS.pk2
    replace hS := hS.pk2
    obtain ⟨fp43, hG43, hK43, hR43, hF43⟩ := hS.frame (rs1 := [blkR u36 [u37, u38] 108, ownR 5 1 u37 r35.buf_.length (r35.buf_.flatMap eB), erQ A u38 r35.err_])
    replace hm := bindS hm; obtain ⟨r44, hr44, hm⟩ := hm
    refine n_call H rfl en27 (g_wire_Writer_Done_w (A := A) hG43 hr44) rfl ?_
    clear H; intro x54 w52 hv; clear a; intro a H; obtain ⟨u45, u46, u47, u48, rfl, hE53⟩ := hv
    replace hS := hF43 _ _ hE53; simp only [List.cons_append, List.nil_append] at hS; clear hG43 hK43 hR43 hF43
    refine n_q H (q_move rfl) rfl (W_q (q_extract rfl rfl) rfl (W_q (q_extract rfl rfl) rfl (W_q (q_assign rfl) rfl (W_q (q_assign rfl) rfl ?_)))); clear H a; intro a H
    refine n_nil (then_normal (wp_seq (wp_seq (wp_region_lit (n_q H (q_move rfl) rfl (W_q (q_cast (q_nnilI Tryz.underlying41 rfl rfl (hS.any 3 rfl : IsE A w52 u46 r44.2.1).form) (show _ = Value.bool (!decide (r44.2.1 = .nil)) by rw [IsErr.isNil (hS.any 3 rfl : IsE A w52 u46 r44.2.1)])) rfl ?_)))))); clear H a; intro a H
    refine n_nil (then_normal (c_cond H rfl (fun hc55 => ?_) (fun hc55 => ?_)))
    · replace hm := condT hm hc55
      refine wp_seq (wp_region_lit (n_q H (q_move rfl) rfl (W_q (q_assign rfl) rfl (W_q (q_assign rfl) rfl ?_)))); clear H a; intro a H
      refine n_nil (then_normal (wp_ret (then_ret ?_)))
      obtain rfl := Option.some.inj hm
      replace hS := hS.nilOwn 5 1
      replace hS := hS.pk4
      replace hS := hS.pk1
      replace hS := hS.tk2
      refine ret2 H (.inr rfl) rfl rfl rfl ?_
      exact ⟨_, _, rfl, hS⟩
    · replace hm := condF hm hc55
      refine wp_skip (then_normal (wp_seq (wp_region_lit ?_)))
      replace hm := bindS hm; obtain ⟨r57, hr57, hm⟩ := hm
      refine n_call H rfl en28 (g_wire_NewWriter_w (A := A) hr57) rfl ?_
      clear H; intro x64 w62 hv; clear a; intro a H; obtain ⟨u58, u59, u60, rfl, hE63⟩ := hv
      replace hS := hS.new hE63; simp only [List.cons_append, List.nil_append] at hS
      refine n_q H (q_assign rfl) rfl ?_; clear H a; intro a H
      refine n_nil (then_normal (wp_seq (wp_region_lit (n_q H (q_move rfl) rfl ?_)))); clear H a; intro a H
      refine n_bytesConst H Tryz.underlying28 Tryz.underlying5 sz5 ze5 rfl rfl rfl (cs := [.int .u8 70, .int .u8 80, .int .u8 76, .int .u8 78]) (by kernel_rfl) rfl rfl ?_
      clear H; intro b67 w65 hN hE66 hs; clear a; intro a H
      replace hS := hS.newBlk hN hE66 hs; clear hN hs
      replace hS := hS.blkOwnL (e := eB) (k := 1) [(byteOf 70), (byteOf 80), (byteOf 76), (byteOf 78)] (by kernel_rfl) rfl (by simp [maxLen])
      replace hS := hS.pk3
      replace hS := hS.pk3
      replace hS := hS.pk3
      obtain ⟨fp69, hG69, hK69, hR69, hF69⟩ := hS.frame (rs1 := [blkR u58 [u59, u60] 108, ownR 5 1 u59 r57.buf_.length (r57.buf_.flatMap eB), erQ A u60 r57.err_])
      replace hm := bindS hm; obtain ⟨r70, hr70, hm⟩ := hm
      refine n_call H rfl en29 (g_wire_Writer_Raw_w (A := A) hG69 (fun w' hw => (restOwn (hR69 0 _ rfl _ hw)).slr rfl (fun _ _ => rfl)) hr70) rfl ?_
      clear H; intro x76 w74 hv; clear a; intro a H; obtain ⟨u71, u72, rfl, hE75⟩ := hv
      replace hS := hF69 _ _ hE75; simp only [List.cons_append, List.nil_append] at hS; clear hG69 hK69 hR69 hF69
      refine n_nil (then_normal (wp_seq (wp_region_lit (n_q H (q_move rfl) rfl ?_)))); clear H a; intro a H
      replace hS := hS.pk2
      replace hS := hS.pk2
      replace hS := hS.pk2
      obtain ⟨fp77, hG77, hK77, hR77, hF77⟩ := hS.frame (rs1 := [blkR u58 [u71, u72] 108, ownR 5 1 u71 r70.buf_.length (r70.buf_.flatMap eB), erQ A u72 r70.err_])
      replace hm := bindS hm; obtain ⟨r78, hr78, hm⟩ := hm
      refine n_call H rfl en30 (g_wire_Writer_U16_w (A := A) (fun w' hw => hG.ext (hK77 _ hw).ext) hG77 hr78) rfl ?_
      clear H; intro x84 w82 hv; clear a; intro a H; obtain ⟨u79, u80, rfl, hE83⟩ := hv
      replace hS := hF77 _ _ hE83; simp only [List.cons_append, List.nil_append] at hS; clear hG77 hK77 hR77 hF77
      refine n_nil (then_normal (wp_seq (wp_region_lit (n_q H (q_move rfl) rfl (W_q (q_move rfl) rfl ?_))))); clear H a; intro a H
      obtain ⟨A85, c85, hv85, hl85, hm85⟩ := SlR.formV ((hS.own 6 rfl).slr rfl (fun _ _ => rfl))
      refine n_q H (q_lenV Tryz.underlying28 rfl hv85) rfl (W_q (q_addW rfl rfl) rfl (W_q (q_addW rfl rfl) rfl ?_)); clear H a; intro a H
      replace hS := hS.pk2
      replace hS := hS.pk2
      replace hS := hS.pk2
      obtain ⟨fp86, hG86, hK86, hR86, hF86⟩ := hS.frame (rs1 := [blkR u58 [u79, u80] 108, ownR 5 1 u79 r78.buf_.length (r78.buf_.flatMap eB), erQ A u80 r78.err_])
      replace hm := bindS hm; obtain ⟨r87, hr87, hm⟩ := hm
      refine n_call H rfl en31 (g_wire_Writer_U32_w (A := A) (fun w' hw => hG.ext (hK86 _ hw).ext) hG86 hr87) rfl ?_
      clear H; intro x93 w91 hv; clear a; intro a H; obtain ⟨u88, u89, rfl, hE92⟩ := hv
      replace hS := hF86 _ _ hE92; simp only [List.cons_append, List.nil_append] at hS; clear hG86 hK86 hR86 hF86
      refine n_nil (then_normal (wp_seq (wp_region_lit (n_q H (q_move rfl) rfl (W_q (q_fieldAddr0 rfl fo27_0) rfl (W_q (q_load rfl ((hS.blk 9 rfl).ld ag3 rfl)) rfl ?_)))))); clear H a; intro a H
      replace hS := hS.pk2
      replace hS := hS.pk2
      replace hS := hS.pk2
      obtain ⟨fp94, hG94, hK94, hR94, hF94⟩ := hS.frame (rs1 := [blkR u58 [u88, u89] 108, ownR 5 1 u88 r87.buf_.length (r87.buf_.flatMap eB), erQ A u89 r87.err_])
      replace hm := bindS hm; obtain ⟨r95, hr95, hm⟩ := hm
      refine n_call H rfl en31 (g_wire_Writer_U32_w (A := A) (fun w' hw => hG.ext (hK94 _ hw).ext) hG94 hr95) rfl ?_
      clear H; intro x101 w99 hv; clear a; intro a H; obtain ⟨u96, u97, rfl, hE100⟩ := hv
      replace hS := hF94 _ _ hE100; simp only [List.cons_append, List.nil_append] at hS; clear hG94 hK94 hR94 hF94
      refine n_nil (then_normal (wp_seq (wp_region_lit (n_q H (q_move rfl) rfl (W_q (q_fieldAddr0 rfl fo27_1) rfl (W_q (q_load rfl ((hS.blk 9 rfl).ld ag4 rfl)) rfl ?_)))))); clear H a; intro a H
      replace hS := hS.pk2
      replace hS := hS.pk2
      replace hS := hS.pk2
      obtain ⟨fp102, hG102, hK102, hR102, hF102⟩ := hS.frame (rs1 := [blkR u58 [u96, u97] 108, ownR 5 1 u96 r95.buf_.length (r95.buf_.flatMap eB), erQ A u97 r95.err_])
      replace hm := bindS hm; obtain ⟨r103, hr103, hm⟩ := hm
      refine n_call H rfl en32 (g_wire_Writer_Flag_w (A := A) hG102 hr103) rfl ?_
      clear H; intro x109 w107 hv; clear a; intro a H; obtain ⟨u104, u105, rfl, hE108⟩ := hv
      replace hS := hF102 _ _ hE108; simp only [List.cons_append, List.nil_append] at hS; clear hG102 hK102 hR102 hF102
      refine n_nil (then_normal (wp_seq (wp_region_lit (n_q H (q_move rfl) rfl (W_q (q_move rfl) rfl ?_))))); clear H a; intro a H
      replace hS := hS.pk2
      replace hS := hS.pk2
      replace hS := hS.pk2
      obtain ⟨fp110, hG110, hK110, hR110, hF110⟩ := hS.frame (rs1 := [blkR u58 [u104, u105] 108, ownR 5 1 u104 r103.buf_.length (r103.buf_.flatMap eB), erQ A u105 r103.err_])
      replace hm := bindS hm; obtain ⟨r111, hr111, hm⟩ := hm
      refine n_call H rfl en29 (g_wire_Writer_Raw_w (A := A) hG110 (fun w' hw => (restOwn (hR110 3 _ rfl _ hw)).slr rfl (fun _ _ => rfl)) hr111) rfl ?_
      clear H; intro x117 w115 hv; clear a; intro a H; obtain ⟨u112, u113, rfl, hE116⟩ := hv
      replace hS := hF110 _ _ hE116; simp only [List.cons_append, List.nil_append] at hS; clear hG110 hK110 hR110 hF110
      refine n_nil (then_normal (wp_seq (wp_region_lit (n_q H (q_move rfl) rfl ?_)))); clear H a; intro a H
      replace hS := hS.pk2
      replace hS := hS.pk2
      replace hS := hS.pk2
      obtain ⟨fp118, hG118, hK118, hR118, hF118⟩ := hS.frame (rs1 := [blkR u58 [u112, u113] 108, ownR 5 1 u112 r111.buf_.length (r111.buf_.flatMap eB), erQ A u113 r111.err_])
      replace hm := bindS hm; obtain ⟨r119, hr119, hm⟩ := hm
      refine n_call H rfl en27 (g_wire_Writer_Done_w (A := A) hG118 hr119) rfl ?_
      clear H; intro x129 w127 hv; clear a; intro a H; obtain ⟨u120, u121, u122, u123, rfl, hE128⟩ := hv
      replace hS := hF118 _ _ hE128; simp only [List.cons_append, List.nil_append] at hS; clear hG118 hK118 hR118 hF118
      refine n_q H (q_move rfl) rfl (W_q (q_extract rfl rfl) rfl (W_q (q_extract rfl rfl) rfl (W_q (q_assign rfl) rfl (W_q (q_assign rfl) rfl ?_)))); clear H a; intro a H
      refine n_nil (then_normal (wp_seq (wp_seq (wp_region_lit (n_q H (q_move rfl) rfl (W_q (q_cast (q_nnilI Tryz.underlying41 rfl rfl (hS.any 3 rfl : IsE A w127 u121 r119.2.1).form) (show _ = Value.bool (!decide (r119.2.1 = .nil)) by rw [IsErr.isNil (hS.any 3 rfl : IsE A w127 u121 r119.2.1)])) rfl ?_)))))); clear H a; intro a H
      refine n_nil (then_normal (c_cond H rfl (fun hc130 => ?_) (fun hc130 => ?_)))
      · replace hm := condT hm hc130
        refine wp_seq (wp_region_lit (n_q H (q_move rfl) rfl (W_q (q_assign rfl) rfl (W_q (q_assign rfl) rfl ?_)))); clear H a; intro a H
        refine n_nil (then_normal (wp_ret (then_ret ?_)))
        obtain rfl := Option.some.inj hm
        replace hS := hS.nilOwn 5 1
        replace hS := hS.pk4
        replace hS := hS.pk1
        replace hS := hS.tk2
        refine ret2 H (.inr rfl) rfl rfl rfl ?_
        exact ⟨_, _, rfl, hS⟩
      · replace hm := condF hm hc130
        refine wp_skip (then_normal (wp_seq (wp_region_lit (n_q H (q_move rfl) rfl ?_)))); clear H a; intro a H
        replace hm := bindS hm; obtain ⟨r132, hr132, hm⟩ := hm
        refine n_call H rfl en33 (g_crc_Seal_w (A := A) ((hS.own 2 rfl).slr rfl (fun _ _ => rfl)) hr132) rfl ?_
        clear H; intro u133 w135 hv; clear a; intro a H; obtain ⟨_, rfl, hE136⟩ := hv
        replace hS := hS.new hE136; simp only [List.cons_append, List.nil_append] at hS
        refine n_q H (q_assign rfl) rfl (W_q (q_assign rfl) rfl ?_); clear H a; intro a H
        refine n_nil (then_normal (wp_ret ?_))
        obtain rfl := Option.some.inj hm
        replace hS := hS.dNil (A := A)
        replace hS := hS.pk1
        replace hS := hS.tk2
        refine ret2 H (.inr rfl) rfl rfl rfl ?_
        exact ⟨_, _, rfl, hS⟩
set_option maxHeartbeats 1000000 in
theorem g_law10_fixed_w {w : World} {A : Nat → Addr} (hG : EV A w) (hH : HE w) {r : Bool} (hm : g_law10_fixed = some r) :
    Calls Tryz.prog 4 [].toArray w (Ret fun u w' => u = .bool r ∧ Ext w w') := by
  have hS := St.begin NB w
  unfold g_law10_fixed at hm
  refine enter Tryz.func4 rfl rfl rfl ?_; intro a H; dsimp only [enumL, Nat.zero_add, Nat.reduceAdd] at H
  refine wp_seq (wp_region_lit (n_q H (q_assign rfl) rfl ?_)); clear H a; intro a H
  refine n_nil (then_normal (wp_seq (wp_region_lit ?_)))
  replace hm := bindS hm; obtain ⟨r21, hr21, hm⟩ := hm
  refine n_call H rfl en12 (g_law10_small_w (A := A) hr21) rfl ?_
  clear H; intro x32 w30 hv; clear a; intro a H; obtain ⟨u22, u23, u24, u25, rfl, hE31⟩ := hv
  replace hS := hS.new hE31; simp only [List.cons_append, List.nil_append] at hS
  refine n_alloc H ze27 rfl ?_
  clear H; intro b33 w34 hN hE35 hs; clear a; intro a H
  replace hS := hS.newBlk hN hE35 hs; clear hN hs
  refine n_storeAll H rfl rfl (vs := [.int .i64 r21.Id, .bool r21.Mobile, u22, u23, u24, .int .i64 r21.Events, u25]) rfl sz27 (hS.blk 0 rfl) rfl (by simp [(((hS.own 1 rfl).slr rfl (fun _ _ => rfl))).one, (((hS.own 2 rfl).slr rfl (fun _ _ => rfl))).one, (((hS.own 3 rfl).slr rfl (fun _ _ => rfl))).one, (((hS.own 4 rfl).slr rfl (fun _ _ => rfl))).one]) ?_
  clear H; intro w36 hN hC37 hz; clear a; intro a H; replace hS := hS.setBlk hN hC37; clear hN hz
  refine n_nil (then_normal (wp_seq (wp_region_lit (n_q H (q_load rfl ((hS.blk 0 rfl).ldAll ag27 sz27)) rfl ?_)))); clear H a; intro a H
  replace hm := bindS hm; obtain ⟨r38, hr38, hm⟩ := hm
  refine n_call H rfl en13 (g_plan_Bound_w (A := A) (hG.ext hS.x) (⟨_, _, _, _, rfl, ((hS.own 1 rfl).slr rfl (fun _ _ => rfl)), ((hS.own 2 rfl).slr rfl (fun _ _ => rfl)), ((hS.own 3 rfl).slr rfl (fun _ _ => rfl)), ((hS.own 4 rfl).slr rfl (fun _ _ => rfl))⟩ : RGPlan _ [.int .i64 r21.Id, .bool r21.Mobile, u22, u23, u24, .int .i64 r21.Events, u25] r21) hr38) rfl ?_
  clear H; intro x43 w41 hv; clear a; intro a H; obtain ⟨u39, rfl, hE42⟩ := hv
  replace hS := hS.new hE42; simp only [List.cons_append, List.nil_append] at hS
  refine n_q H (q_move rfl) rfl (W_q (q_extract rfl rfl) rfl (W_q (q_extract rfl rfl) rfl (W_q (q_assign rfl) rfl (W_q (q_assign rfl) rfl ?_)))); clear H a; intro a H
  refine n_nil (then_normal (wp_seq ?_))
  replace hm := bindS hm; obtain ⟨j44, hm, hm44⟩ := hm
  refine c_join (σ := Bool) H (fun q545 => [(1, .pointer (some ⟨b33, 0, none⟩)), (23, .bool q545)]) (fun q545 wl => (g_law10_fixed_J4 r21) q545 = some r ∧ St NB w wl [blkR b33 [.int .i64 r21.Id, .bool r21.Mobile, u22, u23, u24, .int .i64 r21.Events, u25] 27, ownR 69 2 u22 r21.Pages.length (r21.Pages.flatMap eGPagePlan), ownR 62 3 u23 r21.Procs.length (r21.Procs.flatMap eGProcPlan), ownR 78 4 u24 r21.Ports.length (r21.Ports.flatMap eGPortPlan), ownR 3 1 u25 r21.Sems.length (r21.Sems.flatMap eI)]) ?_ ?_
  · skip
    refine wp_region_lit (n_q H (q_load rfl ((hS.blk 1 rfl).ldAll ag27 sz27)) rfl ?_); clear H a; intro a H
    replace hm := bindS hm; obtain ⟨r546, hr546, hm⟩ := hm
    refine n_call H rfl en14 (g_plan_Check_w (A := A) (hG.ext hS.x) (⟨_, _, _, _, rfl, ((hS.own 2 rfl).slr rfl (fun _ _ => rfl)), ((hS.own 3 rfl).slr rfl (fun _ _ => rfl)), ((hS.own 4 rfl).slr rfl (fun _ _ => rfl)), ((hS.own 5 rfl).slr rfl (fun _ _ => rfl))⟩ : RGPlan _ [.int .i64 r21.Id, .bool r21.Mobile, u22, u23, u24, .int .i64 r21.Events, u25] r21) hr546) rfl ?_
    clear H; intro u547 w549 hv; clear a; intro a H; obtain ⟨_, rfl, hE550⟩ := hv
    replace hS := hS.new hE550; simp only [List.cons_append, List.nil_append] at hS
    refine n_q H (q_cast (q_nnilI Tryz.underlying41 rfl rfl (hS.any 0 rfl : IsE A w549 u547 r546).form) (show _ = Value.bool (!decide (r546 = .nil)) by rw [IsErr.isNil (hS.any 0 rfl : IsE A w549 u547 r546)])) rfl (W_q (q_move rfl) rfl ?_); clear H a; intro a H
    rcases Bool.eq_false_or_eq_true (!decide (r546 = .nil)) with hg552 | hg552
    · replace H := H.know 16 rfl hg552
      replace hm := condT hm hg552
      refine n_no H rfl rfl (by decide) rfl (W_no rfl rfl (by decide) rfl (W_q (q_pickT rfl rfl) rfl (W_q (q_move rfl) rfl (W_no rfl rfl (by decide) rfl (W_no rfl rfl (by decide) rfl (W_q (q_pickT rfl rfl) rfl ?_)))))); clear H a; intro a H
      refine n_nil (then_normal ?_)
      obtain rfl := Option.some.inj hm; replace hm := hm44; try dsimp only at hm
      replace hS := hS.pk6
      replace hS := hS.pk6
      replace hS := hS.pk6
      replace hS := hS.pk6
      replace hS := hS.pk6
      replace hS := hS.tk5
      exact join true H ⟨rfl, rfl, trivial⟩ ⟨hm, hS⟩
    · replace H := H.know 16 rfl hg552
      replace hm := condF hm hg552
      refine n_yes H rfl rfl (n_q H (q_move rfl) rfl (W_yes rfl rfl (W_q (q_cast (q_nnilI Tryz.underlying41 rfl rfl (hS.any 1 rfl : IsE A w549 u39 r38.2).form) (show _ = Value.bool (!decide (r38.2 = .nil)) by rw [IsErr.isNil (hS.any 1 rfl : IsE A w549 u39 r38.2)])) rfl (W_q (q_pickF rfl rfl) rfl (W_q (q_move rfl) rfl ?_))))); clear H a; intro a H
      rcases Bool.eq_false_or_eq_true (!decide (r38.2 = .nil)) with hg553 | hg553
      · replace H := H.know 20 rfl hg553
        replace hm := condT hm hg553
        refine n_no H rfl rfl (by decide) rfl (W_no rfl rfl (by decide) rfl (W_q (q_pickT rfl rfl) rfl ?_)); clear H a; intro a H
        refine n_nil (then_normal ?_)
        obtain rfl := Option.some.inj hm; replace hm := hm44; try dsimp only at hm
        replace hS := hS.pk6
        replace hS := hS.pk6
        replace hS := hS.pk6
        replace hS := hS.pk6
        replace hS := hS.pk6
        replace hS := hS.tk5
        exact join true H ⟨rfl, rfl, trivial⟩ ⟨hm, hS⟩
      · replace H := H.know 20 rfl hg553
        replace hm := condF hm hg553
        refine n_yes H rfl rfl (n_q H (q_move rfl) rfl (W_yes rfl rfl (W_q (q_neqD rfl rfl) rfl (W_q (q_pickF rfl rfl) rfl ?_)))); clear H a; intro a H
        refine n_nil (then_normal ?_)
        obtain rfl := Option.some.inj hm; replace hm := hm44; try dsimp only at hm
        replace hS := hS.pk6
        replace hS := hS.pk6
        replace hS := hS.pk6
        replace hS := hS.pk6
        replace hS := hS.pk6
        replace hS := hS.tk5
        exact join (!decide (r38.1 = 363)) H ⟨rfl, rfl, trivial⟩ ⟨hm, hS⟩
  · clear H hS hm a; intro q545 a w554 H hR
    simp only [ent, List.map_cons, List.map_nil] at H; (try dsimp only at hR); obtain ⟨hm, hS⟩ := hR; try dsimp only [g_law10_fixed_J4] at hm
    refine c_cond H rfl (fun hc555 => ?_) (fun hc555 => ?_)
    · replace hm := condT hm hc555
      refine wp_seq (wp_region_lit (n_q H (q_assign rfl) rfl ?_)); clear H a; intro a H
      refine n_nil (then_normal (wp_ret (then_ret ?_)))
      obtain rfl := Option.some.inj hm
      replace hS := hS.tk0
      refine ret1 H (.inr rfl) rfl rfl ?_
      exact ⟨rfl, hS.x⟩
    · replace hm := condF hm hc555
      refine wp_skip (then_normal (wp_seq (wp_region_lit (n_q H (q_load rfl ((hS.blk 0 rfl).ldAll ag27 sz27)) rfl ?_)))); clear H a; intro a H
      replace hm := bindS hm; obtain ⟨r556, hr556, hm⟩ := hm
      refine n_call H rfl en5 (g_plan_Boot_w (A := A) (hG.ext hS.x) (⟨_, _, _, _, rfl, ((hS.own 1 rfl).slr rfl (fun _ _ => rfl)), ((hS.own 2 rfl).slr rfl (fun _ _ => rfl)), ((hS.own 3 rfl).slr rfl (fun _ _ => rfl)), ((hS.own 4 rfl).slr rfl (fun _ _ => rfl))⟩ : RGPlan _ [.int .i64 r21.Id, .bool r21.Mobile, u22, u23, u24, .int .i64 r21.Events, u25] r21) hr556) rfl ?_
      clear H; intro x575 w573 hv; clear a; intro a H; obtain ⟨u557, u558, u559, u560, u561, u562, u563, u564, rfl, hE574⟩ := hv
      replace hS := hS.new hE574; simp only [List.cons_append, List.nil_append] at hS
      refine n_q H (q_move rfl) rfl (W_q (q_extract rfl rfl) rfl (W_q (q_extract rfl rfl) rfl ?_)); clear H a; intro a H
      refine n_alloc H ze39 rfl ?_
      clear H; intro b576 w577 hN hE578 hs; clear a; intro a H
      replace hS := hS.newBlk hN hE578 hs; clear hN hs
      refine n_storeAll H rfl rfl (vs := [.int .i64 r556.1.Id, .int .i64 r556.1.Frame, .int .i64 r556.1.Epoch, u557, u558, u559, u560, u561, u562, u563]) rfl sz39 (hS.blk 0 rfl) rfl (by simp [(((hS.own 1 rfl).slr rfl (fun x _ => eGProc_len x))).one, (((hS.own 2 rfl).slr rfl (fun _ _ => rfl))).one, (((hS.own 3 rfl).slr rfl (fun _ _ => rfl))).one, (((hS.own 4 rfl).slr rfl (fun _ _ => rfl))).one, (((hS.own 5 rfl).slr rfl (fun _ _ => rfl))).one, ((hS.deepSl 6 rfl)).one, (((hS.own 7 rfl).slr rfl (fun x _ => eGPage_len x))).one]) ?_
      clear H; intro w579 hN hC580 hz; clear a; intro a H; replace hS := hS.setBlk hN hC580; clear hN hz
      refine n_q H (q_assign rfl) rfl ?_; clear H a; intro a H
      refine n_nil (then_normal (wp_seq (wp_region_lit (n_q H (q_load rfl ((hS.blk 9 rfl).ldAll ag27 sz27)) rfl ?_)))); clear H a; intro a H
      replace hm := bindS hm; obtain ⟨r581, hr581, hm⟩ := hm
      refine n_call H rfl en15 (g_plan_Bytes_w (A := A) (hG.ext hS.x) (⟨_, _, _, _, rfl, ((hS.own 10 rfl).slr rfl (fun _ _ => rfl)), ((hS.own 11 rfl).slr rfl (fun _ _ => rfl)), ((hS.own 12 rfl).slr rfl (fun _ _ => rfl)), ((hS.own 13 rfl).slr rfl (fun _ _ => rfl))⟩ : RGPlan _ [.int .i64 r21.Id, .bool r21.Mobile, u22, u23, u24, .int .i64 r21.Events, u25] r21) hr581) rfl ?_
      clear H; intro x588 w586 hv; clear a; intro a H; obtain ⟨u582, u583, rfl, hE587⟩ := hv
      replace hS := hS.new hE587; simp only [List.cons_append, List.nil_append] at hS
      refine n_q H (q_move rfl) rfl (W_q (q_extract rfl rfl) rfl (W_q (q_extract rfl rfl) rfl (W_q (q_assign rfl) rfl (W_q (q_assign rfl) rfl ?_)))); clear H a; intro a H
      refine n_nil (then_normal (wp_seq ?_))
      replace hm := bindS hm; obtain ⟨j589, hm, hm589⟩ := hm
      refine c_join (σ := Bool) H (fun q1090 => [(1, .pointer (some ⟨b33, 0, none⟩)), (77, .bool q1090)]) (fun q1090 wl => (g_law10_fixed_J3 r21) q1090 = some r ∧ St NB w wl [blkR b33 [.int .i64 r21.Id, .bool r21.Mobile, u22, u23, u24, .int .i64 r21.Events, u25] 27, ownR 69 2 u22 r21.Pages.length (r21.Pages.flatMap eGPagePlan), ownR 62 3 u23 r21.Procs.length (r21.Procs.flatMap eGProcPlan), ownR 78 4 u24 r21.Ports.length (r21.Ports.flatMap eGPortPlan), ownR 3 1 u25 r21.Sems.length (r21.Sems.flatMap eI)]) ?_ ?_
      · skip
        refine wp_region_lit (n_q H (q_move rfl) rfl (W_q (q_cast (q_nnilI Tryz.underlying41 rfl rfl (hS.any 10 rfl : IsE A w586 u564 r556.2).form) (show _ = Value.bool (!decide (r556.2 = .nil)) by rw [IsErr.isNil (hS.any 10 rfl : IsE A w586 u564 r556.2)])) rfl (W_q (q_move rfl) rfl ?_))); clear H a; intro a H
        rcases Bool.eq_false_or_eq_true (!decide (r556.2 = .nil)) with hg1091 | hg1091
        · replace H := H.know 36 rfl hg1091
          replace hm := condT hm hg1091
          refine n_no H rfl rfl (by decide) rfl (W_no rfl rfl (by decide) rfl (W_q (q_pickT rfl rfl) rfl (W_q (q_move rfl) rfl (W_no rfl rfl (by decide) rfl (W_no rfl rfl (by decide) rfl (W_no rfl rfl (by decide) rfl (W_no rfl rfl (by decide) rfl (W_q (q_pickT rfl rfl) rfl (W_q (q_move rfl) rfl (W_no rfl rfl (by decide) rfl (W_no rfl rfl (by decide) rfl ?_))))))))))); clear H a; intro a H
          refine n_no H rfl rfl (by decide) rfl (W_no rfl rfl (by decide) rfl (W_q (q_pickT rfl rfl) rfl (W_q (q_move rfl) rfl (W_no rfl rfl (by decide) rfl (W_no rfl rfl (by decide) rfl (W_no rfl rfl (by decide) rfl (W_no rfl rfl (by decide) rfl (W_q (q_pickT rfl rfl) rfl (W_q (q_move rfl) rfl (W_no rfl rfl (by decide) rfl (W_no rfl rfl (by decide) rfl ?_))))))))))); clear H a; intro a H
          refine n_no H rfl rfl (by decide) rfl (W_no rfl rfl (by decide) rfl (W_no rfl rfl (by decide) rfl (W_no rfl rfl (by decide) rfl (W_no rfl rfl (by decide) rfl (W_q (q_pickT rfl rfl) rfl (W_q (q_move rfl) rfl (W_no rfl rfl (by decide) rfl (W_no rfl rfl (by decide) rfl (W_no rfl rfl (by decide) rfl (W_q (q_pickT rfl rfl) rfl (W_q (q_move rfl) rfl ?_))))))))))); clear H a; intro a H
          refine n_no H rfl rfl (by decide) rfl (W_no rfl rfl (by decide) rfl (W_no rfl rfl (by decide) rfl (W_no rfl rfl (by decide) rfl (W_q (q_pickT rfl rfl) rfl ?_)))); clear H a; intro a H
          refine n_nil (then_normal ?_)
          obtain rfl := Option.some.inj hm; replace hm := hm589; try dsimp only at hm
          replace hS := hS.pick 15 rfl; dsimp only [List.eraseIdx] at hS
          replace hS := hS.pick 15 rfl; dsimp only [List.eraseIdx] at hS
          replace hS := hS.pick 15 rfl; dsimp only [List.eraseIdx] at hS
          replace hS := hS.pick 15 rfl; dsimp only [List.eraseIdx] at hS
          replace hS := hS.pick 15 rfl; dsimp only [List.eraseIdx] at hS
          replace hS := hS.tk5
          exact join true H ⟨rfl, rfl, trivial⟩ ⟨hm, hS⟩
        · replace H := H.know 36 rfl hg1091
          replace hm := condF hm hg1091
          refine n_yes H rfl rfl (n_q H (q_move rfl) rfl (W_yes rfl rfl (W_q (q_cast (q_nnilI Tryz.underlying41 rfl rfl (hS.any 1 rfl : IsE A w586 u583 r581.2).form) (show _ = Value.bool (!decide (r581.2 = .nil)) by rw [IsErr.isNil (hS.any 1 rfl : IsE A w586 u583 r581.2)])) rfl (W_q (q_pickF rfl rfl) rfl (W_q (q_move rfl) rfl ?_))))); clear H a; intro a H
          rcases Bool.eq_false_or_eq_true (!decide (r581.2 = .nil)) with hg1092 | hg1092
          · replace H := H.know 40 rfl hg1092
            replace hm := condT hm hg1092
            refine n_no H rfl rfl (by decide) rfl (W_no rfl rfl (by decide) rfl (W_no rfl rfl (by decide) rfl (W_no rfl rfl (by decide) rfl (W_q (q_pickT rfl rfl) rfl (W_q (q_move rfl) rfl (W_no rfl rfl (by decide) rfl (W_no rfl rfl (by decide) rfl (W_no rfl rfl (by decide) rfl (W_no rfl rfl (by decide) rfl (W_q (q_pickT rfl rfl) rfl (W_q (q_move rfl) rfl ?_))))))))))); clear H a; intro a H
            refine n_no H rfl rfl (by decide) rfl (W_no rfl rfl (by decide) rfl (W_no rfl rfl (by decide) rfl (W_no rfl rfl (by decide) rfl (W_q (q_pickT rfl rfl) rfl (W_q (q_move rfl) rfl (W_no rfl rfl (by decide) rfl (W_no rfl rfl (by decide) rfl (W_no rfl rfl (by decide) rfl (W_no rfl rfl (by decide) rfl (W_no rfl rfl (by decide) rfl (W_no rfl rfl (by decide) rfl ?_))))))))))); clear H a; intro a H
            refine n_no H rfl rfl (by decide) rfl (W_q (q_pickT rfl rfl) rfl (W_q (q_move rfl) rfl (W_no rfl rfl (by decide) rfl (W_no rfl rfl (by decide) rfl (W_no rfl rfl (by decide) rfl (W_q (q_pickT rfl rfl) rfl (W_q (q_move rfl) rfl (W_no rfl rfl (by decide) rfl (W_no rfl rfl (by decide) rfl (W_no rfl rfl (by decide) rfl (W_no rfl rfl (by decide) rfl ?_))))))))))); clear H a; intro a H
            refine n_q H (q_pickT rfl rfl) rfl ?_; clear H a; intro a H
            refine n_nil (then_normal ?_)
            obtain rfl := Option.some.inj hm; replace hm := hm589; try dsimp only at hm
            replace hS := hS.pick 15 rfl; dsimp only [List.eraseIdx] at hS
            replace hS := hS.pick 15 rfl; dsimp only [List.eraseIdx] at hS
            replace hS := hS.pick 15 rfl; dsimp only [List.eraseIdx] at hS
            replace hS := hS.pick 15 rfl; dsimp only [List.eraseIdx] at hS
            replace hS := hS.pick 15 rfl; dsimp only [List.eraseIdx] at hS
            replace hS := hS.tk5
            exact join true H ⟨rfl, rfl, trivial⟩ ⟨hm, hS⟩
          · replace H := H.know 40 rfl hg1092
            replace hm := condF hm hg1092
            refine n_yes H rfl rfl (n_q H (q_fieldAddr0 rfl fo39_3) rfl (W_yes rfl rfl (W_q (q_load rfl ((hS.blk 2 rfl).ld ag33 rfl)) rfl (W_yes rfl rfl ?_)))); clear H a; intro a H
            obtain ⟨A1093, c1093, hv1093, hl1093, hm1093⟩ := SlR.formV ((hS.own 3 rfl).slr rfl (fun x _ => eGProc_len x))
            refine n_q H (q_lenV Tryz.underlying33 rfl hv1093) rfl (W_yes rfl rfl (W_q (q_neqN (i := r556.1.Procs.length) (j := 2) rfl rfl) rfl (W_q (q_pickF rfl rfl) rfl (W_q (q_move rfl) rfl ?_)))); clear H a; intro a H
            rcases Bool.eq_false_or_eq_true (!decide (r556.1.Procs.length = 2)) with hg1094 | hg1094
            · replace H := H.know 46 rfl hg1094
              replace hm := condT hm hg1094
              refine n_no H rfl rfl (by decide) rfl (W_no rfl rfl (by decide) rfl (W_no rfl rfl (by decide) rfl (W_no rfl rfl (by decide) rfl (W_q (q_pickT rfl rfl) rfl (W_q (q_move rfl) rfl (W_no rfl rfl (by decide) rfl (W_no rfl rfl (by decide) rfl (W_no rfl rfl (by decide) rfl (W_no rfl rfl (by decide) rfl (W_q (q_pickT rfl rfl) rfl (W_q (q_move rfl) rfl ?_))))))))))); clear H a; intro a H
              refine n_no H rfl rfl (by decide) rfl (W_no rfl rfl (by decide) rfl (W_no rfl rfl (by decide) rfl (W_no rfl rfl (by decide) rfl (W_no rfl rfl (by decide) rfl (W_no rfl rfl (by decide) rfl (W_no rfl rfl (by decide) rfl (W_q (q_pickT rfl rfl) rfl (W_q (q_move rfl) rfl (W_no rfl rfl (by decide) rfl (W_no rfl rfl (by decide) rfl (W_no rfl rfl (by decide) rfl ?_))))))))))); clear H a; intro a H
              refine n_q H (q_pickT rfl rfl) rfl (W_q (q_move rfl) rfl (W_no rfl rfl (by decide) rfl (W_no rfl rfl (by decide) rfl (W_no rfl rfl (by decide) rfl (W_no rfl rfl (by decide) rfl (W_q (q_pickT rfl rfl) rfl ?_)))))); clear H a; intro a H
              refine n_nil (then_normal ?_)
              obtain rfl := Option.some.inj hm; replace hm := hm589; try dsimp only at hm
              replace hS := hS.pick 15 rfl; dsimp only [List.eraseIdx] at hS
              replace hS := hS.pick 15 rfl; dsimp only [List.eraseIdx] at hS
              replace hS := hS.pick 15 rfl; dsimp only [List.eraseIdx] at hS
              replace hS := hS.pick 15 rfl; dsimp only [List.eraseIdx] at hS
              replace hS := hS.pick 15 rfl; dsimp only [List.eraseIdx] at hS
              replace hS := hS.tk5
              exact join true H ⟨rfl, rfl, trivial⟩ ⟨hm, hS⟩
            · replace H := H.know 46 rfl hg1094
              replace hm := condF hm hg1094
              refine n_yes H rfl rfl (n_q H (q_fieldAddr0 rfl fo39_4) rfl (W_yes rfl rfl (W_q (q_load rfl ((hS.blk 2 rfl).ld ag25 rfl)) rfl (W_yes rfl rfl ?_)))); clear H a; intro a H
              obtain ⟨A1095, c1095, hv1095, hl1095, hm1095⟩ := SlR.formV ((hS.own 4 rfl).slr rfl (fun _ _ => rfl))
              refine n_q H (q_lenV Tryz.underlying25 rfl hv1095) rfl (W_yes rfl rfl (W_q (q_neqN (i := r556.1.Ready.length) (j := 1) rfl rfl) rfl (W_q (q_pickF rfl rfl) rfl (W_q (q_move rfl) rfl ?_)))); clear H a; intro a H
              rcases Bool.eq_false_or_eq_true (!decide (r556.1.Ready.length = 1)) with hg1096 | hg1096
              · replace H := H.know 52 rfl hg1096
                replace hm := condT hm hg1096
                refine n_no H rfl rfl (by decide) rfl (W_no rfl rfl (by decide) rfl (W_no rfl rfl (by decide) rfl (W_no rfl rfl (by decide) rfl (W_q (q_pickT rfl rfl) rfl (W_q (q_move rfl) rfl (W_no rfl rfl (by decide) rfl (W_no rfl rfl (by decide) rfl (W_no rfl rfl (by decide) rfl (W_no rfl rfl (by decide) rfl (W_no rfl rfl (by decide) rfl (W_no rfl rfl (by decide) rfl ?_))))))))))); clear H a; intro a H
                refine n_no H rfl rfl (by decide) rfl (W_q (q_pickT rfl rfl) rfl (W_q (q_move rfl) rfl (W_no rfl rfl (by decide) rfl (W_no rfl rfl (by decide) rfl (W_no rfl rfl (by decide) rfl (W_q (q_pickT rfl rfl) rfl (W_q (q_move rfl) rfl (W_no rfl rfl (by decide) rfl (W_no rfl rfl (by decide) rfl (W_no rfl rfl (by decide) rfl (W_no rfl rfl (by decide) rfl ?_))))))))))); clear H a; intro a H
                refine n_q H (q_pickT rfl rfl) rfl ?_; clear H a; intro a H
                refine n_nil (then_normal ?_)
                obtain rfl := Option.some.inj hm; replace hm := hm589; try dsimp only at hm
                replace hS := hS.pick 15 rfl; dsimp only [List.eraseIdx] at hS
                replace hS := hS.pick 15 rfl; dsimp only [List.eraseIdx] at hS
                replace hS := hS.pick 15 rfl; dsimp only [List.eraseIdx] at hS
                replace hS := hS.pick 15 rfl; dsimp only [List.eraseIdx] at hS
                replace hS := hS.pick 15 rfl; dsimp only [List.eraseIdx] at hS
                replace hS := hS.tk5
                exact join true H ⟨rfl, rfl, trivial⟩ ⟨hm, hS⟩
              · replace H := H.know 52 rfl hg1096
                replace hm := condF hm hg1096
                refine n_yes H rfl rfl (n_q H (q_fieldAddr0 rfl fo39_9) rfl (W_yes rfl rfl (W_q (q_load rfl ((hS.blk 2 rfl).ld ag37 rfl)) rfl (W_yes rfl rfl ?_)))); clear H a; intro a H
                obtain ⟨A1097, c1097, hv1097, hl1097, hm1097⟩ := SlR.formV ((hS.own 9 rfl).slr rfl (fun x _ => eGPage_len x))
                refine n_q H (q_lenV Tryz.underlying37 rfl hv1097) rfl (W_yes rfl rfl (W_q (q_neqN (i := r556.1.Pages.length) (j := 2) rfl rfl) rfl (W_q (q_pickF rfl rfl) rfl (W_q (q_move rfl) rfl ?_)))); clear H a; intro a H
                rcases Bool.eq_false_or_eq_true (!decide (r556.1.Pages.length = 2)) with hg1098 | hg1098
                · replace H := H.know 58 rfl hg1098
                  replace hm := condT hm hg1098
                  refine n_no H rfl rfl (by decide) rfl (W_no rfl rfl (by decide) rfl (W_no rfl rfl (by decide) rfl (W_no rfl rfl (by decide) rfl (W_no rfl rfl (by decide) rfl (W_no rfl rfl (by decide) rfl (W_no rfl rfl (by decide) rfl (W_q (q_pickT rfl rfl) rfl (W_q (q_move rfl) rfl (W_no rfl rfl (by decide) rfl (W_no rfl rfl (by decide) rfl (W_no rfl rfl (by decide) rfl ?_))))))))))); clear H a; intro a H
                  refine n_q H (q_pickT rfl rfl) rfl (W_q (q_move rfl) rfl (W_no rfl rfl (by decide) rfl (W_no rfl rfl (by decide) rfl (W_no rfl rfl (by decide) rfl (W_no rfl rfl (by decide) rfl (W_q (q_pickT rfl rfl) rfl ?_)))))); clear H a; intro a H
                  refine n_nil (then_normal ?_)
                  obtain rfl := Option.some.inj hm; replace hm := hm589; try dsimp only at hm
                  replace hS := hS.pick 15 rfl; dsimp only [List.eraseIdx] at hS
                  replace hS := hS.pick 15 rfl; dsimp only [List.eraseIdx] at hS
                  replace hS := hS.pick 15 rfl; dsimp only [List.eraseIdx] at hS
                  replace hS := hS.pick 15 rfl; dsimp only [List.eraseIdx] at hS
                  replace hS := hS.pick 15 rfl; dsimp only [List.eraseIdx] at hS
                  replace hS := hS.tk5
                  exact join true H ⟨rfl, rfl, trivial⟩ ⟨hm, hS⟩
                · replace H := H.know 58 rfl hg1098
                  replace hm := condF hm hg1098
                  refine n_yes H rfl rfl (n_q H (q_fieldAddr0 rfl fo39_9) rfl (W_yes rfl rfl (W_q (q_load rfl ((hS.blk 2 rfl).ld ag37 rfl)) rfl (W_yes rfl rfl ?_)))); clear H a; intro a H
                  replace hm := bindS hm; obtain ⟨x1099, hx1099, hm⟩ := hm
                  obtain ⟨adx1099, hAx1099⟩ := SlR.adV ((hS.own 9 rfl).slr rfl (fun x _ => eGPage_len x)) hv1097 hx1099
                  refine n_q H (q_ixV (i := 0) Tryz.underlying37 sz60 rfl hv1097 hAx1099 rfl (natI hx1099)) rfl (W_yes rfl rfl (W_q (q_fieldAddr rfl fo60_2) rfl (W_yes rfl rfl ?_))); clear H a; intro a H
                  replace hm := bindS hm; obtain ⟨x1100, hx1100, hm⟩ := hm
                  obtain ⟨h0x1100, h1x1100, hxx1100⟩ := rdV_some hx1100
                  refine n_q H (q_ixArr Tryz.underlying58 sz5 rfl rfl h0x1100 h1x1100) rfl (W_yes rfl rfl (W_q (q_load rfl (SlR.ldArrV (o := 2) ((hS.own 9 rfl).slr rfl (fun x _ => eGPage_len x)) hv1097 hAx1099 ag5 hx1099 (arr_atE (A := [Value.int .i64 x1099.Rights, Value.bool x1099.Dirty]) (f := (fun b : UInt8 => Value.int .u8 (b.toNat : Int))) hxx1100))) rfl (W_yes rfl rfl (W_q (q_neqD rfl rfl) rfl (W_q (q_pickF rfl rfl) rfl (W_q (q_move rfl) rfl ?_)))))); clear H a; intro a H
                  rcases Bool.eq_false_or_eq_true (!decide ((x1100.toNat : Int) = 98)) with hg1101 | hg1101
                  · replace H := H.know 67 rfl hg1101
                    replace hm := condT hm hg1101
                    refine n_no H rfl rfl (by decide) rfl (W_no rfl rfl (by decide) rfl (W_no rfl rfl (by decide) rfl (W_q (q_pickT rfl rfl) rfl (W_q (q_move rfl) rfl (W_no rfl rfl (by decide) rfl (W_no rfl rfl (by decide) rfl (W_no rfl rfl (by decide) rfl (W_no rfl rfl (by decide) rfl (W_q (q_pickT rfl rfl) rfl ?_))))))))); clear H a; intro a H
                    refine n_nil (then_normal ?_)
                    obtain rfl := Option.some.inj hm; replace hm := hm589; try dsimp only at hm
                    replace hS := hS.pick 15 rfl; dsimp only [List.eraseIdx] at hS
                    replace hS := hS.pick 15 rfl; dsimp only [List.eraseIdx] at hS
                    replace hS := hS.pick 15 rfl; dsimp only [List.eraseIdx] at hS
                    replace hS := hS.pick 15 rfl; dsimp only [List.eraseIdx] at hS
                    replace hS := hS.pick 15 rfl; dsimp only [List.eraseIdx] at hS
                    replace hS := hS.tk5
                    exact join true H ⟨rfl, rfl, trivial⟩ ⟨hm, hS⟩
                  · replace H := H.know 67 rfl hg1101
                    replace hm := condF hm hg1101
                    refine n_yes H rfl rfl (n_q H (q_move rfl) rfl (W_yes rfl rfl ?_)); clear H a; intro a H
                    obtain ⟨A1102, c1102, hv1102, hl1102, hm1102⟩ := SlR.formV ((hS.own 0 rfl).slr rfl (fun _ _ => rfl))
                    refine n_q H (q_lenV Tryz.underlying28 rfl hv1102) rfl (W_yes rfl rfl (W_q (q_neqN (i := r581.1.length) (j := 69) rfl rfl) rfl (W_q (q_pickF rfl rfl) rfl (W_q (q_move rfl) rfl ?_)))); clear H a; intro a H
                    rcases Bool.eq_false_or_eq_true (!decide (r581.1.length = 69)) with hg1103 | hg1103
                    · replace H := H.know 72 rfl hg1103
                      replace hm := condT hm hg1103
                      refine n_no H rfl rfl (by decide) rfl (W_no rfl rfl (by decide) rfl (W_no rfl rfl (by decide) rfl (W_no rfl rfl (by decide) rfl (W_q (q_pickT rfl rfl) rfl ?_)))); clear H a; intro a H
                      refine n_nil (then_normal ?_)
                      obtain rfl := Option.some.inj hm; replace hm := hm589; try dsimp only at hm
                      replace hS := hS.pick 15 rfl; dsimp only [List.eraseIdx] at hS
                      replace hS := hS.pick 15 rfl; dsimp only [List.eraseIdx] at hS
                      replace hS := hS.pick 15 rfl; dsimp only [List.eraseIdx] at hS
                      replace hS := hS.pick 15 rfl; dsimp only [List.eraseIdx] at hS
                      replace hS := hS.pick 15 rfl; dsimp only [List.eraseIdx] at hS
                      replace hS := hS.tk5
                      exact join true H ⟨rfl, rfl, trivial⟩ ⟨hm, hS⟩
                    · replace H := H.know 72 rfl hg1103
                      replace hm := condF hm hg1103
                      refine n_yes H rfl rfl (n_q H (q_move rfl) rfl (W_yes rfl rfl ?_)); clear H a; intro a H
                      replace hm := chkS hm; obtain ⟨hk1104, hm⟩ := hm
                      refine n_q H (q_sliceTo Tryz.underlying28 sz5 (show _ = some (Value.slice A1102 r581.1.length c1102) by rw [← hv1102]; rfl) rfl hk1104.1 (by omega)) rfl (W_yes rfl rfl (W_q (q_str Tryz.underlying28 Tryz.underlying5 Tryz.underlying9 rfl (fun w' hw => ((SlR.takeV ((hS.own 0 rfl).slr rfl (fun _ _ => rfl)) hv1102 hk1104.1 hk1104.2).ext (Flat.mono _) hw))) rfl (W_yes rfl rfl (W_q (q_neqS rfl rfl) rfl (W_q (q_pickF rfl rfl) rfl ?_))))); clear H a; intro a H
                      refine n_nil (then_normal ?_)
                      obtain rfl := Option.some.inj hm; replace hm := hm589; try dsimp only at hm
                      replace hS := hS.pick 15 rfl; dsimp only [List.eraseIdx] at hS
                      replace hS := hS.pick 15 rfl; dsimp only [List.eraseIdx] at hS
                      replace hS := hS.pick 15 rfl; dsimp only [List.eraseIdx] at hS
                      replace hS := hS.pick 15 rfl; dsimp only [List.eraseIdx] at hS
                      replace hS := hS.pick 15 rfl; dsimp only [List.eraseIdx] at hS
                      replace hS := hS.tk5
                      exact join (!decide ((strB (r581.1.take (15 : Int).toNat)) = ⟨#[70, 80, 76, 78, 0, 1, 0, 0, 0, 69, 0, 0, 0, 3, 1]⟩)) H ⟨rfl, rfl, trivial⟩ ⟨hm, hS⟩
      · clear H hS hm a; intro q1090 a w1106 H hR
        simp only [ent, List.map_cons, List.map_nil] at H; (try dsimp only at hR); obtain ⟨hm, hS⟩ := hR; try dsimp only [g_law10_fixed_J3] at hm
        refine c_cond H rfl (fun hc1107 => ?_) (fun hc1107 => ?_)
        · replace hm := condT hm hc1107
          refine wp_seq (wp_region_lit (n_q H (q_assign rfl) rfl ?_)); clear H a; intro a H
          refine n_nil (then_normal (wp_ret (then_ret ?_)))
          obtain rfl := Option.some.inj hm
          replace hS := hS.tk0
          refine ret1 H (.inr rfl) rfl rfl ?_
          exact ⟨rfl, hS.x⟩
        · replace hm := condF hm hc1107
          refine wp_skip (then_normal (wp_seq (wp_region_lit (n_q H (q_fieldAddr0 rfl fo27_3) rfl (W_q (q_load rfl ((hS.blk 0 rfl).ld ag23 rfl)) rfl ?_))))); clear H a; intro a H
          obtain ⟨A1108, c1108, hv1108, hl1108, hm1108⟩ := SlR.formV ((hS.own 2 rfl).slr rfl (fun _ _ => rfl))
          replace hm := bindS hm; obtain ⟨x1109, hx1109, hm⟩ := hm
          obtain ⟨adx1109, hAx1109⟩ := SlR.adV ((hS.own 2 rfl).slr rfl (fun _ _ => rfl)) hv1108 hx1109
          refine n_q H (q_ixV (i := 1) Tryz.underlying23 sz62 rfl hv1108 hAx1109 rfl (natI hx1109)) rfl (W_q (q_fieldAddr rfl fo62_0) rfl ?_); clear H a; intro a H
          replace hS := hS.pk2
          refine n_storeElC (e := eGProcPlan) (j := 0) (x' := (⟨66, x1109.Prio, x1109.Auto⟩ : GProcPlan)) H rfl rfl sz3 (hS.own 0 rfl) hv1108 hAx1109 hx1109 rfl (fun _ => rfl) (by decide) rfl ?_
          clear H; intro w1110 hN hC1111; clear a; intro a H; replace hS := hS.setOwn hN hC1111 (.inl rfl); clear hN
          refine n_nil (then_normal (wp_seq (wp_region_lit (n_q H (q_load rfl ((hS.blk 1 rfl).ldAll ag27 sz27)) rfl ?_)))); clear H a; intro a H
          replace hm := bindS hm; obtain ⟨r1112, hr1112, hm⟩ := hm
          refine n_call H rfl en14 (g_plan_Check_w (A := A) (hG.ext hS.x) (⟨_, _, _, _, rfl, ((hS.own 2 rfl).slr rfl (fun _ _ => rfl)), ((hS.own 0 rfl).slr rfl (fun _ _ => rfl)), ((hS.own 3 rfl).slr rfl (fun _ _ => rfl)), ((hS.own 4 rfl).slr rfl (fun _ _ => rfl))⟩ : RGPlan _ [.int .i64 r21.Id, .bool r21.Mobile, u22, u23, u24, .int .i64 r21.Events, u25] (⟨r21.Id, r21.Mobile, r21.Pages, (r21.Procs.set 1 (⟨66, x1109.Prio, x1109.Auto⟩ : GProcPlan)), r21.Ports, r21.Events, r21.Sems⟩ : GPlan)) hr1112) rfl ?_
          clear H; intro u1113 w1115 hv; clear a; intro a H; obtain ⟨_, rfl, hE1116⟩ := hv
          replace hS := hS.new hE1116; simp only [List.cons_append, List.nil_append] at hS
          refine n_q H (q_assign rfl) rfl ?_; clear H a; intro a H
          refine n_nil (then_normal (wp_seq (wp_region_lit (n_q H (q_move rfl) rfl ?_)))); clear H a; intro a H
          refine n_call H rfl en16 (code_w (hG.ext hS.x) (hS.any 0 rfl : IsE A w1115 u1113 r1112)) rfl ?_
          clear H; intro x1120 w1118 hv; clear a; intro a H; obtain ⟨rfl, hE1119⟩ := hv; replace hS := hS.ext hE1119
          refine n_q H (q_eqlD rfl rfl) rfl (W_q (q_move rfl) rfl ?_); clear H a; intro a H
          rcases Bool.eq_false_or_eq_true (decide ((ErrM.code r1112) = 4)) with hg1121 | hg1121
          · replace H := H.know 87 rfl hg1121
            replace hm := condT hm hg1121
            refine n_yes H rfl rfl (n_q H (q_move rfl) rfl (W_yes rfl rfl ?_)); clear H a; intro a H
            refine n_call H rfl en17 (place_w (hH.ext hS.x) (hS.any 0 rfl : IsE A w1118 u1113 r1112)) rfl ?_
            clear H; intro x1124 w1122 hv; clear a; intro a H; obtain ⟨rfl, hE1123⟩ := hv; replace hS := hS.ext hE1123
            refine n_yes H rfl rfl (n_q H (q_eqlD rfl rfl) rfl (W_q (q_pickT rfl rfl) rfl (W_q (q_assign rfl) rfl ?_))); clear H a; intro a H
            refine n_nil (then_normal (wp_ret ?_))
            obtain rfl := Option.some.inj hm
            replace hS := hS.tk0
            refine ret1 H (.inr rfl) rfl rfl ?_
            exact ⟨rfl, hS.x⟩
          · replace H := H.know 87 rfl hg1121
            replace hm := condF hm hg1121
            refine n_no H rfl rfl (by decide) rfl (W_no rfl rfl (by decide) rfl (W_no rfl rfl (by decide) rfl (W_q (q_pickF rfl rfl) rfl (W_q (q_assign rfl) rfl ?_)))); clear H a; intro a H
            refine n_nil (then_normal (wp_ret ?_))
            obtain rfl := Option.some.inj hm
            replace hS := hS.tk0
            refine ret1 H (.inr rfl) rfl rfl ?_
            exact ⟨rfl, hS.x⟩
theorem g_r10_Copy_w {w : World} {A : Nat → Addr} {cs0 : List Value} {a0 : GPlan} (h0 : RGPlan w cs0 a0) {r : GPlan} (hm : g_r10_Copy a0 = some r) :
    Calls Tryz.prog 6 [.agg cs0.toArray].toArray w (Ret fun u w' => ∃ h_0 h_1 h_2 h_3, u = .agg #[.int .i64 r.Id, .bool r.Mobile, h_0, h_1, h_2, .int .i64 r.Events, h_3] ∧ St NB w w' [ownR 69 2 h_0 r.Pages.length (r.Pages.flatMap eGPagePlan), ownR 62 3 h_1 r.Procs.length (r.Procs.flatMap eGProcPlan), ownR 78 4 h_2 r.Ports.length (r.Ports.flatMap eGPortPlan), ownR 3 1 h_3 r.Sems.length (r.Sems.flatMap eI)]) := by
  obtain ⟨vp0_0, vp0_1, vp0_2, vp0_3, rfl, hrp0_0, hrp0_1, hrp0_2, hrp0_3⟩ := h0
  have hS := St.begin NB w
  unfold g_r10_Copy at hm
  refine enter Tryz.func6 rfl rfl rfl ?_; intro a H; dsimp only [enumL, Nat.zero_add, Nat.reduceAdd] at H
  refine wp_seq (wp_region_lit (n_box H rfl (cs := [.int .i64 a0.Id, .bool a0.Mobile, vp0_0, vp0_1, vp0_2, .int .i64 a0.Events, vp0_3]) rfl rfl ?_))
  clear H; intro b21 w22 hN hE23 hs; clear a; intro a H
  replace hS := hS.newBlk hN hE23 hs; clear hN hs
  refine n_alloc H ze27 rfl ?_
  clear H; intro b24 w25 hN hE26 hs; clear a; intro a H
  replace hS := hS.newBlk hN hE26 hs; clear hN hs
  refine n_nil (then_normal (wp_seq (wp_region_lit (n_buildSlice H Tryz.underlying22 sz69 ze69 rfl rfl rfl (cs := []) rfl rfl ?_))))
  clear H; intro b29 w27 hN hE28 hs; clear a; intro a H
  replace hS := hS.newBlk hN hE28 hs; clear hN hs
  replace hS := hS.blkOwnL (e := eGPagePlan) (k := 2) ([] : List GPagePlan) rfl rfl (by simp [maxLen])
  refine n_q H (q_fieldAddr0 rfl fo27_2) rfl (W_q (q_load rfl ((hS.blk 2 rfl).ld ag22 rfl)) rfl ?_); clear H a; intro a H
  replace hm := chkS hm; obtain ⟨hk31, hm⟩ := hm
  refine n_app (e := eGPagePlan) H rfl rfl Tryz.underlying22 Tryz.underlying22 (by simp) el69 (hS.own 0 rfl) ((hrp0_0.ext (Flat.mono _) hS.x).src (fun _ _ => rfl)) eGPagePlan_one hk31 (by simp only [maxLen]; omega) rfl ?_
  clear H; intro v34 w32 hN hC33 hb; clear a; intro a H; replace hS := hS.setOwn hN hC33 hb; clear hN hb
  refine n_q H (q_fieldAddr0 rfl fo27_2) rfl ?_; clear H a; intro a H
  replace hS := hS.pk2
  refine n_store1 H rfl rfl sz22 (hS.blk 0 rfl) (by simp) (((hS.own 1 rfl).slr rfl (fun _ _ => rfl))).one ?_
  clear H; intro w36 hN hC37 hz; clear a; intro a H; replace hS := hS.setBlk hN hC37; clear hN hz
  try simp only [List.set_cons_succ, List.set_cons_zero] at hS
  refine n_nil (then_normal (wp_seq (wp_region_lit (n_buildSlice H Tryz.underlying23 sz62 ze62 rfl rfl rfl (cs := []) rfl rfl ?_))))
  clear H; intro b40 w38 hN hE39 hs; clear a; intro a H
  replace hS := hS.newBlk hN hE39 hs; clear hN hs
  replace hS := hS.blkOwnL (e := eGProcPlan) (k := 3) ([] : List GProcPlan) rfl rfl (by simp [maxLen])
  refine n_q H (q_fieldAddr0 rfl fo27_3) rfl (W_q (q_load rfl ((hS.blk 1 rfl).ld ag23 rfl)) rfl ?_); clear H a; intro a H
  replace hm := chkS hm; obtain ⟨hk42, hm⟩ := hm
  refine n_app (e := eGProcPlan) H rfl rfl Tryz.underlying23 Tryz.underlying23 (by simp) el62 (hS.own 0 rfl) ((hrp0_1.ext (Flat.mono _) hS.x).src (fun _ _ => rfl)) eGProcPlan_one hk42 (by simp only [maxLen]; omega) rfl ?_
  clear H; intro v45 w43 hN hC44 hb; clear a; intro a H; replace hS := hS.setOwn hN hC44 hb; clear hN hb
  refine n_q H (q_fieldAddr0 rfl fo27_3) rfl ?_; clear H a; intro a H
  replace hS := hS.pk1
  refine n_store1 H rfl rfl sz23 (hS.blk 0 rfl) (by simp) (((hS.own 1 rfl).slr rfl (fun _ _ => rfl))).one ?_
  clear H; intro w47 hN hC48 hz; clear a; intro a H; replace hS := hS.setBlk hN hC48; clear hN hz
  try simp only [List.set_cons_succ, List.set_cons_zero] at hS
  refine n_nil (then_normal (wp_seq (wp_region_lit (n_buildSlice H Tryz.underlying24 sz78 ze78 rfl rfl rfl (cs := []) rfl rfl ?_))))
  clear H; intro b51 w49 hN hE50 hs; clear a; intro a H
  replace hS := hS.newBlk hN hE50 hs; clear hN hs
  replace hS := hS.blkOwnL (e := eGPortPlan) (k := 4) ([] : List GPortPlan) rfl rfl (by simp [maxLen])
  refine n_q H (q_fieldAddr0 rfl fo27_4) rfl (W_q (q_load rfl ((hS.blk 1 rfl).ld ag24 rfl)) rfl ?_); clear H a; intro a H
  replace hm := chkS hm; obtain ⟨hk53, hm⟩ := hm
  refine n_app (e := eGPortPlan) H rfl rfl Tryz.underlying24 Tryz.underlying24 (by simp) el78 (hS.own 0 rfl) ((hrp0_2.ext (Flat.mono _) hS.x).src (fun _ _ => rfl)) eGPortPlan_one hk53 (by simp only [maxLen]; omega) rfl ?_
  clear H; intro v56 w54 hN hC55 hb; clear a; intro a H; replace hS := hS.setOwn hN hC55 hb; clear hN hb
  refine n_q H (q_fieldAddr0 rfl fo27_4) rfl ?_; clear H a; intro a H
  replace hS := hS.pk1
  refine n_store1 H rfl rfl sz24 (hS.blk 0 rfl) (by simp) (((hS.own 1 rfl).slr rfl (fun _ _ => rfl))).one ?_
  clear H; intro w58 hN hC59 hz; clear a; intro a H; replace hS := hS.setBlk hN hC59; clear hN hz
  try simp only [List.set_cons_succ, List.set_cons_zero] at hS
  refine n_nil (then_normal (wp_seq (wp_region_lit (n_buildSlice H Tryz.underlying25 sz3 ze3 rfl rfl rfl (cs := []) rfl rfl ?_))))
  clear H; intro b62 w60 hN hE61 hs; clear a; intro a H
  replace hS := hS.newBlk hN hE61 hs; clear hN hs
  replace hS := hS.blkOwnL (e := eI) (k := 1) ([] : List Int) rfl rfl (by simp [maxLen])
  refine n_q H (q_fieldAddr0 rfl fo27_6) rfl (W_q (q_load rfl ((hS.blk 1 rfl).ld ag25 rfl)) rfl ?_); clear H a; intro a H
  replace hm := chkS hm; obtain ⟨hk64, hm⟩ := hm
  refine n_app (e := eI) H rfl rfl Tryz.underlying25 Tryz.underlying25 (by simp) el3 (hS.own 0 rfl) ((hrp0_3.ext (Flat.mono _) hS.x).src (fun _ _ => rfl)) eI_one hk64 (by simp only [maxLen]; omega) rfl ?_
  clear H; intro v67 w65 hN hC66 hb; clear a; intro a H; replace hS := hS.setOwn hN hC66 hb; clear hN hb
  refine n_q H (q_fieldAddr0 rfl fo27_6) rfl ?_; clear H a; intro a H
  replace hS := hS.pk1
  refine n_store1 H rfl rfl sz25 (hS.blk 0 rfl) (by simp) (((hS.own 1 rfl).slr rfl (fun _ _ => rfl))).one ?_
  clear H; intro w69 hN hC70 hz; clear a; intro a H; replace hS := hS.setBlk hN hC70; clear hN hz
  try simp only [List.set_cons_succ, List.set_cons_zero] at hS
  refine n_nil (then_normal (wp_seq (wp_region_lit (n_q H (q_load rfl ((hS.blk 0 rfl).ldAll ag27 sz27)) rfl ?_)))); clear H a; intro a H
  replace hS := hS.pk5
  refine n_storeAll H rfl rfl (vs := [.int .i64 a0.Id, .bool a0.Mobile, v34, v45, v56, .int .i64 a0.Events, v67]) rfl sz27 (hS.blk 0 rfl) rfl (by simp [(((hS.own 5 rfl).slr rfl (fun _ _ => rfl))).one, (((hS.own 4 rfl).slr rfl (fun _ _ => rfl))).one, (((hS.own 3 rfl).slr rfl (fun _ _ => rfl))).one, (((hS.own 2 rfl).slr rfl (fun _ _ => rfl))).one]) ?_
  clear H; intro w71 hN hC72 hz; clear a; intro a H; replace hS := hS.setBlk hN hC72; clear hN hz
  refine n_nil (then_normal (wp_ret ?_))
  obtain rfl := Option.some.inj hm
  replace hS := hS.pk2
  replace hS := hS.pk3
  replace hS := hS.pk4
  replace hS := hS.pk5
  replace hS := hS.tk5
  refine retL H (.inr rfl) rfl (vs := [.agg #[.int .i64 a0.Id, .bool a0.Mobile, v34, v45, v56, .int .i64 a0.Events, v67]]) (resCell rfl ((hS.blk 4 rfl).ldAll ag27 sz27) resNil) ?_
  replace hS := hS.tk4
  exact ⟨_, _, _, _, rfl, hS⟩
theorem g_r10_bad_w {w : World} {A : Nat → Addr} {a0 : Int} {r : GR10Err} (hm : g_r10_bad a0 = some r) :
    Calls Tryz.prog 37 [.int .i64 a0].toArray w (Ret fun u w' => u = .agg (eGR10Err r).toArray ∧ Ext w w') := by
  have hS := St.begin NB w
  unfold g_r10_bad at hm
  refine enter Tryz.func37 rfl rfl rfl ?_; intro a H; dsimp only [enumL, Nat.zero_add, Nat.reduceAdd] at H
  refine wp_seq (wp_region_lit (n_alloc H ze71 rfl ?_))
  clear H; intro b21 w22 hN hE23 hs; clear a; intro a H
  replace hS := hS.newBlk hN hE23 hs; clear hN hs
  refine n_nil (then_normal (wp_seq (wp_region_lit (n_q H (q_move rfl) rfl (W_q (q_build (cs := [.int .i64 a0, .int .i64 (-1)]) ze71 bd71 pl71 rfl (by kernel_rfl)) rfl ?_))))); clear H a; intro a H
  refine n_storeAll H rfl rfl (vs := [.int .i64 a0, .int .i64 (-1)]) rfl sz71 (hS.blk 0 rfl) rfl (by simp) ?_
  clear H; intro w24 hN hC25 hz; clear a; intro a H; replace hS := hS.setBlk hN hC25; clear hN hz
  refine n_nil (then_normal (wp_ret ?_))
  obtain rfl := Option.some.inj hm
  refine retL H (.inr rfl) rfl (vs := [.agg #[.int .i64 a0, .int .i64 (-1)]]) (resCell rfl ((hS.blk 0 rfl).ldAll ag71 sz71) resNil) ?_
  replace hS := hS.tk0
  exact ⟨rfl, hS.x⟩
theorem g_r10_none_w {w : World} {A : Nat → Addr} {r : GR10Err} (hm : g_r10_none = some r) :
    Calls Tryz.prog 43 [].toArray w (Ret fun u w' => u = .agg (eGR10Err r).toArray ∧ Ext w w') := by
  have hS := St.begin NB w
  unfold g_r10_none at hm
  refine enter Tryz.func43 rfl rfl rfl ?_; intro a H; dsimp only [enumL, Nat.zero_add, Nat.reduceAdd] at H
  refine wp_seq (wp_region_lit (n_alloc H ze71 rfl ?_))
  clear H; intro b21 w22 hN hE23 hs; clear a; intro a H
  replace hS := hS.newBlk hN hE23 hs; clear hN hs
  refine n_nil (then_normal (wp_seq (wp_region_lit (n_q H (q_build (cs := [.int .i64 0, .int .i64 (-1)]) ze71 bd71 pl71 rfl (by kernel_rfl)) rfl ?_)))); clear H a; intro a H
  refine n_storeAll H rfl rfl (vs := [.int .i64 0, .int .i64 (-1)]) rfl sz71 (hS.blk 0 rfl) rfl (by simp) ?_
  clear H; intro w24 hN hC25 hz; clear a; intro a H; replace hS := hS.setBlk hN hC25; clear hN hz
  refine n_nil (then_normal (wp_ret ?_))
  obtain rfl := Option.some.inj hm
  refine retL H (.inr rfl) rfl (vs := [.agg #[.int .i64 0, .int .i64 (-1)]]) (resCell rfl ((hS.blk 0 rfl).ldAll ag71 sz71) resNil) ?_
  replace hS := hS.tk0
  exact ⟨rfl, hS.x⟩
theorem g_r10_pages_w {w : World} {A : Nat → Addr} {cs0 : List Value} {a0 : GPlan} (h0 : RGPlan w cs0 a0) {r : GR10Err} (hm : g_r10_pages a0 = some r) :
    Calls Tryz.prog 38 [.agg cs0.toArray].toArray w (Ret fun u w' => u = .agg (eGR10Err r).toArray ∧ Ext w w') := by
  obtain ⟨vp0_0, vp0_1, vp0_2, vp0_3, rfl, hrp0_0, hrp0_1, hrp0_2, hrp0_3⟩ := h0
  have hS := St.begin NB w
  unfold g_r10_pages at hm
  refine enter Tryz.func38 rfl rfl rfl ?_; intro a H; dsimp only [enumL, Nat.zero_add, Nat.reduceAdd] at H
  refine wp_seq (wp_region_lit (n_box H rfl (cs := [.int .i64 a0.Id, .bool a0.Mobile, vp0_0, vp0_1, vp0_2, .int .i64 a0.Events, vp0_3]) rfl rfl ?_))
  clear H; intro b21 w22 hN hE23 hs; clear a; intro a H
  replace hS := hS.newBlk hN hE23 hs; clear hN hs
  refine n_alloc H ze71 rfl ?_
  clear H; intro b24 w25 hN hE26 hs; clear a; intro a H
  replace hS := hS.newBlk hN hE26 hs; clear hN hs
  refine n_nil (then_normal (wp_seq (wp_seq (wp_region_lit (n_c H (fun HC => ?_)))))); clear H
  refine nc_q HC (q_fieldAddr0 rfl fo27_2) rfl (by kernel_rfl) (V_q (q_load rfl ((hS.blk 1 rfl).ld ag22 rfl)) rfl (by kernel_rfl) ?_); clear HC a; intro a HC
  obtain ⟨A27, c27, hv27, hl27, hm27⟩ := SlR.formV (hrp0_0.ext (Flat.mono _) hS.x)
  refine nc_q HC (q_lenV Tryz.underlying22 rfl hv27) rfl (by kernel_rfl) (V_q (q_lssN (i := a0.Pages.length) (j := 1) rfl rfl) rfl (by kernel_rfl) (V_q (q_move rfl) rfl (by kernel_rfl) (V_g (q_fieldAddr0 rfl fo27_2) (by kernel_rfl) (by kernel_rfl) (by kernel_rfl) (V_g (q_load rfl ((hS.blk 1 rfl).ld ag22 rfl)) (by kernel_rfl) (by kernel_rfl) (by kernel_rfl) (V_g (q_lenV Tryz.underlying22 rfl hv27) (by kernel_rfl) (by kernel_rfl) (by kernel_rfl) (V_g (q_gtrN (i := a0.Pages.length) (j := 32) rfl rfl) (by kernel_rfl) (by kernel_rfl) (by kernel_rfl) (V_or (j := 4) rfl rfl rfl (by kernel_rfl) (by kernel_rfl) ?_))))))); clear HC a; intro a HC
  have H := HC.has; clear HC
  refine n_nil (then_normal (c_cond H rfl (fun hc28 => ?_) (fun hc28 => ?_)))
  · replace hm := condT hm hc28
    refine wp_seq (wp_region_lit ?_)
    replace hm := bindS hm; obtain ⟨r29, hr29, hm⟩ := hm
    refine n_call H rfl en37 (g_r10_bad_w (A := A) hr29) rfl ?_
    clear H; intro x32 w30 hv; clear a; intro a H; obtain ⟨rfl, hE31⟩ := hv
    replace hS := hS.ext hE31
    refine n_storeAll H rfl rfl (vs := [.int .i64 r29.Code, .int .i64 r29.Place]) rfl sz71 (hS.blk 0 rfl) rfl (by simp) ?_
    clear H; intro w33 hN hC34 hz; clear a; intro a H; replace hS := hS.setBlk hN hC34; clear hN hz
    refine n_nil (then_normal (wp_ret (then_ret ?_)))
    obtain rfl := Option.some.inj hm
    replace hS := hS.tk1
    refine retL H (.inr rfl) rfl (vs := [.agg #[.int .i64 r29.Code, .int .i64 r29.Place]]) (resCell rfl ((hS.blk 0 rfl).ldAll ag71 sz71) resNil) ?_
    replace hS := hS.tk0
    exact ⟨rfl, hS.x⟩
  · replace hm := condF hm hc28
    refine wp_skip (then_normal (wp_seq (wp_seq (wp_region_lit (n_q H (q_assign rfl) rfl ?_))))); clear H a; intro a H
    refine n_nil (then_normal (wp_block ?_))
    replace hS := hS.pk1
    replace hm := bindS hm; obtain ⟨q35, hm, hm35⟩ := hm; replace hm := iter_some hm; obtain ⟨n35, hm⟩ := hm
    refine c_loop (σ := Nat × Nat) (fun (m, i36) => [(1, .pointer (some ⟨b21, 0, none⟩)), (2, .pointer (some ⟨b24, 0, none⟩)), (3, .int .i64 ((i36 : Nat) : Int))]) (fun (m, i36) wl => iterN (g_r10_pages_L13 a0) m i36 = some q35 ∧ St NB w wl [blkR b21 [.int .i64 a0.Id, .bool a0.Mobile, vp0_0, vp0_1, vp0_2, .int .i64 a0.Events, vp0_3] 27, blkR b24 [.int .i64 0, .int .i64 0] 71]) (fun (m, i36) => m) (n35, 0) H ⟨rfl, rfl, rfl, trivial⟩ ⟨hm, hS⟩ ?_
    clear H hS hm a; intro xx a w37 H hR; obtain ⟨m, i36⟩ := xx; simp only [ent, List.map_cons, List.map_nil] at H; (try dsimp only at hR); obtain ⟨hm, hS⟩ := hR
    replace hm := iterN_step hm; obtain ⟨m35, o35, rfl, hm, hn35⟩ := hm; try dsimp only [g_r10_pages_L13] at hm
    refine wp_seq (wp_seq (wp_region_lit (n_q H (q_move rfl) rfl (W_q (q_fieldAddr0 rfl fo27_2) rfl (W_q (q_load rfl ((hS.blk 0 rfl).ld ag22 rfl)) rfl (W_q (q_lenV Tryz.underlying22 rfl hv27) rfl (W_q (q_lssN (i := i36) (j := a0.Pages.length) rfl rfl) rfl ?_))))))); clear H a; intro a H
    refine n_nil (then_normal (c_cond H rfl (fun hc38 => ?_) (fun hc38 => ?_)))
    · replace hm := condT hm hc38
      have hlt39 : i36 < a0.Pages.length := of_decide_eq_true hc38
      refine wp_skip (then_normal (wp_seq (wp_block (wp_seq ?_))))
      replace hm := bindS hm; obtain ⟨j40, hm, hm40⟩ := hm
      refine c_join (σ := Bool) H (fun q541 => [(1, .pointer (some ⟨b21, 0, none⟩)), (2, .pointer (some ⟨b24, 0, none⟩)), (3, .int .i64 ((i36 : Nat) : Int)), (37, .bool q541)]) (fun q541 wl => (g_r10_pages_J12 a0 i36) q541 = some o35 ∧ St NB w wl [blkR b21 [.int .i64 a0.Id, .bool a0.Mobile, vp0_0, vp0_1, vp0_2, .int .i64 a0.Events, vp0_3] 27, blkR b24 [.int .i64 0, .int .i64 0] 71]) ?_ ?_
      · skip
        refine wp_region_lit (n_q H (q_fieldAddr0 rfl fo27_2) rfl (W_q (q_load rfl ((hS.blk 0 rfl).ld ag22 rfl)) rfl (W_q (q_move rfl) rfl ?_))); clear H a; intro a H
        replace hm := bindS hm; obtain ⟨x542, hx542, hm⟩ := hm
        obtain ⟨adx542, hAx542⟩ := SlR.adV (hrp0_0.ext (Flat.mono _) hS.x) hv27 hx542
        refine n_q H (q_ixV (i := i36) Tryz.underlying22 sz69 rfl hv27 hAx542 rfl (natI hx542)) rfl (W_q (q_fieldAddr rfl fo69_0) rfl (W_q (q_load rfl (SlR.ldCellV (j := 0) (hrp0_0.ext (Flat.mono _) hS.x) hv27 hAx542 ag3 hx542 rfl)) rfl (W_q (q_lss rfl rfl) rfl (W_q (q_move rfl) rfl ?_)))); clear H a; intro a H
        rcases Bool.eq_false_or_eq_true (decide (x542.Rights < 0)) with hg543 | hg543
        · replace H := H.know 29 rfl hg543
          replace hm := condT hm hg543
          refine n_no H rfl rfl (by decide) rfl (W_no rfl rfl (by decide) rfl (W_no rfl rfl (by decide) rfl (W_no rfl rfl (by decide) rfl (W_no rfl rfl (by decide) rfl (W_no rfl rfl (by decide) rfl (W_no rfl rfl (by decide) rfl (W_q (q_pickT rfl rfl) rfl ?_))))))); clear H a; intro a H
          refine n_nil (then_normal ?_)
          obtain rfl := Option.some.inj hm; replace hm := hm40; try dsimp only at hm
          exact join true H ⟨rfl, rfl, rfl, rfl, trivial⟩ ⟨hm, hS⟩
        · replace H := H.know 29 rfl hg543
          replace hm := condF hm hg543
          refine n_yes H rfl rfl (n_q H (q_fieldAddr0 rfl fo27_2) rfl (W_yes rfl rfl (W_q (q_load rfl ((hS.blk 0 rfl).ld ag22 rfl)) rfl (W_yes rfl rfl (W_q (q_move rfl) rfl (W_yes rfl rfl ?_)))))); clear H a; intro a H
          replace hm := bindS hm; obtain ⟨x544, hx544, hm⟩ := hm
          obtain ⟨adx544, hAx544⟩ := SlR.adV (hrp0_0.ext (Flat.mono _) hS.x) hv27 hx544
          refine n_q H (q_ixV (i := i36) Tryz.underlying22 sz69 rfl hv27 hAx544 rfl (natI hx544)) rfl (W_yes rfl rfl (W_q (q_fieldAddr rfl fo69_0) rfl (W_yes rfl rfl (W_q (q_load rfl (SlR.ldCellV (j := 0) (hrp0_0.ext (Flat.mono _) hS.x) hv27 hAx544 ag3 hx544 rfl)) rfl (W_yes rfl rfl (W_q (q_gtr rfl rfl) rfl (W_q (q_pickF rfl rfl) rfl ?_))))))); clear H a; intro a H
          refine n_nil (then_normal ?_)
          obtain rfl := Option.some.inj hm; replace hm := hm40; try dsimp only at hm
          exact join (decide (7 < x544.Rights)) H ⟨rfl, rfl, rfl, rfl, trivial⟩ ⟨hm, hS⟩
      · clear H hS hm a; intro q541 a w545 H hR
        simp only [ent, List.map_cons, List.map_nil] at H; (try dsimp only at hR); obtain ⟨hm, hS⟩ := hR; try dsimp only [g_r10_pages_J12] at hm
        refine c_cond H rfl (fun hc546 => ?_) (fun hc546 => ?_)
        · replace hm := condT hm hc546
          refine wp_seq (wp_region_lit (n_q H (q_move rfl) rfl (W_q (q_build (cs := [.int .i64 4, .int .i64 ((i36 : Nat) : Int)]) ze71 bd71 pl71 rfl (by kernel_rfl)) rfl ?_))); clear H a; intro a H
          replace hS := hS.pk1
          refine n_storeAll H rfl rfl (vs := [.int .i64 4, .int .i64 ((i36 : Nat) : Int)]) rfl sz71 (hS.blk 0 rfl) rfl (by simp) ?_
          clear H; intro w547 hN hC548 hz; clear a; intro a H; replace hS := hS.setBlk hN hC548; clear hN hz
          refine n_nil (then_normal (wp_ret (then_ret (block_ret (then_ret (then_ret (block_ret (then_ret ?_))))))))
          obtain rfl := Option.some.inj hm; have hz : _ = q35 := hn35; subst hz; replace hm := hm35; try dsimp only at hm
          obtain rfl := Option.some.inj hm
          replace hS := hS.tk1
          refine retL H (.inr rfl) rfl (vs := [.agg #[.int .i64 4, .int .i64 ((i36 : Nat) : Int)]]) (resCell rfl ((hS.blk 0 rfl).ldAll ag71 sz71) resNil) ?_
          replace hS := hS.tk0
          exact ⟨rfl, hS.x⟩
        · replace hm := condF hm hc546
          refine wp_skip (then_normal (wp_seq (wp_region_lit (n_q H (q_fieldAddr0 rfl fo27_2) rfl (W_q (q_load rfl ((hS.blk 0 rfl).ld ag22 rfl)) rfl (W_q (q_move rfl) rfl ?_)))))); clear H a; intro a H
          replace hm := bindS hm; obtain ⟨x549, hx549, hm⟩ := hm
          obtain ⟨adx549, hAx549⟩ := SlR.adV (hrp0_0.ext (Flat.mono _) hS.x) hv27 hx549
          refine n_q H (q_ixV (i := i36) Tryz.underlying22 sz69 rfl hv27 hAx549 rfl (natI hx549)) rfl (W_q (q_fieldAddr rfl fo69_1) rfl (W_q (q_load rfl (SlR.ldCellV (j := 1) (hrp0_0.ext (Flat.mono _) hS.x) hv27 hAx549 ag9 hx549 rfl)) rfl (W_q (q_lenS Tryz.underlying9 rfl) rfl (W_q (q_gtrN (i := x549.Init.size) (j := 64) rfl rfl) rfl ?_)))); clear H a; intro a H
          refine n_nil (then_normal (c_cond H rfl (fun hc550 => ?_) (fun hc550 => ?_)))
          · replace hm := condT hm hc550
            refine wp_seq (wp_region_lit (n_q H (q_move rfl) rfl (W_q (q_build (cs := [.int .i64 5, .int .i64 ((i36 : Nat) : Int)]) ze71 bd71 pl71 rfl (by kernel_rfl)) rfl ?_))); clear H a; intro a H
            replace hS := hS.pk1
            refine n_storeAll H rfl rfl (vs := [.int .i64 5, .int .i64 ((i36 : Nat) : Int)]) rfl sz71 (hS.blk 0 rfl) rfl (by simp) ?_
            clear H; intro w551 hN hC552 hz; clear a; intro a H; replace hS := hS.setBlk hN hC552; clear hN hz
            refine n_nil (then_normal (wp_ret (block_ret (then_ret (then_ret (block_ret (then_ret ?_)))))))
            obtain rfl := Option.some.inj hm; have hz : _ = q35 := hn35; subst hz; replace hm := hm35; try dsimp only at hm
            obtain rfl := Option.some.inj hm
            replace hS := hS.tk1
            refine retL H (.inr rfl) rfl (vs := [.agg #[.int .i64 5, .int .i64 ((i36 : Nat) : Int)]]) (resCell rfl ((hS.blk 0 rfl).ldAll ag71 sz71) resNil) ?_
            replace hS := hS.tk0
            exact ⟨rfl, hS.x⟩
          · replace hm := condF hm hc550
            refine wp_skip (block_normal (then_normal (wp_region_lit (n_q H (q_move rfl) rfl (W_q (q_incr (i := i36) (j := 1) rfl rfl (by omega)) rfl (W_q (q_assign rfl) rfl ?_)))))); clear H a; intro a H
            refine n_nil (then_normal ?_)
            obtain rfl := Option.some.inj hm
            exact round (m35, i36 + 1) H ⟨rfl, rfl, rfl, trivial⟩ ⟨hn35, hS⟩ (Nat.lt_succ_self _)
    · replace hm := condF hm hc38
      refine wp_exit (then_exit (then_exit (block_exit ?_)))
      obtain rfl := Option.some.inj hm; have hz : _ = q35 := hn35; subst hz; replace hm := hm35; try dsimp only at hm
      refine then_normal (wp_seq (wp_region_lit ?_))
      replace hm := bindS hm; obtain ⟨r553, hr553, hm⟩ := hm
      refine n_call H rfl en43 (g_r10_none_w (A := A) hr553) rfl ?_
      clear H; intro x556 w554 hv; clear a; intro a H; obtain ⟨rfl, hE555⟩ := hv
      replace hS := hS.ext hE555
      replace hS := hS.pk1
      refine n_storeAll H rfl rfl (vs := [.int .i64 r553.Code, .int .i64 r553.Place]) rfl sz71 (hS.blk 0 rfl) rfl (by simp) ?_
      clear H; intro w557 hN hC558 hz; clear a; intro a H; replace hS := hS.setBlk hN hC558; clear hN hz
      refine n_nil (then_normal (wp_ret ?_))
      obtain rfl := Option.some.inj hm
      replace hS := hS.tk1
      refine retL H (.inr rfl) rfl (vs := [.agg #[.int .i64 r553.Code, .int .i64 r553.Place]]) (resCell rfl ((hS.blk 0 rfl).ldAll ag71 sz71) resNil) ?_
      replace hS := hS.tk0
      exact ⟨rfl, hS.x⟩
end Go.Proofs.YtpnmaabhjgiggaaGreatDoor
