/- Fy (written by wip/tools) -/
import Derived.Test.YtjoihegnjjjdaaaDoorFyA
set_option linter.unusedVariables false
set_option linter.unusedSimpArgs false
set_option maxRecDepth 10000
namespace Go.Proofs.YtjoihegnjjjdaaaDoor
open Go Go.RowKit
theorem ag110 : aggB Tryd.prog 110 = some true := by kernel_rfl
theorem ag163 : aggB Tryd.prog 163 = some true := by kernel_rfl
theorem bd105 : bdB Tryd.prog 105 = true := by kernel_rfl
theorem pl105 : placesB Tryd.prog 105 = some #[(0, 1), (1, 1), (2, 1)] := by kernel_rfl
theorem bd110 : bdB Tryd.prog 110 = true := by kernel_rfl
theorem pl110 : placesB Tryd.prog 110 = some #[(0, 1), (1, 1)] := by kernel_rfl
theorem bd163 : bdB Tryd.prog 163 = true := by kernel_rfl
theorem pl163 : placesB Tryd.prog 163 = some #[(0, 1), (1, 1)] := by kernel_rfl
theorem bd167 : bdB Tryd.prog 167 = true := by kernel_rfl
theorem pl167 : placesB Tryd.prog 167 = some #[(0, 1), (1, 1), (2, 1)] := by kernel_rfl
theorem bd169 : bdB Tryd.prog 169 = true := by kernel_rfl
theorem pl169 : placesB Tryd.prog 169 = some #[(0, 1), (1, 1), (2, 1), (3, 1)] := by kernel_rfl
theorem bd27 : bdB Tryd.prog 27 = true := by kernel_rfl
theorem pl27 : placesB Tryd.prog 27 = some #[(0, 1), (1, 1), (2, 1), (3, 1), (4, 1), (5, 1)] := by kernel_rfl
theorem bd47 : bdB Tryd.prog 47 = true := by kernel_rfl
theorem pl47 : placesB Tryd.prog 47 = some #[(0, 1), (1, 1), (2, 1), (3, 1)] := by kernel_rfl
theorem bd68 : bdB Tryd.prog 68 = true := by kernel_rfl
theorem pl68 : placesB Tryd.prog 68 = some #[(0, 1), (1, 1), (2, 1), (3, 1), (4, 1), (5, 1), (6, 1)] := by kernel_rfl
theorem bd87 : bdB Tryd.prog 87 = true := by kernel_rfl
theorem pl87 : placesB Tryd.prog 87 = some #[(0, 1), (1, 1)] := by kernel_rfl
theorem en13 : entersB Tryd.prog 13 = true := by kernel_rfl
theorem en137 : entersB Tryd.prog 137 = true := by kernel_rfl
theorem en138 : entersB Tryd.prog 138 = true := by kernel_rfl
theorem en142 : entersB Tryd.prog 142 = true := by kernel_rfl
theorem en143 : entersB Tryd.prog 143 = true := by kernel_rfl
theorem en144 : entersB Tryd.prog 144 = true := by kernel_rfl
theorem en145 : entersB Tryd.prog 145 = true := by kernel_rfl
theorem en146 : entersB Tryd.prog 146 = true := by kernel_rfl
theorem en147 : entersB Tryd.prog 147 = true := by kernel_rfl
theorem en148 : entersB Tryd.prog 148 = true := by kernel_rfl
theorem en177 : entersB Tryd.prog 177 = true := by kernel_rfl
theorem en178 : entersB Tryd.prog 178 = true := by kernel_rfl
theorem en23 : entersB Tryd.prog 23 = true := by kernel_rfl
theorem en29 : entersB Tryd.prog 29 = true := by kernel_rfl
theorem en37 : entersB Tryd.prog 37 = true := by kernel_rfl
theorem en41 : entersB Tryd.prog 41 = true := by kernel_rfl
theorem en45 : entersB Tryd.prog 45 = true := by kernel_rfl
theorem en49 : entersB Tryd.prog 49 = true := by kernel_rfl
theorem en73 : entersB Tryd.prog 73 = true := by kernel_rfl
theorem en74 : entersB Tryd.prog 74 = true := by kernel_rfl
theorem en75 : entersB Tryd.prog 75 = true := by kernel_rfl
theorem en76 : entersB Tryd.prog 76 = true := by kernel_rfl
theorem en77 : entersB Tryd.prog 77 = true := by kernel_rfl
theorem en78 : entersB Tryd.prog 78 = true := by kernel_rfl
theorem en85 : entersB Tryd.prog 85 = true := by kernel_rfl
theorem fd163_0 : fdB Tryd.prog 163 0 = some (false, 0, 1) := by kernel_rfl
theorem fo110_0 : fOff Tryd.prog 110 0 = some 0 := by kernel_rfl
theorem fo163_0 : fOff Tryd.prog 163 0 = some 0 := by kernel_rfl
theorem sz110 : sizeB Tryd.prog 110 = some 2 := by kernel_rfl
theorem sz163 : sizeB Tryd.prog 163 = some 2 := by kernel_rfl
theorem ze110 : zeroB Tryd.prog 110 = some [.int .i64 0, .int .i64 0] := by kernel_rfl
theorem ze163 : zeroB Tryd.prog 163 = some [.int .i64 0, .int .i64 0] := by kernel_rfl
theorem ze27 : zeroB Tryd.prog 27 = some [.int .i64 0, .slice none 0 0, .slice none 0 0, .slice none 0 0, .slice none 0 0, .int .i64 0] := by kernel_rfl
theorem ze3 : zeroB Tryd.prog 3 = some [.int .i64 0] := by kernel_rfl
theorem ze4 : zeroB Tryd.prog 4 = some [.bool false] := by kernel_rfl
theorem ze43 : zeroB Tryd.prog 43 = some [.slice none 0 0] := by kernel_rfl

theorem g_law14_small_w {w : World} {A : Nat → Addr} {r : GConfig} (hm : g_law14_small = some r) :
    Calls Tryd.prog 49 [].toArray w (Ret fun u w' => ∃ h_0 h_1 h_2 h_3, u = .agg #[.int .i64 r.Ticks, h_0, h_1, h_2, h_3, .int .i64 r.Tries] ∧ St NB w w' [deepR 68 7 RGPlan h_0 r.Parts, ownR 3 1 h_1 r.Homes.length (r.Homes.flatMap eI), ownR 105 3 h_2 r.Windows.length (r.Windows.flatMap eGWindow), ownR 47 4 h_3 r.Links.length (r.Links.flatMap eGLink)]) := by
  have hS := St.begin NB w
  unfold g_law14_small at hm
  refine enter Tryd.func49 rfl rfl rfl ?_; intro a H; dsimp only [enumL, Nat.zero_add, Nat.reduceAdd] at H
  refine wp_seq (wp_region_lit (n_alloc H ze27 rfl ?_))
  clear H; intro b21 w22 hN hE23 hs; clear a; intro a H
  replace hS := hS.newBlk hN hE23 hs; clear hN hs
  refine n_nil (then_normal (wp_seq (wp_region_lit (n_q H (q_build (cs := [.int .i64 5, .string ⟨#[]⟩]) ze87 bd87 pl87 rfl (by kernel_rfl)) rfl ?_)))); clear H a; intro a H
  refine n_buildSlice H Tryd.underlying64 sz87 ze87 rfl rfl rfl (cs := [.int .i64 5, .string ⟨#[]⟩]) (by kernel_rfl) rfl ?_
  clear H; intro b26 w24 hN hE25 hs; clear a; intro a H
  replace hS := hS.newBlk hN hE25 hs; clear hN hs
  replace hS := hS.blkOwnL (e := eGPagePlan) (k := 2) [(⟨5, ⟨#[]⟩⟩ : GPagePlan)] rfl rfl (by simp [maxLen])
  refine n_q H (q_build (cs := [.int .i64 0, .int .i64 0, .bool false]) ze167 bd167 pl167 rfl (by kernel_rfl)) rfl ?_; clear H a; intro a H
  refine n_buildSlice H Tryd.underlying65 sz167 ze167 rfl rfl rfl (cs := [.int .i64 0, .int .i64 0, .bool false]) (by kernel_rfl) rfl ?_
  clear H; intro b30 w28 hN hE29 hs; clear a; intro a H
  replace hS := hS.newBlk hN hE29 hs; clear hN hs
  replace hS := hS.blkOwnL (e := eGProcPlan) (k := 3) [(⟨0, 0, false⟩ : GProcPlan)] rfl rfl (by simp [maxLen])
  refine n_q H (q_build (cs := [.int .i64 4, .int .i64 4, .int .i64 2, .int .i64 0]) ze169 bd169 pl169 rfl (by kernel_rfl)) rfl ?_; clear H a; intro a H
  refine n_buildSlice H Tryd.underlying66 sz169 ze169 rfl rfl rfl (cs := [.int .i64 4, .int .i64 4, .int .i64 2, .int .i64 0]) (by kernel_rfl) rfl ?_
  clear H; intro b34 w32 hN hE33 hs; clear a; intro a H
  replace hS := hS.newBlk hN hE33 hs; clear hN hs
  replace hS := hS.blkOwnL (e := eGPortPlan) (k := 4) [(⟨4, 4, 2, 0⟩ : GPortPlan)] rfl rfl (by simp [maxLen])
  refine n_q H (q_build (cs := [.int .i64 0, .bool false, .slice (some ⟨b26, 0, none⟩) 1 1, .slice (some ⟨b30, 0, none⟩) 1 1, .slice (some ⟨b34, 0, none⟩) 1 1, .int .i64 0, .slice none 0 0]) ze68 bd68 pl68 rfl ((fill1 (((hS.own 2 rfl).slr rfl (fun _ _ => rfl))).one rfl (by simp)).trans ((fill1 (((hS.own 1 rfl).slr rfl (fun _ _ => rfl))).one rfl (by simp)).trans ((fill1 (((hS.own 0 rfl).slr rfl (fun _ _ => rfl))).one rfl (by simp)).trans rfl)))) rfl ?_; clear H a; intro a H
  refine n_alloc H ze68 rfl ?_
  clear H; intro b36 w37 hN hE38 hs; clear a; intro a H
  replace hS := hS.newBlk hN hE38 hs; clear hN hs
  refine n_storeAll H rfl rfl (vs := [.int .i64 0, .bool false, .slice (some ⟨b26, 0, none⟩) 1 1, .slice (some ⟨b30, 0, none⟩) 1 1, .slice (some ⟨b34, 0, none⟩) 1 1, .int .i64 0, .slice none 0 0]) rfl sz68 (hS.blk 0 rfl) rfl (by simp [(((hS.own 3 rfl).slr rfl (fun _ _ => rfl))).one, (((hS.own 2 rfl).slr rfl (fun _ _ => rfl))).one, (((hS.own 1 rfl).slr rfl (fun _ _ => rfl))).one]) ?_
  clear H; intro w39 hN hC40 hz; clear a; intro a H; replace hS := hS.setBlk hN hC40; clear hN hz
  refine n_nil (then_normal (wp_seq (wp_region_lit (n_q H (q_build (cs := [.int .i64 5, .string ⟨#[]⟩]) ze87 bd87 pl87 rfl (by kernel_rfl)) rfl ?_)))); clear H a; intro a H
  refine n_buildSlice H Tryd.underlying64 sz87 ze87 rfl rfl rfl (cs := [.int .i64 5, .string ⟨#[]⟩]) (by kernel_rfl) rfl ?_
  clear H; intro b43 w41 hN hE42 hs; clear a; intro a H
  replace hS := hS.newBlk hN hE42 hs; clear hN hs
  replace hS := hS.blkOwnL (e := eGPagePlan) (k := 2) [(⟨5, ⟨#[]⟩⟩ : GPagePlan)] rfl rfl (by simp [maxLen])
  refine n_q H (q_build (cs := [.int .i64 0, .int .i64 0, .bool false]) ze167 bd167 pl167 rfl (by kernel_rfl)) rfl ?_; clear H a; intro a H
  refine n_buildSlice H Tryd.underlying65 sz167 ze167 rfl rfl rfl (cs := [.int .i64 0, .int .i64 0, .bool false]) (by kernel_rfl) rfl ?_
  clear H; intro b47 w45 hN hE46 hs; clear a; intro a H
  replace hS := hS.newBlk hN hE46 hs; clear hN hs
  replace hS := hS.blkOwnL (e := eGProcPlan) (k := 3) [(⟨0, 0, false⟩ : GProcPlan)] rfl rfl (by simp [maxLen])
  refine n_q H (q_build (cs := [.int .i64 3, .int .i64 4, .int .i64 2, .int .i64 0]) ze169 bd169 pl169 rfl (by kernel_rfl)) rfl ?_; clear H a; intro a H
  refine n_buildSlice H Tryd.underlying66 sz169 ze169 rfl rfl rfl (cs := [.int .i64 3, .int .i64 4, .int .i64 2, .int .i64 0]) (by kernel_rfl) rfl ?_
  clear H; intro b51 w49 hN hE50 hs; clear a; intro a H
  replace hS := hS.newBlk hN hE50 hs; clear hN hs
  replace hS := hS.blkOwnL (e := eGPortPlan) (k := 4) [(⟨3, 4, 2, 0⟩ : GPortPlan)] rfl rfl (by simp [maxLen])
  refine n_q H (q_build (cs := [.int .i64 1, .bool false, .slice (some ⟨b43, 0, none⟩) 1 1, .slice (some ⟨b47, 0, none⟩) 1 1, .slice (some ⟨b51, 0, none⟩) 1 1, .int .i64 0, .slice none 0 0]) ze68 bd68 pl68 rfl ((fill1 rfl rfl (by simp)).trans ((fill1 (((hS.own 2 rfl).slr rfl (fun _ _ => rfl))).one rfl (by simp)).trans ((fill1 (((hS.own 1 rfl).slr rfl (fun _ _ => rfl))).one rfl (by simp)).trans ((fill1 (((hS.own 0 rfl).slr rfl (fun _ _ => rfl))).one rfl (by simp)).trans rfl))))) rfl ?_; clear H a; intro a H
  refine n_alloc H ze68 rfl ?_
  clear H; intro b53 w54 hN hE55 hs; clear a; intro a H
  replace hS := hS.newBlk hN hE55 hs; clear hN hs
  refine n_storeAll H rfl rfl (vs := [.int .i64 1, .bool false, .slice (some ⟨b43, 0, none⟩) 1 1, .slice (some ⟨b47, 0, none⟩) 1 1, .slice (some ⟨b51, 0, none⟩) 1 1, .int .i64 0, .slice none 0 0]) rfl sz68 (hS.blk 0 rfl) rfl (by simp [(((hS.own 3 rfl).slr rfl (fun _ _ => rfl))).one, (((hS.own 2 rfl).slr rfl (fun _ _ => rfl))).one, (((hS.own 1 rfl).slr rfl (fun _ _ => rfl))).one]) ?_
  clear H; intro w56 hN hC57 hz; clear a; intro a H; replace hS := hS.setBlk hN hC57; clear hN hz
  refine n_nil (then_normal (wp_seq (wp_region_lit (n_q H (q_load rfl ((hS.blk 4 rfl).ldAll ag68 sz68)) rfl (W_q (q_load rfl ((hS.blk 0 rfl).ldAll ag68 sz68)) rfl ?_))))); clear H a; intro a H
  refine n_buildSlice H Tryd.underlying22 sz68 ze68 rfl rfl rfl (cs := [.int .i64 0, .bool false, .slice (some ⟨b26, 0, none⟩) 1 1, .slice (some ⟨b30, 0, none⟩) 1 1, .slice (some ⟨b34, 0, none⟩) 1 1, .int .i64 0, .slice none 0 0, .int .i64 1, .bool false, .slice (some ⟨b43, 0, none⟩) 1 1, .slice (some ⟨b47, 0, none⟩) 1 1, .slice (some ⟨b51, 0, none⟩) 1 1, .int .i64 0, .slice none 0 0]) ((fillA (ds := [.int .i64 0, .bool false, .slice (some ⟨b26, 0, none⟩) 1 1, .slice (some ⟨b30, 0, none⟩) 1 1, .slice (some ⟨b34, 0, none⟩) 1 1, .int .i64 0, .slice none 0 0]) rfl rfl rfl (by simp)).trans ((fillA (ds := [.int .i64 1, .bool false, .slice (some ⟨b43, 0, none⟩) 1 1, .slice (some ⟨b47, 0, none⟩) 1 1, .slice (some ⟨b51, 0, none⟩) 1 1, .int .i64 0, .slice none 0 0]) rfl rfl rfl (by simp)).trans rfl)) rfl ?_
  clear H; intro b60 w58 hN hE59 hs; clear a; intro a H
  replace hS := hS.newBlk hN hE59 hs; clear hN hs
  refine n_buildSlice H Tryd.underlying23 sz3 ze3 rfl rfl rfl (cs := [.int .i64 0, .int .i64 0]) (by kernel_rfl) rfl ?_
  clear H; intro b63 w61 hN hE62 hs; clear a; intro a H
  replace hS := hS.newBlk hN hE62 hs; clear hN hs
  replace hS := hS.blkOwnL (e := eI) (k := 1) [0, 0] rfl rfl (by simp [maxLen])
  refine n_q H (q_build (cs := [.int .i64 0, .int .i64 0, .int .i64 40]) ze105 bd105 pl105 rfl (by kernel_rfl)) rfl (W_q (q_build (cs := [.int .i64 (-1), .int .i64 50, .int .i64 10]) ze105 bd105 pl105 rfl (by kernel_rfl)) rfl (W_q (q_build (cs := [.int .i64 1, .int .i64 60, .int .i64 20]) ze105 bd105 pl105 rfl (by kernel_rfl)) rfl (W_q (q_build (cs := [.int .i64 0, .int .i64 80, .int .i64 20]) ze105 bd105 pl105 rfl (by kernel_rfl)) rfl ?_))); clear H a; intro a H
  refine n_buildSlice H Tryd.underlying24 sz105 ze105 rfl rfl rfl (cs := [.int .i64 0, .int .i64 0, .int .i64 40, .int .i64 (-1), .int .i64 50, .int .i64 10, .int .i64 1, .int .i64 60, .int .i64 20, .int .i64 0, .int .i64 80, .int .i64 20]) (by kernel_rfl) rfl ?_
  clear H; intro b67 w65 hN hE66 hs; clear a; intro a H
  replace hS := hS.newBlk hN hE66 hs; clear hN hs
  replace hS := hS.blkOwnL (e := eGWindow) (k := 3) [(⟨0, 0, 40⟩ : GWindow), (⟨(-1), 50, 10⟩ : GWindow), (⟨1, 60, 20⟩ : GWindow), (⟨0, 80, 20⟩ : GWindow)] rfl rfl (by simp [maxLen])
  refine n_q H (q_build (cs := [.int .i64 0, .int .i64 0, .int .i64 1, .int .i64 0]) ze47 bd47 pl47 rfl (by kernel_rfl)) rfl ?_; clear H a; intro a H
  refine n_buildSlice H Tryd.underlying25 sz47 ze47 rfl rfl rfl (cs := [.int .i64 0, .int .i64 0, .int .i64 1, .int .i64 0]) (by kernel_rfl) rfl ?_
  clear H; intro b71 w69 hN hE70 hs; clear a; intro a H
  replace hS := hS.newBlk hN hE70 hs; clear hN hs
  replace hS := hS.blkOwnL (e := eGLink) (k := 4) [(⟨0, 0, 1, 0⟩ : GLink)] rfl rfl (by simp [maxLen])
  refine n_q H (q_build (cs := [.int .i64 100, .slice (some ⟨b60, 0, none⟩) 2 2, .slice (some ⟨b63, 0, none⟩) 2 2, .slice (some ⟨b67, 0, none⟩) 4 4, .slice (some ⟨b71, 0, none⟩) 1 1, .int .i64 5]) ze27 bd27 pl27 rfl ((fill1 rfl rfl (by simp)).trans ((fill1 rfl rfl (by simp)).trans ((fill1 ((SlR.ofBlk (k := 7) (R := RGPlan) [[.int .i64 0, .bool false, .slice (some ⟨b26, 0, none⟩) 1 1, .slice (some ⟨b30, 0, none⟩) 1 1, .slice (some ⟨b34, 0, none⟩) 1 1, .int .i64 0, .slice none 0 0], [.int .i64 1, .bool false, .slice (some ⟨b43, 0, none⟩) 1 1, .slice (some ⟨b47, 0, none⟩) 1 1, .slice (some ⟨b51, 0, none⟩) 1 1, .int .i64 0, .slice none 0 0]] [(⟨0, false, [(⟨5, ⟨#[]⟩⟩ : GPagePlan)], [(⟨0, 0, false⟩ : GProcPlan)], [(⟨4, 4, 2, 0⟩ : GPortPlan)], 0, ([] : List Int)⟩ : GPlan), (⟨1, false, [(⟨5, ⟨#[]⟩⟩ : GPagePlan)], [(⟨0, 0, false⟩ : GProcPlan)], [(⟨3, 4, 2, 0⟩ : GPortPlan)], 0, ([] : List Int)⟩ : GPlan)] (hS.blk 3 rfl) (DIn.cons rfl (by simp [(((hS.own 11 rfl).slr rfl (fun _ _ => rfl))).one, (((hS.own 10 rfl).slr rfl (fun _ _ => rfl))).one, (((hS.own 9 rfl).slr rfl (fun _ _ => rfl))).one]) (⟨_, _, _, _, rfl, ((hS.own 11 rfl).slr rfl (fun _ _ => rfl)), ((hS.own 10 rfl).slr rfl (fun _ _ => rfl)), ((hS.own 9 rfl).slr rfl (fun _ _ => rfl)), (SlR.nil _ 1 (Flat eI))⟩ : RGPlan _ [.int .i64 0, .bool false, .slice (some ⟨b26, 0, none⟩) 1 1, .slice (some ⟨b30, 0, none⟩) 1 1, .slice (some ⟨b34, 0, none⟩) 1 1, .int .i64 0, .slice none 0 0] (⟨0, false, [(⟨5, ⟨#[]⟩⟩ : GPagePlan)], [(⟨0, 0, false⟩ : GProcPlan)], [(⟨4, 4, 2, 0⟩ : GPortPlan)], 0, ([] : List Int)⟩ : GPlan)) (DIn.cons rfl (by simp [(((hS.own 7 rfl).slr rfl (fun _ _ => rfl))).one, (((hS.own 6 rfl).slr rfl (fun _ _ => rfl))).one, (((hS.own 5 rfl).slr rfl (fun _ _ => rfl))).one]) (⟨_, _, _, _, rfl, ((hS.own 7 rfl).slr rfl (fun _ _ => rfl)), ((hS.own 6 rfl).slr rfl (fun _ _ => rfl)), ((hS.own 5 rfl).slr rfl (fun _ _ => rfl)), (SlR.nil _ 1 (Flat eI))⟩ : RGPlan _ [.int .i64 1, .bool false, .slice (some ⟨b43, 0, none⟩) 1 1, .slice (some ⟨b47, 0, none⟩) 1 1, .slice (some ⟨b51, 0, none⟩) 1 1, .int .i64 0, .slice none 0 0] (⟨1, false, [(⟨5, ⟨#[]⟩⟩ : GPagePlan)], [(⟨0, 0, false⟩ : GProcPlan)], [(⟨3, 4, 2, 0⟩ : GPortPlan)], 0, ([] : List Int)⟩ : GPlan)) trivial)) rfl (by simp [maxLen]))).one rfl (by simp)).trans ((fill1 (((hS.own 2 rfl).slr rfl (fun _ _ => rfl))).one rfl (by simp)).trans ((fill1 (((hS.own 1 rfl).slr rfl (fun _ _ => rfl))).one rfl (by simp)).trans ((fill1 (((hS.own 0 rfl).slr rfl (fun _ _ => rfl))).one rfl (by simp)).trans rfl))))))) rfl ?_; clear H a; intro a H
  replace hS := hS.pick 12 rfl; dsimp only [List.eraseIdx] at hS
  refine n_storeAll H rfl rfl (vs := [.int .i64 100, .slice (some ⟨b60, 0, none⟩) 2 2, .slice (some ⟨b63, 0, none⟩) 2 2, .slice (some ⟨b67, 0, none⟩) 4 4, .slice (some ⟨b71, 0, none⟩) 1 1, .int .i64 5]) rfl sz27 (hS.blk 0 rfl) rfl (by simp [((SlR.ofBlk (k := 7) (R := RGPlan) [[.int .i64 0, .bool false, .slice (some ⟨b26, 0, none⟩) 1 1, .slice (some ⟨b30, 0, none⟩) 1 1, .slice (some ⟨b34, 0, none⟩) 1 1, .int .i64 0, .slice none 0 0], [.int .i64 1, .bool false, .slice (some ⟨b43, 0, none⟩) 1 1, .slice (some ⟨b47, 0, none⟩) 1 1, .slice (some ⟨b51, 0, none⟩) 1 1, .int .i64 0, .slice none 0 0]] [(⟨0, false, [(⟨5, ⟨#[]⟩⟩ : GPagePlan)], [(⟨0, 0, false⟩ : GProcPlan)], [(⟨4, 4, 2, 0⟩ : GPortPlan)], 0, ([] : List Int)⟩ : GPlan), (⟨1, false, [(⟨5, ⟨#[]⟩⟩ : GPagePlan)], [(⟨0, 0, false⟩ : GProcPlan)], [(⟨3, 4, 2, 0⟩ : GPortPlan)], 0, ([] : List Int)⟩ : GPlan)] (hS.blk 4 rfl) (DIn.cons rfl (by simp [(((hS.own 12 rfl).slr rfl (fun _ _ => rfl))).one, (((hS.own 11 rfl).slr rfl (fun _ _ => rfl))).one, (((hS.own 10 rfl).slr rfl (fun _ _ => rfl))).one]) (⟨_, _, _, _, rfl, ((hS.own 12 rfl).slr rfl (fun _ _ => rfl)), ((hS.own 11 rfl).slr rfl (fun _ _ => rfl)), ((hS.own 10 rfl).slr rfl (fun _ _ => rfl)), (SlR.nil _ 1 (Flat eI))⟩ : RGPlan _ [.int .i64 0, .bool false, .slice (some ⟨b26, 0, none⟩) 1 1, .slice (some ⟨b30, 0, none⟩) 1 1, .slice (some ⟨b34, 0, none⟩) 1 1, .int .i64 0, .slice none 0 0] (⟨0, false, [(⟨5, ⟨#[]⟩⟩ : GPagePlan)], [(⟨0, 0, false⟩ : GProcPlan)], [(⟨4, 4, 2, 0⟩ : GPortPlan)], 0, ([] : List Int)⟩ : GPlan)) (DIn.cons rfl (by simp [(((hS.own 8 rfl).slr rfl (fun _ _ => rfl))).one, (((hS.own 7 rfl).slr rfl (fun _ _ => rfl))).one, (((hS.own 6 rfl).slr rfl (fun _ _ => rfl))).one]) (⟨_, _, _, _, rfl, ((hS.own 8 rfl).slr rfl (fun _ _ => rfl)), ((hS.own 7 rfl).slr rfl (fun _ _ => rfl)), ((hS.own 6 rfl).slr rfl (fun _ _ => rfl)), (SlR.nil _ 1 (Flat eI))⟩ : RGPlan _ [.int .i64 1, .bool false, .slice (some ⟨b43, 0, none⟩) 1 1, .slice (some ⟨b47, 0, none⟩) 1 1, .slice (some ⟨b51, 0, none⟩) 1 1, .int .i64 0, .slice none 0 0] (⟨1, false, [(⟨5, ⟨#[]⟩⟩ : GPagePlan)], [(⟨0, 0, false⟩ : GProcPlan)], [(⟨3, 4, 2, 0⟩ : GPortPlan)], 0, ([] : List Int)⟩ : GPlan)) trivial)) rfl (by simp [maxLen]))).one, (((hS.own 3 rfl).slr rfl (fun _ _ => rfl))).one, (((hS.own 2 rfl).slr rfl (fun _ _ => rfl))).one, (((hS.own 1 rfl).slr rfl (fun _ _ => rfl))).one]) ?_
  clear H; intro w73 hN hC74 hz; clear a; intro a H; replace hS := hS.setBlk hN hC74; clear hN hz
  refine n_nil (then_normal (wp_ret ?_))
  obtain rfl := Option.some.inj hm
  replace hS := hS.pick 12 rfl; dsimp only [List.eraseIdx] at hS
  replace hS := hS.ownAny (F := (fun w' => SlR w' 2 (Flat eGPagePlan) (.slice (some ⟨b26, 0, none⟩) 1 1) [(⟨5, ⟨#[]⟩⟩ : GPagePlan)])) (fun w' hO => hO.slr rfl (fun _ _ => rfl))
  replace hS := hS.pick 12 rfl; dsimp only [List.eraseIdx] at hS
  replace hS := hS.ownAny (F := (fun w' => SlR w' 3 (Flat eGProcPlan) (.slice (some ⟨b30, 0, none⟩) 1 1) [(⟨0, 0, false⟩ : GProcPlan)])) (fun w' hO => hO.slr rfl (fun _ _ => rfl))
  replace hS := hS.pick 12 rfl; dsimp only [List.eraseIdx] at hS
  replace hS := hS.ownAny (F := (fun w' => SlR w' 4 (Flat eGPortPlan) (.slice (some ⟨b34, 0, none⟩) 1 1) [(⟨4, 4, 2, 0⟩ : GPortPlan)])) (fun w' hO => hO.slr rfl (fun _ _ => rfl))
  replace hS := hS.pick 11 rfl; dsimp only [List.eraseIdx] at hS
  replace hS := hS.ownAny (F := (fun w' => SlR w' 2 (Flat eGPagePlan) (.slice (some ⟨b43, 0, none⟩) 1 1) [(⟨5, ⟨#[]⟩⟩ : GPagePlan)])) (fun w' hO => hO.slr rfl (fun _ _ => rfl))
  replace hS := hS.pick 11 rfl; dsimp only [List.eraseIdx] at hS
  replace hS := hS.ownAny (F := (fun w' => SlR w' 3 (Flat eGProcPlan) (.slice (some ⟨b47, 0, none⟩) 1 1) [(⟨0, 0, false⟩ : GProcPlan)])) (fun w' hO => hO.slr rfl (fun _ _ => rfl))
  replace hS := hS.pick 11 rfl; dsimp only [List.eraseIdx] at hS
  replace hS := hS.ownAny (F := (fun w' => SlR w' 4 (Flat eGPortPlan) (.slice (some ⟨b51, 0, none⟩) 1 1) [(⟨3, 4, 2, 0⟩ : GPortPlan)])) (fun w' hO => hO.slr rfl (fun _ _ => rfl))
  replace hS := hS.pick 1 rfl; dsimp only [List.eraseIdx] at hS
  replace hS := hS.pick 2 rfl; dsimp only [List.eraseIdx] at hS
  replace hS := hS.pick 3 rfl; dsimp only [List.eraseIdx] at hS
  replace hS := hS.pick 4 rfl; dsimp only [List.eraseIdx] at hS
  replace hS := hS.pick 5 rfl; dsimp only [List.eraseIdx] at hS
  replace hS := hS.anyAnd
  replace hS := hS.anyAnd
  replace hS := hS.anyAnd
  replace hS := hS.anyAnd
  replace hS := hS.anyAnd
  replace hS := hS.anyMono (G := DIn 7 RGPlan [[.int .i64 0, .bool false, .slice (some ⟨b26, 0, none⟩) 1 1, .slice (some ⟨b30, 0, none⟩) 1 1, .slice (some ⟨b34, 0, none⟩) 1 1, .int .i64 0, .slice none 0 0], [.int .i64 1, .bool false, .slice (some ⟨b43, 0, none⟩) 1 1, .slice (some ⟨b47, 0, none⟩) 1 1, .slice (some ⟨b51, 0, none⟩) 1 1, .int .i64 0, .slice none 0 0]] [(⟨0, false, [(⟨5, ⟨#[]⟩⟩ : GPagePlan)], [(⟨0, 0, false⟩ : GProcPlan)], [(⟨4, 4, 2, 0⟩ : GPortPlan)], 0, ([] : List Int)⟩ : GPlan), (⟨1, false, [(⟨5, ⟨#[]⟩⟩ : GPagePlan)], [(⟨0, 0, false⟩ : GProcPlan)], [(⟨3, 4, 2, 0⟩ : GPortPlan)], 0, ([] : List Int)⟩ : GPlan)]) (fun w' hw => (DIn.cons rfl (by simp [hw.1.1.1.1.1.one, hw.1.1.1.1.2.one, hw.1.1.1.2.one]) ⟨_, _, _, _, rfl, hw.1.1.1.1.1, hw.1.1.1.1.2, hw.1.1.1.2, (SlR.nil _ _ _)⟩ (DIn.cons rfl (by simp [hw.1.1.2.one, hw.1.2.one, hw.2.one]) ⟨_, _, _, _, rfl, hw.1.1.2, hw.1.2, hw.2, (SlR.nil _ _ _)⟩ trivial)))
  replace hS := hS.pick 5 rfl; dsimp only [List.eraseIdx] at hS
  replace hS := hS.litDeep (n := 2) [[.int .i64 0, .bool false, .slice (some ⟨b26, 0, none⟩) 1 1, .slice (some ⟨b30, 0, none⟩) 1 1, .slice (some ⟨b34, 0, none⟩) 1 1, .int .i64 0, .slice none 0 0], [.int .i64 1, .bool false, .slice (some ⟨b43, 0, none⟩) 1 1, .slice (some ⟨b47, 0, none⟩) 1 1, .slice (some ⟨b51, 0, none⟩) 1 1, .int .i64 0, .slice none 0 0]] [(⟨0, false, [(⟨5, ⟨#[]⟩⟩ : GPagePlan)], [(⟨0, 0, false⟩ : GProcPlan)], [(⟨4, 4, 2, 0⟩ : GPortPlan)], 0, ([] : List Int)⟩ : GPlan), (⟨1, false, [(⟨5, ⟨#[]⟩⟩ : GPagePlan)], [(⟨0, 0, false⟩ : GProcPlan)], [(⟨3, 4, 2, 0⟩ : GPortPlan)], 0, ([] : List Int)⟩ : GPlan)] rfl (by simp [maxLen]) rfl
  replace hS := hS.pick 1 rfl; dsimp only [List.eraseIdx] at hS
  replace hS := hS.pick 2 rfl; dsimp only [List.eraseIdx] at hS
  replace hS := hS.pick 3 rfl; dsimp only [List.eraseIdx] at hS
  replace hS := hS.pick 4 rfl; dsimp only [List.eraseIdx] at hS
  replace hS := hS.pick 4 rfl; dsimp only [List.eraseIdx] at hS
  replace hS := hS.take 5; simp only [List.take_succ_cons, List.take_zero] at hS
  refine retL H (.inr rfl) rfl (vs := [.agg #[.int .i64 100, .slice (some ⟨b60, 0, none⟩) 2 2, .slice (some ⟨b63, 0, none⟩) 2 2, .slice (some ⟨b67, 0, none⟩) 4 4, .slice (some ⟨b71, 0, none⟩) 1 1, .int .i64 5]]) (resCell rfl ((hS.blk 4 rfl).ldAll ag27 sz27) resNil) ?_
  replace hS := hS.take 4; simp only [List.take_succ_cons, List.take_zero] at hS
  exact ⟨_, _, _, _, rfl, hS⟩
theorem g_law14_fixed_w {w : World} {A : Nat → Addr} (hG : EV A w) (hH : HE w) {r : Bool} (hm : g_law14_fixed = some r) :
    Calls Tryd.prog 11 [].toArray w (Ret fun u w' => u = .bool r ∧ Ext w w') := by
  have hS := St.begin NB w
  unfold g_law14_fixed at hm
  refine enter Tryd.func11 rfl rfl rfl ?_; intro a H; dsimp only [enumL, Nat.zero_add, Nat.reduceAdd] at H
  refine wp_seq (wp_region_lit (n_q H (q_assign rfl) rfl ?_)); clear H a; intro a H
  refine n_nil (then_normal (wp_seq (wp_region_lit ?_)))
  replace hm := bindS hm; obtain ⟨r21, hr21, hm⟩ := hm
  refine n_call H rfl en49 (g_law14_small_w (A := A) hr21) rfl ?_
  clear H; intro x32 w30 hv; clear a; intro a H; obtain ⟨u22, u23, u24, u25, rfl, hE31⟩ := hv
  replace hS := hS.new hE31; simp only [List.cons_append, List.nil_append] at hS
  refine n_alloc H ze27 rfl ?_
  clear H; intro b33 w34 hN hE35 hs; clear a; intro a H
  replace hS := hS.newBlk hN hE35 hs; clear hN hs
  refine n_storeAll H rfl rfl (vs := [.int .i64 r21.Ticks, u22, u23, u24, u25, .int .i64 r21.Tries]) rfl sz27 (hS.blk 0 rfl) rfl (by simp [((hS.deepSl 1 rfl)).one, (((hS.own 2 rfl).slr rfl (fun _ _ => rfl))).one, (((hS.own 3 rfl).slr rfl (fun _ _ => rfl))).one, (((hS.own 4 rfl).slr rfl (fun _ _ => rfl))).one]) ?_
  clear H; intro w36 hN hC37 hz; clear a; intro a H; replace hS := hS.setBlk hN hC37; clear hN hz
  refine n_nil (then_normal (wp_seq (wp_region_lit (n_q H (q_load rfl ((hS.blk 0 rfl).ldAll ag27 sz27)) rfl ?_)))); clear H a; intro a H
  replace hm := bindS hm; obtain ⟨r38, hr38, hm⟩ := hm
  refine n_call H rfl en37 (g_frame_Load_w (A := A) (hG.ext hS.x) (⟨_, _, _, _, rfl, (hS.deepSl 1 rfl), ((hS.own 2 rfl).slr rfl (fun _ _ => rfl)), ((hS.own 3 rfl).slr rfl (fun _ _ => rfl)), ((hS.own 4 rfl).slr rfl (fun _ _ => rfl))⟩ : RGConfig _ [.int .i64 r21.Ticks, u22, u23, u24, u25, .int .i64 r21.Tries] r21) hr38) rfl ?_
  clear H; intro x43 w41 hv; clear a; intro a H; obtain ⟨u39, rfl, hE42⟩ := hv
  replace hS := hS.new hE42; simp only [List.cons_append, List.nil_append] at hS
  refine n_q H (q_move rfl) rfl (W_q (q_extract rfl rfl) rfl (W_q (q_extract rfl rfl) rfl (W_q (q_assign rfl) rfl (W_q (q_assign rfl) rfl ?_)))); clear H a; intro a H
  refine n_nil (then_normal (wp_seq ?_))
  replace hm := bindS hm; obtain ⟨j44, hm, hm44⟩ := hm
  refine c_join (σ := Bool) H (fun q545 => [(1, .pointer (some ⟨b33, 0, none⟩)), (23, .bool q545)]) (fun q545 wl => (g_law14_fixed_J4 r21) q545 = some r ∧ St NB w wl [blkR b33 [.int .i64 r21.Ticks, u22, u23, u24, u25, .int .i64 r21.Tries] 27, deepR 68 7 RGPlan u22 r21.Parts, ownR 3 1 u23 r21.Homes.length (r21.Homes.flatMap eI), ownR 105 3 u24 r21.Windows.length (r21.Windows.flatMap eGWindow), ownR 47 4 u25 r21.Links.length (r21.Links.flatMap eGLink)]) ?_ ?_
  · skip
    refine wp_region_lit (n_q H (q_load rfl ((hS.blk 1 rfl).ldAll ag27 sz27)) rfl ?_); clear H a; intro a H
    replace hm := bindS hm; obtain ⟨r546, hr546, hm⟩ := hm
    refine n_call H rfl en35 (g_frame_Check_w (A := A) (hG.ext hS.x) (⟨_, _, _, _, rfl, (hS.deepSl 2 rfl), ((hS.own 3 rfl).slr rfl (fun _ _ => rfl)), ((hS.own 4 rfl).slr rfl (fun _ _ => rfl)), ((hS.own 5 rfl).slr rfl (fun _ _ => rfl))⟩ : RGConfig _ [.int .i64 r21.Ticks, u22, u23, u24, u25, .int .i64 r21.Tries] r21) hr546) rfl ?_
    clear H; intro u547 w549 hv; clear a; intro a H; obtain ⟨_, rfl, hE550⟩ := hv
    replace hS := hS.new hE550; simp only [List.cons_append, List.nil_append] at hS
    refine n_q H (q_cast (q_nnilI Tryd.underlying36 rfl rfl (hS.any 0 rfl : IsE A w549 u547 r546).form) (show _ = Value.bool (!decide (r546 = .nil)) by rw [IsErr.isNil (hS.any 0 rfl : IsE A w549 u547 r546)])) rfl (W_q (q_move rfl) rfl ?_); clear H a; intro a H
    rcases Bool.eq_false_or_eq_true (!decide (r546 = .nil)) with hg552 | hg552
    · replace H := H.know 16 rfl hg552
      replace hm := condT hm hg552
      refine n_no H rfl rfl (by decide) rfl (W_no rfl rfl (by decide) rfl (W_q (q_pickT rfl rfl) rfl (W_q (q_move rfl) rfl (W_no rfl rfl (by decide) rfl (W_no rfl rfl (by decide) rfl (W_q (q_pickT rfl rfl) rfl ?_)))))); clear H a; intro a H
      refine n_nil (then_normal ?_)
      obtain rfl := Option.some.inj hm; replace hm := hm44; try dsimp only at hm
      replace hS := hS.pick 6 rfl; dsimp only [List.eraseIdx] at hS
      replace hS := hS.pick 6 rfl; dsimp only [List.eraseIdx] at hS
      replace hS := hS.pick 6 rfl; dsimp only [List.eraseIdx] at hS
      replace hS := hS.pick 6 rfl; dsimp only [List.eraseIdx] at hS
      replace hS := hS.pick 6 rfl; dsimp only [List.eraseIdx] at hS
      replace hS := hS.take 5; simp only [List.take_succ_cons, List.take_zero] at hS
      exact join true H ⟨rfl, rfl, trivial⟩ ⟨hm, hS⟩
    · replace H := H.know 16 rfl hg552
      replace hm := condF hm hg552
      refine n_yes H rfl rfl (n_q H (q_move rfl) rfl (W_yes rfl rfl (W_q (q_cast (q_nnilI Tryd.underlying36 rfl rfl (hS.any 1 rfl : IsE A w549 u39 r38.2).form) (show _ = Value.bool (!decide (r38.2 = .nil)) by rw [IsErr.isNil (hS.any 1 rfl : IsE A w549 u39 r38.2)])) rfl (W_q (q_pickF rfl rfl) rfl (W_q (q_move rfl) rfl ?_))))); clear H a; intro a H
      rcases Bool.eq_false_or_eq_true (!decide (r38.2 = .nil)) with hg553 | hg553
      · replace H := H.know 20 rfl hg553
        replace hm := condT hm hg553
        refine n_no H rfl rfl (by decide) rfl (W_no rfl rfl (by decide) rfl (W_q (q_pickT rfl rfl) rfl ?_)); clear H a; intro a H
        refine n_nil (then_normal ?_)
        obtain rfl := Option.some.inj hm; replace hm := hm44; try dsimp only at hm
        replace hS := hS.pick 6 rfl; dsimp only [List.eraseIdx] at hS
        replace hS := hS.pick 6 rfl; dsimp only [List.eraseIdx] at hS
        replace hS := hS.pick 6 rfl; dsimp only [List.eraseIdx] at hS
        replace hS := hS.pick 6 rfl; dsimp only [List.eraseIdx] at hS
        replace hS := hS.pick 6 rfl; dsimp only [List.eraseIdx] at hS
        replace hS := hS.take 5; simp only [List.take_succ_cons, List.take_zero] at hS
        exact join true H ⟨rfl, rfl, trivial⟩ ⟨hm, hS⟩
      · replace H := H.know 20 rfl hg553
        replace hm := condF hm hg553
        refine n_yes H rfl rfl (n_q H (q_move rfl) rfl (W_yes rfl rfl (W_q (q_neqD rfl rfl) rfl (W_q (q_pickF rfl rfl) rfl ?_)))); clear H a; intro a H
        refine n_nil (then_normal ?_)
        obtain rfl := Option.some.inj hm; replace hm := hm44; try dsimp only at hm
        replace hS := hS.pick 6 rfl; dsimp only [List.eraseIdx] at hS
        replace hS := hS.pick 6 rfl; dsimp only [List.eraseIdx] at hS
        replace hS := hS.pick 6 rfl; dsimp only [List.eraseIdx] at hS
        replace hS := hS.pick 6 rfl; dsimp only [List.eraseIdx] at hS
        replace hS := hS.pick 6 rfl; dsimp only [List.eraseIdx] at hS
        replace hS := hS.take 5; simp only [List.take_succ_cons, List.take_zero] at hS
        exact join (!decide (r38.1 = 60)) H ⟨rfl, rfl, trivial⟩ ⟨hm, hS⟩
  · clear H hS hm a; intro q545 a w554 H hR
    simp only [ent, List.map_cons, List.map_nil] at H; (try dsimp only at hR); obtain ⟨hm, hS⟩ := hR; try dsimp only [g_law14_fixed_J4] at hm
    refine c_cond H rfl (fun hc555 => ?_) (fun hc555 => ?_)
    · replace hm := condT hm hc555
      refine wp_seq (wp_region_lit (n_q H (q_assign rfl) rfl ?_)); clear H a; intro a H
      refine n_nil (then_normal (wp_ret (then_ret ?_)))
      obtain rfl := Option.some.inj hm
      replace hS := hS.take 0; simp only [List.take_succ_cons, List.take_zero] at hS
      refine ret1 H (.inr rfl) rfl rfl ?_
      exact ⟨rfl, hS.x⟩
    · replace hm := condF hm hc555
      refine wp_skip (then_normal (wp_seq (wp_region_lit (n_q H (q_load rfl ((hS.blk 0 rfl).ldAll ag27 sz27)) rfl ?_)))); clear H a; intro a H
      replace hm := bindS hm; obtain ⟨r556, hr556, hm⟩ := hm
      refine n_call H rfl en41 (g_frame_Next_w (A := A) (hG.ext hS.x) (⟨_, _, _, _, rfl, (hS.deepSl 1 rfl), ((hS.own 2 rfl).slr rfl (fun _ _ => rfl)), ((hS.own 3 rfl).slr rfl (fun _ _ => rfl)), ((hS.own 4 rfl).slr rfl (fun _ _ => rfl))⟩ : RGConfig _ [.int .i64 r21.Ticks, u22, u23, u24, u25, .int .i64 r21.Tries] r21) hr556) rfl ?_
      clear H; intro x561 w559 hv; clear a; intro a H; obtain ⟨u557, rfl, hE560⟩ := hv
      replace hS := hS.new hE560; simp only [List.cons_append, List.nil_append] at hS
      refine n_q H (q_move rfl) rfl (W_q (q_extract rfl rfl) rfl (W_q (q_extract rfl rfl) rfl (W_q (q_assign rfl) rfl (W_q (q_assign rfl) rfl ?_)))); clear H a; intro a H
      refine n_nil (then_normal (wp_seq (wp_region_lit (n_q H (q_load rfl ((hS.blk 1 rfl).ldAll ag27 sz27)) rfl ?_)))); clear H a; intro a H
      refine n_buildSlice H Tryd.underlying28 sz4 ze4 rfl rfl rfl (cs := [.bool true, .bool true]) (by kernel_rfl) rfl ?_
      clear H; intro b564 w562 hN hE563 hs; clear a; intro a H
      replace hS := hS.newBlk hN hE563 hs; clear hN hs
      replace hS := hS.blkOwnL (e := eF) (k := 1) [true, true] rfl rfl (by simp [maxLen])
      refine n_q H (q_build (cs := [.int .i64 0, .string ⟨#[97]⟩]) ze50 bd50 pl50 rfl (by kernel_rfl)) rfl ?_; clear H a; intro a H
      refine n_buildSlice H Tryd.underlying43 sz50 ze50 rfl rfl rfl (cs := [.int .i64 0, .string ⟨#[97]⟩]) (by kernel_rfl) rfl ?_
      clear H; intro b568 w566 hN hE567 hs; clear a; intro a H
      replace hS := hS.newBlk hN hE567 hs; clear hN hs
      replace hS := hS.blkOwnL (e := eGMsg) (k := 2) [(⟨0, ⟨#[97]⟩⟩ : GMsg)] rfl rfl (by simp [maxLen])
      refine n_buildSlice H Tryd.underlying29 sz43 ze43 rfl rfl rfl (cs := [.slice (some ⟨b568, 0, none⟩) 1 1, .slice none 0 0]) ((fill1 (((hS.own 0 rfl).slr rfl (fun _ _ => rfl))).one rfl (by simp)).trans ((fill1 rfl rfl (by simp)).trans rfl)) rfl ?_
      clear H; intro b572 w570 hN hE571 hs; clear a; intro a H
      replace hS := hS.newBlk hN hE571 hs; clear hN hs
      replace hm := bindS hm; obtain ⟨r573, hr573, hm⟩ := hm
      refine n_call H rfl en13 (g_frame_Carry_w (A := A) (hG.ext hS.x) (⟨_, _, _, _, rfl, (hS.deepSl 5 rfl), ((hS.own 6 rfl).slr rfl (fun _ _ => rfl)), ((hS.own 7 rfl).slr rfl (fun _ _ => rfl)), ((hS.own 8 rfl).slr rfl (fun _ _ => rfl))⟩ : RGConfig _ [.int .i64 r21.Ticks, u22, u23, u24, u25, .int .i64 r21.Tries] r21) ((hS.own 2 rfl).slr rfl (fun _ _ => rfl)) (SlR.ofBlk (k := 1) (R := RSl 2 eGMsg) [[.slice (some ⟨b568, 0, none⟩) 1 1], [.slice none 0 0]] [[(⟨0, ⟨#[97]⟩⟩ : GMsg)], ([] : List GMsg)] (hS.blk 0 rfl) (DIn.cons rfl (by simp [(((hS.own 1 rfl).slr rfl (fun _ _ => rfl))).one]) ⟨_, rfl, ((hS.own 1 rfl).slr rfl (fun _ _ => rfl))⟩ (DIn.cons rfl (by simp) ⟨_, rfl, (SlR.nil _ 2 (Flat eGMsg))⟩ trivial)) rfl (by simp [maxLen])) hr573) rfl ?_
      clear H; intro x580 w578 hv; clear a; intro a H; obtain ⟨u574, u575, rfl, hE579⟩ := hv
      replace hS := hS.new hE579; simp only [List.cons_append, List.nil_append] at hS
      refine n_q H (q_move rfl) rfl (W_q (q_extract rfl rfl) rfl (W_q (q_extract rfl rfl) rfl (W_q (q_assign rfl) rfl (W_q (q_assign rfl) rfl ?_)))); clear H a; intro a H
      refine n_nil (then_normal (wp_seq ?_))
      replace hm := bindS hm; obtain ⟨j581, hm, hm581⟩ := hm
      refine c_join (σ := Bool) H (fun q1082 => [(1, .pointer (some ⟨b33, 0, none⟩)), (68, .bool q1082)]) (fun q1082 wl => (g_law14_fixed_J3 r21) q1082 = some r ∧ St NB w wl [blkR b33 [.int .i64 r21.Ticks, u22, u23, u24, u25, .int .i64 r21.Tries] 27, deepR 68 7 RGPlan u22 r21.Parts, ownR 3 1 u23 r21.Homes.length (r21.Homes.flatMap eI), ownR 105 3 u24 r21.Windows.length (r21.Windows.flatMap eGWindow), ownR 47 4 u25 r21.Links.length (r21.Links.flatMap eGLink)]) ?_ ?_
      · skip
        refine wp_region_lit (n_q H (q_move rfl) rfl (W_q (q_cast (q_nnilI Tryd.underlying36 rfl rfl (hS.any 5 rfl : IsE A w578 u557 r556.2).form) (show _ = Value.bool (!decide (r556.2 = .nil)) by rw [IsErr.isNil (hS.any 5 rfl : IsE A w578 u557 r556.2)])) rfl (W_q (q_move rfl) rfl ?_))); clear H a; intro a H
        rcases Bool.eq_false_or_eq_true (!decide (r556.2 = .nil)) with hg1083 | hg1083
        · replace H := H.know 40 rfl hg1083
          replace hm := condT hm hg1083
          refine n_no H rfl rfl (by decide) rfl (W_no rfl rfl (by decide) rfl (W_q (q_pickT rfl rfl) rfl (W_q (q_move rfl) rfl (W_no rfl rfl (by decide) rfl (W_no rfl rfl (by decide) rfl (W_q (q_pickT rfl rfl) rfl (W_q (q_move rfl) rfl (W_no rfl rfl (by decide) rfl (W_no rfl rfl (by decide) rfl (W_no rfl rfl (by decide) rfl (W_q (q_pickT rfl rfl) rfl ?_))))))))))); clear H a; intro a H
          refine n_q H (q_move rfl) rfl (W_no rfl rfl (by decide) rfl (W_no rfl rfl (by decide) rfl (W_no rfl rfl (by decide) rfl (W_no rfl rfl (by decide) rfl (W_no rfl rfl (by decide) rfl (W_q (q_pickT rfl rfl) rfl (W_q (q_move rfl) rfl (W_no rfl rfl (by decide) rfl (W_no rfl rfl (by decide) rfl (W_no rfl rfl (by decide) rfl (W_no rfl rfl (by decide) rfl ?_))))))))))); clear H a; intro a H
          refine n_no H rfl rfl (by decide) rfl (W_no rfl rfl (by decide) rfl (W_no rfl rfl (by decide) rfl (W_q (q_pickT rfl rfl) rfl ?_))); clear H a; intro a H
          refine n_nil (then_normal ?_)
          obtain rfl := Option.some.inj hm; replace hm := hm581; try dsimp only at hm
          replace hS := hS.pick 10 rfl; dsimp only [List.eraseIdx] at hS
          replace hS := hS.pick 10 rfl; dsimp only [List.eraseIdx] at hS
          replace hS := hS.pick 10 rfl; dsimp only [List.eraseIdx] at hS
          replace hS := hS.pick 10 rfl; dsimp only [List.eraseIdx] at hS
          replace hS := hS.pick 10 rfl; dsimp only [List.eraseIdx] at hS
          replace hS := hS.take 5; simp only [List.take_succ_cons, List.take_zero] at hS
          exact join true H ⟨rfl, rfl, trivial⟩ ⟨hm, hS⟩
        · replace H := H.know 40 rfl hg1083
          replace hm := condF hm hg1083
          refine n_yes H rfl rfl (n_q H (q_move rfl) rfl (W_yes rfl rfl (W_q (q_neqD rfl rfl) rfl (W_q (q_pickF rfl rfl) rfl (W_q (q_move rfl) rfl ?_))))); clear H a; intro a H
          rcases Bool.eq_false_or_eq_true (!decide (r556.1 = 80)) with hg1084 | hg1084
          · replace H := H.know 44 rfl hg1084
            replace hm := condT hm hg1084
            refine n_no H rfl rfl (by decide) rfl (W_no rfl rfl (by decide) rfl (W_q (q_pickT rfl rfl) rfl (W_q (q_move rfl) rfl (W_no rfl rfl (by decide) rfl (W_no rfl rfl (by decide) rfl (W_no rfl rfl (by decide) rfl (W_q (q_pickT rfl rfl) rfl (W_q (q_move rfl) rfl (W_no rfl rfl (by decide) rfl (W_no rfl rfl (by decide) rfl (W_no rfl rfl (by decide) rfl ?_))))))))))); clear H a; intro a H
            refine n_no H rfl rfl (by decide) rfl (W_no rfl rfl (by decide) rfl (W_q (q_pickT rfl rfl) rfl (W_q (q_move rfl) rfl (W_no rfl rfl (by decide) rfl (W_no rfl rfl (by decide) rfl (W_no rfl rfl (by decide) rfl (W_no rfl rfl (by decide) rfl (W_no rfl rfl (by decide) rfl (W_no rfl rfl (by decide) rfl (W_no rfl rfl (by decide) rfl (W_q (q_pickT rfl rfl) rfl ?_))))))))))); clear H a; intro a H
            refine n_nil (then_normal ?_)
            obtain rfl := Option.some.inj hm; replace hm := hm581; try dsimp only at hm
            replace hS := hS.pick 10 rfl; dsimp only [List.eraseIdx] at hS
            replace hS := hS.pick 10 rfl; dsimp only [List.eraseIdx] at hS
            replace hS := hS.pick 10 rfl; dsimp only [List.eraseIdx] at hS
            replace hS := hS.pick 10 rfl; dsimp only [List.eraseIdx] at hS
            replace hS := hS.pick 10 rfl; dsimp only [List.eraseIdx] at hS
            replace hS := hS.take 5; simp only [List.take_succ_cons, List.take_zero] at hS
            exact join true H ⟨rfl, rfl, trivial⟩ ⟨hm, hS⟩
          · replace H := H.know 44 rfl hg1084
            replace hm := condF hm hg1084
            refine n_yes H rfl rfl (n_q H (q_move rfl) rfl (W_yes rfl rfl (W_q (q_cast (q_nnilI Tryd.underlying36 rfl rfl (hS.any 1 rfl : IsE A w578 u575 r573.2).form) (show _ = Value.bool (!decide (r573.2 = .nil)) by rw [IsErr.isNil (hS.any 1 rfl : IsE A w578 u575 r573.2)])) rfl (W_q (q_pickF rfl rfl) rfl (W_q (q_move rfl) rfl ?_))))); clear H a; intro a H
            rcases Bool.eq_false_or_eq_true (!decide (r573.2 = .nil)) with hg1085 | hg1085
            · replace H := H.know 48 rfl hg1085
              replace hm := condT hm hg1085
              refine n_no H rfl rfl (by decide) rfl (W_no rfl rfl (by decide) rfl (W_no rfl rfl (by decide) rfl (W_q (q_pickT rfl rfl) rfl (W_q (q_move rfl) rfl (W_no rfl rfl (by decide) rfl (W_no rfl rfl (by decide) rfl (W_no rfl rfl (by decide) rfl (W_no rfl rfl (by decide) rfl (W_no rfl rfl (by decide) rfl (W_q (q_pickT rfl rfl) rfl (W_q (q_move rfl) rfl ?_))))))))))); clear H a; intro a H
              refine n_no H rfl rfl (by decide) rfl (W_no rfl rfl (by decide) rfl (W_no rfl rfl (by decide) rfl (W_no rfl rfl (by decide) rfl (W_no rfl rfl (by decide) rfl (W_no rfl rfl (by decide) rfl (W_no rfl rfl (by decide) rfl (W_q (q_pickT rfl rfl) rfl ?_))))))); clear H a; intro a H
              refine n_nil (then_normal ?_)
              obtain rfl := Option.some.inj hm; replace hm := hm581; try dsimp only at hm
              replace hS := hS.pick 10 rfl; dsimp only [List.eraseIdx] at hS
              replace hS := hS.pick 10 rfl; dsimp only [List.eraseIdx] at hS
              replace hS := hS.pick 10 rfl; dsimp only [List.eraseIdx] at hS
              replace hS := hS.pick 10 rfl; dsimp only [List.eraseIdx] at hS
              replace hS := hS.pick 10 rfl; dsimp only [List.eraseIdx] at hS
              replace hS := hS.take 5; simp only [List.take_succ_cons, List.take_zero] at hS
              exact join true H ⟨rfl, rfl, trivial⟩ ⟨hm, hS⟩
            · replace H := H.know 48 rfl hg1085
              replace hm := condF hm hg1085
              refine n_yes H rfl rfl (n_q H (q_move rfl) rfl (W_yes rfl rfl ?_)); clear H a; intro a H
              obtain ⟨A1086, c1086, hv1086, hl1086, hm1086⟩ := SlR.formV (hS.nestSl 0 rfl (rowR_R (E := 50) (k := 2) (e := eGMsg) (fun _ _ => rfl)))
              refine n_q H (q_lenV Tryd.underlying29 rfl hv1086) rfl (W_yes rfl rfl (W_q (q_neqN (i := r573.1.length) (j := 2) rfl rfl) rfl (W_q (q_pickF rfl rfl) rfl (W_q (q_move rfl) rfl ?_)))); clear H a; intro a H
              rcases Bool.eq_false_or_eq_true (!decide (r573.1.length = 2)) with hg1087 | hg1087
              · replace H := H.know 53 rfl hg1087
                replace hm := condT hm hg1087
                refine n_no H rfl rfl (by decide) rfl (W_no rfl rfl (by decide) rfl (W_no rfl rfl (by decide) rfl (W_no rfl rfl (by decide) rfl (W_no rfl rfl (by decide) rfl (W_q (q_pickT rfl rfl) rfl (W_q (q_move rfl) rfl (W_no rfl rfl (by decide) rfl (W_no rfl rfl (by decide) rfl (W_no rfl rfl (by decide) rfl (W_no rfl rfl (by decide) rfl (W_no rfl rfl (by decide) rfl ?_))))))))))); clear H a; intro a H
                refine n_no H rfl rfl (by decide) rfl (W_no rfl rfl (by decide) rfl (W_q (q_pickT rfl rfl) rfl ?_)); clear H a; intro a H
                refine n_nil (then_normal ?_)
                obtain rfl := Option.some.inj hm; replace hm := hm581; try dsimp only at hm
                replace hS := hS.pick 10 rfl; dsimp only [List.eraseIdx] at hS
                replace hS := hS.pick 10 rfl; dsimp only [List.eraseIdx] at hS
                replace hS := hS.pick 10 rfl; dsimp only [List.eraseIdx] at hS
                replace hS := hS.pick 10 rfl; dsimp only [List.eraseIdx] at hS
                replace hS := hS.pick 10 rfl; dsimp only [List.eraseIdx] at hS
                replace hS := hS.take 5; simp only [List.take_succ_cons, List.take_zero] at hS
                exact join true H ⟨rfl, rfl, trivial⟩ ⟨hm, hS⟩
              · replace H := H.know 53 rfl hg1087
                replace hm := condF hm hg1087
                refine n_yes H rfl rfl (n_q H (q_move rfl) rfl (W_yes rfl rfl ?_)); clear H a; intro a H
                replace hm := bindS hm; obtain ⟨x1088, hx1088, hm⟩ := hm
                obtain ⟨adx1088, hAx1088⟩ := SlR.adV (hS.nestSl 0 rfl (rowR_R (E := 50) (k := 2) (e := eGMsg) (fun _ _ => rfl))) hv1086 hx1088
                obtain ⟨csx1088, hclx1088, ⟨vx1088, rfl, hrx1088⟩, hcx1088⟩ := SlR.elV (hS.nestSl 0 rfl (rowR_R (E := 50) (k := 2) (e := eGMsg) (fun _ _ => rfl))) hv1086 hAx1088 hx1088
                refine n_q H (q_ixV (i := 1) Tryd.underlying29 sz43 rfl hv1086 hAx1088 rfl (natI hx1088)) rfl (W_yes rfl rfl (W_q (q_load rfl (LdX.ext (ldElH ag43 hcx1088) Ext.rfl')) rfl (W_yes rfl rfl ?_))); clear H a; intro a H
                obtain ⟨A1089, c1089, hv1089, hl1089, hm1089⟩ := SlR.formV (hrx1088.ext (Flat.mono _) Ext.rfl')
                refine n_q H (q_lenV Tryd.underlying43 rfl hv1089) rfl (W_yes rfl rfl (W_q (q_neqN (i := x1088.length) (j := 1) rfl rfl) rfl (W_q (q_pickF rfl rfl) rfl (W_q (q_move rfl) rfl ?_)))); clear H a; intro a H
                rcases Bool.eq_false_or_eq_true (!decide (x1088.length = 1)) with hg1090 | hg1090
                · replace H := H.know 60 rfl hg1090
                  replace hm := condT hm hg1090
                  refine n_no H rfl rfl (by decide) rfl (W_no rfl rfl (by decide) rfl (W_no rfl rfl (by decide) rfl (W_no rfl rfl (by decide) rfl (W_no rfl rfl (by decide) rfl (W_no rfl rfl (by decide) rfl (W_no rfl rfl (by decide) rfl (W_q (q_pickT rfl rfl) rfl ?_))))))); clear H a; intro a H
                  refine n_nil (then_normal ?_)
                  obtain rfl := Option.some.inj hm; replace hm := hm581; try dsimp only at hm
                  replace hS := hS.pick 10 rfl; dsimp only [List.eraseIdx] at hS
                  replace hS := hS.pick 10 rfl; dsimp only [List.eraseIdx] at hS
                  replace hS := hS.pick 10 rfl; dsimp only [List.eraseIdx] at hS
                  replace hS := hS.pick 10 rfl; dsimp only [List.eraseIdx] at hS
                  replace hS := hS.pick 10 rfl; dsimp only [List.eraseIdx] at hS
                  replace hS := hS.take 5; simp only [List.take_succ_cons, List.take_zero] at hS
                  exact join true H ⟨rfl, rfl, trivial⟩ ⟨hm, hS⟩
                · replace H := H.know 60 rfl hg1090
                  replace hm := condF hm hg1090
                  refine n_yes H rfl rfl (n_q H (q_move rfl) rfl (W_yes rfl rfl ?_)); clear H a; intro a H
                  replace hm := bindS hm; obtain ⟨x1091, hx1091, hm⟩ := hm
                  obtain ⟨adx1091, hAx1091⟩ := SlR.adV (hS.nestSl 0 rfl (rowR_R (E := 50) (k := 2) (e := eGMsg) (fun _ _ => rfl))) hv1086 hx1091
                  obtain ⟨csx1091, hclx1091, ⟨vx1091, rfl, hrx1091⟩, hcx1091⟩ := SlR.elV (hS.nestSl 0 rfl (rowR_R (E := 50) (k := 2) (e := eGMsg) (fun _ _ => rfl))) hv1086 hAx1091 hx1091
                  refine n_q H (q_ixV (i := 1) Tryd.underlying29 sz43 rfl hv1086 hAx1091 rfl (natI hx1091)) rfl (W_yes rfl rfl (W_q (q_load rfl (LdX.ext (ldElH ag43 hcx1091) Ext.rfl')) rfl (W_yes rfl rfl ?_))); clear H a; intro a H
                  obtain ⟨A1092, c1092, hv1092, hl1092, hm1092⟩ := SlR.formV (hrx1091.ext (Flat.mono _) Ext.rfl')
                  replace hm := bindS hm; obtain ⟨x1093, hx1093, hm⟩ := hm
                  obtain ⟨adx1093, hAx1093⟩ := SlR.adV (hrx1091.ext (Flat.mono _) Ext.rfl') hv1092 hx1093
                  refine n_q H (q_ixV (i := 0) Tryd.underlying43 sz50 rfl hv1092 hAx1093 rfl (natI hx1093)) rfl (W_yes rfl rfl (W_q (q_fieldAddr rfl fo50_1) rfl (W_yes rfl rfl (W_q (q_load rfl (SlR.ldCellV (j := 1) (hrx1091.ext (Flat.mono _) Ext.rfl') hv1092 hAx1093 ag9 hx1093 rfl)) rfl (W_yes rfl rfl (W_q (q_neqS rfl rfl) rfl (W_q (q_pickF rfl rfl) rfl ?_))))))); clear H a; intro a H
                  refine n_nil (then_normal ?_)
                  obtain rfl := Option.some.inj hm; replace hm := hm581; try dsimp only at hm
                  replace hS := hS.pick 10 rfl; dsimp only [List.eraseIdx] at hS
                  replace hS := hS.pick 10 rfl; dsimp only [List.eraseIdx] at hS
                  replace hS := hS.pick 10 rfl; dsimp only [List.eraseIdx] at hS
                  replace hS := hS.pick 10 rfl; dsimp only [List.eraseIdx] at hS
                  replace hS := hS.pick 10 rfl; dsimp only [List.eraseIdx] at hS
                  replace hS := hS.take 5; simp only [List.take_succ_cons, List.take_zero] at hS
                  exact join (!decide (x1093.Data = ⟨#[97]⟩)) H ⟨rfl, rfl, trivial⟩ ⟨hm, hS⟩
      · clear H hS hm a; intro q1082 a w1094 H hR
        simp only [ent, List.map_cons, List.map_nil] at H; (try dsimp only at hR); obtain ⟨hm, hS⟩ := hR; try dsimp only [g_law14_fixed_J3] at hm
        refine c_cond H rfl (fun hc1095 => ?_) (fun hc1095 => ?_)
        · replace hm := condT hm hc1095
          refine wp_seq (wp_region_lit (n_q H (q_assign rfl) rfl ?_)); clear H a; intro a H
          refine n_nil (then_normal (wp_ret (then_ret ?_)))
          obtain rfl := Option.some.inj hm
          replace hS := hS.take 0; simp only [List.take_succ_cons, List.take_zero] at hS
          refine ret1 H (.inr rfl) rfl rfl ?_
          exact ⟨rfl, hS.x⟩
        · replace hm := condF hm hc1095
          refine wp_skip (then_normal (wp_seq (wp_region_lit (n_q H (q_fieldAddr0 rfl fo27_0) rfl ?_)))); clear H a; intro a H
          refine n_store1 H rfl rfl sz3 (hS.blk 0 rfl) (by simp) rfl ?_
          clear H; intro w1096 hN hC1097 hz; clear a; intro a H; replace hS := hS.setBlk hN hC1097; clear hN hz
          try simp only [List.set_cons_succ, List.set_cons_zero] at hS
          refine n_nil (then_normal (wp_seq (wp_region_lit (n_q H (q_load rfl ((hS.blk 0 rfl).ldAll ag27 sz27)) rfl ?_)))); clear H a; intro a H
          replace hm := bindS hm; obtain ⟨r1098, hr1098, hm⟩ := hm
          refine n_call H rfl en35 (g_frame_Check_w (A := A) (hG.ext hS.x) (⟨_, _, _, _, rfl, (hS.deepSl 1 rfl), ((hS.own 2 rfl).slr rfl (fun _ _ => rfl)), ((hS.own 3 rfl).slr rfl (fun _ _ => rfl)), ((hS.own 4 rfl).slr rfl (fun _ _ => rfl))⟩ : RGConfig _ [.int .i64 99, u22, u23, u24, u25, .int .i64 r21.Tries] (⟨99, r21.Parts, r21.Homes, r21.Windows, r21.Links, r21.Tries⟩ : GConfig)) hr1098) rfl ?_
          clear H; intro u1099 w1101 hv; clear a; intro a H; obtain ⟨_, rfl, hE1102⟩ := hv
          replace hS := hS.new hE1102; simp only [List.cons_append, List.nil_append] at hS
          refine n_q H (q_assign rfl) rfl ?_; clear H a; intro a H
          refine n_nil (then_normal (wp_seq (wp_region_lit (n_q H (q_move rfl) rfl ?_)))); clear H a; intro a H
          refine n_call H rfl en23 (code_w (hG.ext hS.x) (hS.any 0 rfl : IsE A w1101 u1099 r1098)) rfl ?_
          clear H; intro x1106 w1104 hv; clear a; intro a H; obtain ⟨rfl, hE1105⟩ := hv; replace hS := hS.ext hE1105
          refine n_q H (q_eqlD rfl rfl) rfl (W_q (q_move rfl) rfl ?_); clear H a; intro a H
          rcases Bool.eq_false_or_eq_true (decide ((ErrM.code r1098) = 4)) with hg1107 | hg1107
          · replace H := H.know 75 rfl hg1107
            replace hm := condT hm hg1107
            refine n_yes H rfl rfl (n_q H (q_move rfl) rfl (W_yes rfl rfl ?_)); clear H a; intro a H
            refine n_call H rfl en29 (place_w (hH.ext hS.x) (hS.any 0 rfl : IsE A w1104 u1099 r1098)) rfl ?_
            clear H; intro x1110 w1108 hv; clear a; intro a H; obtain ⟨rfl, hE1109⟩ := hv; replace hS := hS.ext hE1109
            refine n_yes H rfl rfl (n_q H (q_eqlD rfl rfl) rfl (W_q (q_pickT rfl rfl) rfl (W_q (q_assign rfl) rfl ?_))); clear H a; intro a H
            refine n_nil (then_normal (wp_ret ?_))
            obtain rfl := Option.some.inj hm
            replace hS := hS.take 0; simp only [List.take_succ_cons, List.take_zero] at hS
            refine ret1 H (.inr rfl) rfl rfl ?_
            exact ⟨rfl, hS.x⟩
          · replace H := H.know 75 rfl hg1107
            replace hm := condF hm hg1107
            refine n_no H rfl rfl (by decide) rfl (W_no rfl rfl (by decide) rfl (W_no rfl rfl (by decide) rfl (W_q (q_pickF rfl rfl) rfl (W_q (q_assign rfl) rfl ?_)))); clear H a; intro a H
            refine n_nil (then_normal (wp_ret ?_))
            obtain rfl := Option.some.inj hm
            replace hS := hS.take 0; simp only [List.take_succ_cons, List.take_zero] at hS
            refine ret1 H (.inr rfl) rfl rfl ?_
            exact ⟨rfl, hS.x⟩
theorem g_r14_bad_w {w : World} {A : Nat → Addr} {a0 : Int} {r : GR14Err} (hm : g_r14_bad a0 = some r) :
    Calls Tryd.prog 73 [.int .i64 a0].toArray w (Ret fun u w' => u = .agg (eGR14Err r).toArray ∧ Ext w w') := by
  have hS := St.begin NB w
  unfold g_r14_bad at hm
  refine enter Tryd.func73 rfl rfl rfl ?_; intro a H; dsimp only [enumL, Nat.zero_add, Nat.reduceAdd] at H
  refine wp_seq (wp_region_lit (n_alloc H ze110 rfl ?_))
  clear H; intro b21 w22 hN hE23 hs; clear a; intro a H
  replace hS := hS.newBlk hN hE23 hs; clear hN hs
  refine n_nil (then_normal (wp_seq (wp_region_lit (n_q H (q_move rfl) rfl (W_q (q_build (cs := [.int .i64 a0, .int .i64 (-1)]) ze110 bd110 pl110 rfl (by kernel_rfl)) rfl ?_))))); clear H a; intro a H
  refine n_storeAll H rfl rfl (vs := [.int .i64 a0, .int .i64 (-1)]) rfl sz110 (hS.blk 0 rfl) rfl (by simp) ?_
  clear H; intro w24 hN hC25 hz; clear a; intro a H; replace hS := hS.setBlk hN hC25; clear hN hz
  refine n_nil (then_normal (wp_ret ?_))
  obtain rfl := Option.some.inj hm
  refine retL H (.inr rfl) rfl (vs := [.agg #[.int .i64 a0, .int .i64 (-1)]]) (resCell rfl ((hS.blk 0 rfl).ldAll ag110 sz110) resNil) ?_
  replace hS := hS.take 0; simp only [List.take_succ_cons, List.take_zero] at hS
  exact ⟨rfl, hS.x⟩
theorem g_r10_bad_w {w : World} {A : Nat → Addr} {a0 : Int} {r : GR10Err} (hm : g_r10_bad a0 = some r) :
    Calls Tryd.prog 142 [.int .i64 a0].toArray w (Ret fun u w' => u = .agg (eGR10Err r).toArray ∧ Ext w w') := by
  have hS := St.begin NB w
  unfold g_r10_bad at hm
  refine enter Tryd.func142 rfl rfl rfl ?_; intro a H; dsimp only [enumL, Nat.zero_add, Nat.reduceAdd] at H
  refine wp_seq (wp_region_lit (n_alloc H ze163 rfl ?_))
  clear H; intro b21 w22 hN hE23 hs; clear a; intro a H
  replace hS := hS.newBlk hN hE23 hs; clear hN hs
  refine n_nil (then_normal (wp_seq (wp_region_lit (n_q H (q_move rfl) rfl (W_q (q_build (cs := [.int .i64 a0, .int .i64 (-1)]) ze163 bd163 pl163 rfl (by kernel_rfl)) rfl ?_))))); clear H a; intro a H
  refine n_storeAll H rfl rfl (vs := [.int .i64 a0, .int .i64 (-1)]) rfl sz163 (hS.blk 0 rfl) rfl (by simp) ?_
  clear H; intro w24 hN hC25 hz; clear a; intro a H; replace hS := hS.setBlk hN hC25; clear hN hz
  refine n_nil (then_normal (wp_ret ?_))
  obtain rfl := Option.some.inj hm
  refine retL H (.inr rfl) rfl (vs := [.agg #[.int .i64 a0, .int .i64 (-1)]]) (resCell rfl ((hS.blk 0 rfl).ldAll ag163 sz163) resNil) ?_
  replace hS := hS.take 0; simp only [List.take_succ_cons, List.take_zero] at hS
  exact ⟨rfl, hS.x⟩
theorem g_r10_none_w {w : World} {A : Nat → Addr} {r : GR10Err} (hm : g_r10_none = some r) :
    Calls Tryd.prog 148 [].toArray w (Ret fun u w' => u = .agg (eGR10Err r).toArray ∧ Ext w w') := by
  have hS := St.begin NB w
  unfold g_r10_none at hm
  refine enter Tryd.func148 rfl rfl rfl ?_; intro a H; dsimp only [enumL, Nat.zero_add, Nat.reduceAdd] at H
  refine wp_seq (wp_region_lit (n_alloc H ze163 rfl ?_))
  clear H; intro b21 w22 hN hE23 hs; clear a; intro a H
  replace hS := hS.newBlk hN hE23 hs; clear hN hs
  refine n_nil (then_normal (wp_seq (wp_region_lit (n_q H (q_build (cs := [.int .i64 0, .int .i64 (-1)]) ze163 bd163 pl163 rfl (by kernel_rfl)) rfl ?_)))); clear H a; intro a H
  refine n_storeAll H rfl rfl (vs := [.int .i64 0, .int .i64 (-1)]) rfl sz163 (hS.blk 0 rfl) rfl (by simp) ?_
  clear H; intro w24 hN hC25 hz; clear a; intro a H; replace hS := hS.setBlk hN hC25; clear hN hz
  refine n_nil (then_normal (wp_ret ?_))
  obtain rfl := Option.some.inj hm
  refine retL H (.inr rfl) rfl (vs := [.agg #[.int .i64 0, .int .i64 (-1)]]) (resCell rfl ((hS.blk 0 rfl).ldAll ag163 sz163) resNil) ?_
  replace hS := hS.take 0; simp only [List.take_succ_cons, List.take_zero] at hS
  exact ⟨rfl, hS.x⟩
theorem g_r10_pages_w {w : World} {A : Nat → Addr} {cs0 : List Value} {a0 : GPlan} (h0 : RGPlan w cs0 a0) {r : GR10Err} (hm : g_r10_pages a0 = some r) :
    Calls Tryd.prog 143 [.agg cs0.toArray].toArray w (Ret fun u w' => u = .agg (eGR10Err r).toArray ∧ Ext w w') := by
  obtain ⟨vp0_0, vp0_1, vp0_2, vp0_3, rfl, hrp0_0, hrp0_1, hrp0_2, hrp0_3⟩ := h0
  have hS := St.begin NB w
  unfold g_r10_pages at hm
  refine enter Tryd.func143 rfl rfl rfl ?_; intro a H; dsimp only [enumL, Nat.zero_add, Nat.reduceAdd] at H
  refine wp_seq (wp_region_lit (n_box H rfl (cs := [.int .i64 a0.Id, .bool a0.Mobile, vp0_0, vp0_1, vp0_2, .int .i64 a0.Events, vp0_3]) rfl rfl ?_))
  clear H; intro b21 w22 hN hE23 hs; clear a; intro a H
  replace hS := hS.newBlk hN hE23 hs; clear hN hs
  refine n_alloc H ze163 rfl ?_
  clear H; intro b24 w25 hN hE26 hs; clear a; intro a H
  replace hS := hS.newBlk hN hE26 hs; clear hN hs
  refine n_nil (then_normal (wp_seq (wp_seq (wp_region_lit (n_c H (fun HC => ?_)))))); clear H
  refine nc_q HC (q_fieldAddr0 rfl fo68_2) rfl (by kernel_rfl) (V_q (q_load rfl ((hS.blk 1 rfl).ld ag64 rfl)) rfl (by kernel_rfl) ?_); clear HC a; intro a HC
  obtain ⟨A27, c27, hv27, hl27, hm27⟩ := SlR.formV (hrp0_0.ext (Flat.mono _) hS.x)
  refine nc_q HC (q_lenV Tryd.underlying64 rfl hv27) rfl (by kernel_rfl) (V_q (q_lssN (i := a0.Pages.length) (j := 1) rfl rfl) rfl (by kernel_rfl) (V_q (q_move rfl) rfl (by kernel_rfl) (V_g (q_fieldAddr0 rfl fo68_2) (by kernel_rfl) (by kernel_rfl) (by kernel_rfl) (V_g (q_load rfl ((hS.blk 1 rfl).ld ag64 rfl)) (by kernel_rfl) (by kernel_rfl) (by kernel_rfl) (V_g (q_lenV Tryd.underlying64 rfl hv27) (by kernel_rfl) (by kernel_rfl) (by kernel_rfl) (V_g (q_gtrN (i := a0.Pages.length) (j := 32) rfl rfl) (by kernel_rfl) (by kernel_rfl) (by kernel_rfl) (V_or (j := 4) rfl rfl rfl (by kernel_rfl) (by kernel_rfl) ?_))))))); clear HC a; intro a HC
  have H := HC.has; clear HC
  refine n_nil (then_normal (c_cond H rfl (fun hc28 => ?_) (fun hc28 => ?_)))
  · replace hm := condT hm hc28
    refine wp_seq (wp_region_lit ?_)
    replace hm := bindS hm; obtain ⟨r29, hr29, hm⟩ := hm
    refine n_call H rfl en142 (g_r10_bad_w (A := A) hr29) rfl ?_
    clear H; intro x32 w30 hv; clear a; intro a H; obtain ⟨rfl, hE31⟩ := hv
    replace hS := hS.ext hE31
    refine n_storeAll H rfl rfl (vs := [.int .i64 r29.Code, .int .i64 r29.Place]) rfl sz163 (hS.blk 0 rfl) rfl (by simp) ?_
    clear H; intro w33 hN hC34 hz; clear a; intro a H; replace hS := hS.setBlk hN hC34; clear hN hz
    refine n_nil (then_normal (wp_ret (then_ret ?_)))
    obtain rfl := Option.some.inj hm
    replace hS := hS.take 1; simp only [List.take_succ_cons, List.take_zero] at hS
    refine retL H (.inr rfl) rfl (vs := [.agg #[.int .i64 r29.Code, .int .i64 r29.Place]]) (resCell rfl ((hS.blk 0 rfl).ldAll ag163 sz163) resNil) ?_
    replace hS := hS.take 0; simp only [List.take_succ_cons, List.take_zero] at hS
    exact ⟨rfl, hS.x⟩
  · replace hm := condF hm hc28
    refine wp_skip (then_normal (wp_seq (wp_seq (wp_region_lit (n_q H (q_assign rfl) rfl ?_))))); clear H a; intro a H
    refine n_nil (then_normal (wp_block ?_))
    replace hS := hS.pick 1 rfl; dsimp only [List.eraseIdx] at hS
    replace hm := bindS hm; obtain ⟨q35, hm, hm35⟩ := hm; replace hm := iter_some hm; obtain ⟨n35, hm⟩ := hm
    refine c_loop (σ := Nat × Nat) (fun (m, i36) => [(1, .pointer (some ⟨b21, 0, none⟩)), (2, .pointer (some ⟨b24, 0, none⟩)), (3, .int .i64 ((i36 : Nat) : Int))]) (fun (m, i36) wl => iterN (g_r10_pages_L13 a0) m i36 = some q35 ∧ St NB w wl [blkR b21 [.int .i64 a0.Id, .bool a0.Mobile, vp0_0, vp0_1, vp0_2, .int .i64 a0.Events, vp0_3] 68, blkR b24 [.int .i64 0, .int .i64 0] 163]) (fun (m, i36) => m) (n35, 0) H ⟨rfl, rfl, rfl, trivial⟩ ⟨hm, hS⟩ ?_
    clear H hS hm a; intro xx a w37 H hR; obtain ⟨m, i36⟩ := xx; simp only [ent, List.map_cons, List.map_nil] at H; (try dsimp only at hR); obtain ⟨hm, hS⟩ := hR
    replace hm := iterN_step hm; obtain ⟨m35, o35, rfl, hm, hn35⟩ := hm; try dsimp only [g_r10_pages_L13] at hm
    refine wp_seq (wp_seq (wp_region_lit (n_q H (q_move rfl) rfl (W_q (q_fieldAddr0 rfl fo68_2) rfl (W_q (q_load rfl ((hS.blk 0 rfl).ld ag64 rfl)) rfl (W_q (q_lenV Tryd.underlying64 rfl hv27) rfl (W_q (q_lssN (i := i36) (j := a0.Pages.length) rfl rfl) rfl ?_))))))); clear H a; intro a H
    refine n_nil (then_normal (c_cond H rfl (fun hc38 => ?_) (fun hc38 => ?_)))
    · replace hm := condT hm hc38
      have hlt39 : i36 < a0.Pages.length := of_decide_eq_true hc38
      refine wp_skip (then_normal (wp_seq (wp_block (wp_seq ?_))))
      replace hm := bindS hm; obtain ⟨j40, hm, hm40⟩ := hm
      refine c_join (σ := Bool) H (fun q541 => [(1, .pointer (some ⟨b21, 0, none⟩)), (2, .pointer (some ⟨b24, 0, none⟩)), (3, .int .i64 ((i36 : Nat) : Int)), (37, .bool q541)]) (fun q541 wl => (g_r10_pages_J12 a0 i36) q541 = some o35 ∧ St NB w wl [blkR b21 [.int .i64 a0.Id, .bool a0.Mobile, vp0_0, vp0_1, vp0_2, .int .i64 a0.Events, vp0_3] 68, blkR b24 [.int .i64 0, .int .i64 0] 163]) ?_ ?_
      · skip
        refine wp_region_lit (n_q H (q_fieldAddr0 rfl fo68_2) rfl (W_q (q_load rfl ((hS.blk 0 rfl).ld ag64 rfl)) rfl (W_q (q_move rfl) rfl ?_))); clear H a; intro a H
        replace hm := bindS hm; obtain ⟨x542, hx542, hm⟩ := hm
        obtain ⟨adx542, hAx542⟩ := SlR.adV (hrp0_0.ext (Flat.mono _) hS.x) hv27 hx542
        refine n_q H (q_ixV (i := i36) Tryd.underlying64 sz87 rfl hv27 hAx542 rfl (natI hx542)) rfl (W_q (q_fieldAddr rfl fo87_0) rfl (W_q (q_load rfl (SlR.ldCellV (j := 0) (hrp0_0.ext (Flat.mono _) hS.x) hv27 hAx542 ag3 hx542 rfl)) rfl (W_q (q_lss rfl rfl) rfl (W_q (q_move rfl) rfl ?_)))); clear H a; intro a H
        rcases Bool.eq_false_or_eq_true (decide (x542.Rights < 0)) with hg543 | hg543
        · replace H := H.know 29 rfl hg543
          replace hm := condT hm hg543
          refine n_no H rfl rfl (by decide) rfl (W_no rfl rfl (by decide) rfl (W_no rfl rfl (by decide) rfl (W_no rfl rfl (by decide) rfl (W_no rfl rfl (by decide) rfl (W_no rfl rfl (by decide) rfl (W_no rfl rfl (by decide) rfl (W_q (q_pickT rfl rfl) rfl ?_))))))); clear H a; intro a H
          refine n_nil (then_normal ?_)
          obtain rfl := Option.some.inj hm; replace hm := hm40; try dsimp only at hm
          exact join true H ⟨rfl, rfl, rfl, rfl, trivial⟩ ⟨hm, hS⟩
        · replace H := H.know 29 rfl hg543
          replace hm := condF hm hg543
          refine n_yes H rfl rfl (n_q H (q_fieldAddr0 rfl fo68_2) rfl (W_yes rfl rfl (W_q (q_load rfl ((hS.blk 0 rfl).ld ag64 rfl)) rfl (W_yes rfl rfl (W_q (q_move rfl) rfl (W_yes rfl rfl ?_)))))); clear H a; intro a H
          replace hm := bindS hm; obtain ⟨x544, hx544, hm⟩ := hm
          obtain ⟨adx544, hAx544⟩ := SlR.adV (hrp0_0.ext (Flat.mono _) hS.x) hv27 hx544
          refine n_q H (q_ixV (i := i36) Tryd.underlying64 sz87 rfl hv27 hAx544 rfl (natI hx544)) rfl (W_yes rfl rfl (W_q (q_fieldAddr rfl fo87_0) rfl (W_yes rfl rfl (W_q (q_load rfl (SlR.ldCellV (j := 0) (hrp0_0.ext (Flat.mono _) hS.x) hv27 hAx544 ag3 hx544 rfl)) rfl (W_yes rfl rfl (W_q (q_gtr rfl rfl) rfl (W_q (q_pickF rfl rfl) rfl ?_))))))); clear H a; intro a H
          refine n_nil (then_normal ?_)
          obtain rfl := Option.some.inj hm; replace hm := hm40; try dsimp only at hm
          exact join (decide (7 < x544.Rights)) H ⟨rfl, rfl, rfl, rfl, trivial⟩ ⟨hm, hS⟩
      · clear H hS hm a; intro q541 a w545 H hR
        simp only [ent, List.map_cons, List.map_nil] at H; (try dsimp only at hR); obtain ⟨hm, hS⟩ := hR; try dsimp only [g_r10_pages_J12] at hm
        refine c_cond H rfl (fun hc546 => ?_) (fun hc546 => ?_)
        · replace hm := condT hm hc546
          refine wp_seq (wp_region_lit (n_q H (q_move rfl) rfl (W_q (q_build (cs := [.int .i64 4, .int .i64 ((i36 : Nat) : Int)]) ze163 bd163 pl163 rfl (by kernel_rfl)) rfl ?_))); clear H a; intro a H
          replace hS := hS.pick 1 rfl; dsimp only [List.eraseIdx] at hS
          refine n_storeAll H rfl rfl (vs := [.int .i64 4, .int .i64 ((i36 : Nat) : Int)]) rfl sz163 (hS.blk 0 rfl) rfl (by simp) ?_
          clear H; intro w547 hN hC548 hz; clear a; intro a H; replace hS := hS.setBlk hN hC548; clear hN hz
          refine n_nil (then_normal (wp_ret (then_ret (block_ret (then_ret (then_ret (block_ret (then_ret ?_))))))))
          obtain rfl := Option.some.inj hm; have hz : _ = q35 := hn35; subst hz; replace hm := hm35; try dsimp only at hm
          obtain rfl := Option.some.inj hm
          replace hS := hS.take 1; simp only [List.take_succ_cons, List.take_zero] at hS
          refine retL H (.inr rfl) rfl (vs := [.agg #[.int .i64 4, .int .i64 ((i36 : Nat) : Int)]]) (resCell rfl ((hS.blk 0 rfl).ldAll ag163 sz163) resNil) ?_
          replace hS := hS.take 0; simp only [List.take_succ_cons, List.take_zero] at hS
          exact ⟨rfl, hS.x⟩
        · replace hm := condF hm hc546
          refine wp_skip (then_normal (wp_seq (wp_region_lit (n_q H (q_fieldAddr0 rfl fo68_2) rfl (W_q (q_load rfl ((hS.blk 0 rfl).ld ag64 rfl)) rfl (W_q (q_move rfl) rfl ?_)))))); clear H a; intro a H
          replace hm := bindS hm; obtain ⟨x549, hx549, hm⟩ := hm
          obtain ⟨adx549, hAx549⟩ := SlR.adV (hrp0_0.ext (Flat.mono _) hS.x) hv27 hx549
          refine n_q H (q_ixV (i := i36) Tryd.underlying64 sz87 rfl hv27 hAx549 rfl (natI hx549)) rfl (W_q (q_fieldAddr rfl fo87_1) rfl (W_q (q_load rfl (SlR.ldCellV (j := 1) (hrp0_0.ext (Flat.mono _) hS.x) hv27 hAx549 ag9 hx549 rfl)) rfl (W_q (q_lenS Tryd.underlying9 rfl) rfl (W_q (q_gtrN (i := x549.Init.size) (j := 64) rfl rfl) rfl ?_)))); clear H a; intro a H
          refine n_nil (then_normal (c_cond H rfl (fun hc550 => ?_) (fun hc550 => ?_)))
          · replace hm := condT hm hc550
            refine wp_seq (wp_region_lit (n_q H (q_move rfl) rfl (W_q (q_build (cs := [.int .i64 5, .int .i64 ((i36 : Nat) : Int)]) ze163 bd163 pl163 rfl (by kernel_rfl)) rfl ?_))); clear H a; intro a H
            replace hS := hS.pick 1 rfl; dsimp only [List.eraseIdx] at hS
            refine n_storeAll H rfl rfl (vs := [.int .i64 5, .int .i64 ((i36 : Nat) : Int)]) rfl sz163 (hS.blk 0 rfl) rfl (by simp) ?_
            clear H; intro w551 hN hC552 hz; clear a; intro a H; replace hS := hS.setBlk hN hC552; clear hN hz
            refine n_nil (then_normal (wp_ret (block_ret (then_ret (then_ret (block_ret (then_ret ?_)))))))
            obtain rfl := Option.some.inj hm; have hz : _ = q35 := hn35; subst hz; replace hm := hm35; try dsimp only at hm
            obtain rfl := Option.some.inj hm
            replace hS := hS.take 1; simp only [List.take_succ_cons, List.take_zero] at hS
            refine retL H (.inr rfl) rfl (vs := [.agg #[.int .i64 5, .int .i64 ((i36 : Nat) : Int)]]) (resCell rfl ((hS.blk 0 rfl).ldAll ag163 sz163) resNil) ?_
            replace hS := hS.take 0; simp only [List.take_succ_cons, List.take_zero] at hS
            exact ⟨rfl, hS.x⟩
          · replace hm := condF hm hc550
            refine wp_skip (block_normal (then_normal (wp_region_lit (n_q H (q_move rfl) rfl (W_q (q_incr (i := i36) (j := 1) rfl rfl (by omega)) rfl (W_q (q_assign rfl) rfl ?_)))))); clear H a; intro a H
            refine n_nil (then_normal ?_)
            obtain rfl := Option.some.inj hm
            exact round (m35, i36 + 1) H ⟨rfl, rfl, rfl, trivial⟩ ⟨hn35, hS⟩ (Nat.lt_succ_self _)
    · replace hm := condF hm hc38
      refine wp_exit (then_exit (then_exit (block_exit ?_)))
      obtain rfl := Option.some.inj hm; have hz : _ = q35 := hn35; subst hz; replace hm := hm35; try dsimp only at hm
      refine then_normal (wp_seq (wp_region_lit ?_))
      replace hm := bindS hm; obtain ⟨r553, hr553, hm⟩ := hm
      refine n_call H rfl en148 (g_r10_none_w (A := A) hr553) rfl ?_
      clear H; intro x556 w554 hv; clear a; intro a H; obtain ⟨rfl, hE555⟩ := hv
      replace hS := hS.ext hE555
      replace hS := hS.pick 1 rfl; dsimp only [List.eraseIdx] at hS
      refine n_storeAll H rfl rfl (vs := [.int .i64 r553.Code, .int .i64 r553.Place]) rfl sz163 (hS.blk 0 rfl) rfl (by simp) ?_
      clear H; intro w557 hN hC558 hz; clear a; intro a H; replace hS := hS.setBlk hN hC558; clear hN hz
      refine n_nil (then_normal (wp_ret ?_))
      obtain rfl := Option.some.inj hm
      replace hS := hS.take 1; simp only [List.take_succ_cons, List.take_zero] at hS
      refine retL H (.inr rfl) rfl (vs := [.agg #[.int .i64 r553.Code, .int .i64 r553.Place]]) (resCell rfl ((hS.blk 0 rfl).ldAll ag163 sz163) resNil) ?_
      replace hS := hS.take 0; simp only [List.take_succ_cons, List.take_zero] at hS
      exact ⟨rfl, hS.x⟩
theorem g_r10_procs_w {w : World} {A : Nat → Addr} {cs0 : List Value} {a0 : GPlan} (h0 : RGPlan w cs0 a0) {r : GR10Err} (hm : g_r10_procs a0 = some r) :
    Calls Tryd.prog 144 [.agg cs0.toArray].toArray w (Ret fun u w' => u = .agg (eGR10Err r).toArray ∧ Ext w w') := by
  obtain ⟨vp0_0, vp0_1, vp0_2, vp0_3, rfl, hrp0_0, hrp0_1, hrp0_2, hrp0_3⟩ := h0
  have hS := St.begin NB w
  unfold g_r10_procs at hm
  refine enter Tryd.func144 rfl rfl rfl ?_; intro a H; dsimp only [enumL, Nat.zero_add, Nat.reduceAdd] at H
  refine wp_seq (wp_region_lit (n_box H rfl (cs := [.int .i64 a0.Id, .bool a0.Mobile, vp0_0, vp0_1, vp0_2, .int .i64 a0.Events, vp0_3]) rfl rfl ?_))
  clear H; intro b21 w22 hN hE23 hs; clear a; intro a H
  replace hS := hS.newBlk hN hE23 hs; clear hN hs
  refine n_alloc H ze163 rfl ?_
  clear H; intro b24 w25 hN hE26 hs; clear a; intro a H
  replace hS := hS.newBlk hN hE26 hs; clear hN hs
  refine n_nil (then_normal (wp_seq (wp_seq (wp_region_lit (n_c H (fun HC => ?_)))))); clear H
  refine nc_q HC (q_fieldAddr0 rfl fo68_3) rfl (by kernel_rfl) (V_q (q_load rfl ((hS.blk 1 rfl).ld ag65 rfl)) rfl (by kernel_rfl) ?_); clear HC a; intro a HC
  obtain ⟨A27, c27, hv27, hl27, hm27⟩ := SlR.formV (hrp0_1.ext (Flat.mono _) hS.x)
  refine nc_q HC (q_lenV Tryd.underlying65 rfl hv27) rfl (by kernel_rfl) (V_q (q_lssN (i := a0.Procs.length) (j := 1) rfl rfl) rfl (by kernel_rfl) (V_q (q_move rfl) rfl (by kernel_rfl) (V_g (q_fieldAddr0 rfl fo68_3) (by kernel_rfl) (by kernel_rfl) (by kernel_rfl) (V_g (q_load rfl ((hS.blk 1 rfl).ld ag65 rfl)) (by kernel_rfl) (by kernel_rfl) (by kernel_rfl) (V_g (q_lenV Tryd.underlying65 rfl hv27) (by kernel_rfl) (by kernel_rfl) (by kernel_rfl) (V_g (q_gtrN (i := a0.Procs.length) (j := 8) rfl rfl) (by kernel_rfl) (by kernel_rfl) (by kernel_rfl) (V_or (j := 4) rfl rfl rfl (by kernel_rfl) (by kernel_rfl) ?_))))))); clear HC a; intro a HC
  have H := HC.has; clear HC
  refine n_nil (then_normal (c_cond H rfl (fun hc28 => ?_) (fun hc28 => ?_)))
  · replace hm := condT hm hc28
    refine wp_seq (wp_region_lit ?_)
    replace hm := bindS hm; obtain ⟨r29, hr29, hm⟩ := hm
    refine n_call H rfl en142 (g_r10_bad_w (A := A) hr29) rfl ?_
    clear H; intro x32 w30 hv; clear a; intro a H; obtain ⟨rfl, hE31⟩ := hv
    replace hS := hS.ext hE31
    refine n_storeAll H rfl rfl (vs := [.int .i64 r29.Code, .int .i64 r29.Place]) rfl sz163 (hS.blk 0 rfl) rfl (by simp) ?_
    clear H; intro w33 hN hC34 hz; clear a; intro a H; replace hS := hS.setBlk hN hC34; clear hN hz
    refine n_nil (then_normal (wp_ret (then_ret ?_)))
    obtain rfl := Option.some.inj hm
    replace hS := hS.take 1; simp only [List.take_succ_cons, List.take_zero] at hS
    refine retL H (.inr rfl) rfl (vs := [.agg #[.int .i64 r29.Code, .int .i64 r29.Place]]) (resCell rfl ((hS.blk 0 rfl).ldAll ag163 sz163) resNil) ?_
    replace hS := hS.take 0; simp only [List.take_succ_cons, List.take_zero] at hS
    exact ⟨rfl, hS.x⟩
  · replace hm := condF hm hc28
    refine wp_skip (then_normal (wp_seq (wp_seq (wp_region_lit (n_q H (q_assign rfl) rfl ?_))))); clear H a; intro a H
    refine n_nil (then_normal (wp_block ?_))
    replace hS := hS.pick 1 rfl; dsimp only [List.eraseIdx] at hS
    replace hm := bindS hm; obtain ⟨q35, hm, hm35⟩ := hm; replace hm := iter_some hm; obtain ⟨n35, hm⟩ := hm
    refine c_loop (σ := Nat × Nat) (fun (m, i36) => [(1, .pointer (some ⟨b21, 0, none⟩)), (2, .pointer (some ⟨b24, 0, none⟩)), (3, .int .i64 ((i36 : Nat) : Int))]) (fun (m, i36) wl => iterN (g_r10_procs_L7 a0) m i36 = some q35 ∧ St NB w wl [blkR b21 [.int .i64 a0.Id, .bool a0.Mobile, vp0_0, vp0_1, vp0_2, .int .i64 a0.Events, vp0_3] 68, blkR b24 [.int .i64 0, .int .i64 0] 163]) (fun (m, i36) => m) (n35, 0) H ⟨rfl, rfl, rfl, trivial⟩ ⟨hm, hS⟩ ?_
    clear H hS hm a; intro xx a w37 H hR; obtain ⟨m, i36⟩ := xx; simp only [ent, List.map_cons, List.map_nil] at H; (try dsimp only at hR); obtain ⟨hm, hS⟩ := hR
    replace hm := iterN_step hm; obtain ⟨m35, o35, rfl, hm, hn35⟩ := hm; try dsimp only [g_r10_procs_L7] at hm
    refine wp_seq (wp_seq (wp_region_lit (n_q H (q_move rfl) rfl (W_q (q_fieldAddr0 rfl fo68_3) rfl (W_q (q_load rfl ((hS.blk 0 rfl).ld ag65 rfl)) rfl (W_q (q_lenV Tryd.underlying65 rfl hv27) rfl (W_q (q_lssN (i := i36) (j := a0.Procs.length) rfl rfl) rfl ?_))))))); clear H a; intro a H
    refine n_nil (then_normal (c_cond H rfl (fun hc38 => ?_) (fun hc38 => ?_)))
    · replace hm := condT hm hc38
      have hlt39 : i36 < a0.Procs.length := of_decide_eq_true hc38
      refine wp_skip (then_normal (wp_seq (wp_block (wp_seq (wp_region_lit (n_q H (q_fieldAddr0 rfl fo68_3) rfl (W_q (q_load rfl ((hS.blk 0 rfl).ld ag65 rfl)) rfl (W_q (q_move rfl) rfl ?_)))))))); clear H a; intro a H
      replace hm := bindS hm; obtain ⟨x40, hx40, hm⟩ := hm
      obtain ⟨adx40, hAx40⟩ := SlR.adV (hrp0_1.ext (Flat.mono _) hS.x) hv27 hx40
      refine n_q H (q_ixV (i := i36) Tryd.underlying65 sz167 rfl hv27 hAx40 rfl (natI hx40)) rfl (W_q (q_load rfl (SlR.ldAggV (hrp0_1.ext (Flat.mono _) hS.x) hv27 hAx40 ag167 sz167 hx40)) rfl ?_); clear H a; intro a H
      refine n_alloc H ze167 rfl ?_
      clear H; intro b41 w42 hN hE43 hs; clear a; intro a H
      replace hS := hS.newBlk hN hE43 hs; clear hN hs
      refine n_storeAll H rfl rfl (vs := [.int .i64 x40.Entry, .int .i64 x40.Prio, .bool x40.Auto]) rfl sz167 (hS.blk 0 rfl) rfl (by simp) ?_
      clear H; intro w44 hN hC45 hz; clear a; intro a H; replace hS := hS.setBlk hN hC45; clear hN hz
      refine n_nil (then_normal ?_)
      replace hm := bindS hm; obtain ⟨j46, hm, hm46⟩ := hm
      refine c_join (σ := Bool) H (fun q547 => [(1, .pointer (some ⟨b21, 0, none⟩)), (2, .pointer (some ⟨b24, 0, none⟩)), (3, .int .i64 ((i36 : Nat) : Int)), (55, .bool q547)]) (fun q547 wl => (g_r10_procs_J6 i36) q547 = some o35 ∧ St NB w wl [blkR b21 [.int .i64 a0.Id, .bool a0.Mobile, vp0_0, vp0_1, vp0_2, .int .i64 a0.Events, vp0_3] 68, blkR b24 [.int .i64 0, .int .i64 0] 163]) ?_ ?_
      · skip
        refine wp_region_lit (n_q H (q_fieldAddr0 rfl fo167_0) rfl (W_q (q_load rfl ((hS.blk 0 rfl).ld ag3 rfl)) rfl (W_q (q_lss rfl rfl) rfl (W_q (q_move rfl) rfl ?_)))); clear H a; intro a H
        rcases Bool.eq_false_or_eq_true (decide (x40.Entry < 0)) with hg548 | hg548
        · replace H := H.know 31 rfl hg548
          replace hm := condT hm hg548
          refine n_no H rfl rfl (by decide) rfl (W_no rfl rfl (by decide) rfl (W_no rfl rfl (by decide) rfl (W_no rfl rfl (by decide) rfl (W_q (q_pickT rfl rfl) rfl (W_q (q_move rfl) rfl (W_no rfl rfl (by decide) rfl (W_no rfl rfl (by decide) rfl (W_no rfl rfl (by decide) rfl (W_no rfl rfl (by decide) rfl (W_no rfl rfl (by decide) rfl (W_no rfl rfl (by decide) rfl ?_))))))))))); clear H a; intro a H
          refine n_no H rfl rfl (by decide) rfl (W_q (q_pickT rfl rfl) rfl (W_q (q_move rfl) rfl (W_no rfl rfl (by decide) rfl (W_no rfl rfl (by decide) rfl (W_no rfl rfl (by decide) rfl (W_q (q_pickT rfl rfl) rfl (W_q (q_move rfl) rfl (W_no rfl rfl (by decide) rfl (W_no rfl rfl (by decide) rfl (W_no rfl rfl (by decide) rfl (W_q (q_pickT rfl rfl) rfl ?_))))))))))); clear H a; intro a H
          refine n_nil (then_normal ?_)
          obtain rfl := Option.some.inj hm; replace hm := hm46; try dsimp only at hm
          replace hS := hS.pick 2 rfl; dsimp only [List.eraseIdx] at hS
          replace hS := hS.pick 2 rfl; dsimp only [List.eraseIdx] at hS
          replace hS := hS.take 2; simp only [List.take_succ_cons, List.take_zero] at hS
          exact join true H ⟨rfl, rfl, rfl, rfl, trivial⟩ ⟨hm, hS⟩
        · replace H := H.know 31 rfl hg548
          replace hm := condF hm hg548
          refine n_yes H rfl rfl (n_q H (q_fieldAddr0 rfl fo167_0) rfl (W_yes rfl rfl (W_q (q_load rfl ((hS.blk 0 rfl).ld ag3 rfl)) rfl (W_yes rfl rfl (W_q (q_remW rfl rfl (by decide)) rfl (W_yes rfl rfl (W_q (q_neqD rfl rfl) rfl (W_q (q_pickF rfl rfl) rfl (W_q (q_move rfl) rfl ?_))))))))); clear H a; intro a H
          rcases Bool.eq_false_or_eq_true (!decide ((Int.tmod x40.Entry 4) = 0)) with hg549 | hg549
          · replace H := H.know 37 rfl hg549
            replace hm := condT hm hg549
            refine n_no H rfl rfl (by decide) rfl (W_no rfl rfl (by decide) rfl (W_no rfl rfl (by decide) rfl (W_no rfl rfl (by decide) rfl (W_no rfl rfl (by decide) rfl (W_no rfl rfl (by decide) rfl (W_no rfl rfl (by decide) rfl (W_q (q_pickT rfl rfl) rfl (W_q (q_move rfl) rfl (W_no rfl rfl (by decide) rfl (W_no rfl rfl (by decide) rfl (W_no rfl rfl (by decide) rfl ?_))))))))))); clear H a; intro a H
            refine n_q H (q_pickT rfl rfl) rfl (W_q (q_move rfl) rfl (W_no rfl rfl (by decide) rfl (W_no rfl rfl (by decide) rfl (W_no rfl rfl (by decide) rfl (W_q (q_pickT rfl rfl) rfl ?_))))); clear H a; intro a H
            refine n_nil (then_normal ?_)
            obtain rfl := Option.some.inj hm; replace hm := hm46; try dsimp only at hm
            replace hS := hS.pick 2 rfl; dsimp only [List.eraseIdx] at hS
            replace hS := hS.pick 2 rfl; dsimp only [List.eraseIdx] at hS
            replace hS := hS.take 2; simp only [List.take_succ_cons, List.take_zero] at hS
            exact join true H ⟨rfl, rfl, rfl, rfl, trivial⟩ ⟨hm, hS⟩
          · replace H := H.know 37 rfl hg549
            replace hm := condF hm hg549
            refine n_yes H rfl rfl (n_q H (q_fieldAddr0 rfl fo167_0) rfl (W_yes rfl rfl (W_q (q_load rfl ((hS.blk 0 rfl).ld ag3 rfl)) rfl (W_yes rfl rfl (W_q (q_fieldAddr0 rfl fo68_2) rfl (W_yes rfl rfl (W_q (q_load rfl ((hS.blk 1 rfl).ld ag64 rfl)) rfl (W_yes rfl rfl ?_)))))))); clear H a; intro a H
            obtain ⟨A550, c550, hv550, hl550, hm550⟩ := SlR.formV (hrp0_0.ext (Flat.mono _) hS.x)
            refine n_q H (q_lenV Tryd.underlying64 rfl hv550) rfl (W_yes rfl rfl (W_q (q_mulW rfl rfl) rfl (W_yes rfl rfl (W_q (q_geq rfl rfl) rfl (W_q (q_pickF rfl rfl) rfl (W_q (q_move rfl) rfl ?_)))))); clear H a; intro a H
            rcases Bool.eq_false_or_eq_true (decide ((IntKind.i64.wrap (64 * ((a0.Pages.length : Nat) : Int))) ≤ x40.Entry)) with hg551 | hg551
            · replace H := H.know 46 rfl hg551
              replace hm := condT hm hg551
              refine n_no H rfl rfl (by decide) rfl (W_no rfl rfl (by decide) rfl (W_no rfl rfl (by decide) rfl (W_q (q_pickT rfl rfl) rfl (W_q (q_move rfl) rfl (W_no rfl rfl (by decide) rfl (W_no rfl rfl (by decide) rfl (W_no rfl rfl (by decide) rfl (W_q (q_pickT rfl rfl) rfl ?_)))))))); clear H a; intro a H
              refine n_nil (then_normal ?_)
              obtain rfl := Option.some.inj hm; replace hm := hm46; try dsimp only at hm
              replace hS := hS.pick 2 rfl; dsimp only [List.eraseIdx] at hS
              replace hS := hS.pick 2 rfl; dsimp only [List.eraseIdx] at hS
              replace hS := hS.take 2; simp only [List.take_succ_cons, List.take_zero] at hS
              exact join true H ⟨rfl, rfl, rfl, rfl, trivial⟩ ⟨hm, hS⟩
            · replace H := H.know 46 rfl hg551
              replace hm := condF hm hg551
              refine n_yes H rfl rfl (n_q H (q_fieldAddr0 rfl fo167_1) rfl (W_yes rfl rfl (W_q (q_load rfl ((hS.blk 0 rfl).ld ag3 rfl)) rfl (W_yes rfl rfl (W_q (q_lss rfl rfl) rfl (W_q (q_pickF rfl rfl) rfl (W_q (q_move rfl) rfl ?_))))))); clear H a; intro a H
              rcases Bool.eq_false_or_eq_true (decide (x40.Prio < 0)) with hg552 | hg552
              · replace H := H.know 51 rfl hg552
                replace hm := condT hm hg552
                refine n_no H rfl rfl (by decide) rfl (W_no rfl rfl (by decide) rfl (W_no rfl rfl (by decide) rfl (W_q (q_pickT rfl rfl) rfl ?_))); clear H a; intro a H
                refine n_nil (then_normal ?_)
                obtain rfl := Option.some.inj hm; replace hm := hm46; try dsimp only at hm
                replace hS := hS.pick 2 rfl; dsimp only [List.eraseIdx] at hS
                replace hS := hS.pick 2 rfl; dsimp only [List.eraseIdx] at hS
                replace hS := hS.take 2; simp only [List.take_succ_cons, List.take_zero] at hS
                exact join true H ⟨rfl, rfl, rfl, rfl, trivial⟩ ⟨hm, hS⟩
              · replace H := H.know 51 rfl hg552
                replace hm := condF hm hg552
                refine n_yes H rfl rfl (n_q H (q_fieldAddr0 rfl fo167_1) rfl (W_yes rfl rfl (W_q (q_load rfl ((hS.blk 0 rfl).ld ag3 rfl)) rfl (W_yes rfl rfl (W_q (q_gtr rfl rfl) rfl (W_q (q_pickF rfl rfl) rfl ?_)))))); clear H a; intro a H
                refine n_nil (then_normal ?_)
                obtain rfl := Option.some.inj hm; replace hm := hm46; try dsimp only at hm
                replace hS := hS.pick 2 rfl; dsimp only [List.eraseIdx] at hS
                replace hS := hS.pick 2 rfl; dsimp only [List.eraseIdx] at hS
                replace hS := hS.take 2; simp only [List.take_succ_cons, List.take_zero] at hS
                exact join (decide (255 < x40.Prio)) H ⟨rfl, rfl, rfl, rfl, trivial⟩ ⟨hm, hS⟩
      · clear H hS hm a; intro q547 a w553 H hR
        simp only [ent, List.map_cons, List.map_nil] at H; (try dsimp only at hR); obtain ⟨hm, hS⟩ := hR; try dsimp only [g_r10_procs_J6] at hm
        refine c_cond H rfl (fun hc554 => ?_) (fun hc554 => ?_)
        · replace hm := condT hm hc554
          refine wp_seq (wp_region_lit (n_q H (q_move rfl) rfl (W_q (q_build (cs := [.int .i64 4, .int .i64 ((i36 : Nat) : Int)]) ze163 bd163 pl163 rfl (by kernel_rfl)) rfl ?_))); clear H a; intro a H
          replace hS := hS.pick 1 rfl; dsimp only [List.eraseIdx] at hS
          refine n_storeAll H rfl rfl (vs := [.int .i64 4, .int .i64 ((i36 : Nat) : Int)]) rfl sz163 (hS.blk 0 rfl) rfl (by simp) ?_
          clear H; intro w555 hN hC556 hz; clear a; intro a H; replace hS := hS.setBlk hN hC556; clear hN hz
          refine n_nil (then_normal (wp_ret (block_ret (then_ret (then_ret (block_ret (then_ret ?_)))))))
          obtain rfl := Option.some.inj hm; have hz : _ = q35 := hn35; subst hz; replace hm := hm35; try dsimp only at hm
          obtain rfl := Option.some.inj hm
          replace hS := hS.take 1; simp only [List.take_succ_cons, List.take_zero] at hS
          refine retL H (.inr rfl) rfl (vs := [.agg #[.int .i64 4, .int .i64 ((i36 : Nat) : Int)]]) (resCell rfl ((hS.blk 0 rfl).ldAll ag163 sz163) resNil) ?_
          replace hS := hS.take 0; simp only [List.take_succ_cons, List.take_zero] at hS
          exact ⟨rfl, hS.x⟩
        · replace hm := condF hm hc554
          refine wp_skip (block_normal (then_normal (wp_region_lit (n_q H (q_move rfl) rfl (W_q (q_incr (i := i36) (j := 1) rfl rfl (by omega)) rfl (W_q (q_assign rfl) rfl ?_)))))); clear H a; intro a H
          refine n_nil (then_normal ?_)
          obtain rfl := Option.some.inj hm
          exact round (m35, i36 + 1) H ⟨rfl, rfl, rfl, trivial⟩ ⟨hn35, hS⟩ (Nat.lt_succ_self _)
    · replace hm := condF hm hc38
      refine wp_exit (then_exit (then_exit (block_exit ?_)))
      obtain rfl := Option.some.inj hm; have hz : _ = q35 := hn35; subst hz; replace hm := hm35; try dsimp only at hm
      refine then_normal (wp_seq (wp_region_lit ?_))
      replace hm := bindS hm; obtain ⟨r557, hr557, hm⟩ := hm
      refine n_call H rfl en148 (g_r10_none_w (A := A) hr557) rfl ?_
      clear H; intro x560 w558 hv; clear a; intro a H; obtain ⟨rfl, hE559⟩ := hv
      replace hS := hS.ext hE559
      replace hS := hS.pick 1 rfl; dsimp only [List.eraseIdx] at hS
      refine n_storeAll H rfl rfl (vs := [.int .i64 r557.Code, .int .i64 r557.Place]) rfl sz163 (hS.blk 0 rfl) rfl (by simp) ?_
      clear H; intro w561 hN hC562 hz; clear a; intro a H; replace hS := hS.setBlk hN hC562; clear hN hz
      refine n_nil (then_normal (wp_ret ?_))
      obtain rfl := Option.some.inj hm
      replace hS := hS.take 1; simp only [List.take_succ_cons, List.take_zero] at hS
      refine retL H (.inr rfl) rfl (vs := [.agg #[.int .i64 r557.Code, .int .i64 r557.Place]]) (resCell rfl ((hS.blk 0 rfl).ldAll ag163 sz163) resNil) ?_
      replace hS := hS.take 0; simp only [List.take_succ_cons, List.take_zero] at hS
      exact ⟨rfl, hS.x⟩
theorem g_r07_CheckPlan_w {w : World} {A : Nat → Addr} {a0 : GPortPlan} {r : Int} (hm : g_r07_CheckPlan a0 = some r) :
    Calls Tryd.prog 177 [.agg (eGPortPlan a0).toArray].toArray w (Ret fun u w' => u = .int .i64 r ∧ Ext w w') := by
  have hS := St.begin NB w
  unfold g_r07_CheckPlan at hm
  refine enter Tryd.func177 rfl rfl rfl ?_; intro a H; dsimp only [enumL, Nat.zero_add, Nat.reduceAdd] at H
  refine wp_seq (wp_region_lit (n_box H rfl (cs := [.int .i64 a0.Kind, .int .i64 a0.Size, .int .i64 a0.Depth, .int .i64 a0.Refresh]) rfl rfl ?_))
  clear H; intro b21 w22 hN hE23 hs; clear a; intro a H
  replace hS := hS.newBlk hN hE23 hs; clear hN hs
  refine n_q H (q_assign rfl) rfl ?_; clear H a; intro a H
  refine n_nil (then_normal (wp_seq (wp_seq (wp_region_lit (n_c H (fun HC => ?_)))))); clear H
  refine nc_q HC (q_fieldAddr0 rfl fo169_0) rfl (by kernel_rfl) (V_q (q_load rfl ((hS.blk 0 rfl).ld ag3 rfl)) rfl (by kernel_rfl) (V_q (q_lss rfl rfl) rfl (by kernel_rfl) (V_q (q_move rfl) rfl (by kernel_rfl) (V_g (q_fieldAddr0 rfl fo169_0) (by kernel_rfl) (by kernel_rfl) (by kernel_rfl) (V_g (q_load rfl ((hS.blk 0 rfl).ld ag3 rfl)) (by kernel_rfl) (by kernel_rfl) (by kernel_rfl) (V_g (q_gtr rfl rfl) (by kernel_rfl) (by kernel_rfl) (by kernel_rfl) (V_or (j := 3) rfl rfl rfl (by kernel_rfl) (by kernel_rfl) ?_))))))); clear HC a; intro a HC
  have H := HC.has; clear HC
  refine n_nil (then_normal (c_cond H rfl (fun hc24 => ?_) (fun hc24 => ?_)))
  · replace hm := condT hm hc24
    refine wp_seq (wp_region_lit (n_q H (q_assign rfl) rfl ?_)); clear H a; intro a H
    refine n_nil (then_normal (wp_ret (then_ret ?_)))
    obtain rfl := Option.some.inj hm
    replace hS := hS.take 0; simp only [List.take_succ_cons, List.take_zero] at hS
    refine ret1 H (.inr rfl) rfl rfl ?_
    exact ⟨rfl, hS.x⟩
  · replace hm := condF hm hc24
    refine wp_skip (then_normal (wp_seq (wp_seq (wp_region_lit (n_c H (fun HC => ?_)))))); clear H
    refine nc_q HC (q_fieldAddr0 rfl fo169_1) rfl (by kernel_rfl) (V_q (q_load rfl ((hS.blk 0 rfl).ld ag3 rfl)) rfl (by kernel_rfl) (V_q (q_lss rfl rfl) rfl (by kernel_rfl) (V_q (q_move rfl) rfl (by kernel_rfl) (V_g (q_fieldAddr0 rfl fo169_1) (by kernel_rfl) (by kernel_rfl) (by kernel_rfl) (V_g (q_load rfl ((hS.blk 0 rfl).ld ag3 rfl)) (by kernel_rfl) (by kernel_rfl) (by kernel_rfl) (V_g (q_gtr rfl rfl) (by kernel_rfl) (by kernel_rfl) (by kernel_rfl) (V_or (j := 3) rfl rfl rfl (by kernel_rfl) (by kernel_rfl) ?_))))))); clear HC a; intro a HC
    have H := HC.has; clear HC
    refine n_nil (then_normal (c_cond H rfl (fun hc25 => ?_) (fun hc25 => ?_)))
    · replace hm := condT hm hc25
      refine wp_seq (wp_region_lit (n_q H (q_assign rfl) rfl ?_)); clear H a; intro a H
      refine n_nil (then_normal (wp_ret (then_ret ?_)))
      obtain rfl := Option.some.inj hm
      replace hS := hS.take 0; simp only [List.take_succ_cons, List.take_zero] at hS
      refine ret1 H (.inr rfl) rfl rfl ?_
      exact ⟨rfl, hS.x⟩
    · replace hm := condF hm hc25
      refine wp_skip (then_normal (wp_seq (wp_region_lit (n_q H (q_fieldAddr0 rfl fo169_0) rfl (W_q (q_load rfl ((hS.blk 0 rfl).ld ag3 rfl)) rfl (W_q (q_geq rfl rfl) rfl (W_q (q_assign rfl) rfl ?_))))))); clear H a; intro a H
      refine n_nil (then_normal (wp_seq (wp_seq (wp_region_lit (n_c H (fun HC => ?_)))))); clear H
      refine nc_q HC (q_fieldAddr0 rfl fo169_2) rfl (by kernel_rfl) (V_q (q_load rfl ((hS.blk 0 rfl).ld ag3 rfl)) rfl (by kernel_rfl) (V_q (q_lss rfl rfl) rfl (by kernel_rfl) (V_q (q_move rfl) rfl (by kernel_rfl) (V_g (q_fieldAddr0 rfl fo169_2) (by kernel_rfl) (by kernel_rfl) (by kernel_rfl) (V_g (q_load rfl ((hS.blk 0 rfl).ld ag3 rfl)) (by kernel_rfl) (by kernel_rfl) (by kernel_rfl) (V_g (q_gtr rfl rfl) (by kernel_rfl) (by kernel_rfl) (by kernel_rfl) (V_or (j := 3) rfl rfl rfl (by kernel_rfl) (by kernel_rfl) (V_q (q_move rfl) rfl (by kernel_rfl) (V_g (q_move rfl) (by kernel_rfl) (by kernel_rfl) (by kernel_rfl) (V_g (q_not rfl) (by kernel_rfl) (by kernel_rfl) (by kernel_rfl) (V_g (q_move rfl) (by kernel_rfl) (by kernel_rfl) (by kernel_rfl) ?_))))))))))); clear HC a; intro a HC
      refine nc_g HC (q_fieldAddr0 rfl fo169_2) (by kernel_rfl) (by kernel_rfl) (by kernel_rfl) (V_g (q_load rfl ((hS.blk 0 rfl).ld ag3 rfl)) (by kernel_rfl) (by kernel_rfl) (by kernel_rfl) (V_g (q_neqD rfl rfl) (by kernel_rfl) (by kernel_rfl) (by kernel_rfl) ?_)); clear HC a; intro a HC
      refine nc_andg (j := 11) HC rfl rfl rfl (by kernel_rfl) (by kernel_rfl) (by kernel_rfl) ?_; clear HC a; intro a HC
      refine nc_or (j := 8) HC rfl rfl rfl (by kernel_rfl) (by kernel_rfl) ?_; clear HC a; intro a HC
      have H := HC.has; clear HC
      refine n_nil (then_normal (c_cond H rfl (fun hc26 => ?_) (fun hc26 => ?_)))
      · replace hm := condT hm hc26
        refine wp_seq (wp_region_lit (n_q H (q_assign rfl) rfl ?_)); clear H a; intro a H
        refine n_nil (then_normal (wp_ret (then_ret ?_)))
        obtain rfl := Option.some.inj hm
        replace hS := hS.take 0; simp only [List.take_succ_cons, List.take_zero] at hS
        refine ret1 H (.inr rfl) rfl rfl ?_
        exact ⟨rfl, hS.x⟩
      · replace hm := condF hm hc26
        refine wp_skip (then_normal (wp_seq (wp_seq (wp_region_lit (n_c H (fun HC => ?_)))))); clear H
        refine nc_q HC (q_fieldAddr0 rfl fo169_3) rfl (by kernel_rfl) (V_q (q_load rfl ((hS.blk 0 rfl).ld ag3 rfl)) rfl (by kernel_rfl) (V_q (q_lss rfl rfl) rfl (by kernel_rfl) (V_q (q_move rfl) rfl (by kernel_rfl) (V_g (q_fieldAddr0 rfl fo169_3) (by kernel_rfl) (by kernel_rfl) (by kernel_rfl) (V_g (q_load rfl ((hS.blk 0 rfl).ld ag3 rfl)) (by kernel_rfl) (by kernel_rfl) (by kernel_rfl) (V_g (q_gtr rfl rfl) (by kernel_rfl) (by kernel_rfl) (by kernel_rfl) (V_or (j := 3) rfl rfl rfl (by kernel_rfl) (by kernel_rfl) (V_q (q_move rfl) rfl (by kernel_rfl) (V_g (q_fieldAddr0 rfl fo169_0) (by kernel_rfl) (by kernel_rfl) (by kernel_rfl) (V_g (q_load rfl ((hS.blk 0 rfl).ld ag3 rfl)) (by kernel_rfl) (by kernel_rfl) (by kernel_rfl) (V_g (q_neqD rfl rfl) (by kernel_rfl) (by kernel_rfl) (by kernel_rfl) ?_))))))))))); clear HC a; intro a HC
        refine nc_g HC (q_move rfl) (by kernel_rfl) (by kernel_rfl) (by kernel_rfl) (V_g (q_fieldAddr0 rfl fo169_3) (by kernel_rfl) (by kernel_rfl) (by kernel_rfl) (V_g (q_load rfl ((hS.blk 0 rfl).ld ag3 rfl)) (by kernel_rfl) (by kernel_rfl) (by kernel_rfl) (V_g (q_neqD rfl rfl) (by kernel_rfl) (by kernel_rfl) (by kernel_rfl) ?_))); clear HC a; intro a HC
        refine nc_andg (j := 12) HC rfl rfl rfl (by kernel_rfl) (by kernel_rfl) (by kernel_rfl) ?_; clear HC a; intro a HC
        refine nc_or (j := 8) HC rfl rfl rfl (by kernel_rfl) (by kernel_rfl) ?_; clear HC a; intro a HC
        have H := HC.has; clear HC
        refine n_nil (then_normal (c_cond H rfl (fun hc27 => ?_) (fun hc27 => ?_)))
        · replace hm := condT hm hc27
          refine wp_seq (wp_region_lit (n_q H (q_assign rfl) rfl ?_)); clear H a; intro a H
          refine n_nil (then_normal (wp_ret (then_ret ?_)))
          obtain rfl := Option.some.inj hm
          replace hS := hS.take 0; simp only [List.take_succ_cons, List.take_zero] at hS
          refine ret1 H (.inr rfl) rfl rfl ?_
          exact ⟨rfl, hS.x⟩
        · replace hm := condF hm hc27
          refine wp_skip (then_normal (wp_seq (wp_region_lit (n_q H (q_assign rfl) rfl ?_)))); clear H a; intro a H
          refine n_nil (then_normal (wp_ret ?_))
          obtain rfl := Option.some.inj hm
          replace hS := hS.take 0; simp only [List.take_succ_cons, List.take_zero] at hS
          refine ret1 H (.inr rfl) rfl rfl ?_
          exact ⟨rfl, hS.x⟩
theorem g_r10_ports_w {w : World} {A : Nat → Addr} {cs0 : List Value} {a0 : GPlan} (h0 : RGPlan w cs0 a0) {r : GR10Err} (hm : g_r10_ports a0 = some r) :
    Calls Tryd.prog 145 [.agg cs0.toArray].toArray w (Ret fun u w' => u = .agg (eGR10Err r).toArray ∧ Ext w w') := by
  obtain ⟨vp0_0, vp0_1, vp0_2, vp0_3, rfl, hrp0_0, hrp0_1, hrp0_2, hrp0_3⟩ := h0
  have hS := St.begin NB w
  unfold g_r10_ports at hm
  refine enter Tryd.func145 rfl rfl rfl ?_; intro a H; dsimp only [enumL, Nat.zero_add, Nat.reduceAdd] at H
  refine wp_seq (wp_region_lit (n_box H rfl (cs := [.int .i64 a0.Id, .bool a0.Mobile, vp0_0, vp0_1, vp0_2, .int .i64 a0.Events, vp0_3]) rfl rfl ?_))
  clear H; intro b21 w22 hN hE23 hs; clear a; intro a H
  replace hS := hS.newBlk hN hE23 hs; clear hN hs
  refine n_alloc H ze163 rfl ?_
  clear H; intro b24 w25 hN hE26 hs; clear a; intro a H
  replace hS := hS.newBlk hN hE26 hs; clear hN hs
  refine n_nil (then_normal (wp_seq (wp_seq (wp_region_lit (n_q H (q_fieldAddr0 rfl fo68_4) rfl (W_q (q_load rfl ((hS.blk 1 rfl).ld ag66 rfl)) rfl ?_)))))); clear H a; intro a H
  obtain ⟨A27, c27, hv27, hl27, hm27⟩ := SlR.formV (hrp0_2.ext (Flat.mono _) hS.x)
  refine n_q H (q_lenV Tryd.underlying66 rfl hv27) rfl (W_q (q_gtrN (i := a0.Ports.length) (j := 8) rfl rfl) rfl ?_); clear H a; intro a H
  refine n_nil (then_normal (c_cond H rfl (fun hc28 => ?_) (fun hc28 => ?_)))
  · replace hm := condT hm hc28
    refine wp_seq (wp_region_lit ?_)
    replace hm := bindS hm; obtain ⟨r29, hr29, hm⟩ := hm
    refine n_call H rfl en142 (g_r10_bad_w (A := A) hr29) rfl ?_
    clear H; intro x32 w30 hv; clear a; intro a H; obtain ⟨rfl, hE31⟩ := hv
    replace hS := hS.ext hE31
    refine n_storeAll H rfl rfl (vs := [.int .i64 r29.Code, .int .i64 r29.Place]) rfl sz163 (hS.blk 0 rfl) rfl (by simp) ?_
    clear H; intro w33 hN hC34 hz; clear a; intro a H; replace hS := hS.setBlk hN hC34; clear hN hz
    refine n_nil (then_normal (wp_ret (then_ret ?_)))
    obtain rfl := Option.some.inj hm
    replace hS := hS.take 1; simp only [List.take_succ_cons, List.take_zero] at hS
    refine retL H (.inr rfl) rfl (vs := [.agg #[.int .i64 r29.Code, .int .i64 r29.Place]]) (resCell rfl ((hS.blk 0 rfl).ldAll ag163 sz163) resNil) ?_
    replace hS := hS.take 0; simp only [List.take_succ_cons, List.take_zero] at hS
    exact ⟨rfl, hS.x⟩
  · replace hm := condF hm hc28
    refine wp_skip (then_normal (wp_seq (wp_seq (wp_region_lit (n_q H (q_assign rfl) rfl ?_))))); clear H a; intro a H
    refine n_nil (then_normal (wp_block ?_))
    replace hS := hS.pick 1 rfl; dsimp only [List.eraseIdx] at hS
    replace hm := bindS hm; obtain ⟨q35, hm, hm35⟩ := hm; replace hm := iter_some hm; obtain ⟨n35, hm⟩ := hm
    refine c_loop (σ := Nat × Nat) (fun (m, i36) => [(1, .pointer (some ⟨b21, 0, none⟩)), (2, .pointer (some ⟨b24, 0, none⟩)), (3, .int .i64 ((i36 : Nat) : Int))]) (fun (m, i36) wl => iterN (g_r10_ports_L1 a0) m i36 = some q35 ∧ St NB w wl [blkR b21 [.int .i64 a0.Id, .bool a0.Mobile, vp0_0, vp0_1, vp0_2, .int .i64 a0.Events, vp0_3] 68, blkR b24 [.int .i64 0, .int .i64 0] 163]) (fun (m, i36) => m) (n35, 0) H ⟨rfl, rfl, rfl, trivial⟩ ⟨hm, hS⟩ ?_
    clear H hS hm a; intro xx a w37 H hR; obtain ⟨m, i36⟩ := xx; simp only [ent, List.map_cons, List.map_nil] at H; (try dsimp only at hR); obtain ⟨hm, hS⟩ := hR
    replace hm := iterN_step hm; obtain ⟨m35, o35, rfl, hm, hn35⟩ := hm; try dsimp only [g_r10_ports_L1] at hm
    refine wp_seq (wp_seq (wp_region_lit (n_q H (q_move rfl) rfl (W_q (q_fieldAddr0 rfl fo68_4) rfl (W_q (q_load rfl ((hS.blk 0 rfl).ld ag66 rfl)) rfl (W_q (q_lenV Tryd.underlying66 rfl hv27) rfl (W_q (q_lssN (i := i36) (j := a0.Ports.length) rfl rfl) rfl ?_))))))); clear H a; intro a H
    refine n_nil (then_normal (c_cond H rfl (fun hc38 => ?_) (fun hc38 => ?_)))
    · replace hm := condT hm hc38
      have hlt39 : i36 < a0.Ports.length := of_decide_eq_true hc38
      refine wp_skip (then_normal (wp_seq (wp_block (wp_seq (wp_region_lit (n_q H (q_fieldAddr0 rfl fo68_4) rfl (W_q (q_load rfl ((hS.blk 0 rfl).ld ag66 rfl)) rfl (W_q (q_move rfl) rfl ?_)))))))); clear H a; intro a H
      replace hm := bindS hm; obtain ⟨x40, hx40, hm⟩ := hm
      obtain ⟨adx40, hAx40⟩ := SlR.adV (hrp0_2.ext (Flat.mono _) hS.x) hv27 hx40
      refine n_q H (q_ixV (i := i36) Tryd.underlying66 sz169 rfl hv27 hAx40 rfl (natI hx40)) rfl (W_q (q_load rfl (SlR.ldAggV (hrp0_2.ext (Flat.mono _) hS.x) hv27 hAx40 ag169 sz169 hx40)) rfl ?_); clear H a; intro a H
      replace hm := bindS hm; obtain ⟨r41, hr41, hm⟩ := hm
      refine n_call H rfl en177 (g_r07_CheckPlan_w (A := A) hr41) rfl ?_
      clear H; intro x44 w42 hv; clear a; intro a H; obtain ⟨rfl, hE43⟩ := hv
      replace hS := hS.ext hE43
      refine n_q H (q_assign rfl) rfl ?_; clear H a; intro a H
      refine n_nil (then_normal (wp_seq (wp_region_lit (n_q H (q_move rfl) rfl (W_q (q_neqD rfl rfl) rfl ?_))))); clear H a; intro a H
      refine n_nil (then_normal (c_cond H rfl (fun hc45 => ?_) (fun hc45 => ?_)))
      · replace hm := condT hm hc45
        refine wp_seq (wp_region_lit (n_q H (q_move rfl) rfl (W_q (q_move rfl) rfl (W_q (q_build (cs := [.int .i64 r41, .int .i64 ((i36 : Nat) : Int)]) ze163 bd163 pl163 rfl (by kernel_rfl)) rfl ?_)))); clear H a; intro a H
        replace hS := hS.pick 1 rfl; dsimp only [List.eraseIdx] at hS
        refine n_storeAll H rfl rfl (vs := [.int .i64 r41, .int .i64 ((i36 : Nat) : Int)]) rfl sz163 (hS.blk 0 rfl) rfl (by simp) ?_
        clear H; intro w46 hN hC47 hz; clear a; intro a H; replace hS := hS.setBlk hN hC47; clear hN hz
        refine n_nil (then_normal (wp_ret (block_ret (then_ret (then_ret (block_ret (then_ret ?_)))))))
        obtain rfl := Option.some.inj hm; have hz : _ = q35 := hn35; subst hz; replace hm := hm35; try dsimp only at hm
        obtain rfl := Option.some.inj hm
        replace hS := hS.take 1; simp only [List.take_succ_cons, List.take_zero] at hS
        refine retL H (.inr rfl) rfl (vs := [.agg #[.int .i64 r41, .int .i64 ((i36 : Nat) : Int)]]) (resCell rfl ((hS.blk 0 rfl).ldAll ag163 sz163) resNil) ?_
        replace hS := hS.take 0; simp only [List.take_succ_cons, List.take_zero] at hS
        exact ⟨rfl, hS.x⟩
      · replace hm := condF hm hc45
        refine wp_skip (block_normal (then_normal (wp_region_lit (n_q H (q_move rfl) rfl (W_q (q_incr (i := i36) (j := 1) rfl rfl (by omega)) rfl (W_q (q_assign rfl) rfl ?_)))))); clear H a; intro a H
        refine n_nil (then_normal ?_)
        obtain rfl := Option.some.inj hm
        exact round (m35, i36 + 1) H ⟨rfl, rfl, rfl, trivial⟩ ⟨hn35, hS⟩ (Nat.lt_succ_self _)
    · replace hm := condF hm hc38
      refine wp_exit (then_exit (then_exit (block_exit ?_)))
      obtain rfl := Option.some.inj hm; have hz : _ = q35 := hn35; subst hz; replace hm := hm35; try dsimp only at hm
      refine then_normal (wp_seq (wp_region_lit ?_))
      replace hm := bindS hm; obtain ⟨r48, hr48, hm⟩ := hm
      refine n_call H rfl en148 (g_r10_none_w (A := A) hr48) rfl ?_
      clear H; intro x51 w49 hv; clear a; intro a H; obtain ⟨rfl, hE50⟩ := hv
      replace hS := hS.ext hE50
      replace hS := hS.pick 1 rfl; dsimp only [List.eraseIdx] at hS
      refine n_storeAll H rfl rfl (vs := [.int .i64 r48.Code, .int .i64 r48.Place]) rfl sz163 (hS.blk 0 rfl) rfl (by simp) ?_
      clear H; intro w52 hN hC53 hz; clear a; intro a H; replace hS := hS.setBlk hN hC53; clear hN hz
      refine n_nil (then_normal (wp_ret ?_))
      obtain rfl := Option.some.inj hm
      replace hS := hS.take 1; simp only [List.take_succ_cons, List.take_zero] at hS
      refine retL H (.inr rfl) rfl (vs := [.agg #[.int .i64 r48.Code, .int .i64 r48.Place]]) (resCell rfl ((hS.blk 0 rfl).ldAll ag163 sz163) resNil) ?_
      replace hS := hS.take 0; simp only [List.take_succ_cons, List.take_zero] at hS
      exact ⟨rfl, hS.x⟩
theorem g_r10_things_w {w : World} {A : Nat → Addr} {cs0 : List Value} {a0 : GPlan} (h0 : RGPlan w cs0 a0) {r : GR10Err} (hm : g_r10_things a0 = some r) :
    Calls Tryd.prog 146 [.agg cs0.toArray].toArray w (Ret fun u w' => u = .agg (eGR10Err r).toArray ∧ Ext w w') := by
  obtain ⟨vp0_0, vp0_1, vp0_2, vp0_3, rfl, hrp0_0, hrp0_1, hrp0_2, hrp0_3⟩ := h0
  have hS := St.begin NB w
  unfold g_r10_things at hm
  refine enter Tryd.func146 rfl rfl rfl ?_; intro a H; dsimp only [enumL, Nat.zero_add, Nat.reduceAdd] at H
  refine wp_seq (wp_region_lit (n_box H rfl (cs := [.int .i64 a0.Id, .bool a0.Mobile, vp0_0, vp0_1, vp0_2, .int .i64 a0.Events, vp0_3]) rfl rfl ?_))
  clear H; intro b21 w22 hN hE23 hs; clear a; intro a H
  replace hS := hS.newBlk hN hE23 hs; clear hN hs
  refine n_alloc H ze163 rfl ?_
  clear H; intro b24 w25 hN hE26 hs; clear a; intro a H
  replace hS := hS.newBlk hN hE26 hs; clear hN hs
  refine n_nil (then_normal (wp_seq (wp_seq (wp_region_lit (n_c H (fun HC => ?_)))))); clear H
  refine nc_q HC (q_fieldAddr0 rfl fo68_5) rfl (by kernel_rfl) (V_q (q_load rfl ((hS.blk 1 rfl).ld ag3 rfl)) rfl (by kernel_rfl) (V_q (q_lss rfl rfl) rfl (by kernel_rfl) (V_q (q_move rfl) rfl (by kernel_rfl) (V_g (q_fieldAddr0 rfl fo68_5) (by kernel_rfl) (by kernel_rfl) (by kernel_rfl) (V_g (q_load rfl ((hS.blk 1 rfl).ld ag3 rfl)) (by kernel_rfl) (by kernel_rfl) (by kernel_rfl) (V_g (q_gtr rfl rfl) (by kernel_rfl) (by kernel_rfl) (by kernel_rfl) (V_or (j := 3) rfl rfl rfl (by kernel_rfl) (by kernel_rfl) ?_))))))); clear HC a; intro a HC
  have H := HC.has; clear HC
  refine n_nil (then_normal (c_cond H rfl (fun hc27 => ?_) (fun hc27 => ?_)))
  · replace hm := condT hm hc27
    refine wp_seq (wp_region_lit ?_)
    replace hm := bindS hm; obtain ⟨r28, hr28, hm⟩ := hm
    refine n_call H rfl en142 (g_r10_bad_w (A := A) hr28) rfl ?_
    clear H; intro x31 w29 hv; clear a; intro a H; obtain ⟨rfl, hE30⟩ := hv
    replace hS := hS.ext hE30
    refine n_storeAll H rfl rfl (vs := [.int .i64 r28.Code, .int .i64 r28.Place]) rfl sz163 (hS.blk 0 rfl) rfl (by simp) ?_
    clear H; intro w32 hN hC33 hz; clear a; intro a H; replace hS := hS.setBlk hN hC33; clear hN hz
    refine n_nil (then_normal (wp_ret (then_ret ?_)))
    obtain rfl := Option.some.inj hm
    replace hS := hS.take 1; simp only [List.take_succ_cons, List.take_zero] at hS
    refine retL H (.inr rfl) rfl (vs := [.agg #[.int .i64 r28.Code, .int .i64 r28.Place]]) (resCell rfl ((hS.blk 0 rfl).ldAll ag163 sz163) resNil) ?_
    replace hS := hS.take 0; simp only [List.take_succ_cons, List.take_zero] at hS
    exact ⟨rfl, hS.x⟩
  · replace hm := condF hm hc27
    refine wp_skip (then_normal (wp_seq (wp_seq (wp_region_lit (n_q H (q_fieldAddr0 rfl fo68_6) rfl (W_q (q_load rfl ((hS.blk 1 rfl).ld ag23 rfl)) rfl ?_)))))); clear H a; intro a H
    obtain ⟨A34, c34, hv34, hl34, hm34⟩ := SlR.formV (hrp0_3.ext (Flat.mono _) hS.x)
    refine n_q H (q_lenV Tryd.underlying23 rfl hv34) rfl (W_q (q_gtrN (i := a0.Sems.length) (j := 8) rfl rfl) rfl ?_); clear H a; intro a H
    refine n_nil (then_normal (c_cond H rfl (fun hc35 => ?_) (fun hc35 => ?_)))
    · replace hm := condT hm hc35
      refine wp_seq (wp_region_lit ?_)
      replace hm := bindS hm; obtain ⟨r36, hr36, hm⟩ := hm
      refine n_call H rfl en142 (g_r10_bad_w (A := A) hr36) rfl ?_
      clear H; intro x39 w37 hv; clear a; intro a H; obtain ⟨rfl, hE38⟩ := hv
      replace hS := hS.ext hE38
      refine n_storeAll H rfl rfl (vs := [.int .i64 r36.Code, .int .i64 r36.Place]) rfl sz163 (hS.blk 0 rfl) rfl (by simp) ?_
      clear H; intro w40 hN hC41 hz; clear a; intro a H; replace hS := hS.setBlk hN hC41; clear hN hz
      refine n_nil (then_normal (wp_ret (then_ret ?_)))
      obtain rfl := Option.some.inj hm
      replace hS := hS.take 1; simp only [List.take_succ_cons, List.take_zero] at hS
      refine retL H (.inr rfl) rfl (vs := [.agg #[.int .i64 r36.Code, .int .i64 r36.Place]]) (resCell rfl ((hS.blk 0 rfl).ldAll ag163 sz163) resNil) ?_
      replace hS := hS.take 0; simp only [List.take_succ_cons, List.take_zero] at hS
      exact ⟨rfl, hS.x⟩
    · replace hm := condF hm hc35
      refine wp_skip (then_normal (wp_seq (wp_seq (wp_region_lit (n_q H (q_assign rfl) rfl ?_))))); clear H a; intro a H
      refine n_nil (then_normal (wp_block ?_))
      replace hS := hS.pick 1 rfl; dsimp only [List.eraseIdx] at hS
      replace hm := bindS hm; obtain ⟨q42, hm, hm42⟩ := hm; replace hm := iter_some hm; obtain ⟨n42, hm⟩ := hm
      refine c_loop (σ := Nat × Nat) (fun (m, i43) => [(1, .pointer (some ⟨b21, 0, none⟩)), (2, .pointer (some ⟨b24, 0, none⟩)), (3, .int .i64 ((i43 : Nat) : Int))]) (fun (m, i43) wl => iterN (g_r10_things_L7 a0) m i43 = some q42 ∧ St NB w wl [blkR b21 [.int .i64 a0.Id, .bool a0.Mobile, vp0_0, vp0_1, vp0_2, .int .i64 a0.Events, vp0_3] 68, blkR b24 [.int .i64 0, .int .i64 0] 163]) (fun (m, i43) => m) (n42, 0) H ⟨rfl, rfl, rfl, trivial⟩ ⟨hm, hS⟩ ?_
      clear H hS hm a; intro xx a w44 H hR; obtain ⟨m, i43⟩ := xx; simp only [ent, List.map_cons, List.map_nil] at H; (try dsimp only at hR); obtain ⟨hm, hS⟩ := hR
      replace hm := iterN_step hm; obtain ⟨m42, o42, rfl, hm, hn42⟩ := hm; try dsimp only [g_r10_things_L7] at hm
      refine wp_seq (wp_seq (wp_region_lit (n_q H (q_move rfl) rfl (W_q (q_fieldAddr0 rfl fo68_6) rfl (W_q (q_load rfl ((hS.blk 0 rfl).ld ag23 rfl)) rfl (W_q (q_lenV Tryd.underlying23 rfl hv34) rfl (W_q (q_lssN (i := i43) (j := a0.Sems.length) rfl rfl) rfl ?_))))))); clear H a; intro a H
      refine n_nil (then_normal (c_cond H rfl (fun hc45 => ?_) (fun hc45 => ?_)))
      · replace hm := condT hm hc45
        have hlt46 : i43 < a0.Sems.length := of_decide_eq_true hc45
        refine wp_skip (then_normal (wp_seq (wp_block ?_)))
        replace hm := bindS hm; obtain ⟨j47, hm, hm47⟩ := hm
        refine c_join (σ := Bool) H (fun q548 => [(1, .pointer (some ⟨b21, 0, none⟩)), (2, .pointer (some ⟨b24, 0, none⟩)), (3, .int .i64 ((i43 : Nat) : Int)), (38, .bool q548)]) (fun q548 wl => (g_r10_things_J6 i43) q548 = some o42 ∧ St NB w wl [blkR b21 [.int .i64 a0.Id, .bool a0.Mobile, vp0_0, vp0_1, vp0_2, .int .i64 a0.Events, vp0_3] 68, blkR b24 [.int .i64 0, .int .i64 0] 163]) ?_ ?_
        · skip
          refine wp_region_lit (n_q H (q_fieldAddr0 rfl fo68_6) rfl (W_q (q_load rfl ((hS.blk 0 rfl).ld ag23 rfl)) rfl (W_q (q_move rfl) rfl ?_))); clear H a; intro a H
          replace hm := bindS hm; obtain ⟨x549, hx549, hm⟩ := hm
          obtain ⟨adx549, hAx549⟩ := SlR.adV (hrp0_3.ext (Flat.mono _) hS.x) hv34 hx549
          refine n_q H (q_ixV (i := i43) Tryd.underlying23 sz3 rfl hv34 hAx549 rfl (natI hx549)) rfl (W_q (q_load rfl (SlR.ldOneV (hrp0_3.ext (Flat.mono _) hS.x) hv34 hAx549 ag3 hx549 rfl)) rfl (W_q (q_lss rfl rfl) rfl (W_q (q_move rfl) rfl ?_))); clear H a; intro a H
          rcases Bool.eq_false_or_eq_true (decide (x549 < 0)) with hg550 | hg550
          · replace H := H.know 31 rfl hg550
            replace hm := condT hm hg550
            refine n_no H rfl rfl (by decide) rfl (W_no rfl rfl (by decide) rfl (W_no rfl rfl (by decide) rfl (W_no rfl rfl (by decide) rfl (W_no rfl rfl (by decide) rfl (W_no rfl rfl (by decide) rfl (W_q (q_pickT rfl rfl) rfl ?_)))))); clear H a; intro a H
            refine n_nil (then_normal ?_)
            obtain rfl := Option.some.inj hm; replace hm := hm47; try dsimp only at hm
            exact join true H ⟨rfl, rfl, rfl, rfl, trivial⟩ ⟨hm, hS⟩
          · replace H := H.know 31 rfl hg550
            replace hm := condF hm hg550
            refine n_yes H rfl rfl (n_q H (q_fieldAddr0 rfl fo68_6) rfl (W_yes rfl rfl (W_q (q_load rfl ((hS.blk 0 rfl).ld ag23 rfl)) rfl (W_yes rfl rfl (W_q (q_move rfl) rfl (W_yes rfl rfl ?_)))))); clear H a; intro a H
            replace hm := bindS hm; obtain ⟨x551, hx551, hm⟩ := hm
            obtain ⟨adx551, hAx551⟩ := SlR.adV (hrp0_3.ext (Flat.mono _) hS.x) hv34 hx551
            refine n_q H (q_ixV (i := i43) Tryd.underlying23 sz3 rfl hv34 hAx551 rfl (natI hx551)) rfl (W_yes rfl rfl (W_q (q_load rfl (SlR.ldOneV (hrp0_3.ext (Flat.mono _) hS.x) hv34 hAx551 ag3 hx551 rfl)) rfl (W_yes rfl rfl (W_q (q_gtr rfl rfl) rfl (W_q (q_pickF rfl rfl) rfl ?_))))); clear H a; intro a H
            refine n_nil (then_normal ?_)
            obtain rfl := Option.some.inj hm; replace hm := hm47; try dsimp only at hm
            exact join (decide (255 < x551)) H ⟨rfl, rfl, rfl, rfl, trivial⟩ ⟨hm, hS⟩
        · clear H hS hm a; intro q548 a w552 H hR
          simp only [ent, List.map_cons, List.map_nil] at H; (try dsimp only at hR); obtain ⟨hm, hS⟩ := hR; try dsimp only [g_r10_things_J6] at hm
          refine c_cond H rfl (fun hc553 => ?_) (fun hc553 => ?_)
          · replace hm := condT hm hc553
            refine wp_seq (wp_region_lit (n_q H (q_move rfl) rfl (W_q (q_build (cs := [.int .i64 4, .int .i64 ((i43 : Nat) : Int)]) ze163 bd163 pl163 rfl (by kernel_rfl)) rfl ?_))); clear H a; intro a H
            replace hS := hS.pick 1 rfl; dsimp only [List.eraseIdx] at hS
            refine n_storeAll H rfl rfl (vs := [.int .i64 4, .int .i64 ((i43 : Nat) : Int)]) rfl sz163 (hS.blk 0 rfl) rfl (by simp) ?_
            clear H; intro w554 hN hC555 hz; clear a; intro a H; replace hS := hS.setBlk hN hC555; clear hN hz
            refine n_nil (then_normal (wp_ret (block_ret (then_ret (then_ret (block_ret (then_ret ?_)))))))
            obtain rfl := Option.some.inj hm; have hz : _ = q42 := hn42; subst hz; replace hm := hm42; try dsimp only at hm
            obtain rfl := Option.some.inj hm
            replace hS := hS.take 1; simp only [List.take_succ_cons, List.take_zero] at hS
            refine retL H (.inr rfl) rfl (vs := [.agg #[.int .i64 4, .int .i64 ((i43 : Nat) : Int)]]) (resCell rfl ((hS.blk 0 rfl).ldAll ag163 sz163) resNil) ?_
            replace hS := hS.take 0; simp only [List.take_succ_cons, List.take_zero] at hS
            exact ⟨rfl, hS.x⟩
          · replace hm := condF hm hc553
            refine wp_skip (block_normal (then_normal (wp_region_lit (n_q H (q_move rfl) rfl (W_q (q_incr (i := i43) (j := 1) rfl rfl (by omega)) rfl (W_q (q_assign rfl) rfl ?_)))))); clear H a; intro a H
            refine n_nil (then_normal ?_)
            obtain rfl := Option.some.inj hm
            exact round (m42, i43 + 1) H ⟨rfl, rfl, rfl, trivial⟩ ⟨hn42, hS⟩ (Nat.lt_succ_self _)
      · replace hm := condF hm hc45
        refine wp_exit (then_exit (then_exit (block_exit ?_)))
        obtain rfl := Option.some.inj hm; have hz : _ = q42 := hn42; subst hz; replace hm := hm42; try dsimp only at hm
        refine then_normal (wp_seq (wp_region_lit ?_))
        replace hm := bindS hm; obtain ⟨r556, hr556, hm⟩ := hm
        refine n_call H rfl en148 (g_r10_none_w (A := A) hr556) rfl ?_
        clear H; intro x559 w557 hv; clear a; intro a H; obtain ⟨rfl, hE558⟩ := hv
        replace hS := hS.ext hE558
        replace hS := hS.pick 1 rfl; dsimp only [List.eraseIdx] at hS
        refine n_storeAll H rfl rfl (vs := [.int .i64 r556.Code, .int .i64 r556.Place]) rfl sz163 (hS.blk 0 rfl) rfl (by simp) ?_
        clear H; intro w560 hN hC561 hz; clear a; intro a H; replace hS := hS.setBlk hN hC561; clear hN hz
        refine n_nil (then_normal (wp_ret ?_))
        obtain rfl := Option.some.inj hm
        replace hS := hS.take 1; simp only [List.take_succ_cons, List.take_zero] at hS
        refine retL H (.inr rfl) rfl (vs := [.agg #[.int .i64 r556.Code, .int .i64 r556.Place]]) (resCell rfl ((hS.blk 0 rfl).ldAll ag163 sz163) resNil) ?_
        replace hS := hS.take 0; simp only [List.take_succ_cons, List.take_zero] at hS
        exact ⟨rfl, hS.x⟩
theorem g_r07_Most_w {w : World} {A : Nat → Addr} {a0 : GPortPlan} {r : Int × Int} (hm : g_r07_Most a0 = some r) :
    Calls Tryd.prog 178 [.agg (eGPortPlan a0).toArray].toArray w (Ret fun u w' => u = .tuple #[.int .i64 r.1, .int .i64 r.2] ∧ Ext w w') := by
  have hS := St.begin NB w
  unfold g_r07_Most at hm
  refine enter Tryd.func178 rfl rfl rfl ?_; intro a H; dsimp only [enumL, Nat.zero_add, Nat.reduceAdd] at H
  refine wp_seq (wp_region_lit (n_box H rfl (cs := [.int .i64 a0.Kind, .int .i64 a0.Size, .int .i64 a0.Depth, .int .i64 a0.Refresh]) rfl rfl ?_))
  clear H; intro b21 w22 hN hE23 hs; clear a; intro a H
  replace hS := hS.newBlk hN hE23 hs; clear hN hs
  refine n_q H (q_assign rfl) rfl (W_q (q_assign rfl) rfl ?_); clear H a; intro a H
  refine n_nil (then_normal (wp_seq (wp_seq (wp_region_lit (n_q H (q_load rfl ((hS.blk 0 rfl).ldAll ag169 sz169)) rfl ?_))))); clear H a; intro a H
  replace hm := bindS hm; obtain ⟨r24, hr24, hm⟩ := hm
  refine n_call H rfl en177 (g_r07_CheckPlan_w (A := A) hr24) rfl ?_
  clear H; intro x27 w25 hv; clear a; intro a H; obtain ⟨rfl, hE26⟩ := hv
  replace hS := hS.ext hE26
  refine n_q H (q_neqD rfl rfl) rfl ?_; clear H a; intro a H
  refine n_nil (then_normal (c_cond H rfl (fun hc28 => ?_) (fun hc28 => ?_)))
  · replace hm := condT hm hc28
    refine wp_seq (wp_region_lit (n_q H (q_assign rfl) rfl (W_q (q_assign rfl) rfl ?_))); clear H a; intro a H
    refine n_nil (then_normal (wp_ret (then_ret ?_)))
    obtain rfl := Option.some.inj hm
    replace hS := hS.take 0; simp only [List.take_succ_cons, List.take_zero] at hS
    refine ret2 H (.inr rfl) rfl rfl rfl ?_
    exact ⟨rfl, hS.x⟩
  · replace hm := condF hm hc28
    refine wp_skip (then_normal (wp_seq (wp_seq (wp_region_lit (n_q H (q_fieldAddr0 rfl fo169_0) rfl (W_q (q_load rfl ((hS.blk 0 rfl).ld ag3 rfl)) rfl ?_)))))); clear H a; intro a H
    refine n_nil (then_normal (wp_block (wp_seq (wp_region_lit (n_q H (q_eqlD rfl rfl) rfl (W_q (q_assign rfl) rfl ?_)))))); clear H a; intro a H
    refine n_nil (then_normal (c_cond H rfl (fun hc29 => ?_) (fun hc29 => ?_)))
    · replace hm := condT hm hc29
      refine wp_seq (wp_region_lit (n_q H (q_fieldAddr0 rfl fo169_1) rfl (W_q (q_load rfl ((hS.blk 0 rfl).ld ag3 rfl)) rfl (W_q (q_addW rfl rfl) rfl (W_q (q_assign rfl) rfl (W_q (q_assign rfl) rfl ?_)))))); clear H a; intro a H
      refine n_nil (then_normal (wp_ret (block_ret (then_ret ?_))))
      obtain rfl := Option.some.inj hm
      replace hS := hS.take 0; simp only [List.take_succ_cons, List.take_zero] at hS
      refine ret2 H (.inr rfl) rfl rfl rfl ?_
      exact ⟨rfl, hS.x⟩
    · replace hm := condF hm hc29
      refine wp_seq (wp_region_lit (n_q H (q_eqlD rfl rfl) rfl (W_q (q_assign rfl) rfl ?_))); clear H a; intro a H
      refine n_nil (then_normal (c_cond H rfl (fun hc30 => ?_) (fun hc30 => ?_)))
      · replace hm := condT hm hc30
        refine wp_seq (wp_region_lit (n_q H (q_fieldAddr0 rfl fo169_2) rfl (W_q (q_load rfl ((hS.blk 0 rfl).ld ag3 rfl)) rfl (W_q (q_fieldAddr0 rfl fo169_1) rfl (W_q (q_load rfl ((hS.blk 0 rfl).ld ag3 rfl)) rfl (W_q (q_addW rfl rfl) rfl (W_q (q_mulW rfl rfl) rfl (W_q (q_addW rfl rfl) rfl (W_q (q_assign rfl) rfl (W_q (q_assign rfl) rfl ?_)))))))))); clear H a; intro a H
        refine n_nil (then_normal (wp_ret (block_ret (then_ret ?_))))
        obtain rfl := Option.some.inj hm
        replace hS := hS.take 0; simp only [List.take_succ_cons, List.take_zero] at hS
        refine ret2 H (.inr rfl) rfl rfl rfl ?_
        exact ⟨rfl, hS.x⟩
      · replace hm := condF hm hc30
        refine wp_skip (block_normal (then_normal (wp_seq (wp_region_lit (n_q H (q_assign rfl) rfl (W_q (q_assign rfl) rfl ?_)))))); clear H a; intro a H
        refine n_nil (then_normal (wp_ret ?_))
        obtain rfl := Option.some.inj hm
        replace hS := hS.take 0; simp only [List.take_succ_cons, List.take_zero] at hS
        refine ret2 H (.inr rfl) rfl rfl rfl ?_
        exact ⟨rfl, hS.x⟩
theorem g_r10_bound_w {w : World} {A : Nat → Addr} {cs0 : List Value} {a0 : GPlan} (h0 : RGPlan w cs0 a0) {r : Int} (hm : g_r10_bound a0 = some r) :
    Calls Tryd.prog 147 [.agg cs0.toArray].toArray w (Ret fun u w' => u = .int .i64 r ∧ Ext w w') := by
  obtain ⟨vp0_0, vp0_1, vp0_2, vp0_3, rfl, hrp0_0, hrp0_1, hrp0_2, hrp0_3⟩ := h0
  have hS := St.begin NB w
  unfold g_r10_bound at hm
  refine enter Tryd.func147 rfl rfl rfl ?_; intro a H; dsimp only [enumL, Nat.zero_add, Nat.reduceAdd] at H
  refine wp_seq (wp_region_lit (n_box H rfl (cs := [.int .i64 a0.Id, .bool a0.Mobile, vp0_0, vp0_1, vp0_2, .int .i64 a0.Events, vp0_3]) rfl rfl ?_))
  clear H; intro b21 w22 hN hE23 hs; clear a; intro a H
  replace hS := hS.newBlk hN hE23 hs; clear hN hs
  refine n_q H (q_assign rfl) rfl ?_; clear H a; intro a H
  refine n_nil (then_normal (wp_seq (wp_region_lit (n_q H (q_fieldAddr0 rfl fo68_3) rfl (W_q (q_load rfl ((hS.blk 0 rfl).ld ag65 rfl)) rfl ?_))))); clear H a; intro a H
  obtain ⟨A24, c24, hv24, hl24, hm24⟩ := SlR.formV (hrp0_1.ext (Flat.mono _) hS.x)
  refine n_q H (q_lenV Tryd.underlying65 rfl hv24) rfl (W_q (q_mulW rfl rfl) rfl (W_q (q_addW rfl rfl) rfl (W_q (q_fieldAddr0 rfl fo68_2) rfl (W_q (q_load rfl ((hS.blk 0 rfl).ld ag64 rfl)) rfl ?_)))); clear H a; intro a H
  obtain ⟨A25, c25, hv25, hl25, hm25⟩ := SlR.formV (hrp0_0.ext (Flat.mono _) hS.x)
  refine n_q H (q_lenV Tryd.underlying64 rfl hv25) rfl (W_q (q_mulW rfl rfl) rfl (W_q (q_addW rfl rfl) rfl (W_q (q_fieldAddr0 rfl fo68_5) rfl (W_q (q_load rfl ((hS.blk 0 rfl).ld ag3 rfl)) rfl (W_q (q_addW rfl rfl) rfl (W_q (q_fieldAddr0 rfl fo68_6) rfl (W_q (q_load rfl ((hS.blk 0 rfl).ld ag23 rfl)) rfl ?_))))))); clear H a; intro a H
  obtain ⟨A26, c26, hv26, hl26, hm26⟩ := SlR.formV (hrp0_3.ext (Flat.mono _) hS.x)
  refine n_q H (q_lenV Tryd.underlying23 rfl hv26) rfl (W_q (q_addW rfl rfl) rfl (W_q (q_assign rfl) rfl ?_)); clear H a; intro a H
  refine n_nil (then_normal (wp_seq (wp_seq (wp_region_lit (n_q H (q_assign rfl) rfl ?_))))); clear H a; intro a H
  refine n_nil (then_normal (wp_block ?_))
  replace hm := bindS hm; obtain ⟨q27, hm, hm27⟩ := hm; replace hm := iter_some hm; obtain ⟨n27, hm⟩ := hm
  refine c_loop (σ := Nat × Int × Nat) (fun (m, z28, i29) => [(1, .pointer (some ⟨b21, 0, none⟩)), (3, .int .i64 z28), (4, .int .i64 ((i29 : Nat) : Int))]) (fun (m, z28, i29) wl => iterN (g_r10_bound_L1 a0) m (z28, i29) = some q27 ∧ St NB w wl [blkR b21 [.int .i64 a0.Id, .bool a0.Mobile, vp0_0, vp0_1, vp0_2, .int .i64 a0.Events, vp0_3] 68]) (fun (m, z28, i29) => m) (n27, (IntKind.i64.wrap ((IntKind.i64.wrap ((IntKind.i64.wrap ((IntKind.i64.wrap (58 + (IntKind.i64.wrap (76 * ((a0.Procs.length : Nat) : Int))))) + (IntKind.i64.wrap (68 * ((a0.Pages.length : Nat) : Int))))) + a0.Events)) + ((a0.Sems.length : Nat) : Int))), 0) H ⟨rfl, rfl, rfl, trivial⟩ ⟨hm, hS⟩ ?_
  clear H hS hm a; intro xx a w30 H hR; obtain ⟨m, z28, i29⟩ := xx; simp only [ent, List.map_cons, List.map_nil] at H; (try dsimp only at hR); obtain ⟨hm, hS⟩ := hR
  replace hm := iterN_step hm; obtain ⟨m27, o27, rfl, hm, hn27⟩ := hm; try dsimp only [g_r10_bound_L1] at hm
  refine wp_seq (wp_seq (wp_region_lit (n_q H (q_move rfl) rfl (W_q (q_fieldAddr0 rfl fo68_4) rfl (W_q (q_load rfl ((hS.blk 0 rfl).ld ag66 rfl)) rfl ?_))))); clear H a; intro a H
  obtain ⟨A31, c31, hv31, hl31, hm31⟩ := SlR.formV (hrp0_2.ext (Flat.mono _) hS.x)
  refine n_q H (q_lenV Tryd.underlying66 rfl hv31) rfl (W_q (q_lssN (i := i29) (j := a0.Ports.length) rfl rfl) rfl ?_); clear H a; intro a H
  refine n_nil (then_normal (c_cond H rfl (fun hc32 => ?_) (fun hc32 => ?_)))
  · replace hm := condT hm hc32
    have hlt33 : i29 < a0.Ports.length := of_decide_eq_true hc32
    refine wp_skip (then_normal (wp_seq (wp_block (wp_seq (wp_region_lit (n_q H (q_fieldAddr0 rfl fo68_4) rfl (W_q (q_load rfl ((hS.blk 0 rfl).ld ag66 rfl)) rfl (W_q (q_move rfl) rfl ?_)))))))); clear H a; intro a H
    replace hm := bindS hm; obtain ⟨x34, hx34, hm⟩ := hm
    obtain ⟨adx34, hAx34⟩ := SlR.adV (hrp0_2.ext (Flat.mono _) hS.x) hv31 hx34
    refine n_q H (q_ixV (i := i29) Tryd.underlying66 sz169 rfl hv31 hAx34 rfl (natI hx34)) rfl (W_q (q_load rfl (SlR.ldAggV (hrp0_2.ext (Flat.mono _) hS.x) hv31 hAx34 ag169 sz169 hx34)) rfl ?_); clear H a; intro a H
    replace hm := bindS hm; obtain ⟨r35, hr35, hm⟩ := hm
    refine n_call H rfl en178 (g_r07_Most_w (A := A) hr35) rfl ?_
    clear H; intro x38 w36 hv; clear a; intro a H; obtain ⟨rfl, hE37⟩ := hv
    replace hS := hS.ext hE37
    refine n_q H (q_move rfl) rfl (W_q (q_extract rfl rfl) rfl (W_q (q_extract rfl rfl) rfl (W_q (q_assign rfl) rfl (W_q (q_assign rfl) rfl ?_)))); clear H a; intro a H
    refine n_nil (then_normal (wp_region_lit (n_q H (q_move rfl) rfl (W_q (q_move rfl) rfl (W_q (q_addW rfl rfl) rfl (W_q (q_addW rfl rfl) rfl (W_q (q_assign rfl) rfl ?_))))))); clear H a; intro a H
    refine n_nil (block_normal (then_normal (wp_region_lit (n_q H (q_move rfl) rfl (W_q (q_incr (i := i29) (j := 1) rfl rfl (by omega)) rfl (W_q (q_assign rfl) rfl ?_)))))); clear H a; intro a H
    refine n_nil (then_normal ?_)
    obtain rfl := Option.some.inj hm
    exact round (m27, (IntKind.i64.wrap (z28 + (IntKind.i64.wrap (3 + r35.1)))), i29 + 1) H ⟨rfl, rfl, rfl, trivial⟩ ⟨hn27, hS⟩ (Nat.lt_succ_self _)
  · replace hm := condF hm hc32
    refine wp_exit (then_exit (then_exit (block_exit ?_)))
    obtain rfl := Option.some.inj hm; have hz : _ = q27 := hn27; subst hz; replace hm := hm27; try dsimp only at hm
    refine then_normal (wp_seq (wp_region_lit (n_q H (q_move rfl) rfl (W_q (q_assign rfl) rfl ?_)))); clear H a; intro a H
    refine n_nil (then_normal (wp_ret ?_))
    obtain rfl := Option.some.inj hm
    replace hS := hS.take 0; simp only [List.take_succ_cons, List.take_zero] at hS
    refine ret1 H (.inr rfl) rfl rfl ?_
    exact ⟨rfl, hS.x⟩
theorem g_r10_Check_w {w : World} {A : Nat → Addr} {cs0 : List Value} {a0 : GPlan} (h0 : RGPlan w cs0 a0) {r : GR10Err} (hm : g_r10_Check a0 = some r) :
    Calls Tryd.prog 85 [.agg cs0.toArray].toArray w (Ret fun u w' => u = .agg (eGR10Err r).toArray ∧ Ext w w') := by
  obtain ⟨vp0_0, vp0_1, vp0_2, vp0_3, rfl, hrp0_0, hrp0_1, hrp0_2, hrp0_3⟩ := h0
  have hS := St.begin NB w
  unfold g_r10_Check at hm
  refine enter Tryd.func85 rfl rfl rfl ?_; intro a H; dsimp only [enumL, Nat.zero_add, Nat.reduceAdd] at H
  refine wp_seq (wp_region_lit (n_box H rfl (cs := [.int .i64 a0.Id, .bool a0.Mobile, vp0_0, vp0_1, vp0_2, .int .i64 a0.Events, vp0_3]) rfl rfl ?_))
  clear H; intro b21 w22 hN hE23 hs; clear a; intro a H
  replace hS := hS.newBlk hN hE23 hs; clear hN hs
  refine n_alloc H ze163 rfl ?_
  clear H; intro b24 w25 hN hE26 hs; clear a; intro a H
  replace hS := hS.newBlk hN hE26 hs; clear hN hs
  refine n_nil (then_normal (wp_seq (wp_seq (wp_region_lit (n_c H (fun HC => ?_)))))); clear H
  refine nc_q HC (q_fieldAddr0 rfl fo68_0) rfl (by kernel_rfl) (V_q (q_load rfl ((hS.blk 1 rfl).ld ag3 rfl)) rfl (by kernel_rfl) (V_q (q_lss rfl rfl) rfl (by kernel_rfl) (V_q (q_move rfl) rfl (by kernel_rfl) (V_g (q_fieldAddr0 rfl fo68_0) (by kernel_rfl) (by kernel_rfl) (by kernel_rfl) (V_g (q_load rfl ((hS.blk 1 rfl).ld ag3 rfl)) (by kernel_rfl) (by kernel_rfl) (by kernel_rfl) (V_g (q_gtr rfl rfl) (by kernel_rfl) (by kernel_rfl) (by kernel_rfl) (V_or (j := 3) rfl rfl rfl (by kernel_rfl) (by kernel_rfl) ?_))))))); clear HC a; intro a HC
  have H := HC.has; clear HC
  refine n_nil (then_normal (c_cond H rfl (fun hc27 => ?_) (fun hc27 => ?_)))
  · replace hm := condT hm hc27
    refine wp_seq (wp_region_lit ?_)
    replace hm := bindS hm; obtain ⟨r28, hr28, hm⟩ := hm
    refine n_call H rfl en142 (g_r10_bad_w (A := A) hr28) rfl ?_
    clear H; intro x31 w29 hv; clear a; intro a H; obtain ⟨rfl, hE30⟩ := hv
    replace hS := hS.ext hE30
    refine n_storeAll H rfl rfl (vs := [.int .i64 r28.Code, .int .i64 r28.Place]) rfl sz163 (hS.blk 0 rfl) rfl (by simp) ?_
    clear H; intro w32 hN hC33 hz; clear a; intro a H; replace hS := hS.setBlk hN hC33; clear hN hz
    refine n_nil (then_normal (wp_ret (then_ret ?_)))
    obtain rfl := Option.some.inj hm
    replace hS := hS.take 1; simp only [List.take_succ_cons, List.take_zero] at hS
    refine retL H (.inr rfl) rfl (vs := [.agg #[.int .i64 r28.Code, .int .i64 r28.Place]]) (resCell rfl ((hS.blk 0 rfl).ldAll ag163 sz163) resNil) ?_
    replace hS := hS.take 0; simp only [List.take_succ_cons, List.take_zero] at hS
    exact ⟨rfl, hS.x⟩
  · replace hm := condF hm hc27
    refine wp_skip (then_normal (wp_seq (c_ord [] 10 (by kernel_rfl) ?_)))
    obtain ⟨w34, hw34⟩ : ∃ x, x = w25.drew := ⟨_, rfl⟩; rw [← hw34]; have hE35 : Ext w25 w34 := by rw [hw34]; exact Ext.drew' _
    clear hw34
    replace hS := hS.ext hE35
    have hS36 := hS
    have hW := Nat.le_refl w34.heap.size
    refine k_take 0 H rfl (q_load rfl (LdC.old ((hS36.blk 1 rfl).ldAll ag68 sz68) Ext.rfl' (Nat.le_refl _) (by simp))) rfl (by kernel_rfl) (by kernel_rfl) (by kernel_rfl) (by kernel_rfl) (fun _ _ _ h => h) ?_; clear H a; intro a H
    refine k_take 2 H rfl (q_load rfl (LdC.old ((hS36.blk 1 rfl).ldAll ag68 sz68) Ext.rfl' (Nat.le_refl _) (by simp))) rfl (by kernel_rfl) (by kernel_rfl) (by kernel_rfl) (by kernel_rfl) (fun _ _ _ h => h) ?_; clear H a; intro a H
    refine k_take 4 H rfl (q_load rfl (LdC.old ((hS36.blk 1 rfl).ldAll ag68 sz68) Ext.rfl' (Nat.le_refl _) (by simp))) rfl (by kernel_rfl) (by kernel_rfl) (by kernel_rfl) (by kernel_rfl) (fun _ _ _ h => h) ?_; clear H a; intro a H
    refine k_take 6 H rfl (q_load rfl (LdC.old ((hS36.blk 1 rfl).ldAll ag68 sz68) Ext.rfl' (Nat.le_refl _) (by simp))) rfl (by kernel_rfl) (by kernel_rfl) (by kernel_rfl) (by kernel_rfl) (fun _ _ _ h => h) ?_; clear H a; intro a H
    replace hm := bindS hm; obtain ⟨r37, hr37, hm⟩ := hm
    refine k_of_kk 1 (by kernel_rfl) ?_
    refine kk_call 1 H rfl rfl en143 (g_r10_pages_w (A := A) (⟨_, _, _, _, rfl, (hrp0_0.ext (Flat.mono _) hS.x), (hrp0_1.ext (Flat.mono _) hS.x), (hrp0_2.ext (Flat.mono _) hS.x), (hrp0_3.ext (Flat.mono _) hS.x)⟩ : RGPlan _ [.int .i64 a0.Id, .bool a0.Mobile, vp0_0, vp0_1, vp0_2, .int .i64 a0.Events, vp0_3] a0) hr37) rfl (fun v w hv => .inl (ChgF.of_ext (by obtain ⟨_, hE0⟩ := hv; exact hE0))) ?_
    clear H; intro x40 w38 hv; clear a; intro a H; obtain ⟨rfl, hE39⟩ := hv
    replace hS := hS.ext hE39
    replace hW := Nat.le_trans hW hE39.size
    replace hm := bindS hm; obtain ⟨r41, hr41, hm⟩ := hm
    refine k_of_kk 3 (by kernel_rfl) ?_
    refine kk_call 3 H rfl rfl en144 (g_r10_procs_w (A := A) (⟨_, _, _, _, rfl, (hrp0_0.ext (Flat.mono _) hS.x), (hrp0_1.ext (Flat.mono _) hS.x), (hrp0_2.ext (Flat.mono _) hS.x), (hrp0_3.ext (Flat.mono _) hS.x)⟩ : RGPlan _ [.int .i64 a0.Id, .bool a0.Mobile, vp0_0, vp0_1, vp0_2, .int .i64 a0.Events, vp0_3] a0) hr41) rfl (fun v w hv => .inl (ChgF.of_ext (by obtain ⟨_, hE0⟩ := hv; exact hE0))) ?_
    clear H; intro x44 w42 hv; clear a; intro a H; obtain ⟨rfl, hE43⟩ := hv
    replace hS := hS.ext hE43
    replace hW := Nat.le_trans hW hE43.size
    replace hm := bindS hm; obtain ⟨r45, hr45, hm⟩ := hm
    refine k_of_kk 5 (by kernel_rfl) ?_
    refine kk_call 5 H rfl rfl en145 (g_r10_ports_w (A := A) (⟨_, _, _, _, rfl, (hrp0_0.ext (Flat.mono _) hS.x), (hrp0_1.ext (Flat.mono _) hS.x), (hrp0_2.ext (Flat.mono _) hS.x), (hrp0_3.ext (Flat.mono _) hS.x)⟩ : RGPlan _ [.int .i64 a0.Id, .bool a0.Mobile, vp0_0, vp0_1, vp0_2, .int .i64 a0.Events, vp0_3] a0) hr45) rfl (fun v w hv => .inl (ChgF.of_ext (by obtain ⟨_, hE0⟩ := hv; exact hE0))) ?_
    clear H; intro x48 w46 hv; clear a; intro a H; obtain ⟨rfl, hE47⟩ := hv
    replace hS := hS.ext hE47
    replace hW := Nat.le_trans hW hE47.size
    replace hm := bindS hm; obtain ⟨r49, hr49, hm⟩ := hm
    refine k_of_kk 7 (by kernel_rfl) ?_
    refine kk_call 7 H rfl rfl en146 (g_r10_things_w (A := A) (⟨_, _, _, _, rfl, (hrp0_0.ext (Flat.mono _) hS.x), (hrp0_1.ext (Flat.mono _) hS.x), (hrp0_2.ext (Flat.mono _) hS.x), (hrp0_3.ext (Flat.mono _) hS.x)⟩ : RGPlan _ [.int .i64 a0.Id, .bool a0.Mobile, vp0_0, vp0_1, vp0_2, .int .i64 a0.Events, vp0_3] a0) hr49) rfl (fun v w hv => .inl (ChgF.of_ext (by obtain ⟨_, hE0⟩ := hv; exact hE0))) ?_
    clear H; intro x52 w50 hv; clear a; intro a H; obtain ⟨rfl, hE51⟩ := hv
    replace hS := hS.ext hE51
    replace hW := Nat.le_trans hW hE51.size
    refine k_buildSlice 8 H rfl Tryd.underlying223 sz163 ze163 rfl rfl rfl (cs := [.int .i64 r37.Code, .int .i64 r37.Place, .int .i64 r41.Code, .int .i64 r41.Place, .int .i64 r45.Code, .int .i64 r45.Place, .int .i64 r49.Code, .int .i64 r49.Place]) (by kernel_rfl) rfl (by kernel_rfl) ?_
    clear H; intro b55 w53 hN hE54 hs; clear a; intro a H
    have hge_b55 : w34.heap.size ≤ b55 := hs ▸ hW
    replace hS := hS.newBlk hN hE54 hs; clear hN hs
    replace hW := Nat.le_trans hW hE54.size
    replace hS := hS.blkOwnL (e := eGR10Err) (k := 2) [r37, r41, r45, r49] rfl rfl (by simp [maxLen])
    refine k_takeT 9 H rfl (q_assign rfl) rfl (by kernel_rfl) (by kernel_rfl) (by kernel_rfl) (by kernel_rfl) (fun _ _ _ h => h) ?_; clear H a; intro a H
    refine k_done (by kernel_rfl) ?_
    refine then_normal (wp_seq (wp_seq (wp_region_lit (n_q H (q_assign rfl) rfl ?_)))); clear H a; intro a H
    refine n_nil (then_normal (wp_block ?_))
    replace hS := hS.pick 1 rfl; dsimp only [List.eraseIdx] at hS
    replace hS := hS.pick 2 rfl; dsimp only [List.eraseIdx] at hS
    replace hS := hS.pick 2 rfl; dsimp only [List.eraseIdx] at hS
    replace hm := bindS hm; obtain ⟨q57, hm, hm57⟩ := hm; replace hm := iter_some hm; obtain ⟨n57, hm⟩ := hm
    refine c_loop (σ := Nat × Nat) (fun (m, i58) => [(1, .pointer (some ⟨b21, 0, none⟩)), (2, .pointer (some ⟨b24, 0, none⟩)), (3, .slice (some ⟨b55, 0, none⟩) 4 4), (4, .int .i64 ((i58 : Nat) : Int))]) (fun (m, i58) wl => iterN (g_r10_Check_L1 r37 r41 r45 r49) m i58 = some q57 ∧ St NB w wl [ownR 163 2 (.slice (some ⟨b55, 0, none⟩) 4 4) [r37, r41, r45, r49].length ([r37, r41, r45, r49].flatMap eGR10Err), blkR b21 [.int .i64 a0.Id, .bool a0.Mobile, vp0_0, vp0_1, vp0_2, .int .i64 a0.Events, vp0_3] 68, blkR b24 [.int .i64 0, .int .i64 0] 163]) (fun (m, i58) => m) (n57, 0) H ⟨rfl, rfl, rfl, rfl, trivial⟩ ⟨hm, hS⟩ ?_
    clear H hS hm a; intro xx a w59 H hR; obtain ⟨m, i58⟩ := xx; simp only [ent, List.map_cons, List.map_nil] at H; (try dsimp only at hR); obtain ⟨hm, hS⟩ := hR
    replace hm := iterN_step hm; obtain ⟨m57, o57, rfl, hm, hn57⟩ := hm; try dsimp only [g_r10_Check_L1] at hm
    refine wp_seq (wp_seq (wp_region_lit (n_q H (q_move rfl) rfl (W_q (q_move rfl) rfl ?_)))); clear H a; intro a H
    obtain ⟨A60, c60, hv60, hl60, hm60⟩ := SlR.formV ((hS.own 0 rfl).slr rfl (fun _ _ => rfl))
    refine n_q H (q_lenV Tryd.underlying223 rfl hv60) rfl (W_q (q_lssN (i := i58) (j := ([r37, r41, r45, r49].length)) rfl rfl) rfl ?_); clear H a; intro a H
    refine n_nil (then_normal (c_cond H rfl (fun hc61 => ?_) (fun hc61 => ?_)))
    · replace hm := condT hm hc61
      have hlt62 : i58 < [r37, r41, r45, r49].length := of_decide_eq_true hc61
      refine wp_skip (then_normal (wp_seq (wp_block (wp_seq (wp_region_lit (n_q H (q_move rfl) rfl (W_q (q_move rfl) rfl ?_))))))); clear H a; intro a H
      replace hm := bindS hm; obtain ⟨x63, hx63, hm⟩ := hm
      obtain ⟨adx63, hAx63⟩ := SlR.adV ((hS.own 0 rfl).slr rfl (fun _ _ => rfl)) hv60 hx63
      refine n_q H (q_ixV (i := i58) Tryd.underlying223 sz163 rfl hv60 hAx63 rfl (natI hx63)) rfl (W_q (q_fieldAddr rfl fo163_0) rfl (W_q (q_load rfl (SlR.ldCellV (j := 0) ((hS.own 0 rfl).slr rfl (fun _ _ => rfl)) hv60 hAx63 ag3 hx63 rfl)) rfl (W_q (q_neqD rfl rfl) rfl ?_))); clear H a; intro a H
      refine n_nil (then_normal (c_cond H rfl (fun hc64 => ?_) (fun hc64 => ?_)))
      · replace hm := condT hm hc64
        refine wp_seq (wp_region_lit (n_q H (q_move rfl) rfl (W_q (q_move rfl) rfl ?_))); clear H a; intro a H
        replace hm := bindS hm; obtain ⟨x65, hx65, hm⟩ := hm
        obtain ⟨adx65, hAx65⟩ := SlR.adV ((hS.own 0 rfl).slr rfl (fun _ _ => rfl)) hv60 hx65
        refine n_q H (q_ixV (i := i58) Tryd.underlying223 sz163 rfl hv60 hAx65 rfl (natI hx65)) rfl (W_q (q_load rfl (SlR.ldAggV ((hS.own 0 rfl).slr rfl (fun _ _ => rfl)) hv60 hAx65 ag163 sz163 hx65)) rfl ?_); clear H a; intro a H
        replace hS := hS.pick 2 rfl; dsimp only [List.eraseIdx] at hS
        refine n_storeAll H rfl rfl (vs := [.int .i64 x65.Code, .int .i64 x65.Place]) rfl sz163 (hS.blk 0 rfl) rfl (by simp) ?_
        clear H; intro w66 hN hC67 hz; clear a; intro a H; replace hS := hS.setBlk hN hC67; clear hN hz
        refine n_nil (then_normal (wp_ret (block_ret (then_ret (then_ret (block_ret (then_ret ?_)))))))
        obtain rfl := Option.some.inj hm; have hz : _ = q57 := hn57; subst hz; replace hm := hm57; try dsimp only at hm
        obtain rfl := Option.some.inj hm
        replace hS := hS.take 1; simp only [List.take_succ_cons, List.take_zero] at hS
        refine retL H (.inr rfl) rfl (vs := [.agg #[.int .i64 x65.Code, .int .i64 x65.Place]]) (resCell rfl ((hS.blk 0 rfl).ldAll ag163 sz163) resNil) ?_
        replace hS := hS.take 0; simp only [List.take_succ_cons, List.take_zero] at hS
        exact ⟨rfl, hS.x⟩
      · replace hm := condF hm hc64
        refine wp_skip (block_normal (then_normal (wp_region_lit (n_q H (q_move rfl) rfl (W_q (q_incr (i := i58) (j := 1) rfl rfl (by omega)) rfl (W_q (q_assign rfl) rfl ?_)))))); clear H a; intro a H
        refine n_nil (then_normal ?_)
        obtain rfl := Option.some.inj hm
        exact round (m57, i58 + 1) H ⟨rfl, rfl, rfl, rfl, trivial⟩ ⟨hn57, hS⟩ (Nat.lt_succ_self _)
    · replace hm := condF hm hc61
      refine wp_exit (then_exit (then_exit (block_exit ?_)))
      obtain rfl := Option.some.inj hm; have hz : _ = q57 := hn57; subst hz; replace hm := hm57; try dsimp only at hm
      refine then_normal (wp_seq (wp_seq (wp_region_lit (n_q H (q_load rfl ((hS.blk 1 rfl).ldAll ag68 sz68)) rfl ?_)))); clear H a; intro a H
      replace hm := bindS hm; obtain ⟨r68, hr68, hm⟩ := hm
      refine n_call H rfl en147 (g_r10_bound_w (A := A) (⟨_, _, _, _, rfl, (hrp0_0.ext (Flat.mono _) hS.x), (hrp0_1.ext (Flat.mono _) hS.x), (hrp0_2.ext (Flat.mono _) hS.x), (hrp0_3.ext (Flat.mono _) hS.x)⟩ : RGPlan _ [.int .i64 a0.Id, .bool a0.Mobile, vp0_0, vp0_1, vp0_2, .int .i64 a0.Events, vp0_3] a0) hr68) rfl ?_
      clear H; intro x71 w69 hv; clear a; intro a H; obtain ⟨rfl, hE70⟩ := hv
      replace hS := hS.ext hE70
      refine n_q H (q_gtr rfl rfl) rfl ?_; clear H a; intro a H
      refine n_nil (then_normal (c_cond H rfl (fun hc72 => ?_) (fun hc72 => ?_)))
      · replace hm := condT hm hc72
        refine wp_seq (wp_region_lit ?_)
        replace hm := bindS hm; obtain ⟨r73, hr73, hm⟩ := hm
        refine n_call H rfl en142 (g_r10_bad_w (A := A) hr73) rfl ?_
        clear H; intro x76 w74 hv; clear a; intro a H; obtain ⟨rfl, hE75⟩ := hv
        replace hS := hS.ext hE75
        replace hS := hS.pick 2 rfl; dsimp only [List.eraseIdx] at hS
        refine n_storeAll H rfl rfl (vs := [.int .i64 r73.Code, .int .i64 r73.Place]) rfl sz163 (hS.blk 0 rfl) rfl (by simp) ?_
        clear H; intro w77 hN hC78 hz; clear a; intro a H; replace hS := hS.setBlk hN hC78; clear hN hz
        refine n_nil (then_normal (wp_ret (then_ret ?_)))
        obtain rfl := Option.some.inj hm
        replace hS := hS.take 1; simp only [List.take_succ_cons, List.take_zero] at hS
        refine retL H (.inr rfl) rfl (vs := [.agg #[.int .i64 r73.Code, .int .i64 r73.Place]]) (resCell rfl ((hS.blk 0 rfl).ldAll ag163 sz163) resNil) ?_
        replace hS := hS.take 0; simp only [List.take_succ_cons, List.take_zero] at hS
        exact ⟨rfl, hS.x⟩
      · replace hm := condF hm hc72
        refine wp_skip (then_normal (wp_seq (wp_region_lit ?_)))
        replace hm := bindS hm; obtain ⟨r79, hr79, hm⟩ := hm
        refine n_call H rfl en148 (g_r10_none_w (A := A) hr79) rfl ?_
        clear H; intro x82 w80 hv; clear a; intro a H; obtain ⟨rfl, hE81⟩ := hv
        replace hS := hS.ext hE81
        replace hS := hS.pick 2 rfl; dsimp only [List.eraseIdx] at hS
        refine n_storeAll H rfl rfl (vs := [.int .i64 r79.Code, .int .i64 r79.Place]) rfl sz163 (hS.blk 0 rfl) rfl (by simp) ?_
        clear H; intro w83 hN hC84 hz; clear a; intro a H; replace hS := hS.setBlk hN hC84; clear hN hz
        refine n_nil (then_normal (wp_ret ?_))
        obtain rfl := Option.some.inj hm
        replace hS := hS.take 1; simp only [List.take_succ_cons, List.take_zero] at hS
        refine retL H (.inr rfl) rfl (vs := [.agg #[.int .i64 r79.Code, .int .i64 r79.Place]]) (resCell rfl ((hS.blk 0 rfl).ldAll ag163 sz163) resNil) ?_
        replace hS := hS.take 0; simp only [List.take_succ_cons, List.take_zero] at hS
        exact ⟨rfl, hS.x⟩
theorem g_r10_Good_w {w : World} {A : Nat → Addr} {cs0 : List Value} {a0 : GPlan} (h0 : RGPlan w cs0 a0) {r : Bool} (hm : g_r10_Good a0 = some r) :
    Calls Tryd.prog 45 [.agg cs0.toArray].toArray w (Ret fun u w' => u = .bool r ∧ Ext w w') := by
  obtain ⟨vp0_0, vp0_1, vp0_2, vp0_3, rfl, hrp0_0, hrp0_1, hrp0_2, hrp0_3⟩ := h0
  have hS := St.begin NB w
  unfold g_r10_Good at hm
  refine enter Tryd.func45 rfl rfl rfl ?_; intro a H; dsimp only [enumL, Nat.zero_add, Nat.reduceAdd] at H
  refine wp_seq (wp_region_lit (n_box H rfl (cs := [.int .i64 a0.Id, .bool a0.Mobile, vp0_0, vp0_1, vp0_2, .int .i64 a0.Events, vp0_3]) rfl rfl ?_))
  clear H; intro b21 w22 hN hE23 hs; clear a; intro a H
  replace hS := hS.newBlk hN hE23 hs; clear hN hs
  refine n_q H (q_assign rfl) rfl ?_; clear H a; intro a H
  refine n_nil (then_normal (wp_seq (wp_region_lit (n_q H (q_load rfl ((hS.blk 0 rfl).ldAll ag68 sz68)) rfl ?_)))); clear H a; intro a H
  replace hm := bindS hm; obtain ⟨r24, hr24, hm⟩ := hm
  refine n_call H rfl en85 (g_r10_Check_w (A := A) (⟨_, _, _, _, rfl, (hrp0_0.ext (Flat.mono _) hS.x), (hrp0_1.ext (Flat.mono _) hS.x), (hrp0_2.ext (Flat.mono _) hS.x), (hrp0_3.ext (Flat.mono _) hS.x)⟩ : RGPlan _ [.int .i64 a0.Id, .bool a0.Mobile, vp0_0, vp0_1, vp0_2, .int .i64 a0.Events, vp0_3] a0) hr24) rfl ?_
  clear H; intro x27 w25 hv; clear a; intro a H; obtain ⟨rfl, hE26⟩ := hv
  replace hS := hS.ext hE26
  refine n_q H (q_fieldV fd163_0 rfl rfl) rfl (W_q (q_eqlD rfl rfl) rfl (W_q (q_assign rfl) rfl ?_)); clear H a; intro a H
  refine n_nil (then_normal (wp_ret ?_))
  obtain rfl := Option.some.inj hm
  replace hS := hS.take 0; simp only [List.take_succ_cons, List.take_zero] at hS
  refine ret1 H (.inr rfl) rfl rfl ?_
  exact ⟨rfl, hS.x⟩
theorem g_r14_none_w {w : World} {A : Nat → Addr} {r : GR14Err} (hm : g_r14_none = some r) :
    Calls Tryd.prog 78 [].toArray w (Ret fun u w' => u = .agg (eGR14Err r).toArray ∧ Ext w w') := by
  have hS := St.begin NB w
  unfold g_r14_none at hm
  refine enter Tryd.func78 rfl rfl rfl ?_; intro a H; dsimp only [enumL, Nat.zero_add, Nat.reduceAdd] at H
  refine wp_seq (wp_region_lit (n_alloc H ze110 rfl ?_))
  clear H; intro b21 w22 hN hE23 hs; clear a; intro a H
  replace hS := hS.newBlk hN hE23 hs; clear hN hs
  refine n_nil (then_normal (wp_seq (wp_region_lit (n_q H (q_build (cs := [.int .i64 0, .int .i64 (-1)]) ze110 bd110 pl110 rfl (by kernel_rfl)) rfl ?_)))); clear H a; intro a H
  refine n_storeAll H rfl rfl (vs := [.int .i64 0, .int .i64 (-1)]) rfl sz110 (hS.blk 0 rfl) rfl (by simp) ?_
  clear H; intro w24 hN hC25 hz; clear a; intro a H; replace hS := hS.setBlk hN hC25; clear hN hz
  refine n_nil (then_normal (wp_ret ?_))
  obtain rfl := Option.some.inj hm
  refine retL H (.inr rfl) rfl (vs := [.agg #[.int .i64 0, .int .i64 (-1)]]) (resCell rfl ((hS.blk 0 rfl).ldAll ag110 sz110) resNil) ?_
  replace hS := hS.take 0; simp only [List.take_succ_cons, List.take_zero] at hS
  exact ⟨rfl, hS.x⟩
theorem g_r14_parts_w {w : World} {A : Nat → Addr} {cs0 : List Value} {a0 : GConfig} (h0 : RGConfig w cs0 a0) {r : GR14Err} (hm : g_r14_parts a0 = some r) :
    Calls Tryd.prog 74 [.agg cs0.toArray].toArray w (Ret fun u w' => u = .agg (eGR14Err r).toArray ∧ Ext w w') := by
  obtain ⟨vp0_0, vp0_1, vp0_2, vp0_3, rfl, hrp0_0, hrp0_1, hrp0_2, hrp0_3⟩ := h0
  have hS := St.begin NB w
  unfold g_r14_parts at hm
  refine enter Tryd.func74 rfl rfl rfl ?_; intro a H; dsimp only [enumL, Nat.zero_add, Nat.reduceAdd] at H
  refine wp_seq (wp_region_lit (n_box H rfl (cs := [.int .i64 a0.Ticks, vp0_0, vp0_1, vp0_2, vp0_3, .int .i64 a0.Tries]) rfl rfl ?_))
  clear H; intro b21 w22 hN hE23 hs; clear a; intro a H
  replace hS := hS.newBlk hN hE23 hs; clear hN hs
  refine n_alloc H ze110 rfl ?_
  clear H; intro b24 w25 hN hE26 hs; clear a; intro a H
  replace hS := hS.newBlk hN hE26 hs; clear hN hs
  refine n_nil (then_normal (wp_seq (wp_seq (wp_region_lit (n_c H (fun HC => ?_)))))); clear H
  refine nc_q HC (q_fieldAddr0 rfl fo27_1) rfl (by kernel_rfl) (V_q (q_load rfl ((hS.blk 1 rfl).ld ag22 rfl)) rfl (by kernel_rfl) ?_); clear HC a; intro a HC
  obtain ⟨A27, c27, hv27, hl27, hm27⟩ := SlR.formV (hrp0_0.ext RGPlan.mono hS.x)
  refine nc_q HC (q_lenV Tryd.underlying22 rfl hv27) rfl (by kernel_rfl) (V_q (q_lssN (i := a0.Parts.length) (j := 1) rfl rfl) rfl (by kernel_rfl) (V_q (q_move rfl) rfl (by kernel_rfl) (V_g (q_fieldAddr0 rfl fo27_1) (by kernel_rfl) (by kernel_rfl) (by kernel_rfl) (V_g (q_load rfl ((hS.blk 1 rfl).ld ag22 rfl)) (by kernel_rfl) (by kernel_rfl) (by kernel_rfl) (V_g (q_lenV Tryd.underlying22 rfl hv27) (by kernel_rfl) (by kernel_rfl) (by kernel_rfl) (V_g (q_gtrN (i := a0.Parts.length) (j := 8) rfl rfl) (by kernel_rfl) (by kernel_rfl) (by kernel_rfl) (V_or (j := 4) rfl rfl rfl (by kernel_rfl) (by kernel_rfl) ?_))))))); clear HC a; intro a HC
  have H := HC.has; clear HC
  refine n_nil (then_normal (c_cond H rfl (fun hc28 => ?_) (fun hc28 => ?_)))
  · replace hm := condT hm hc28
    refine wp_seq (wp_region_lit ?_)
    replace hm := bindS hm; obtain ⟨r29, hr29, hm⟩ := hm
    refine n_call H rfl en73 (g_r14_bad_w (A := A) hr29) rfl ?_
    clear H; intro x32 w30 hv; clear a; intro a H; obtain ⟨rfl, hE31⟩ := hv
    replace hS := hS.ext hE31
    refine n_storeAll H rfl rfl (vs := [.int .i64 r29.Code, .int .i64 r29.Place]) rfl sz110 (hS.blk 0 rfl) rfl (by simp) ?_
    clear H; intro w33 hN hC34 hz; clear a; intro a H; replace hS := hS.setBlk hN hC34; clear hN hz
    refine n_nil (then_normal (wp_ret (then_ret ?_)))
    obtain rfl := Option.some.inj hm
    replace hS := hS.take 1; simp only [List.take_succ_cons, List.take_zero] at hS
    refine retL H (.inr rfl) rfl (vs := [.agg #[.int .i64 r29.Code, .int .i64 r29.Place]]) (resCell rfl ((hS.blk 0 rfl).ldAll ag110 sz110) resNil) ?_
    replace hS := hS.take 0; simp only [List.take_succ_cons, List.take_zero] at hS
    exact ⟨rfl, hS.x⟩
  · replace hm := condF hm hc28
    refine wp_skip (then_normal (wp_seq (wp_seq (wp_region_lit (n_q H (q_assign rfl) rfl ?_))))); clear H a; intro a H
    refine n_nil (then_normal (wp_block ?_))
    replace hS := hS.pick 1 rfl; dsimp only [List.eraseIdx] at hS
    replace hm := bindS hm; obtain ⟨q35, hm, hm35⟩ := hm; replace hm := iter_some hm; obtain ⟨n35, hm⟩ := hm
    refine c_loop (σ := Nat × Nat) (fun (m, i36) => [(1, .pointer (some ⟨b21, 0, none⟩)), (2, .pointer (some ⟨b24, 0, none⟩)), (3, .int .i64 ((i36 : Nat) : Int))]) (fun (m, i36) wl => iterN (g_r14_parts_L8 a0) m i36 = some q35 ∧ St NB w wl [blkR b21 [.int .i64 a0.Ticks, vp0_0, vp0_1, vp0_2, vp0_3, .int .i64 a0.Tries] 27, blkR b24 [.int .i64 0, .int .i64 0] 110]) (fun (m, i36) => m) (n35, 0) H ⟨rfl, rfl, rfl, trivial⟩ ⟨hm, hS⟩ ?_
    clear H hS hm a; intro xx a w37 H hR; obtain ⟨m, i36⟩ := xx; simp only [ent, List.map_cons, List.map_nil] at H; (try dsimp only at hR); obtain ⟨hm, hS⟩ := hR
    replace hm := iterN_step hm; obtain ⟨m35, o35, rfl, hm, hn35⟩ := hm; try dsimp only [g_r14_parts_L8] at hm
    refine wp_seq (wp_seq (wp_region_lit (n_q H (q_move rfl) rfl (W_q (q_fieldAddr0 rfl fo27_1) rfl (W_q (q_load rfl ((hS.blk 0 rfl).ld ag22 rfl)) rfl (W_q (q_lenV Tryd.underlying22 rfl hv27) rfl (W_q (q_lssN (i := i36) (j := a0.Parts.length) rfl rfl) rfl ?_))))))); clear H a; intro a H
    refine n_nil (then_normal (c_cond H rfl (fun hc38 => ?_) (fun hc38 => ?_)))
    · replace hm := condT hm hc38
      have hlt39 : i36 < a0.Parts.length := of_decide_eq_true hc38
      refine wp_skip (then_normal (wp_seq (wp_block (wp_seq (wp_seq (wp_region_lit (n_q H (q_fieldAddr0 rfl fo27_1) rfl (W_q (q_load rfl ((hS.blk 0 rfl).ld ag22 rfl)) rfl (W_q (q_move rfl) rfl ?_))))))))); clear H a; intro a H
      replace hm := bindS hm; obtain ⟨x40, hx40, hm⟩ := hm
      obtain ⟨adx40, hAx40⟩ := SlR.adV (hrp0_0.ext RGPlan.mono hS.x) hv27 hx40
      obtain ⟨csx40, hclx40, ⟨vx40_0, vx40_1, vx40_2, vx40_3, rfl, hrx40_0, hrx40_1, hrx40_2, hrx40_3⟩, hcx40⟩ := SlR.elV hrp0_0 hv27 hAx40 hx40
      refine n_q H (q_ixV (i := i36) Tryd.underlying22 sz68 rfl hv27 hAx40 rfl (natI hx40)) rfl (W_q (q_load rfl (LdX.ext (ldEl ag68 sz68 rfl hcx40) hS.x)) rfl ?_); clear H a; intro a H
      replace hm := bindS hm; obtain ⟨r41, hr41, hm⟩ := hm
      refine n_call H rfl en45 (g_r10_Good_w (A := A) (⟨_, _, _, _, rfl, (hrx40_0.ext (Flat.mono _) hS.x), (hrx40_1.ext (Flat.mono _) hS.x), (hrx40_2.ext (Flat.mono _) hS.x), (hrx40_3.ext (Flat.mono _) hS.x)⟩ : RGPlan _ [.int .i64 x40.Id, .bool x40.Mobile, vx40_0, vx40_1, vx40_2, .int .i64 x40.Events, vx40_3] x40) hr41) rfl ?_
      clear H; intro x44 w42 hv; clear a; intro a H; obtain ⟨rfl, hE43⟩ := hv
      replace hS := hS.ext hE43
      refine n_q H (q_not rfl) rfl ?_; clear H a; intro a H
      refine n_nil (then_normal (c_cond H rfl (fun hc45 => ?_) (fun hc45 => ?_)))
      · replace hm := condT hm hc45
        refine wp_seq (wp_region_lit (n_q H (q_move rfl) rfl (W_q (q_build (cs := [.int .i64 8, .int .i64 ((i36 : Nat) : Int)]) ze110 bd110 pl110 rfl (by kernel_rfl)) rfl ?_))); clear H a; intro a H
        replace hS := hS.pick 1 rfl; dsimp only [List.eraseIdx] at hS
        refine n_storeAll H rfl rfl (vs := [.int .i64 8, .int .i64 ((i36 : Nat) : Int)]) rfl sz110 (hS.blk 0 rfl) rfl (by simp) ?_
        clear H; intro w46 hN hC47 hz; clear a; intro a H; replace hS := hS.setBlk hN hC47; clear hN hz
        refine n_nil (then_normal (wp_ret (then_ret (block_ret (then_ret (then_ret (block_ret (then_ret ?_))))))))
        obtain rfl := Option.some.inj hm; have hz : _ = q35 := hn35; subst hz; replace hm := hm35; try dsimp only at hm
        obtain rfl := Option.some.inj hm
        replace hS := hS.take 1; simp only [List.take_succ_cons, List.take_zero] at hS
        refine retL H (.inr rfl) rfl (vs := [.agg #[.int .i64 8, .int .i64 ((i36 : Nat) : Int)]]) (resCell rfl ((hS.blk 0 rfl).ldAll ag110 sz110) resNil) ?_
        replace hS := hS.take 0; simp only [List.take_succ_cons, List.take_zero] at hS
        exact ⟨rfl, hS.x⟩
      · replace hm := condF hm hc45
        refine wp_skip (then_normal (wp_seq (wp_region_lit (n_q H (q_fieldAddr0 rfl fo27_1) rfl (W_q (q_load rfl ((hS.blk 0 rfl).ld ag22 rfl)) rfl (W_q (q_move rfl) rfl ?_)))))); clear H a; intro a H
        replace hm := bindS hm; obtain ⟨x48, hx48, hm⟩ := hm
        obtain ⟨adx48, hAx48⟩ := SlR.adV (hrp0_0.ext RGPlan.mono hS.x) hv27 hx48
        obtain ⟨csx48, hclx48, ⟨vx48_0, vx48_1, vx48_2, vx48_3, rfl, hrx48_0, hrx48_1, hrx48_2, hrx48_3⟩, hcx48⟩ := SlR.elV hrp0_0 hv27 hAx48 hx48
        refine n_q H (q_ixV (i := i36) Tryd.underlying22 sz68 rfl hv27 hAx48 rfl (natI hx48)) rfl (W_q (q_fieldAddr rfl fo68_0) rfl (W_q (q_load rfl (LdX.ext (ldElC (j := 0) ag3 hcx48 rfl) hS.x)) rfl (W_q (q_move rfl) rfl (W_q (q_neqD rfl rfl) rfl ?_)))); clear H a; intro a H
        refine n_nil (then_normal (c_cond H rfl (fun hc49 => ?_) (fun hc49 => ?_)))
        · replace hm := condT hm hc49
          refine wp_seq (wp_region_lit (n_q H (q_move rfl) rfl (W_q (q_build (cs := [.int .i64 12, .int .i64 ((i36 : Nat) : Int)]) ze110 bd110 pl110 rfl (by kernel_rfl)) rfl ?_))); clear H a; intro a H
          replace hS := hS.pick 1 rfl; dsimp only [List.eraseIdx] at hS
          refine n_storeAll H rfl rfl (vs := [.int .i64 12, .int .i64 ((i36 : Nat) : Int)]) rfl sz110 (hS.blk 0 rfl) rfl (by simp) ?_
          clear H; intro w50 hN hC51 hz; clear a; intro a H; replace hS := hS.setBlk hN hC51; clear hN hz
          refine n_nil (then_normal (wp_ret (block_ret (then_ret (then_ret (block_ret (then_ret ?_)))))))
          obtain rfl := Option.some.inj hm; have hz : _ = q35 := hn35; subst hz; replace hm := hm35; try dsimp only at hm
          obtain rfl := Option.some.inj hm
          replace hS := hS.take 1; simp only [List.take_succ_cons, List.take_zero] at hS
          refine retL H (.inr rfl) rfl (vs := [.agg #[.int .i64 12, .int .i64 ((i36 : Nat) : Int)]]) (resCell rfl ((hS.blk 0 rfl).ldAll ag110 sz110) resNil) ?_
          replace hS := hS.take 0; simp only [List.take_succ_cons, List.take_zero] at hS
          exact ⟨rfl, hS.x⟩
        · replace hm := condF hm hc49
          refine wp_skip (block_normal (then_normal (wp_region_lit (n_q H (q_move rfl) rfl (W_q (q_incr (i := i36) (j := 1) rfl rfl (by omega)) rfl (W_q (q_assign rfl) rfl ?_)))))); clear H a; intro a H
          refine n_nil (then_normal ?_)
          obtain rfl := Option.some.inj hm
          exact round (m35, i36 + 1) H ⟨rfl, rfl, rfl, trivial⟩ ⟨hn35, hS⟩ (Nat.lt_succ_self _)
    · replace hm := condF hm hc38
      refine wp_exit (then_exit (then_exit (block_exit ?_)))
      obtain rfl := Option.some.inj hm; have hz : _ = q35 := hn35; subst hz; replace hm := hm35; try dsimp only at hm
      refine then_normal (wp_seq (wp_seq (wp_region_lit (n_q H (q_fieldAddr0 rfl fo27_2) rfl (W_q (q_load rfl ((hS.blk 0 rfl).ld ag23 rfl)) rfl ?_))))); clear H a; intro a H
      obtain ⟨A52, c52, hv52, hl52, hm52⟩ := SlR.formV (hrp0_1.ext (Flat.mono _) hS.x)
      refine n_q H (q_lenV Tryd.underlying23 rfl hv52) rfl (W_q (q_fieldAddr0 rfl fo27_1) rfl (W_q (q_load rfl ((hS.blk 0 rfl).ld ag22 rfl)) rfl (W_q (q_lenV Tryd.underlying22 rfl hv27) rfl (W_q (q_neqN (i := a0.Homes.length) (j := a0.Parts.length) rfl rfl) rfl ?_)))); clear H a; intro a H
      refine n_nil (then_normal (c_cond H rfl (fun hc53 => ?_) (fun hc53 => ?_)))
      · replace hm := condT hm hc53
        refine wp_seq (wp_region_lit ?_)
        replace hm := bindS hm; obtain ⟨r54, hr54, hm⟩ := hm
        refine n_call H rfl en73 (g_r14_bad_w (A := A) hr54) rfl ?_
        clear H; intro x57 w55 hv; clear a; intro a H; obtain ⟨rfl, hE56⟩ := hv
        replace hS := hS.ext hE56
        replace hS := hS.pick 1 rfl; dsimp only [List.eraseIdx] at hS
        refine n_storeAll H rfl rfl (vs := [.int .i64 r54.Code, .int .i64 r54.Place]) rfl sz110 (hS.blk 0 rfl) rfl (by simp) ?_
        clear H; intro w58 hN hC59 hz; clear a; intro a H; replace hS := hS.setBlk hN hC59; clear hN hz
        refine n_nil (then_normal (wp_ret (then_ret ?_)))
        obtain rfl := Option.some.inj hm
        replace hS := hS.take 1; simp only [List.take_succ_cons, List.take_zero] at hS
        refine retL H (.inr rfl) rfl (vs := [.agg #[.int .i64 r54.Code, .int .i64 r54.Place]]) (resCell rfl ((hS.blk 0 rfl).ldAll ag110 sz110) resNil) ?_
        replace hS := hS.take 0; simp only [List.take_succ_cons, List.take_zero] at hS
        exact ⟨rfl, hS.x⟩
      · replace hm := condF hm hc53
        refine wp_skip (then_normal (wp_seq (wp_seq (wp_region_lit (n_q H (q_assign rfl) rfl ?_))))); clear H a; intro a H
        refine n_nil (then_normal (wp_block ?_))
        replace hm := bindS hm; obtain ⟨q60, hm, hm60⟩ := hm; replace hm := iter_some hm; obtain ⟨n60, hm⟩ := hm
        refine c_loop (σ := Nat × Nat) (fun (m, i61) => [(1, .pointer (some ⟨b21, 0, none⟩)), (2, .pointer (some ⟨b24, 0, none⟩)), (4, .int .i64 ((i61 : Nat) : Int))]) (fun (m, i61) wl => iterN (g_r14_parts_L7 a0) m i61 = some q60 ∧ St NB w wl [blkR b21 [.int .i64 a0.Ticks, vp0_0, vp0_1, vp0_2, vp0_3, .int .i64 a0.Tries] 27, blkR b24 [.int .i64 0, .int .i64 0] 110]) (fun (m, i61) => m) (n60, 0) H ⟨rfl, rfl, rfl, trivial⟩ ⟨hm, hS⟩ ?_
        clear H hS hm a; intro xx a w62 H hR; obtain ⟨m, i61⟩ := xx; simp only [ent, List.map_cons, List.map_nil] at H; (try dsimp only at hR); obtain ⟨hm, hS⟩ := hR
        replace hm := iterN_step hm; obtain ⟨m60, o60, rfl, hm, hn60⟩ := hm; try dsimp only [g_r14_parts_L7] at hm
        refine wp_seq (wp_seq (wp_region_lit (n_q H (q_move rfl) rfl (W_q (q_fieldAddr0 rfl fo27_2) rfl (W_q (q_load rfl ((hS.blk 0 rfl).ld ag23 rfl)) rfl (W_q (q_lenV Tryd.underlying23 rfl hv52) rfl (W_q (q_lssN (i := i61) (j := a0.Homes.length) rfl rfl) rfl ?_))))))); clear H a; intro a H
        refine n_nil (then_normal (c_cond H rfl (fun hc63 => ?_) (fun hc63 => ?_)))
        · replace hm := condT hm hc63
          have hlt64 : i61 < a0.Homes.length := of_decide_eq_true hc63
          refine wp_skip (then_normal (wp_seq (wp_block ?_)))
          replace hm := bindS hm; obtain ⟨j65, hm, hm65⟩ := hm
          refine c_join (σ := Bool) H (fun q566 => [(1, .pointer (some ⟨b21, 0, none⟩)), (2, .pointer (some ⟨b24, 0, none⟩)), (4, .int .i64 ((i61 : Nat) : Int)), (70, .bool q566)]) (fun q566 wl => (g_r14_parts_J6 i61) q566 = some o60 ∧ St NB w wl [blkR b21 [.int .i64 a0.Ticks, vp0_0, vp0_1, vp0_2, vp0_3, .int .i64 a0.Tries] 27, blkR b24 [.int .i64 0, .int .i64 0] 110]) ?_ ?_
          · skip
            refine wp_region_lit (n_q H (q_fieldAddr0 rfl fo27_2) rfl (W_q (q_load rfl ((hS.blk 0 rfl).ld ag23 rfl)) rfl (W_q (q_move rfl) rfl ?_))); clear H a; intro a H
            replace hm := bindS hm; obtain ⟨x567, hx567, hm⟩ := hm
            obtain ⟨adx567, hAx567⟩ := SlR.adV (hrp0_1.ext (Flat.mono _) hS.x) hv52 hx567
            refine n_q H (q_ixV (i := i61) Tryd.underlying23 sz3 rfl hv52 hAx567 rfl (natI hx567)) rfl (W_q (q_load rfl (SlR.ldOneV (hrp0_1.ext (Flat.mono _) hS.x) hv52 hAx567 ag3 hx567 rfl)) rfl (W_q (q_neqD rfl rfl) rfl (W_q (q_move rfl) rfl ?_))); clear H a; intro a H
            rcases Bool.eq_false_or_eq_true (!decide (x567 = 0)) with hg568 | hg568
            · replace H := H.know 63 rfl hg568
              replace hm := condT hm hg568
              refine n_yes H rfl rfl (n_q H (q_fieldAddr0 rfl fo27_2) rfl (W_yes rfl rfl (W_q (q_load rfl ((hS.blk 0 rfl).ld ag23 rfl)) rfl (W_yes rfl rfl (W_q (q_move rfl) rfl (W_yes rfl rfl ?_)))))); clear H a; intro a H
              replace hm := bindS hm; obtain ⟨x569, hx569, hm⟩ := hm
              obtain ⟨adx569, hAx569⟩ := SlR.adV (hrp0_1.ext (Flat.mono _) hS.x) hv52 hx569
              refine n_q H (q_ixV (i := i61) Tryd.underlying23 sz3 rfl hv52 hAx569 rfl (natI hx569)) rfl (W_yes rfl rfl (W_q (q_load rfl (SlR.ldOneV (hrp0_1.ext (Flat.mono _) hS.x) hv52 hAx569 ag3 hx569 rfl)) rfl (W_yes rfl rfl (W_q (q_neqD rfl rfl) rfl (W_q (q_pickT rfl rfl) rfl ?_))))); clear H a; intro a H
              refine n_nil (then_normal ?_)
              obtain rfl := Option.some.inj hm; replace hm := hm65; try dsimp only at hm
              exact join (!decide (x569 = 1)) H ⟨rfl, rfl, rfl, rfl, trivial⟩ ⟨hm, hS⟩
            · replace H := H.know 63 rfl hg568
              replace hm := condF hm hg568
              refine n_no H rfl rfl (by decide) rfl (W_no rfl rfl (by decide) rfl (W_no rfl rfl (by decide) rfl (W_no rfl rfl (by decide) rfl (W_no rfl rfl (by decide) rfl (W_no rfl rfl (by decide) rfl (W_q (q_pickF rfl rfl) rfl ?_)))))); clear H a; intro a H
              refine n_nil (then_normal ?_)
              obtain rfl := Option.some.inj hm; replace hm := hm65; try dsimp only at hm
              exact join false H ⟨rfl, rfl, rfl, rfl, trivial⟩ ⟨hm, hS⟩
          · clear H hS hm a; intro q566 a w570 H hR
            simp only [ent, List.map_cons, List.map_nil] at H; (try dsimp only at hR); obtain ⟨hm, hS⟩ := hR; try dsimp only [g_r14_parts_J6] at hm
            refine c_cond H rfl (fun hc571 => ?_) (fun hc571 => ?_)
            · replace hm := condT hm hc571
              refine wp_seq (wp_region_lit (n_q H (q_move rfl) rfl (W_q (q_build (cs := [.int .i64 4, .int .i64 ((i61 : Nat) : Int)]) ze110 bd110 pl110 rfl (by kernel_rfl)) rfl ?_))); clear H a; intro a H
              replace hS := hS.pick 1 rfl; dsimp only [List.eraseIdx] at hS
              refine n_storeAll H rfl rfl (vs := [.int .i64 4, .int .i64 ((i61 : Nat) : Int)]) rfl sz110 (hS.blk 0 rfl) rfl (by simp) ?_
              clear H; intro w572 hN hC573 hz; clear a; intro a H; replace hS := hS.setBlk hN hC573; clear hN hz
              refine n_nil (then_normal (wp_ret (block_ret (then_ret (then_ret (block_ret (then_ret ?_)))))))
              obtain rfl := Option.some.inj hm; have hz : _ = q60 := hn60; subst hz; replace hm := hm60; try dsimp only at hm
              obtain rfl := Option.some.inj hm
              replace hS := hS.take 1; simp only [List.take_succ_cons, List.take_zero] at hS
              refine retL H (.inr rfl) rfl (vs := [.agg #[.int .i64 4, .int .i64 ((i61 : Nat) : Int)]]) (resCell rfl ((hS.blk 0 rfl).ldAll ag110 sz110) resNil) ?_
              replace hS := hS.take 0; simp only [List.take_succ_cons, List.take_zero] at hS
              exact ⟨rfl, hS.x⟩
            · replace hm := condF hm hc571
              refine wp_skip (block_normal (then_normal (wp_region_lit (n_q H (q_move rfl) rfl (W_q (q_incr (i := i61) (j := 1) rfl rfl (by omega)) rfl (W_q (q_assign rfl) rfl ?_)))))); clear H a; intro a H
              refine n_nil (then_normal ?_)
              obtain rfl := Option.some.inj hm
              exact round (m60, i61 + 1) H ⟨rfl, rfl, rfl, trivial⟩ ⟨hn60, hS⟩ (Nat.lt_succ_self _)
        · replace hm := condF hm hc63
          refine wp_exit (then_exit (then_exit (block_exit ?_)))
          obtain rfl := Option.some.inj hm; have hz : _ = q60 := hn60; subst hz; replace hm := hm60; try dsimp only at hm
          refine then_normal (wp_seq (wp_region_lit ?_))
          replace hm := bindS hm; obtain ⟨r574, hr574, hm⟩ := hm
          refine n_call H rfl en78 (g_r14_none_w (A := A) hr574) rfl ?_
          clear H; intro x577 w575 hv; clear a; intro a H; obtain ⟨rfl, hE576⟩ := hv
          replace hS := hS.ext hE576
          replace hS := hS.pick 1 rfl; dsimp only [List.eraseIdx] at hS
          refine n_storeAll H rfl rfl (vs := [.int .i64 r574.Code, .int .i64 r574.Place]) rfl sz110 (hS.blk 0 rfl) rfl (by simp) ?_
          clear H; intro w578 hN hC579 hz; clear a; intro a H; replace hS := hS.setBlk hN hC579; clear hN hz
          refine n_nil (then_normal (wp_ret ?_))
          obtain rfl := Option.some.inj hm
          replace hS := hS.take 1; simp only [List.take_succ_cons, List.take_zero] at hS
          refine retL H (.inr rfl) rfl (vs := [.agg #[.int .i64 r574.Code, .int .i64 r574.Place]]) (resCell rfl ((hS.blk 0 rfl).ldAll ag110 sz110) resNil) ?_
          replace hS := hS.take 0; simp only [List.take_succ_cons, List.take_zero] at hS
          exact ⟨rfl, hS.x⟩
theorem g_r14_count_w {w : World} {A : Nat → Addr} {cs0 : List Value} {a0 : GConfig} {a1 : Int} (h0 : RGConfig w cs0 a0) {r : Int} (hm : g_r14_count a0 a1 = some r) :
    Calls Tryd.prog 77 [.agg cs0.toArray, .int .i64 a1].toArray w (Ret fun u w' => u = .int .i64 r ∧ Ext w w') := by
  obtain ⟨vp0_0, vp0_1, vp0_2, vp0_3, rfl, hrp0_0, hrp0_1, hrp0_2, hrp0_3⟩ := h0
  have hS := St.begin NB w
  unfold g_r14_count at hm
  refine enter Tryd.func77 rfl rfl rfl ?_; intro a H; dsimp only [enumL, Nat.zero_add, Nat.reduceAdd] at H
  refine wp_seq (wp_region_lit (n_box H rfl (cs := [.int .i64 a0.Ticks, vp0_0, vp0_1, vp0_2, vp0_3, .int .i64 a0.Tries]) rfl rfl ?_))
  clear H; intro b21 w22 hN hE23 hs; clear a; intro a H
  replace hS := hS.newBlk hN hE23 hs; clear hN hs
  refine n_q H (q_assign rfl) rfl ?_; clear H a; intro a H
  refine n_nil (then_normal (wp_seq (wp_region_lit (n_q H (q_assign rfl) rfl ?_)))); clear H a; intro a H
  refine n_nil (then_normal (wp_seq (wp_seq (wp_region_lit (n_q H (q_assign rfl) rfl ?_))))); clear H a; intro a H
  refine n_nil (then_normal (wp_block ?_))
  replace hm := bindS hm; obtain ⟨q24, hm, hm24⟩ := hm; replace hm := iter_some hm; obtain ⟨n24, hm⟩ := hm
  refine c_loop (σ := Nat × Int × Nat) (fun (m, z27, i26) => [(1, .int .i64 a1), (2, .pointer (some ⟨b21, 0, none⟩)), (5, .int .i64 z27), (6, .int .i64 ((i26 : Nat) : Int))]) (fun (m, z27, i26) wl => iterN (g_r14_count_L5 a0 a1) m (z27, i26) = some q24 ∧ St NB w wl [blkR b21 [.int .i64 a0.Ticks, vp0_0, vp0_1, vp0_2, vp0_3, .int .i64 a0.Tries] 27]) (fun (m, z27, i26) => m) (n24, 0, 0) H ⟨rfl, rfl, rfl, rfl, trivial⟩ ⟨hm, hS⟩ ?_
  clear H hS hm a; intro xx a w28 H hR; obtain ⟨m, z27, i26⟩ := xx; simp only [ent, List.map_cons, List.map_nil] at H; (try dsimp only at hR); obtain ⟨hm, hS⟩ := hR
  replace hm := iterN_step hm; obtain ⟨m24, o24, rfl, hm, hn24⟩ := hm; try dsimp only [g_r14_count_L5] at hm
  refine wp_seq (wp_seq (wp_region_lit (n_q H (q_move rfl) rfl (W_q (q_fieldAddr0 rfl fo27_3) rfl (W_q (q_load rfl ((hS.blk 0 rfl).ld ag24 rfl)) rfl ?_))))); clear H a; intro a H
  obtain ⟨A29, c29, hv29, hl29, hm29⟩ := SlR.formV (hrp0_2.ext (Flat.mono _) hS.x)
  refine n_q H (q_lenV Tryd.underlying24 rfl hv29) rfl (W_q (q_lssN (i := i26) (j := a0.Windows.length) rfl rfl) rfl ?_); clear H a; intro a H
  refine n_nil (then_normal (c_cond H rfl (fun hc30 => ?_) (fun hc30 => ?_)))
  · replace hm := condT hm hc30
    have hlt31 : i26 < a0.Windows.length := of_decide_eq_true hc30
    refine wp_skip (then_normal ?_)
    replace hm := bindS hm; obtain ⟨j32, hm, hm32⟩ := hm
    refine c_join (σ := Int) H (fun z533 => [(1, .int .i64 a1), (2, .pointer (some ⟨b21, 0, none⟩)), (5, .int .i64 z533), (6, .int .i64 ((i26 : Nat) : Int))]) (fun z533 wl => (g_r14_count_J4 i26) z533 = some o24 ∧ St NB w wl [blkR b21 [.int .i64 a0.Ticks, vp0_0, vp0_1, vp0_2, vp0_3, .int .i64 a0.Tries] 27]) ?_ ?_
    · skip
      refine wp_block (wp_seq (wp_region_lit (n_q H (q_fieldAddr0 rfl fo27_3) rfl (W_q (q_load rfl ((hS.blk 0 rfl).ld ag24 rfl)) rfl (W_q (q_move rfl) rfl ?_))))); clear H a; intro a H
      replace hm := bindS hm; obtain ⟨x534, hx534, hm⟩ := hm
      obtain ⟨adx534, hAx534⟩ := SlR.adV (hrp0_2.ext (Flat.mono _) hS.x) hv29 hx534
      refine n_q H (q_ixV (i := i26) Tryd.underlying24 sz105 rfl hv29 hAx534 rfl (natI hx534)) rfl (W_q (q_fieldAddr rfl fo105_0) rfl (W_q (q_load rfl (SlR.ldCellV (j := 0) (hrp0_2.ext (Flat.mono _) hS.x) hv29 hAx534 ag3 hx534 rfl)) rfl (W_q (q_move rfl) rfl (W_q (q_eqlD rfl rfl) rfl ?_)))); clear H a; intro a H
      refine n_nil (then_normal (c_cond H rfl (fun hc535 => ?_) (fun hc535 => ?_)))
      · replace hm := condT hm hc535
        refine wp_region_lit (n_q H (q_move rfl) rfl (W_q (q_addW rfl rfl) rfl (W_q (q_assign rfl) rfl ?_))); clear H a; intro a H
        refine n_nil (block_normal (then_normal ?_))
        obtain rfl := Option.some.inj hm; replace hm := hm32; try dsimp only at hm
        exact join (IntKind.i64.wrap (z27 + 1)) H ⟨rfl, rfl, rfl, rfl, trivial⟩ ⟨hm, hS⟩
      · replace hm := condF hm hc535
        refine wp_skip (block_normal (then_normal ?_))
        obtain rfl := Option.some.inj hm; replace hm := hm32; try dsimp only at hm
        exact join z27 H ⟨rfl, rfl, rfl, rfl, trivial⟩ ⟨hm, hS⟩
    · clear H hS hm a; intro z533 a w536 H hR
      simp only [ent, List.map_cons, List.map_nil] at H; (try dsimp only at hR); obtain ⟨hm, hS⟩ := hR; try dsimp only [g_r14_count_J4] at hm
      refine wp_region_lit (n_q H (q_move rfl) rfl (W_q (q_incr (i := i26) (j := 1) rfl rfl (by omega)) rfl (W_q (q_assign rfl) rfl ?_))); clear H a; intro a H
      refine n_nil (then_normal ?_)
      obtain rfl := Option.some.inj hm
      exact round (m24, z533, i26 + 1) H ⟨rfl, rfl, rfl, rfl, trivial⟩ ⟨hn24, hS⟩ (Nat.lt_succ_self _)
  · replace hm := condF hm hc30
    refine wp_exit (then_exit (then_exit (block_exit ?_)))
    obtain rfl := Option.some.inj hm; have hz : _ = q24 := hn24; subst hz; replace hm := hm24; try dsimp only at hm
    refine then_normal (wp_seq (wp_region_lit (n_q H (q_move rfl) rfl (W_q (q_assign rfl) rfl ?_)))); clear H a; intro a H
    refine n_nil (then_normal (wp_ret ?_))
    obtain rfl := Option.some.inj hm
    replace hS := hS.take 0; simp only [List.take_succ_cons, List.take_zero] at hS
    refine ret1 H (.inr rfl) rfl rfl ?_
    exact ⟨rfl, hS.x⟩
theorem g_r14_owner_w {w : World} {A : Nat → Addr} {cs0 : List Value} {a0 : GConfig} {a1 : Int} (h0 : RGConfig w cs0 a0) {r : Bool} (hm : g_r14_owner a0 a1 = some r) :
    Calls Tryd.prog 137 [.agg cs0.toArray, .int .i64 a1].toArray w (Ret fun u w' => u = .bool r ∧ Ext w w') := by
  obtain ⟨vp0_0, vp0_1, vp0_2, vp0_3, rfl, hrp0_0, hrp0_1, hrp0_2, hrp0_3⟩ := h0
  have hS := St.begin NB w
  unfold g_r14_owner at hm
  refine enter Tryd.func137 rfl rfl rfl ?_; intro a H; dsimp only [enumL, Nat.zero_add, Nat.reduceAdd] at H
  refine wp_seq (wp_region_lit (n_box H rfl (cs := [.int .i64 a0.Ticks, vp0_0, vp0_1, vp0_2, vp0_3, .int .i64 a0.Tries]) rfl rfl ?_))
  clear H; intro b21 w22 hN hE23 hs; clear a; intro a H
  replace hS := hS.newBlk hN hE23 hs; clear hN hs
  refine n_q H (q_assign rfl) rfl ?_; clear H a; intro a H
  refine n_nil (then_normal (wp_seq (wp_region_lit (n_c H (fun HC => ?_))))); clear H
  refine nc_q HC (q_move rfl) rfl (by kernel_rfl) (V_q (q_geq rfl rfl) rfl (by kernel_rfl) (V_q (q_move rfl) rfl (by kernel_rfl) (V_g (q_move rfl) (by kernel_rfl) (by kernel_rfl) (by kernel_rfl) (V_g (q_fieldAddr0 rfl fo27_1) (by kernel_rfl) (by kernel_rfl) (by kernel_rfl) (V_g (q_load rfl ((hS.blk 0 rfl).ld ag22 rfl)) (by kernel_rfl) (by kernel_rfl) (by kernel_rfl) ?_))))); clear HC a; intro a HC
  obtain ⟨A24, c24, hv24, hl24, hm24⟩ := SlR.formV (hrp0_0.ext RGPlan.mono hS.x)
  refine nc_g HC (q_lenV Tryd.underlying22 rfl hv24) (by kernel_rfl) (by kernel_rfl) (by kernel_rfl) (V_g (q_lss rfl rfl) (by kernel_rfl) (by kernel_rfl) (by kernel_rfl) (V_and (j := 2) rfl rfl rfl (by kernel_rfl) (by kernel_rfl) (V_q (q_assign rfl) rfl (by kernel_rfl) ?_))); clear HC a; intro a HC
  have H := HC.has; clear HC
  refine n_nil (then_normal (wp_ret ?_))
  obtain rfl := Option.some.inj hm
  replace hS := hS.take 0; simp only [List.take_succ_cons, List.take_zero] at hS
  refine ret1 H (.inr rfl) rfl rfl ?_
  exact ⟨rfl, hS.x⟩
theorem g_r14_windows_w {w : World} {A : Nat → Addr} {cs0 : List Value} {a0 : GConfig} (h0 : RGConfig w cs0 a0) {r : GR14Err} (hm : g_r14_windows a0 = some r) :
    Calls Tryd.prog 75 [.agg cs0.toArray].toArray w (Ret fun u w' => u = .agg (eGR14Err r).toArray ∧ Ext w w') := by
  obtain ⟨vp0_0, vp0_1, vp0_2, vp0_3, rfl, hrp0_0, hrp0_1, hrp0_2, hrp0_3⟩ := h0
  have hS := St.begin NB w
  unfold g_r14_windows at hm
  refine enter Tryd.func75 rfl rfl rfl ?_; intro a H; dsimp only [enumL, Nat.zero_add, Nat.reduceAdd] at H
  refine wp_seq (wp_region_lit (n_box H rfl (cs := [.int .i64 a0.Ticks, vp0_0, vp0_1, vp0_2, vp0_3, .int .i64 a0.Tries]) rfl rfl ?_))
  clear H; intro b21 w22 hN hE23 hs; clear a; intro a H
  replace hS := hS.newBlk hN hE23 hs; clear hN hs
  refine n_alloc H ze110 rfl ?_
  clear H; intro b24 w25 hN hE26 hs; clear a; intro a H
  replace hS := hS.newBlk hN hE26 hs; clear hN hs
  refine n_nil (then_normal (wp_seq (wp_seq (wp_region_lit (n_q H (q_fieldAddr0 rfl fo27_3) rfl (W_q (q_load rfl ((hS.blk 1 rfl).ld ag24 rfl)) rfl ?_)))))); clear H a; intro a H
  obtain ⟨A27, c27, hv27, hl27, hm27⟩ := SlR.formV (hrp0_2.ext (Flat.mono _) hS.x)
  refine n_q H (q_lenV Tryd.underlying24 rfl hv27) rfl (W_q (q_gtrN (i := a0.Windows.length) (j := 32) rfl rfl) rfl ?_); clear H a; intro a H
  refine n_nil (then_normal (c_cond H rfl (fun hc28 => ?_) (fun hc28 => ?_)))
  · replace hm := condT hm hc28
    refine wp_seq (wp_region_lit ?_)
    replace hm := bindS hm; obtain ⟨r29, hr29, hm⟩ := hm
    refine n_call H rfl en73 (g_r14_bad_w (A := A) hr29) rfl ?_
    clear H; intro x32 w30 hv; clear a; intro a H; obtain ⟨rfl, hE31⟩ := hv
    replace hS := hS.ext hE31
    refine n_storeAll H rfl rfl (vs := [.int .i64 r29.Code, .int .i64 r29.Place]) rfl sz110 (hS.blk 0 rfl) rfl (by simp) ?_
    clear H; intro w33 hN hC34 hz; clear a; intro a H; replace hS := hS.setBlk hN hC34; clear hN hz
    refine n_nil (then_normal (wp_ret (then_ret ?_)))
    obtain rfl := Option.some.inj hm
    replace hS := hS.take 1; simp only [List.take_succ_cons, List.take_zero] at hS
    refine retL H (.inr rfl) rfl (vs := [.agg #[.int .i64 r29.Code, .int .i64 r29.Place]]) (resCell rfl ((hS.blk 0 rfl).ldAll ag110 sz110) resNil) ?_
    replace hS := hS.take 0; simp only [List.take_succ_cons, List.take_zero] at hS
    exact ⟨rfl, hS.x⟩
  · replace hm := condF hm hc28
    refine wp_skip (then_normal (wp_seq (wp_seq (wp_region_lit (n_q H (q_assign rfl) rfl ?_))))); clear H a; intro a H
    refine n_nil (then_normal (wp_block ?_))
    replace hS := hS.pick 1 rfl; dsimp only [List.eraseIdx] at hS
    replace hm := bindS hm; obtain ⟨q35, hm, hm35⟩ := hm; replace hm := iter_some hm; obtain ⟨n35, hm⟩ := hm
    refine c_loop (σ := Nat × Nat) (fun (m, i36) => [(1, .pointer (some ⟨b21, 0, none⟩)), (2, .pointer (some ⟨b24, 0, none⟩)), (3, .int .i64 ((i36 : Nat) : Int))]) (fun (m, i36) wl => iterN (g_r14_windows_L6 a0) m i36 = some q35 ∧ St NB w wl [blkR b21 [.int .i64 a0.Ticks, vp0_0, vp0_1, vp0_2, vp0_3, .int .i64 a0.Tries] 27, blkR b24 [.int .i64 0, .int .i64 0] 110]) (fun (m, i36) => m) (n35, 0) H ⟨rfl, rfl, rfl, trivial⟩ ⟨hm, hS⟩ ?_
    clear H hS hm a; intro xx a w37 H hR; obtain ⟨m, i36⟩ := xx; simp only [ent, List.map_cons, List.map_nil] at H; (try dsimp only at hR); obtain ⟨hm, hS⟩ := hR
    replace hm := iterN_step hm; obtain ⟨m35, o35, rfl, hm, hn35⟩ := hm; try dsimp only [g_r14_windows_L6] at hm
    refine wp_seq (wp_seq (wp_region_lit (n_q H (q_move rfl) rfl (W_q (q_fieldAddr0 rfl fo27_3) rfl (W_q (q_load rfl ((hS.blk 0 rfl).ld ag24 rfl)) rfl (W_q (q_lenV Tryd.underlying24 rfl hv27) rfl (W_q (q_lssN (i := i36) (j := a0.Windows.length) rfl rfl) rfl ?_))))))); clear H a; intro a H
    refine n_nil (then_normal (c_cond H rfl (fun hc38 => ?_) (fun hc38 => ?_)))
    · replace hm := condT hm hc38
      have hlt39 : i36 < a0.Windows.length := of_decide_eq_true hc38
      refine wp_skip (then_normal (wp_seq (wp_block (wp_seq (wp_region_lit (n_q H (q_fieldAddr0 rfl fo27_3) rfl (W_q (q_load rfl ((hS.blk 0 rfl).ld ag24 rfl)) rfl (W_q (q_move rfl) rfl ?_)))))))); clear H a; intro a H
      replace hm := bindS hm; obtain ⟨x40, hx40, hm⟩ := hm
      obtain ⟨adx40, hAx40⟩ := SlR.adV (hrp0_2.ext (Flat.mono _) hS.x) hv27 hx40
      refine n_q H (q_ixV (i := i36) Tryd.underlying24 sz105 rfl hv27 hAx40 rfl (natI hx40)) rfl (W_q (q_load rfl (SlR.ldAggV (hrp0_2.ext (Flat.mono _) hS.x) hv27 hAx40 ag105 sz105 hx40)) rfl ?_); clear H a; intro a H
      refine n_alloc H ze105 rfl ?_
      clear H; intro b41 w42 hN hE43 hs; clear a; intro a H
      replace hS := hS.newBlk hN hE43 hs; clear hN hs
      refine n_storeAll H rfl rfl (vs := [.int .i64 x40.Part, .int .i64 x40.Start, .int .i64 x40.Len]) rfl sz105 (hS.blk 0 rfl) rfl (by simp) ?_
      clear H; intro w44 hN hC45 hz; clear a; intro a H; replace hS := hS.setBlk hN hC45; clear hN hz
      refine n_nil (then_normal (wp_seq (wp_seq (wp_region_lit (n_q H (q_load rfl ((hS.blk 1 rfl).ldAll ag27 sz27)) rfl (W_q (q_fieldAddr0 rfl fo105_0) rfl (W_q (q_load rfl ((hS.blk 0 rfl).ld ag3 rfl)) rfl ?_))))))); clear H a; intro a H
      replace hm := bindS hm; obtain ⟨r46, hr46, hm⟩ := hm
      refine n_call H rfl en137 (g_r14_owner_w (A := A) (⟨_, _, _, _, rfl, (hrp0_0.ext RGPlan.mono hS.x), (hrp0_1.ext (Flat.mono _) hS.x), (hrp0_2.ext (Flat.mono _) hS.x), (hrp0_3.ext (Flat.mono _) hS.x)⟩ : RGConfig _ [.int .i64 a0.Ticks, vp0_0, vp0_1, vp0_2, vp0_3, .int .i64 a0.Tries] a0) hr46) rfl ?_
      clear H; intro x49 w47 hv; clear a; intro a H; obtain ⟨rfl, hE48⟩ := hv
      replace hS := hS.ext hE48
      refine n_q H (q_not rfl) rfl ?_; clear H a; intro a H
      refine n_nil (then_normal (c_cond H rfl (fun hc50 => ?_) (fun hc50 => ?_)))
      · replace hm := condT hm hc50
        refine wp_seq (wp_region_lit (n_q H (q_move rfl) rfl (W_q (q_build (cs := [.int .i64 12, .int .i64 ((i36 : Nat) : Int)]) ze110 bd110 pl110 rfl (by kernel_rfl)) rfl ?_))); clear H a; intro a H
        replace hS := hS.pick 2 rfl; dsimp only [List.eraseIdx] at hS
        refine n_storeAll H rfl rfl (vs := [.int .i64 12, .int .i64 ((i36 : Nat) : Int)]) rfl sz110 (hS.blk 0 rfl) rfl (by simp) ?_
        clear H; intro w51 hN hC52 hz; clear a; intro a H; replace hS := hS.setBlk hN hC52; clear hN hz
        refine n_nil (then_normal (wp_ret (then_ret (block_ret (then_ret (then_ret (block_ret (then_ret ?_))))))))
        obtain rfl := Option.some.inj hm; have hz : _ = q35 := hn35; subst hz; replace hm := hm35; try dsimp only at hm
        obtain rfl := Option.some.inj hm
        replace hS := hS.take 1; simp only [List.take_succ_cons, List.take_zero] at hS
        refine retL H (.inr rfl) rfl (vs := [.agg #[.int .i64 12, .int .i64 ((i36 : Nat) : Int)]]) (resCell rfl ((hS.blk 0 rfl).ldAll ag110 sz110) resNil) ?_
        replace hS := hS.take 0; simp only [List.take_succ_cons, List.take_zero] at hS
        exact ⟨rfl, hS.x⟩
      · replace hm := condF hm hc50
        refine wp_skip (then_normal (wp_seq (wp_seq (wp_region_lit (n_c H (fun HC => ?_)))))); clear H
        refine nc_q HC (q_fieldAddr0 rfl fo105_1) rfl (by kernel_rfl) (V_q (q_load rfl ((hS.blk 0 rfl).ld ag3 rfl)) rfl (by kernel_rfl) (V_q (q_lss rfl rfl) rfl (by kernel_rfl) (V_q (q_move rfl) rfl (by kernel_rfl) (V_g (q_fieldAddr0 rfl fo105_2) (by kernel_rfl) (by kernel_rfl) (by kernel_rfl) (V_g (q_load rfl ((hS.blk 0 rfl).ld ag3 rfl)) (by kernel_rfl) (by kernel_rfl) (by kernel_rfl) (V_g (q_lss rfl rfl) (by kernel_rfl) (by kernel_rfl) (by kernel_rfl) (V_or (j := 3) rfl rfl rfl (by kernel_rfl) (by kernel_rfl) (V_q (q_move rfl) rfl (by kernel_rfl) (V_g (q_fieldAddr0 rfl fo105_1) (by kernel_rfl) (by kernel_rfl) (by kernel_rfl) (V_g (q_load rfl ((hS.blk 0 rfl).ld ag3 rfl)) (by kernel_rfl) (by kernel_rfl) (by kernel_rfl) (V_g (q_fieldAddr0 rfl fo27_0) (by kernel_rfl) (by kernel_rfl) (by kernel_rfl) ?_))))))))))); clear HC a; intro a HC
        refine nc_g HC (q_load rfl ((hS.blk 1 rfl).ld ag3 rfl)) (by kernel_rfl) (by kernel_rfl) (by kernel_rfl) (V_g (q_geq rfl rfl) (by kernel_rfl) (by kernel_rfl) (by kernel_rfl) (V_or (j := 8) rfl rfl rfl (by kernel_rfl) (by kernel_rfl) (V_q (q_move rfl) rfl (by kernel_rfl) (V_g (q_fieldAddr0 rfl fo105_2) (by kernel_rfl) (by kernel_rfl) (by kernel_rfl) (V_g (q_load rfl ((hS.blk 0 rfl).ld ag3 rfl)) (by kernel_rfl) (by kernel_rfl) (by kernel_rfl) (V_g (q_fieldAddr0 rfl fo27_0) (by kernel_rfl) (by kernel_rfl) (by kernel_rfl) (V_g (q_load rfl ((hS.blk 1 rfl).ld ag3 rfl)) (by kernel_rfl) (by kernel_rfl) (by kernel_rfl) (V_g (q_fieldAddr0 rfl fo105_1) (by kernel_rfl) (by kernel_rfl) (by kernel_rfl) (V_g (q_load rfl ((hS.blk 0 rfl).ld ag3 rfl)) (by kernel_rfl) (by kernel_rfl) (by kernel_rfl) (V_g (q_subW rfl rfl) (by kernel_rfl) (by kernel_rfl) (by kernel_rfl) (V_g (q_gtr rfl rfl) (by kernel_rfl) (by kernel_rfl) (by kernel_rfl) ?_))))))))))); clear HC a; intro a HC
        refine nc_or (j := 15) HC rfl rfl rfl (by kernel_rfl) (by kernel_rfl) ?_; clear HC a; intro a HC
        have H := HC.has; clear HC
        refine n_nil (then_normal (c_cond H rfl (fun hc53 => ?_) (fun hc53 => ?_)))
        · replace hm := condT hm hc53
          refine wp_seq (wp_region_lit (n_q H (q_move rfl) rfl (W_q (q_build (cs := [.int .i64 4, .int .i64 ((i36 : Nat) : Int)]) ze110 bd110 pl110 rfl (by kernel_rfl)) rfl ?_))); clear H a; intro a H
          replace hS := hS.pick 2 rfl; dsimp only [List.eraseIdx] at hS
          refine n_storeAll H rfl rfl (vs := [.int .i64 4, .int .i64 ((i36 : Nat) : Int)]) rfl sz110 (hS.blk 0 rfl) rfl (by simp) ?_
          clear H; intro w54 hN hC55 hz; clear a; intro a H; replace hS := hS.setBlk hN hC55; clear hN hz
          refine n_nil (then_normal (wp_ret (then_ret (block_ret (then_ret (then_ret (block_ret (then_ret ?_))))))))
          obtain rfl := Option.some.inj hm; have hz : _ = q35 := hn35; subst hz; replace hm := hm35; try dsimp only at hm
          obtain rfl := Option.some.inj hm
          replace hS := hS.take 1; simp only [List.take_succ_cons, List.take_zero] at hS
          refine retL H (.inr rfl) rfl (vs := [.agg #[.int .i64 4, .int .i64 ((i36 : Nat) : Int)]]) (resCell rfl ((hS.blk 0 rfl).ldAll ag110 sz110) resNil) ?_
          replace hS := hS.take 0; simp only [List.take_succ_cons, List.take_zero] at hS
          exact ⟨rfl, hS.x⟩
        · replace hm := condF hm hc53
          refine wp_skip (then_normal ?_)
          replace hm := bindS hm; obtain ⟨j56, hm, hm56⟩ := hm
          refine c_join (σ := Bool) H (fun q557 => [(1, .pointer (some ⟨b21, 0, none⟩)), (2, .pointer (some ⟨b24, 0, none⟩)), (3, .int .i64 ((i36 : Nat) : Int)), (78, .bool q557)]) (fun q557 wl => (g_r14_windows_J4 i36) q557 = some o35 ∧ St NB w wl [blkR b21 [.int .i64 a0.Ticks, vp0_0, vp0_1, vp0_2, vp0_3, .int .i64 a0.Tries] 27, blkR b24 [.int .i64 0, .int .i64 0] 110]) ?_ ?_
          · skip
            refine c_quiet (by kernel_rfl) (by kernel_rfl) ?_
            refine qq_q H (q_move rfl) rfl ?_; clear H a; intro a H
            refine qq_q H (q_gtrN (i := i36) (j := 0) rfl rfl) rfl ?_; clear H a; intro a H
            refine qq_q H (q_move rfl) rfl ?_; clear H a; intro a H
            rcases Bool.eq_false_or_eq_true (decide (0 < i36)) with hg558 | hg558
            · replace H := H.know 59 rfl hg558
              replace hm := condT hm hg558
              refine qq_yes H rfl rfl ?_
              refine qq_q H (q_fieldAddr0 rfl fo105_1) rfl ?_; clear H a; intro a H
              refine qq_yes H rfl rfl ?_
              refine qq_q H (q_load rfl ((hS.blk 0 rfl).ld ag3 rfl)) rfl ?_; clear H a; intro a H
              refine qq_yes H rfl rfl ?_
              refine qq_q H (q_fieldAddr0 rfl fo27_3) rfl ?_; clear H a; intro a H
              refine qq_yes H rfl rfl ?_
              refine qq_q H (q_load rfl ((hS.blk 1 rfl).ld ag24 rfl)) rfl ?_; clear H a; intro a H
              refine qq_yes H rfl rfl ?_
              refine qq_q H (q_move rfl) rfl ?_; clear H a; intro a H
              refine qq_yes H rfl rfl ?_
              refine qq_q H (q_subW rfl rfl) rfl ?_; clear H a; intro a H
              refine qq_yes H rfl rfl ?_
              replace hm := bindS hm; obtain ⟨x559, hx559, hm⟩ := hm
              obtain ⟨h0x559, h1x559, hxx559⟩ := rdI_some hx559
              obtain ⟨adx559, hAx559⟩ := SlR.adV (hrp0_2.ext (Flat.mono _) hS.x) hv27 hxx559
              refine qq_q H (q_ixVI Tryd.underlying24 sz105 rfl hv27 hAx559 rfl h0x559 h1x559) rfl ?_; clear H a; intro a H
              refine qq_yes H rfl rfl ?_
              refine qq_q H (q_fieldAddr rfl fo105_1) rfl ?_; clear H a; intro a H
              refine qq_yes H rfl rfl ?_
              refine qq_q H (q_load rfl (SlR.ldCellV (j := 1) (hrp0_2.ext (Flat.mono _) hS.x) hv27 hAx559 ag3 hxx559 rfl)) rfl ?_; clear H a; intro a H
              refine qq_yes H rfl rfl ?_
              refine qq_q H (q_fieldAddr0 rfl fo27_3) rfl ?_; clear H a; intro a H
              refine qq_yes H rfl rfl ?_
              refine qq_q H (q_load rfl ((hS.blk 1 rfl).ld ag24 rfl)) rfl ?_; clear H a; intro a H
              refine qq_yes H rfl rfl ?_
              refine qq_q H (q_move rfl) rfl ?_; clear H a; intro a H
              refine qq_yes H rfl rfl ?_
              refine qq_q H (q_subW rfl rfl) rfl ?_; clear H a; intro a H
              refine qq_yes H rfl rfl ?_
              replace hm := bindS hm; obtain ⟨x560, hx560, hm⟩ := hm
              obtain ⟨h0x560, h1x560, hxx560⟩ := rdI_some hx560
              obtain ⟨adx560, hAx560⟩ := SlR.adV (hrp0_2.ext (Flat.mono _) hS.x) hv27 hxx560
              refine qq_q H (q_ixVI Tryd.underlying24 sz105 rfl hv27 hAx560 rfl h0x560 h1x560) rfl ?_; clear H a; intro a H
              refine qq_yes H rfl rfl ?_
              refine qq_q H (q_fieldAddr rfl fo105_2) rfl ?_; clear H a; intro a H
              refine qq_yes H rfl rfl ?_
              refine qq_q H (q_load rfl (SlR.ldCellV (j := 2) (hrp0_2.ext (Flat.mono _) hS.x) hv27 hAx560 ag3 hxx560 rfl)) rfl ?_; clear H a; intro a H
              refine qq_yes H rfl rfl ?_
              refine qq_q H (q_addW rfl rfl) rfl ?_; clear H a; intro a H
              refine qq_yes H rfl rfl ?_
              refine qq_q H (q_lss rfl rfl) rfl ?_; clear H a; intro a H
              refine qq_q H (q_pickT rfl rfl) rfl ?_; clear H a; intro a H
              refine qq_nil ?_; intro w561 hE562
              replace hS := hS.ext hE562
              refine then_normal ?_
              obtain rfl := Option.some.inj hm; replace hm := hm56; try dsimp only at hm
              replace hS := hS.pick 2 rfl; dsimp only [List.eraseIdx] at hS
              replace hS := hS.pick 2 rfl; dsimp only [List.eraseIdx] at hS
              replace hS := hS.take 2; simp only [List.take_succ_cons, List.take_zero] at hS
              exact join (decide (x40.Start < (IntKind.i64.wrap (x559.Start + x560.Len)))) H ⟨rfl, rfl, rfl, rfl, trivial⟩ ⟨hm, hS⟩
            · replace H := H.know 59 rfl hg558
              replace hm := condF hm hg558
              refine qq_no H rfl rfl (by decide) rfl ?_; clear H a; intro a H
              refine qq_no H rfl rfl (by decide) rfl ?_; clear H a; intro a H
              refine qq_no H rfl rfl (by decide) rfl ?_; clear H a; intro a H
              refine qq_no H rfl rfl (by decide) rfl ?_; clear H a; intro a H
              refine qq_no H rfl rfl (by decide) rfl ?_; clear H a; intro a H
              refine qq_no H rfl rfl (by decide) rfl ?_; clear H a; intro a H
              refine qq_no H rfl rfl (by decide) rfl ?_; clear H a; intro a H
              refine qq_no H rfl rfl (by decide) rfl ?_; clear H a; intro a H
              refine qq_no H rfl rfl (by decide) rfl ?_; clear H a; intro a H
              refine qq_no H rfl rfl (by decide) rfl ?_; clear H a; intro a H
              refine qq_no H rfl rfl (by decide) rfl ?_; clear H a; intro a H
              refine qq_no H rfl rfl (by decide) rfl ?_; clear H a; intro a H
              refine qq_no H rfl rfl (by decide) rfl ?_; clear H a; intro a H
              refine qq_no H rfl rfl (by decide) rfl ?_; clear H a; intro a H
              refine qq_no H rfl rfl (by decide) rfl ?_; clear H a; intro a H
              refine qq_no H rfl rfl (by decide) rfl ?_; clear H a; intro a H
              refine qq_no H rfl rfl (by decide) rfl ?_; clear H a; intro a H
              refine qq_no H rfl rfl (by decide) rfl ?_; clear H a; intro a H
              refine qq_q H (q_pickF rfl rfl) rfl ?_; clear H a; intro a H
              refine qq_nil ?_; intro w563 hE564
              replace hS := hS.ext hE564
              refine then_normal ?_
              obtain rfl := Option.some.inj hm; replace hm := hm56; try dsimp only at hm
              replace hS := hS.pick 2 rfl; dsimp only [List.eraseIdx] at hS
              replace hS := hS.pick 2 rfl; dsimp only [List.eraseIdx] at hS
              replace hS := hS.take 2; simp only [List.take_succ_cons, List.take_zero] at hS
              exact join false H ⟨rfl, rfl, rfl, rfl, trivial⟩ ⟨hm, hS⟩
          · clear H hS hm a; intro q557 a w565 H hR
            simp only [ent, List.map_cons, List.map_nil] at H; (try dsimp only at hR); obtain ⟨hm, hS⟩ := hR; try dsimp only [g_r14_windows_J4] at hm
            refine c_cond H rfl (fun hc566 => ?_) (fun hc566 => ?_)
            · replace hm := condT hm hc566
              refine wp_seq (wp_region_lit (n_q H (q_move rfl) rfl (W_q (q_build (cs := [.int .i64 14, .int .i64 ((i36 : Nat) : Int)]) ze110 bd110 pl110 rfl (by kernel_rfl)) rfl ?_))); clear H a; intro a H
              replace hS := hS.pick 1 rfl; dsimp only [List.eraseIdx] at hS
              refine n_storeAll H rfl rfl (vs := [.int .i64 14, .int .i64 ((i36 : Nat) : Int)]) rfl sz110 (hS.blk 0 rfl) rfl (by simp) ?_
              clear H; intro w567 hN hC568 hz; clear a; intro a H; replace hS := hS.setBlk hN hC568; clear hN hz
              refine n_nil (then_normal (wp_ret (block_ret (then_ret (then_ret (block_ret (then_ret ?_)))))))
              obtain rfl := Option.some.inj hm; have hz : _ = q35 := hn35; subst hz; replace hm := hm35; try dsimp only at hm
              obtain rfl := Option.some.inj hm
              replace hS := hS.take 1; simp only [List.take_succ_cons, List.take_zero] at hS
              refine retL H (.inr rfl) rfl (vs := [.agg #[.int .i64 14, .int .i64 ((i36 : Nat) : Int)]]) (resCell rfl ((hS.blk 0 rfl).ldAll ag110 sz110) resNil) ?_
              replace hS := hS.take 0; simp only [List.take_succ_cons, List.take_zero] at hS
              exact ⟨rfl, hS.x⟩
            · replace hm := condF hm hc566
              refine wp_skip (block_normal (then_normal (wp_region_lit (n_q H (q_move rfl) rfl (W_q (q_incr (i := i36) (j := 1) rfl rfl (by omega)) rfl (W_q (q_assign rfl) rfl ?_)))))); clear H a; intro a H
              refine n_nil (then_normal ?_)
              obtain rfl := Option.some.inj hm
              exact round (m35, i36 + 1) H ⟨rfl, rfl, rfl, trivial⟩ ⟨hn35, hS⟩ (Nat.lt_succ_self _)
    · replace hm := condF hm hc38
      refine wp_exit (then_exit (then_exit (block_exit ?_)))
      obtain rfl := Option.some.inj hm; have hz : _ = q35 := hn35; subst hz; replace hm := hm35; try dsimp only at hm
      refine then_normal (wp_seq (wp_seq (wp_region_lit (n_q H (q_assign rfl) rfl ?_)))); clear H a; intro a H
      refine n_nil (then_normal (wp_block ?_))
      replace hm := bindS hm; obtain ⟨q569, hm, hm569⟩ := hm; replace hm := iter_some hm; obtain ⟨n569, hm⟩ := hm
      refine c_loop (σ := Nat × Nat) (fun (m, i570) => [(1, .pointer (some ⟨b21, 0, none⟩)), (2, .pointer (some ⟨b24, 0, none⟩)), (5, .int .i64 ((i570 : Nat) : Int))]) (fun (m, i570) wl => iterN (g_r14_windows_L5 a0) m i570 = some q569 ∧ St NB w wl [blkR b21 [.int .i64 a0.Ticks, vp0_0, vp0_1, vp0_2, vp0_3, .int .i64 a0.Tries] 27, blkR b24 [.int .i64 0, .int .i64 0] 110]) (fun (m, i570) => m) (n569, 0) H ⟨rfl, rfl, rfl, trivial⟩ ⟨hm, hS⟩ ?_
      clear H hS hm a; intro xx a w571 H hR; obtain ⟨m, i570⟩ := xx; simp only [ent, List.map_cons, List.map_nil] at H; (try dsimp only at hR); obtain ⟨hm, hS⟩ := hR
      replace hm := iterN_step hm; obtain ⟨m569, o569, rfl, hm, hn569⟩ := hm; try dsimp only [g_r14_windows_L5] at hm
      refine wp_seq (wp_seq (wp_region_lit (n_q H (q_move rfl) rfl (W_q (q_fieldAddr0 rfl fo27_1) rfl (W_q (q_load rfl ((hS.blk 0 rfl).ld ag22 rfl)) rfl ?_))))); clear H a; intro a H
      obtain ⟨A572, c572, hv572, hl572, hm572⟩ := SlR.formV (hrp0_0.ext RGPlan.mono hS.x)
      refine n_q H (q_lenV Tryd.underlying22 rfl hv572) rfl (W_q (q_lssN (i := i570) (j := a0.Parts.length) rfl rfl) rfl ?_); clear H a; intro a H
      refine n_nil (then_normal (c_cond H rfl (fun hc573 => ?_) (fun hc573 => ?_)))
      · replace hm := condT hm hc573
        have hlt574 : i570 < a0.Parts.length := of_decide_eq_true hc573
        refine wp_skip (then_normal (wp_seq (wp_block (wp_seq (wp_region_lit (n_q H (q_load rfl ((hS.blk 0 rfl).ldAll ag27 sz27)) rfl (W_q (q_move rfl) rfl ?_))))))); clear H a; intro a H
        replace hm := bindS hm; obtain ⟨r575, hr575, hm⟩ := hm
        refine n_call H rfl en77 (g_r14_count_w (A := A) (⟨_, _, _, _, rfl, (hrp0_0.ext RGPlan.mono hS.x), (hrp0_1.ext (Flat.mono _) hS.x), (hrp0_2.ext (Flat.mono _) hS.x), (hrp0_3.ext (Flat.mono _) hS.x)⟩ : RGConfig _ [.int .i64 a0.Ticks, vp0_0, vp0_1, vp0_2, vp0_3, .int .i64 a0.Tries] a0) hr575) rfl ?_
        clear H; intro x578 w576 hv; clear a; intro a H; obtain ⟨rfl, hE577⟩ := hv
        replace hS := hS.ext hE577
        refine n_q H (q_eqlD rfl rfl) rfl ?_; clear H a; intro a H
        refine n_nil (then_normal (c_cond H rfl (fun hc579 => ?_) (fun hc579 => ?_)))
        · replace hm := condT hm hc579
          refine wp_seq (wp_region_lit (n_q H (q_move rfl) rfl (W_q (q_build (cs := [.int .i64 17, .int .i64 ((i570 : Nat) : Int)]) ze110 bd110 pl110 rfl (by kernel_rfl)) rfl ?_))); clear H a; intro a H
          replace hS := hS.pick 1 rfl; dsimp only [List.eraseIdx] at hS
          refine n_storeAll H rfl rfl (vs := [.int .i64 17, .int .i64 ((i570 : Nat) : Int)]) rfl sz110 (hS.blk 0 rfl) rfl (by simp) ?_
          clear H; intro w580 hN hC581 hz; clear a; intro a H; replace hS := hS.setBlk hN hC581; clear hN hz
          refine n_nil (then_normal (wp_ret (block_ret (then_ret (then_ret (block_ret (then_ret ?_)))))))
          obtain rfl := Option.some.inj hm; have hz : _ = q569 := hn569; subst hz; replace hm := hm569; try dsimp only at hm
          obtain rfl := Option.some.inj hm
          replace hS := hS.take 1; simp only [List.take_succ_cons, List.take_zero] at hS
          refine retL H (.inr rfl) rfl (vs := [.agg #[.int .i64 17, .int .i64 ((i570 : Nat) : Int)]]) (resCell rfl ((hS.blk 0 rfl).ldAll ag110 sz110) resNil) ?_
          replace hS := hS.take 0; simp only [List.take_succ_cons, List.take_zero] at hS
          exact ⟨rfl, hS.x⟩
        · replace hm := condF hm hc579
          refine wp_skip (block_normal (then_normal (wp_region_lit (n_q H (q_move rfl) rfl (W_q (q_incr (i := i570) (j := 1) rfl rfl (by omega)) rfl (W_q (q_assign rfl) rfl ?_)))))); clear H a; intro a H
          refine n_nil (then_normal ?_)
          obtain rfl := Option.some.inj hm
          exact round (m569, i570 + 1) H ⟨rfl, rfl, rfl, trivial⟩ ⟨hn569, hS⟩ (Nat.lt_succ_self _)
      · replace hm := condF hm hc573
        refine wp_exit (then_exit (then_exit (block_exit ?_)))
        obtain rfl := Option.some.inj hm; have hz : _ = q569 := hn569; subst hz; replace hm := hm569; try dsimp only at hm
        refine then_normal (wp_seq (wp_region_lit ?_))
        replace hm := bindS hm; obtain ⟨r582, hr582, hm⟩ := hm
        refine n_call H rfl en78 (g_r14_none_w (A := A) hr582) rfl ?_
        clear H; intro x585 w583 hv; clear a; intro a H; obtain ⟨rfl, hE584⟩ := hv
        replace hS := hS.ext hE584
        replace hS := hS.pick 1 rfl; dsimp only [List.eraseIdx] at hS
        refine n_storeAll H rfl rfl (vs := [.int .i64 r582.Code, .int .i64 r582.Place]) rfl sz110 (hS.blk 0 rfl) rfl (by simp) ?_
        clear H; intro w586 hN hC587 hz; clear a; intro a H; replace hS := hS.setBlk hN hC587; clear hN hz
        refine n_nil (then_normal (wp_ret ?_))
        obtain rfl := Option.some.inj hm
        replace hS := hS.take 1; simp only [List.take_succ_cons, List.take_zero] at hS
        refine retL H (.inr rfl) rfl (vs := [.agg #[.int .i64 r582.Code, .int .i64 r582.Place]]) (resCell rfl ((hS.blk 0 rfl).ldAll ag110 sz110) resNil) ?_
        replace hS := hS.take 0; simp only [List.take_succ_cons, List.take_zero] at hS
        exact ⟨rfl, hS.x⟩
theorem g_r14_kind_w {w : World} {A : Nat → Addr} {cs0 : List Value} {a0 : GConfig} {a1 : Int} {a2 : Int} (h0 : RGConfig w cs0 a0) {r : Int} (hm : g_r14_kind a0 a1 a2 = some r) :
    Calls Tryd.prog 138 [.agg cs0.toArray, .int .i64 a1, .int .i64 a2].toArray w (Ret fun u w' => u = .int .i64 r ∧ Ext w w') := by
  obtain ⟨vp0_0, vp0_1, vp0_2, vp0_3, rfl, hrp0_0, hrp0_1, hrp0_2, hrp0_3⟩ := h0
  have hS := St.begin NB w
  unfold g_r14_kind at hm
  refine enter Tryd.func138 rfl rfl rfl ?_; intro a H; dsimp only [enumL, Nat.zero_add, Nat.reduceAdd] at H
  refine wp_seq (wp_region_lit (n_box H rfl (cs := [.int .i64 a0.Ticks, vp0_0, vp0_1, vp0_2, vp0_3, .int .i64 a0.Tries]) rfl rfl ?_))
  clear H; intro b21 w22 hN hE23 hs; clear a; intro a H
  replace hS := hS.newBlk hN hE23 hs; clear hN hs
  refine n_q H (q_assign rfl) rfl ?_; clear H a; intro a H
  refine n_nil (then_normal (wp_seq (wp_region_lit (n_q H (q_fieldAddr0 rfl fo27_1) rfl (W_q (q_load rfl ((hS.blk 0 rfl).ld ag22 rfl)) rfl (W_q (q_move rfl) rfl ?_)))))); clear H a; intro a H
  obtain ⟨A24, c24, hv24, hl24, hm24⟩ := SlR.formV (hrp0_0.ext RGPlan.mono hS.x)
  replace hm := bindS hm; obtain ⟨x25, hx25, hm⟩ := hm
  obtain ⟨h0x25, h1x25, hxx25⟩ := rdI_some hx25
  obtain ⟨adx25, hAx25⟩ := SlR.adV (hrp0_0.ext RGPlan.mono hS.x) hv24 hxx25
  obtain ⟨csx25, hclx25, ⟨vx25_0, vx25_1, vx25_2, vx25_3, rfl, hrx25_0, hrx25_1, hrx25_2, hrx25_3⟩, hcx25⟩ := SlR.elV hrp0_0 hv24 hAx25 hxx25
  refine n_q H (q_ixVI Tryd.underlying22 sz68 rfl hv24 hAx25 rfl h0x25 h1x25) rfl (W_q (q_fieldAddr rfl fo68_4) rfl (W_q (q_load rfl (LdX.ext (ldElC (j := 4) ag66 hcx25 rfl) hS.x)) rfl (W_q (q_assign rfl) rfl ?_))); clear H a; intro a H
  refine n_nil (then_normal (wp_seq (wp_seq (wp_region_lit (n_c H (fun HC => ?_)))))); clear H
  refine nc_q HC (q_move rfl) rfl (by kernel_rfl) (V_q (q_lss rfl rfl) rfl (by kernel_rfl) (V_q (q_move rfl) rfl (by kernel_rfl) (V_g (q_move rfl) (by kernel_rfl) (by kernel_rfl) (by kernel_rfl) (V_g (q_move rfl) (by kernel_rfl) (by kernel_rfl) (by kernel_rfl) ?_)))); clear HC a; intro a HC
  obtain ⟨A26, c26, hv26, hl26, hm26⟩ := SlR.formV (hrx25_2.ext (Flat.mono _) hS.x)
  refine nc_g HC (q_lenV Tryd.underlying66 rfl hv26) (by kernel_rfl) (by kernel_rfl) (by kernel_rfl) (V_g (q_geq rfl rfl) (by kernel_rfl) (by kernel_rfl) (by kernel_rfl) (V_or (j := 2) rfl rfl rfl (by kernel_rfl) (by kernel_rfl) ?_)); clear HC a; intro a HC
  have H := HC.has; clear HC
  refine n_nil (then_normal (c_cond H rfl (fun hc27 => ?_) (fun hc27 => ?_)))
  · replace hm := condT hm hc27
    refine wp_seq (wp_region_lit (n_q H (q_assign rfl) rfl ?_)); clear H a; intro a H
    refine n_nil (then_normal (wp_ret (then_ret ?_)))
    obtain rfl := Option.some.inj hm
    replace hS := hS.take 0; simp only [List.take_succ_cons, List.take_zero] at hS
    refine ret1 H (.inr rfl) rfl rfl ?_
    exact ⟨rfl, hS.x⟩
  · replace hm := condF hm hc27
    refine wp_skip (then_normal (wp_seq (wp_region_lit (n_q H (q_move rfl) rfl (W_q (q_move rfl) rfl ?_))))); clear H a; intro a H
    replace hm := bindS hm; obtain ⟨x28, hx28, hm⟩ := hm
    obtain ⟨h0x28, h1x28, hxx28⟩ := rdI_some hx28
    obtain ⟨adx28, hAx28⟩ := SlR.adV (hrx25_2.ext (Flat.mono _) hS.x) hv26 hxx28
    refine n_q H (q_ixVI Tryd.underlying66 sz169 rfl hv26 hAx28 rfl h0x28 h1x28) rfl (W_q (q_fieldAddr rfl fo169_0) rfl (W_q (q_load rfl (SlR.ldCellV (j := 0) (hrx25_2.ext (Flat.mono _) hS.x) hv26 hAx28 ag3 hxx28 rfl)) rfl (W_q (q_assign rfl) rfl ?_))); clear H a; intro a H
    refine n_nil (then_normal (wp_ret ?_))
    obtain rfl := Option.some.inj hm
    replace hS := hS.take 0; simp only [List.take_succ_cons, List.take_zero] at hS
    refine ret1 H (.inr rfl) rfl rfl ?_
    exact ⟨rfl, hS.x⟩
theorem g_r14_links_w {w : World} {A : Nat → Addr} {cs0 : List Value} {a0 : GConfig} (h0 : RGConfig w cs0 a0) {r : GR14Err} (hm : g_r14_links a0 = some r) :
    Calls Tryd.prog 76 [.agg cs0.toArray].toArray w (Ret fun u w' => u = .agg (eGR14Err r).toArray ∧ Ext w w') := by
  obtain ⟨vp0_0, vp0_1, vp0_2, vp0_3, rfl, hrp0_0, hrp0_1, hrp0_2, hrp0_3⟩ := h0
  have hS := St.begin NB w
  unfold g_r14_links at hm
  refine enter Tryd.func76 rfl rfl rfl ?_; intro a H; dsimp only [enumL, Nat.zero_add, Nat.reduceAdd] at H
  refine wp_seq (wp_region_lit (n_box H rfl (cs := [.int .i64 a0.Ticks, vp0_0, vp0_1, vp0_2, vp0_3, .int .i64 a0.Tries]) rfl rfl ?_))
  clear H; intro b21 w22 hN hE23 hs; clear a; intro a H
  replace hS := hS.newBlk hN hE23 hs; clear hN hs
  refine n_alloc H ze110 rfl ?_
  clear H; intro b24 w25 hN hE26 hs; clear a; intro a H
  replace hS := hS.newBlk hN hE26 hs; clear hN hs
  refine n_nil (then_normal (wp_seq (wp_seq (wp_region_lit (n_q H (q_fieldAddr0 rfl fo27_4) rfl (W_q (q_load rfl ((hS.blk 1 rfl).ld ag25 rfl)) rfl ?_)))))); clear H a; intro a H
  obtain ⟨A27, c27, hv27, hl27, hm27⟩ := SlR.formV (hrp0_3.ext (Flat.mono _) hS.x)
  refine n_q H (q_lenV Tryd.underlying25 rfl hv27) rfl (W_q (q_gtrN (i := a0.Links.length) (j := 16) rfl rfl) rfl ?_); clear H a; intro a H
  refine n_nil (then_normal (c_cond H rfl (fun hc28 => ?_) (fun hc28 => ?_)))
  · replace hm := condT hm hc28
    refine wp_seq (wp_region_lit ?_)
    replace hm := bindS hm; obtain ⟨r29, hr29, hm⟩ := hm
    refine n_call H rfl en73 (g_r14_bad_w (A := A) hr29) rfl ?_
    clear H; intro x32 w30 hv; clear a; intro a H; obtain ⟨rfl, hE31⟩ := hv
    replace hS := hS.ext hE31
    refine n_storeAll H rfl rfl (vs := [.int .i64 r29.Code, .int .i64 r29.Place]) rfl sz110 (hS.blk 0 rfl) rfl (by simp) ?_
    clear H; intro w33 hN hC34 hz; clear a; intro a H; replace hS := hS.setBlk hN hC34; clear hN hz
    refine n_nil (then_normal (wp_ret (then_ret ?_)))
    obtain rfl := Option.some.inj hm
    replace hS := hS.take 1; simp only [List.take_succ_cons, List.take_zero] at hS
    refine retL H (.inr rfl) rfl (vs := [.agg #[.int .i64 r29.Code, .int .i64 r29.Place]]) (resCell rfl ((hS.blk 0 rfl).ldAll ag110 sz110) resNil) ?_
    replace hS := hS.take 0; simp only [List.take_succ_cons, List.take_zero] at hS
    exact ⟨rfl, hS.x⟩
  · replace hm := condF hm hc28
    refine wp_skip (then_normal (wp_seq (wp_seq (wp_region_lit (n_q H (q_assign rfl) rfl ?_))))); clear H a; intro a H
    refine n_nil (then_normal (wp_block ?_))
    replace hS := hS.pick 1 rfl; dsimp only [List.eraseIdx] at hS
    replace hm := bindS hm; obtain ⟨q35, hm, hm35⟩ := hm; replace hm := iter_some hm; obtain ⟨n35, hm⟩ := hm
    refine c_loop (σ := Nat × Nat) (fun (m, i36) => [(1, .pointer (some ⟨b21, 0, none⟩)), (2, .pointer (some ⟨b24, 0, none⟩)), (3, .int .i64 ((i36 : Nat) : Int))]) (fun (m, i36) wl => iterN (g_r14_links_L25 a0) m i36 = some q35 ∧ St NB w wl [blkR b21 [.int .i64 a0.Ticks, vp0_0, vp0_1, vp0_2, vp0_3, .int .i64 a0.Tries] 27, blkR b24 [.int .i64 0, .int .i64 0] 110]) (fun (m, i36) => m) (n35, 0) H ⟨rfl, rfl, rfl, trivial⟩ ⟨hm, hS⟩ ?_
    clear H hS hm a; intro xx a w37 H hR; obtain ⟨m, i36⟩ := xx; simp only [ent, List.map_cons, List.map_nil] at H; (try dsimp only at hR); obtain ⟨hm, hS⟩ := hR
    replace hm := iterN_step hm; obtain ⟨m35, o35, rfl, hm, hn35⟩ := hm; try dsimp only [g_r14_links_L25] at hm
    refine wp_seq (wp_seq (wp_region_lit (n_q H (q_move rfl) rfl (W_q (q_fieldAddr0 rfl fo27_4) rfl (W_q (q_load rfl ((hS.blk 0 rfl).ld ag25 rfl)) rfl (W_q (q_lenV Tryd.underlying25 rfl hv27) rfl (W_q (q_lssN (i := i36) (j := a0.Links.length) rfl rfl) rfl ?_))))))); clear H a; intro a H
    refine n_nil (then_normal (c_cond H rfl (fun hc38 => ?_) (fun hc38 => ?_)))
    · replace hm := condT hm hc38
      have hlt39 : i36 < a0.Links.length := of_decide_eq_true hc38
      refine wp_skip (then_normal (wp_seq (wp_block (wp_seq (wp_region_lit (n_q H (q_fieldAddr0 rfl fo27_4) rfl (W_q (q_load rfl ((hS.blk 0 rfl).ld ag25 rfl)) rfl (W_q (q_move rfl) rfl ?_)))))))); clear H a; intro a H
      replace hm := bindS hm; obtain ⟨x40, hx40, hm⟩ := hm
      obtain ⟨adx40, hAx40⟩ := SlR.adV (hrp0_3.ext (Flat.mono _) hS.x) hv27 hx40
      refine n_q H (q_ixV (i := i36) Tryd.underlying25 sz47 rfl hv27 hAx40 rfl (natI hx40)) rfl (W_q (q_load rfl (SlR.ldAggV (hrp0_3.ext (Flat.mono _) hS.x) hv27 hAx40 ag47 sz47 hx40)) rfl ?_); clear H a; intro a H
      refine n_alloc H ze47 rfl ?_
      clear H; intro b41 w42 hN hE43 hs; clear a; intro a H
      replace hS := hS.newBlk hN hE43 hs; clear hN hs
      refine n_storeAll H rfl rfl (vs := [.int .i64 x40.From, .int .i64 x40.Out, .int .i64 x40.To, .int .i64 x40.In]) rfl sz47 (hS.blk 0 rfl) rfl (by simp) ?_
      clear H; intro w44 hN hC45 hz; clear a; intro a H; replace hS := hS.setBlk hN hC45; clear hN hz
      refine n_nil (then_normal (wp_seq ?_))
      replace hm := bindS hm; obtain ⟨j46, hm, hm46⟩ := hm
      refine c_join (σ := Bool) H (fun q547 => [(1, .pointer (some ⟨b21, 0, none⟩)), (2, .pointer (some ⟨b24, 0, none⟩)), (3, .int .i64 ((i36 : Nat) : Int)), (4, .pointer (some ⟨b41, 0, none⟩)), (52, .bool q547)]) (fun q547 wl => (g_r14_links_J24 a0 i36 x40) q547 = some o35 ∧ St NB w wl [blkR b21 [.int .i64 a0.Ticks, vp0_0, vp0_1, vp0_2, vp0_3, .int .i64 a0.Tries] 27, blkR b24 [.int .i64 0, .int .i64 0] 110, blkR b41 [.int .i64 x40.From, .int .i64 x40.Out, .int .i64 x40.To, .int .i64 x40.In] 47]) ?_ ?_
      · skip
        refine wp_region_lit (n_q H (q_fieldAddr0 rfl fo47_0) rfl (W_q (q_load rfl ((hS.blk 0 rfl).ld ag3 rfl)) rfl (W_q (q_lss rfl rfl) rfl (W_q (q_move rfl) rfl ?_)))); clear H a; intro a H
        rcases Bool.eq_false_or_eq_true (decide (x40.From < 0)) with hg548 | hg548
        · replace H := H.know 27 rfl hg548
          replace hm := condT hm hg548
          refine n_no H rfl rfl (by decide) rfl (W_no rfl rfl (by decide) rfl (W_no rfl rfl (by decide) rfl (W_q (q_pickT rfl rfl) rfl (W_q (q_move rfl) rfl (W_no rfl rfl (by decide) rfl (W_no rfl rfl (by decide) rfl (W_no rfl rfl (by decide) rfl (W_no rfl rfl (by decide) rfl (W_no rfl rfl (by decide) rfl (W_q (q_pickT rfl rfl) rfl (W_q (q_move rfl) rfl ?_))))))))))); clear H a; intro a H
          refine n_no H rfl rfl (by decide) rfl (W_no rfl rfl (by decide) rfl (W_no rfl rfl (by decide) rfl (W_no rfl rfl (by decide) rfl (W_no rfl rfl (by decide) rfl (W_q (q_pickT rfl rfl) rfl (W_q (q_move rfl) rfl (W_no rfl rfl (by decide) rfl (W_no rfl rfl (by decide) rfl (W_no rfl rfl (by decide) rfl (W_no rfl rfl (by decide) rfl (W_no rfl rfl (by decide) rfl ?_))))))))))); clear H a; intro a H
          refine n_q H (q_pickT rfl rfl) rfl ?_; clear H a; intro a H
          refine n_nil (then_normal ?_)
          obtain rfl := Option.some.inj hm; replace hm := hm46; try dsimp only at hm
          replace hS := hS.pick 2 rfl; dsimp only [List.eraseIdx] at hS
          replace hS := hS.pick 2 rfl; dsimp only [List.eraseIdx] at hS
          exact join true H ⟨rfl, rfl, rfl, rfl, rfl, trivial⟩ ⟨hm, hS⟩
        · replace H := H.know 27 rfl hg548
          replace hm := condF hm hg548
          refine n_yes H rfl rfl (n_q H (q_fieldAddr0 rfl fo47_2) rfl (W_yes rfl rfl (W_q (q_load rfl ((hS.blk 0 rfl).ld ag3 rfl)) rfl (W_yes rfl rfl (W_q (q_lss rfl rfl) rfl (W_q (q_pickF rfl rfl) rfl (W_q (q_move rfl) rfl ?_))))))); clear H a; intro a H
          rcases Bool.eq_false_or_eq_true (decide (x40.To < 0)) with hg549 | hg549
          · replace H := H.know 32 rfl hg549
            replace hm := condT hm hg549
            refine n_no H rfl rfl (by decide) rfl (W_no rfl rfl (by decide) rfl (W_no rfl rfl (by decide) rfl (W_no rfl rfl (by decide) rfl (W_no rfl rfl (by decide) rfl (W_q (q_pickT rfl rfl) rfl (W_q (q_move rfl) rfl (W_no rfl rfl (by decide) rfl (W_no rfl rfl (by decide) rfl (W_no rfl rfl (by decide) rfl (W_no rfl rfl (by decide) rfl (W_no rfl rfl (by decide) rfl ?_))))))))))); clear H a; intro a H
            refine n_q H (q_pickT rfl rfl) rfl (W_q (q_move rfl) rfl (W_no rfl rfl (by decide) rfl (W_no rfl rfl (by decide) rfl (W_no rfl rfl (by decide) rfl (W_no rfl rfl (by decide) rfl (W_no rfl rfl (by decide) rfl (W_q (q_pickT rfl rfl) rfl ?_))))))); clear H a; intro a H
            refine n_nil (then_normal ?_)
            obtain rfl := Option.some.inj hm; replace hm := hm46; try dsimp only at hm
            replace hS := hS.pick 2 rfl; dsimp only [List.eraseIdx] at hS
            replace hS := hS.pick 2 rfl; dsimp only [List.eraseIdx] at hS
            exact join true H ⟨rfl, rfl, rfl, rfl, rfl, trivial⟩ ⟨hm, hS⟩
          · replace H := H.know 32 rfl hg549
            replace hm := condF hm hg549
            refine n_yes H rfl rfl (n_q H (q_load rfl ((hS.blk 1 rfl).ldAll ag27 sz27)) rfl (W_yes rfl rfl (W_q (q_fieldAddr0 rfl fo47_0) rfl (W_yes rfl rfl (W_q (q_load rfl ((hS.blk 0 rfl).ld ag3 rfl)) rfl (W_yes rfl rfl ?_)))))); clear H a; intro a H
            replace hm := bindS hm; obtain ⟨r550, hr550, hm⟩ := hm
            refine n_call H rfl en137 (g_r14_owner_w (A := A) (⟨_, _, _, _, rfl, (hrp0_0.ext RGPlan.mono hS.x), (hrp0_1.ext (Flat.mono _) hS.x), (hrp0_2.ext (Flat.mono _) hS.x), (hrp0_3.ext (Flat.mono _) hS.x)⟩ : RGConfig _ [.int .i64 a0.Ticks, vp0_0, vp0_1, vp0_2, vp0_3, .int .i64 a0.Tries] a0) hr550) rfl ?_
            clear H; intro x553 w551 hv; clear a; intro a H; obtain ⟨rfl, hE552⟩ := hv
            replace hS := hS.ext hE552
            refine n_yes H rfl rfl (n_q H (q_not rfl) rfl (W_q (q_pickF rfl rfl) rfl (W_q (q_move rfl) rfl ?_))); clear H a; intro a H
            rcases Bool.eq_false_or_eq_true (!r550) with hg554 | hg554
            · replace H := H.know 39 rfl hg554
              replace hm := condT hm hg554
              refine n_no H rfl rfl (by decide) rfl (W_no rfl rfl (by decide) rfl (W_no rfl rfl (by decide) rfl (W_no rfl rfl (by decide) rfl (W_no rfl rfl (by decide) rfl (W_q (q_pickT rfl rfl) rfl (W_q (q_move rfl) rfl (W_no rfl rfl (by decide) rfl (W_no rfl rfl (by decide) rfl (W_no rfl rfl (by decide) rfl (W_no rfl rfl (by decide) rfl (W_no rfl rfl (by decide) rfl ?_))))))))))); clear H a; intro a H
              refine n_q H (q_pickT rfl rfl) rfl ?_; clear H a; intro a H
              refine n_nil (then_normal ?_)
              obtain rfl := Option.some.inj hm; replace hm := hm46; try dsimp only at hm
              replace hS := hS.pick 2 rfl; dsimp only [List.eraseIdx] at hS
              replace hS := hS.pick 2 rfl; dsimp only [List.eraseIdx] at hS
              exact join true H ⟨rfl, rfl, rfl, rfl, rfl, trivial⟩ ⟨hm, hS⟩
            · replace H := H.know 39 rfl hg554
              replace hm := condF hm hg554
              refine n_yes H rfl rfl (n_q H (q_load rfl ((hS.blk 1 rfl).ldAll ag27 sz27)) rfl (W_yes rfl rfl (W_q (q_fieldAddr0 rfl fo47_2) rfl (W_yes rfl rfl (W_q (q_load rfl ((hS.blk 0 rfl).ld ag3 rfl)) rfl (W_yes rfl rfl ?_)))))); clear H a; intro a H
              replace hm := bindS hm; obtain ⟨r555, hr555, hm⟩ := hm
              refine n_call H rfl en137 (g_r14_owner_w (A := A) (⟨_, _, _, _, rfl, (hrp0_0.ext RGPlan.mono hS.x), (hrp0_1.ext (Flat.mono _) hS.x), (hrp0_2.ext (Flat.mono _) hS.x), (hrp0_3.ext (Flat.mono _) hS.x)⟩ : RGConfig _ [.int .i64 a0.Ticks, vp0_0, vp0_1, vp0_2, vp0_3, .int .i64 a0.Tries] a0) hr555) rfl ?_
              clear H; intro x558 w556 hv; clear a; intro a H; obtain ⟨rfl, hE557⟩ := hv
              replace hS := hS.ext hE557
              refine n_yes H rfl rfl (n_q H (q_not rfl) rfl (W_q (q_pickF rfl rfl) rfl (W_q (q_move rfl) rfl ?_))); clear H a; intro a H
              rcases Bool.eq_false_or_eq_true (!r555) with hg559 | hg559
              · replace H := H.know 46 rfl hg559
                replace hm := condT hm hg559
                refine n_no H rfl rfl (by decide) rfl (W_no rfl rfl (by decide) rfl (W_no rfl rfl (by decide) rfl (W_no rfl rfl (by decide) rfl (W_no rfl rfl (by decide) rfl (W_q (q_pickT rfl rfl) rfl ?_))))); clear H a; intro a H
                refine n_nil (then_normal ?_)
                obtain rfl := Option.some.inj hm; replace hm := hm46; try dsimp only at hm
                replace hS := hS.pick 2 rfl; dsimp only [List.eraseIdx] at hS
                replace hS := hS.pick 2 rfl; dsimp only [List.eraseIdx] at hS
                exact join true H ⟨rfl, rfl, rfl, rfl, rfl, trivial⟩ ⟨hm, hS⟩
              · replace H := H.know 46 rfl hg559
                replace hm := condF hm hg559
                refine n_yes H rfl rfl (n_q H (q_fieldAddr0 rfl fo47_0) rfl (W_yes rfl rfl (W_q (q_load rfl ((hS.blk 0 rfl).ld ag3 rfl)) rfl (W_yes rfl rfl (W_q (q_fieldAddr0 rfl fo47_2) rfl (W_yes rfl rfl (W_q (q_load rfl ((hS.blk 0 rfl).ld ag3 rfl)) rfl (W_yes rfl rfl (W_q (q_eqlD rfl rfl) rfl (W_q (q_pickF rfl rfl) rfl ?_)))))))))); clear H a; intro a H
                refine n_nil (then_normal ?_)
                obtain rfl := Option.some.inj hm; replace hm := hm46; try dsimp only at hm
                replace hS := hS.pick 2 rfl; dsimp only [List.eraseIdx] at hS
                replace hS := hS.pick 2 rfl; dsimp only [List.eraseIdx] at hS
                exact join (decide (x40.From = x40.To)) H ⟨rfl, rfl, rfl, rfl, rfl, trivial⟩ ⟨hm, hS⟩
      · clear H hS hm a; intro q547 a w560 H hR
        simp only [ent, List.map_cons, List.map_nil] at H; (try dsimp only at hR); obtain ⟨hm, hS⟩ := hR; try dsimp only [g_r14_links_J24] at hm
        refine c_cond H rfl (fun hc561 => ?_) (fun hc561 => ?_)
        · replace hm := condT hm hc561
          refine wp_seq (wp_region_lit (n_q H (q_move rfl) rfl (W_q (q_build (cs := [.int .i64 12, .int .i64 ((i36 : Nat) : Int)]) ze110 bd110 pl110 rfl (by kernel_rfl)) rfl ?_))); clear H a; intro a H
          replace hS := hS.pick 1 rfl; dsimp only [List.eraseIdx] at hS
          refine n_storeAll H rfl rfl (vs := [.int .i64 12, .int .i64 ((i36 : Nat) : Int)]) rfl sz110 (hS.blk 0 rfl) rfl (by simp) ?_
          clear H; intro w562 hN hC563 hz; clear a; intro a H; replace hS := hS.setBlk hN hC563; clear hN hz
          refine n_nil (then_normal (wp_ret (then_ret (block_ret (then_ret (then_ret (block_ret (then_ret ?_))))))))
          obtain rfl := Option.some.inj hm; have hz : _ = q35 := hn35; subst hz; replace hm := hm35; try dsimp only at hm
          obtain rfl := Option.some.inj hm
          replace hS := hS.take 1; simp only [List.take_succ_cons, List.take_zero] at hS
          refine retL H (.inr rfl) rfl (vs := [.agg #[.int .i64 12, .int .i64 ((i36 : Nat) : Int)]]) (resCell rfl ((hS.blk 0 rfl).ldAll ag110 sz110) resNil) ?_
          replace hS := hS.take 0; simp only [List.take_succ_cons, List.take_zero] at hS
          exact ⟨rfl, hS.x⟩
        · replace hm := condF hm hc561
          refine wp_skip (then_normal (wp_seq ?_))
          replace hm := bindS hm; obtain ⟨j564, hm, hm564⟩ := hm
          refine c_join (σ := Bool) H (fun q1065 => [(1, .pointer (some ⟨b21, 0, none⟩)), (2, .pointer (some ⟨b24, 0, none⟩)), (3, .int .i64 ((i36 : Nat) : Int)), (4, .pointer (some ⟨b41, 0, none⟩)), (70, .bool q1065)]) (fun q1065 wl => (g_r14_links_J23 a0 i36 x40) q1065 = some o35 ∧ St NB w wl [blkR b21 [.int .i64 a0.Ticks, vp0_0, vp0_1, vp0_2, vp0_3, .int .i64 a0.Tries] 27, blkR b24 [.int .i64 0, .int .i64 0] 110, blkR b41 [.int .i64 x40.From, .int .i64 x40.Out, .int .i64 x40.To, .int .i64 x40.In] 47]) ?_ ?_
          · skip
            refine wp_region_lit (n_q H (q_fieldAddr0 rfl fo27_1) rfl (W_q (q_load rfl ((hS.blk 0 rfl).ld ag22 rfl)) rfl (W_q (q_fieldAddr0 rfl fo47_0) rfl (W_q (q_load rfl ((hS.blk 2 rfl).ld ag3 rfl)) rfl ?_)))); clear H a; intro a H
            obtain ⟨A1066, c1066, hv1066, hl1066, hm1066⟩ := SlR.formV (hrp0_0.ext RGPlan.mono hS.x)
            replace hm := bindS hm; obtain ⟨x1067, hx1067, hm⟩ := hm
            obtain ⟨h0x1067, h1x1067, hxx1067⟩ := rdI_some hx1067
            obtain ⟨adx1067, hAx1067⟩ := SlR.adV (hrp0_0.ext RGPlan.mono hS.x) hv1066 hxx1067
            obtain ⟨csx1067, hclx1067, ⟨vx1067_0, vx1067_1, vx1067_2, vx1067_3, rfl, hrx1067_0, hrx1067_1, hrx1067_2, hrx1067_3⟩, hcx1067⟩ := SlR.elV hrp0_0 hv1066 hAx1067 hxx1067
            refine n_q H (q_ixVI Tryd.underlying22 sz68 rfl hv1066 hAx1067 rfl h0x1067 h1x1067) rfl (W_q (q_fieldAddr rfl fo68_1) rfl (W_q (q_load rfl (LdX.ext (ldElC (j := 1) ag4 hcx1067 rfl) hS.x)) rfl (W_q (q_move rfl) rfl ?_))); clear H a; intro a H
            rcases Bool.eq_false_or_eq_true x1067.Mobile with hg1068 | hg1068
            · replace H := H.know 62 rfl hg1068
              replace hm := condT hm hg1068
              refine n_no H rfl rfl (by decide) rfl (W_no rfl rfl (by decide) rfl (W_no rfl rfl (by decide) rfl (W_no rfl rfl (by decide) rfl (W_no rfl rfl (by decide) rfl (W_no rfl rfl (by decide) rfl (W_no rfl rfl (by decide) rfl (W_q (q_pickT rfl rfl) rfl ?_))))))); clear H a; intro a H
              refine n_nil (then_normal ?_)
              obtain rfl := Option.some.inj hm; replace hm := hm564; try dsimp only at hm
              exact join true H ⟨rfl, rfl, rfl, rfl, rfl, trivial⟩ ⟨hm, hS⟩
            · replace H := H.know 62 rfl hg1068
              replace hm := condF hm hg1068
              refine n_yes H rfl rfl (n_q H (q_fieldAddr0 rfl fo27_1) rfl (W_yes rfl rfl (W_q (q_load rfl ((hS.blk 0 rfl).ld ag22 rfl)) rfl (W_yes rfl rfl (W_q (q_fieldAddr0 rfl fo47_2) rfl (W_yes rfl rfl (W_q (q_load rfl ((hS.blk 2 rfl).ld ag3 rfl)) rfl (W_yes rfl rfl ?_)))))))); clear H a; intro a H
              replace hm := bindS hm; obtain ⟨x1069, hx1069, hm⟩ := hm
              obtain ⟨h0x1069, h1x1069, hxx1069⟩ := rdI_some hx1069
              obtain ⟨adx1069, hAx1069⟩ := SlR.adV (hrp0_0.ext RGPlan.mono hS.x) hv1066 hxx1069
              obtain ⟨csx1069, hclx1069, ⟨vx1069_0, vx1069_1, vx1069_2, vx1069_3, rfl, hrx1069_0, hrx1069_1, hrx1069_2, hrx1069_3⟩, hcx1069⟩ := SlR.elV hrp0_0 hv1066 hAx1069 hxx1069
              refine n_q H (q_ixVI Tryd.underlying22 sz68 rfl hv1066 hAx1069 rfl h0x1069 h1x1069) rfl (W_yes rfl rfl (W_q (q_fieldAddr rfl fo68_1) rfl (W_yes rfl rfl (W_q (q_load rfl (LdX.ext (ldElC (j := 1) ag4 hcx1069 rfl) hS.x)) rfl (W_q (q_pickF rfl rfl) rfl ?_))))); clear H a; intro a H
              refine n_nil (then_normal ?_)
              obtain rfl := Option.some.inj hm; replace hm := hm564; try dsimp only at hm
              exact join x1069.Mobile H ⟨rfl, rfl, rfl, rfl, rfl, trivial⟩ ⟨hm, hS⟩
          · clear H hS hm a; intro q1065 a w1070 H hR
            simp only [ent, List.map_cons, List.map_nil] at H; (try dsimp only at hR); obtain ⟨hm, hS⟩ := hR; try dsimp only [g_r14_links_J23] at hm
            refine c_cond H rfl (fun hc1071 => ?_) (fun hc1071 => ?_)
            · replace hm := condT hm hc1071
              refine wp_seq (wp_region_lit (n_q H (q_move rfl) rfl (W_q (q_build (cs := [.int .i64 8, .int .i64 ((i36 : Nat) : Int)]) ze110 bd110 pl110 rfl (by kernel_rfl)) rfl ?_))); clear H a; intro a H
              replace hS := hS.pick 1 rfl; dsimp only [List.eraseIdx] at hS
              refine n_storeAll H rfl rfl (vs := [.int .i64 8, .int .i64 ((i36 : Nat) : Int)]) rfl sz110 (hS.blk 0 rfl) rfl (by simp) ?_
              clear H; intro w1072 hN hC1073 hz; clear a; intro a H; replace hS := hS.setBlk hN hC1073; clear hN hz
              refine n_nil (then_normal (wp_ret (then_ret (block_ret (then_ret (then_ret (block_ret (then_ret ?_))))))))
              obtain rfl := Option.some.inj hm; have hz : _ = q35 := hn35; subst hz; replace hm := hm35; try dsimp only at hm
              obtain rfl := Option.some.inj hm
              replace hS := hS.take 1; simp only [List.take_succ_cons, List.take_zero] at hS
              refine retL H (.inr rfl) rfl (vs := [.agg #[.int .i64 8, .int .i64 ((i36 : Nat) : Int)]]) (resCell rfl ((hS.blk 0 rfl).ldAll ag110 sz110) resNil) ?_
              replace hS := hS.take 0; simp only [List.take_succ_cons, List.take_zero] at hS
              exact ⟨rfl, hS.x⟩
            · replace hm := condF hm hc1071
              refine wp_skip (then_normal (wp_seq (c_quiet (by kernel_rfl) (by kernel_rfl) ?_)))
              refine qq_q H (q_load rfl ((hS.blk 0 rfl).ldAll ag27 sz27)) rfl ?_; clear H a; intro a H
              refine qq_q H (q_fieldAddr0 rfl fo47_0) rfl ?_; clear H a; intro a H
              refine qq_q H (q_load rfl ((hS.blk 2 rfl).ld ag3 rfl)) rfl ?_; clear H a; intro a H
              refine qq_q H (q_fieldAddr0 rfl fo47_1) rfl ?_; clear H a; intro a H
              refine qq_q H (q_load rfl ((hS.blk 2 rfl).ld ag3 rfl)) rfl ?_; clear H a; intro a H
              replace hm := bindS hm; obtain ⟨r1074, hr1074, hm⟩ := hm
              refine qq_call H rfl en138 (fun w' hw => g_r14_kind_w (A := A) (⟨_, _, _, _, rfl, ((hrp0_0.ext RGPlan.mono hS.x).ext RGPlan.mono hw), ((hrp0_1.ext (Flat.mono _) hS.x).ext (Flat.mono _) hw), ((hrp0_2.ext (Flat.mono _) hS.x).ext (Flat.mono _) hw), ((hrp0_3.ext (Flat.mono _) hS.x).ext (Flat.mono _) hw)⟩ : RGConfig _ [.int .i64 a0.Ticks, vp0_0, vp0_1, vp0_2, vp0_3, .int .i64 a0.Tries] a0) hr1074) rfl ?_; clear H a; intro a H
              refine qq_q H (q_load rfl ((hS.blk 0 rfl).ldAll ag27 sz27)) rfl ?_; clear H a; intro a H
              refine qq_q H (q_fieldAddr0 rfl fo47_2) rfl ?_; clear H a; intro a H
              refine qq_q H (q_load rfl ((hS.blk 2 rfl).ld ag3 rfl)) rfl ?_; clear H a; intro a H
              refine qq_q H (q_fieldAddr0 rfl fo47_3) rfl ?_; clear H a; intro a H
              refine qq_q H (q_load rfl ((hS.blk 2 rfl).ld ag3 rfl)) rfl ?_; clear H a; intro a H
              replace hm := bindS hm; obtain ⟨r1075, hr1075, hm⟩ := hm
              refine qq_call H rfl en138 (fun w' hw => g_r14_kind_w (A := A) (⟨_, _, _, _, rfl, ((hrp0_0.ext RGPlan.mono hS.x).ext RGPlan.mono hw), ((hrp0_1.ext (Flat.mono _) hS.x).ext (Flat.mono _) hw), ((hrp0_2.ext (Flat.mono _) hS.x).ext (Flat.mono _) hw), ((hrp0_3.ext (Flat.mono _) hS.x).ext (Flat.mono _) hw)⟩ : RGConfig _ [.int .i64 a0.Ticks, vp0_0, vp0_1, vp0_2, vp0_3, .int .i64 a0.Tries] a0) hr1075) rfl ?_; clear H a; intro a H
              refine qq_q H (q_assign rfl) rfl ?_; clear H a; intro a H
              refine qq_q H (q_assign rfl) rfl ?_; clear H a; intro a H
              refine qq_nil ?_; intro w1076 hE1077
              replace hS := hS.ext hE1077
              refine then_normal (wp_seq (wp_region_lit (n_c H (fun HC => ?_)))); clear H
              refine nc_q HC (q_move rfl) rfl (by kernel_rfl) (V_q (q_neqD rfl rfl) rfl (by kernel_rfl) (V_q (q_move rfl) rfl (by kernel_rfl) (V_g (q_move rfl) (by kernel_rfl) (by kernel_rfl) (by kernel_rfl) (V_g (q_neqD rfl rfl) (by kernel_rfl) (by kernel_rfl) (by kernel_rfl) (V_and (j := 2) rfl rfl rfl (by kernel_rfl) (by kernel_rfl) (V_q (q_move rfl) rfl (by kernel_rfl) (V_g (q_move rfl) (by kernel_rfl) (by kernel_rfl) (by kernel_rfl) (V_g (q_neqD rfl rfl) (by kernel_rfl) (by kernel_rfl) (by kernel_rfl) (V_g (q_move rfl) (by kernel_rfl) (by kernel_rfl) (by kernel_rfl) (V_g (q_move rfl) (by kernel_rfl) (by kernel_rfl) (by kernel_rfl) (V_g (q_neqD rfl rfl) (by kernel_rfl) (by kernel_rfl) (by kernel_rfl) ?_))))))))))); clear HC a; intro a HC
              refine nc_andg (j := 9) HC rfl rfl rfl (by kernel_rfl) (by kernel_rfl) (by kernel_rfl) ?_; clear HC a; intro a HC
              refine nc_or (j := 6) HC rfl rfl rfl (by kernel_rfl) (by kernel_rfl) ?_; clear HC a; intro a HC
              have H := HC.has; clear HC
              refine n_nil (then_normal (c_cond H rfl (fun hc1078 => ?_) (fun hc1078 => ?_)))
              · replace hm := condT hm hc1078
                refine wp_seq (wp_region_lit (n_q H (q_move rfl) rfl (W_q (q_build (cs := [.int .i64 7, .int .i64 ((i36 : Nat) : Int)]) ze110 bd110 pl110 rfl (by kernel_rfl)) rfl ?_))); clear H a; intro a H
                replace hS := hS.pick 1 rfl; dsimp only [List.eraseIdx] at hS
                refine n_storeAll H rfl rfl (vs := [.int .i64 7, .int .i64 ((i36 : Nat) : Int)]) rfl sz110 (hS.blk 0 rfl) rfl (by simp) ?_
                clear H; intro w1079 hN hC1080 hz; clear a; intro a H; replace hS := hS.setBlk hN hC1080; clear hN hz
                refine n_nil (then_normal (wp_ret (block_ret (then_ret (then_ret (block_ret (then_ret ?_)))))))
                obtain rfl := Option.some.inj hm; have hz : _ = q35 := hn35; subst hz; replace hm := hm35; try dsimp only at hm
                obtain rfl := Option.some.inj hm
                replace hS := hS.take 1; simp only [List.take_succ_cons, List.take_zero] at hS
                refine retL H (.inr rfl) rfl (vs := [.agg #[.int .i64 7, .int .i64 ((i36 : Nat) : Int)]]) (resCell rfl ((hS.blk 0 rfl).ldAll ag110 sz110) resNil) ?_
                replace hS := hS.take 0; simp only [List.take_succ_cons, List.take_zero] at hS
                exact ⟨rfl, hS.x⟩
              · replace hm := condF hm hc1078
                refine wp_skip (block_normal (then_normal (wp_region_lit (n_q H (q_move rfl) rfl (W_q (q_incr (i := i36) (j := 1) rfl rfl (by omega)) rfl (W_q (q_assign rfl) rfl ?_)))))); clear H a; intro a H
                refine n_nil (then_normal ?_)
                obtain rfl := Option.some.inj hm
                replace hS := hS.take 2; simp only [List.take_succ_cons, List.take_zero] at hS
                exact round (m35, i36 + 1) H ⟨rfl, rfl, rfl, trivial⟩ ⟨hn35, hS⟩ (Nat.lt_succ_self _)
    · replace hm := condF hm hc38
      refine wp_exit (then_exit (then_exit (block_exit ?_)))
      obtain rfl := Option.some.inj hm; have hz : _ = q35 := hn35; subst hz; replace hm := hm35; try dsimp only at hm
      refine then_normal (wp_seq (wp_region_lit ?_))
      replace hm := bindS hm; obtain ⟨r1081, hr1081, hm⟩ := hm
      refine n_call H rfl en78 (g_r14_none_w (A := A) hr1081) rfl ?_
      clear H; intro x1084 w1082 hv; clear a; intro a H; obtain ⟨rfl, hE1083⟩ := hv
      replace hS := hS.ext hE1083
      replace hS := hS.pick 1 rfl; dsimp only [List.eraseIdx] at hS
      refine n_storeAll H rfl rfl (vs := [.int .i64 r1081.Code, .int .i64 r1081.Place]) rfl sz110 (hS.blk 0 rfl) rfl (by simp) ?_
      clear H; intro w1085 hN hC1086 hz; clear a; intro a H; replace hS := hS.setBlk hN hC1086; clear hN hz
      refine n_nil (then_normal (wp_ret ?_))
      obtain rfl := Option.some.inj hm
      replace hS := hS.take 1; simp only [List.take_succ_cons, List.take_zero] at hS
      refine retL H (.inr rfl) rfl (vs := [.agg #[.int .i64 r1081.Code, .int .i64 r1081.Place]]) (resCell rfl ((hS.blk 0 rfl).ldAll ag110 sz110) resNil) ?_
      replace hS := hS.take 0; simp only [List.take_succ_cons, List.take_zero] at hS
      exact ⟨rfl, hS.x⟩
theorem g_r14_Check_w {w : World} {A : Nat → Addr} {cs0 : List Value} {a0 : GConfig} (h0 : RGConfig w cs0 a0) {r : GR14Err} (hm : g_r14_Check a0 = some r) :
    Calls Tryd.prog 42 [.agg cs0.toArray].toArray w (Ret fun u w' => u = .agg (eGR14Err r).toArray ∧ Ext w w') := by
  obtain ⟨vp0_0, vp0_1, vp0_2, vp0_3, rfl, hrp0_0, hrp0_1, hrp0_2, hrp0_3⟩ := h0
  have hS := St.begin NB w
  unfold g_r14_Check at hm
  refine enter Tryd.func42 rfl rfl rfl ?_; intro a H; dsimp only [enumL, Nat.zero_add, Nat.reduceAdd] at H
  refine wp_seq (wp_region_lit (n_box H rfl (cs := [.int .i64 a0.Ticks, vp0_0, vp0_1, vp0_2, vp0_3, .int .i64 a0.Tries]) rfl rfl ?_))
  clear H; intro b21 w22 hN hE23 hs; clear a; intro a H
  replace hS := hS.newBlk hN hE23 hs; clear hN hs
  refine n_alloc H ze110 rfl ?_
  clear H; intro b24 w25 hN hE26 hs; clear a; intro a H
  replace hS := hS.newBlk hN hE26 hs; clear hN hs
  refine n_nil (then_normal (wp_seq (wp_seq (wp_region_lit (n_c H (fun HC => ?_)))))); clear H
  refine nc_q HC (q_fieldAddr0 rfl fo27_0) rfl (by kernel_rfl) (V_q (q_load rfl ((hS.blk 1 rfl).ld ag3 rfl)) rfl (by kernel_rfl) (V_q (q_lss rfl rfl) rfl (by kernel_rfl) (V_q (q_move rfl) rfl (by kernel_rfl) (V_g (q_fieldAddr0 rfl fo27_0) (by kernel_rfl) (by kernel_rfl) (by kernel_rfl) (V_g (q_load rfl ((hS.blk 1 rfl).ld ag3 rfl)) (by kernel_rfl) (by kernel_rfl) (by kernel_rfl) (V_g (q_gtr rfl rfl) (by kernel_rfl) (by kernel_rfl) (by kernel_rfl) (V_or (j := 3) rfl rfl rfl (by kernel_rfl) (by kernel_rfl) (V_q (q_move rfl) rfl (by kernel_rfl) (V_g (q_fieldAddr0 rfl fo27_5) (by kernel_rfl) (by kernel_rfl) (by kernel_rfl) (V_g (q_load rfl ((hS.blk 1 rfl).ld ag3 rfl)) (by kernel_rfl) (by kernel_rfl) (by kernel_rfl) (V_g (q_lss rfl rfl) (by kernel_rfl) (by kernel_rfl) (by kernel_rfl) ?_))))))))))); clear HC a; intro a HC
  refine nc_or (j := 8) HC rfl rfl rfl (by kernel_rfl) (by kernel_rfl) (V_q (q_move rfl) rfl (by kernel_rfl) (V_g (q_fieldAddr0 rfl fo27_5) (by kernel_rfl) (by kernel_rfl) (by kernel_rfl) (V_g (q_load rfl ((hS.blk 1 rfl).ld ag3 rfl)) (by kernel_rfl) (by kernel_rfl) (by kernel_rfl) (V_g (q_gtr rfl rfl) (by kernel_rfl) (by kernel_rfl) (by kernel_rfl) (V_or (j := 13) rfl rfl rfl (by kernel_rfl) (by kernel_rfl) ?_))))); clear HC a; intro a HC
  have H := HC.has; clear HC
  refine n_nil (then_normal (c_cond H rfl (fun hc27 => ?_) (fun hc27 => ?_)))
  · replace hm := condT hm hc27
    refine wp_seq (wp_region_lit ?_)
    replace hm := bindS hm; obtain ⟨r28, hr28, hm⟩ := hm
    refine n_call H rfl en73 (g_r14_bad_w (A := A) hr28) rfl ?_
    clear H; intro x31 w29 hv; clear a; intro a H; obtain ⟨rfl, hE30⟩ := hv
    replace hS := hS.ext hE30
    refine n_storeAll H rfl rfl (vs := [.int .i64 r28.Code, .int .i64 r28.Place]) rfl sz110 (hS.blk 0 rfl) rfl (by simp) ?_
    clear H; intro w32 hN hC33 hz; clear a; intro a H; replace hS := hS.setBlk hN hC33; clear hN hz
    refine n_nil (then_normal (wp_ret (then_ret ?_)))
    obtain rfl := Option.some.inj hm
    replace hS := hS.take 1; simp only [List.take_succ_cons, List.take_zero] at hS
    refine retL H (.inr rfl) rfl (vs := [.agg #[.int .i64 r28.Code, .int .i64 r28.Place]]) (resCell rfl ((hS.blk 0 rfl).ldAll ag110 sz110) resNil) ?_
    replace hS := hS.take 0; simp only [List.take_succ_cons, List.take_zero] at hS
    exact ⟨rfl, hS.x⟩
  · replace hm := condF hm hc27
    refine wp_skip (then_normal (wp_seq (wp_region_lit (n_q H (q_load rfl ((hS.blk 1 rfl).ldAll ag27 sz27)) rfl ?_)))); clear H a; intro a H
    replace hm := bindS hm; obtain ⟨r34, hr34, hm⟩ := hm
    refine n_call H rfl en74 (g_r14_parts_w (A := A) (⟨_, _, _, _, rfl, (hrp0_0.ext RGPlan.mono hS.x), (hrp0_1.ext (Flat.mono _) hS.x), (hrp0_2.ext (Flat.mono _) hS.x), (hrp0_3.ext (Flat.mono _) hS.x)⟩ : RGConfig _ [.int .i64 a0.Ticks, vp0_0, vp0_1, vp0_2, vp0_3, .int .i64 a0.Tries] a0) hr34) rfl ?_
    clear H; intro x37 w35 hv; clear a; intro a H; obtain ⟨rfl, hE36⟩ := hv
    replace hS := hS.ext hE36
    refine n_alloc H ze110 rfl ?_
    clear H; intro b38 w39 hN hE40 hs; clear a; intro a H
    replace hS := hS.newBlk hN hE40 hs; clear hN hs
    refine n_storeAll H rfl rfl (vs := [.int .i64 r34.Code, .int .i64 r34.Place]) rfl sz110 (hS.blk 0 rfl) rfl (by simp) ?_
    clear H; intro w41 hN hC42 hz; clear a; intro a H; replace hS := hS.setBlk hN hC42; clear hN hz
    refine n_nil (then_normal ?_)
    replace hm := bindS hm; obtain ⟨j43, hm, hm43⟩ := hm
    refine c_join (σ := GR14Err) H (fun t544 => [(1, .pointer (some ⟨b21, 0, none⟩)), (2, .pointer (some ⟨b24, 0, none⟩)), (3, .pointer (some ⟨b38, 0, none⟩))]) (fun t544 wl => (g_r14_Check_J9 a0) t544 = some r ∧ St NB w wl [blkR b21 [.int .i64 a0.Ticks, vp0_0, vp0_1, vp0_2, vp0_3, .int .i64 a0.Tries] 27, blkR b24 [.int .i64 0, .int .i64 0] 110, blkR b38 [.int .i64 t544.Code, .int .i64 t544.Place] 110]) ?_ ?_
    · skip
      refine wp_seq (wp_region_lit (n_q H (q_fieldAddr0 rfl fo110_0) rfl (W_q (q_load rfl ((hS.blk 0 rfl).ld ag3 rfl)) rfl (W_q (q_eqlD rfl rfl) rfl ?_)))); clear H a; intro a H
      refine n_nil (then_normal (c_cond H rfl (fun hc545 => ?_) (fun hc545 => ?_)))
      · replace hm := condT hm hc545
        refine wp_region_lit (n_q H (q_load rfl ((hS.blk 2 rfl).ldAll ag27 sz27)) rfl ?_); clear H a; intro a H
        replace hm := bindS hm; obtain ⟨r546, hr546, hm⟩ := hm
        refine n_call H rfl en75 (g_r14_windows_w (A := A) (⟨_, _, _, _, rfl, (hrp0_0.ext RGPlan.mono hS.x), (hrp0_1.ext (Flat.mono _) hS.x), (hrp0_2.ext (Flat.mono _) hS.x), (hrp0_3.ext (Flat.mono _) hS.x)⟩ : RGConfig _ [.int .i64 a0.Ticks, vp0_0, vp0_1, vp0_2, vp0_3, .int .i64 a0.Tries] a0) hr546) rfl ?_
        clear H; intro x549 w547 hv; clear a; intro a H; obtain ⟨rfl, hE548⟩ := hv
        replace hS := hS.ext hE548
        refine n_storeAll H rfl rfl (vs := [.int .i64 r546.Code, .int .i64 r546.Place]) rfl sz110 (hS.blk 0 rfl) rfl (by simp) ?_
        clear H; intro w550 hN hC551 hz; clear a; intro a H; replace hS := hS.setBlk hN hC551; clear hN hz
        refine n_nil (then_normal ?_)
        obtain rfl := Option.some.inj hm; replace hm := hm43; try dsimp only at hm
        replace hS := hS.pick 1 rfl; dsimp only [List.eraseIdx] at hS
        replace hS := hS.pick 2 rfl; dsimp only [List.eraseIdx] at hS
        exact join r546 H ⟨rfl, rfl, rfl, trivial⟩ ⟨hm, hS⟩
      · replace hm := condF hm hc545
        refine wp_skip (then_normal ?_)
        obtain rfl := Option.some.inj hm; replace hm := hm43; try dsimp only at hm
        replace hS := hS.pick 1 rfl; dsimp only [List.eraseIdx] at hS
        replace hS := hS.pick 2 rfl; dsimp only [List.eraseIdx] at hS
        exact join r34 H ⟨rfl, rfl, rfl, trivial⟩ ⟨hm, hS⟩
    · clear H hS hm a; intro t544 a w552 H hR
      simp only [ent, List.map_cons, List.map_nil] at H; (try dsimp only at hR); obtain ⟨hm, hS⟩ := hR; try dsimp only [g_r14_Check_J9] at hm
      replace hm := bindS hm; obtain ⟨j553, hm, hm553⟩ := hm
      refine c_join (σ := GR14Err) H (fun t1054 => [(1, .pointer (some ⟨b21, 0, none⟩)), (2, .pointer (some ⟨b24, 0, none⟩)), (3, .pointer (some ⟨b38, 0, none⟩))]) (fun t1054 wl => (g_r14_Check_J8 a0) t1054 = some r ∧ St NB w wl [blkR b21 [.int .i64 a0.Ticks, vp0_0, vp0_1, vp0_2, vp0_3, .int .i64 a0.Tries] 27, blkR b24 [.int .i64 0, .int .i64 0] 110, blkR b38 [.int .i64 t1054.Code, .int .i64 t1054.Place] 110]) ?_ ?_
      · skip
        refine wp_seq (wp_region_lit (n_q H (q_fieldAddr0 rfl fo110_0) rfl (W_q (q_load rfl ((hS.blk 2 rfl).ld ag3 rfl)) rfl (W_q (q_eqlD rfl rfl) rfl ?_)))); clear H a; intro a H
        refine n_nil (then_normal (c_cond H rfl (fun hc1055 => ?_) (fun hc1055 => ?_)))
        · replace hm := condT hm hc1055
          refine wp_region_lit (n_q H (q_load rfl ((hS.blk 0 rfl).ldAll ag27 sz27)) rfl ?_); clear H a; intro a H
          replace hm := bindS hm; obtain ⟨r1056, hr1056, hm⟩ := hm
          refine n_call H rfl en76 (g_r14_links_w (A := A) (⟨_, _, _, _, rfl, (hrp0_0.ext RGPlan.mono hS.x), (hrp0_1.ext (Flat.mono _) hS.x), (hrp0_2.ext (Flat.mono _) hS.x), (hrp0_3.ext (Flat.mono _) hS.x)⟩ : RGConfig _ [.int .i64 a0.Ticks, vp0_0, vp0_1, vp0_2, vp0_3, .int .i64 a0.Tries] a0) hr1056) rfl ?_
          clear H; intro x1059 w1057 hv; clear a; intro a H; obtain ⟨rfl, hE1058⟩ := hv
          replace hS := hS.ext hE1058
          replace hS := hS.pick 2 rfl; dsimp only [List.eraseIdx] at hS
          refine n_storeAll H rfl rfl (vs := [.int .i64 r1056.Code, .int .i64 r1056.Place]) rfl sz110 (hS.blk 0 rfl) rfl (by simp) ?_
          clear H; intro w1060 hN hC1061 hz; clear a; intro a H; replace hS := hS.setBlk hN hC1061; clear hN hz
          refine n_nil (then_normal ?_)
          obtain rfl := Option.some.inj hm; replace hm := hm553; try dsimp only at hm
          replace hS := hS.pick 2 rfl; dsimp only [List.eraseIdx] at hS
          replace hS := hS.pick 2 rfl; dsimp only [List.eraseIdx] at hS
          exact join r1056 H ⟨rfl, rfl, rfl, trivial⟩ ⟨hm, hS⟩
        · replace hm := condF hm hc1055
          refine wp_skip (then_normal ?_)
          obtain rfl := Option.some.inj hm; replace hm := hm553; try dsimp only at hm
          exact join t544 H ⟨rfl, rfl, rfl, trivial⟩ ⟨hm, hS⟩
      · clear H hS hm a; intro t1054 a w1062 H hR
        simp only [ent, List.map_cons, List.map_nil] at H; (try dsimp only at hR); obtain ⟨hm, hS⟩ := hR; try dsimp only [g_r14_Check_J8] at hm
        refine wp_seq (wp_seq (wp_region_lit (n_q H (q_fieldAddr0 rfl fo110_0) rfl (W_q (q_load rfl ((hS.blk 2 rfl).ld ag3 rfl)) rfl (W_q (q_neqD rfl rfl) rfl ?_))))); clear H a; intro a H
        refine n_nil (then_normal (c_cond H rfl (fun hc1063 => ?_) (fun hc1063 => ?_)))
        · replace hm := condT hm hc1063
          refine wp_seq (wp_region_lit (n_q H (q_load rfl ((hS.blk 2 rfl).ldAll ag110 sz110)) rfl ?_)); clear H a; intro a H
          replace hS := hS.pick 1 rfl; dsimp only [List.eraseIdx] at hS
          refine n_storeAll H rfl rfl (vs := [.int .i64 t1054.Code, .int .i64 t1054.Place]) rfl sz110 (hS.blk 0 rfl) rfl (by simp) ?_
          clear H; intro w1064 hN hC1065 hz; clear a; intro a H; replace hS := hS.setBlk hN hC1065; clear hN hz
          refine n_nil (then_normal (wp_ret (then_ret ?_)))
          obtain rfl := Option.some.inj hm
          replace hS := hS.take 1; simp only [List.take_succ_cons, List.take_zero] at hS
          refine retL H (.inr rfl) rfl (vs := [.agg #[.int .i64 t1054.Code, .int .i64 t1054.Place]]) (resCell rfl ((hS.blk 0 rfl).ldAll ag110 sz110) resNil) ?_
          replace hS := hS.take 0; simp only [List.take_succ_cons, List.take_zero] at hS
          exact ⟨rfl, hS.x⟩
        · replace hm := condF hm hc1063
          refine wp_skip (then_normal (wp_seq (wp_seq (wp_region_lit (n_q H (q_assign rfl) rfl ?_))))); clear H a; intro a H
          refine n_nil (then_normal (wp_block ?_))
          replace hS := hS.take 2; simp only [List.take_succ_cons, List.take_zero] at hS
          replace hm := bindS hm; obtain ⟨q1066, hm, hm1066⟩ := hm; replace hm := iter_some hm; obtain ⟨n1066, hm⟩ := hm
          refine c_loop (σ := Nat × Nat) (fun (m, i1067) => [(1, .pointer (some ⟨b21, 0, none⟩)), (2, .pointer (some ⟨b24, 0, none⟩)), (4, .int .i64 ((i1067 : Nat) : Int))]) (fun (m, i1067) wl => iterN (g_r14_Check_L7 a0) m i1067 = some q1066 ∧ St NB w wl [blkR b21 [.int .i64 a0.Ticks, vp0_0, vp0_1, vp0_2, vp0_3, .int .i64 a0.Tries] 27, blkR b24 [.int .i64 0, .int .i64 0] 110]) (fun (m, i1067) => m) (n1066, 0) H ⟨rfl, rfl, rfl, trivial⟩ ⟨hm, hS⟩ ?_
          clear H hS hm a; intro xx a w1068 H hR; obtain ⟨m, i1067⟩ := xx; simp only [ent, List.map_cons, List.map_nil] at H; (try dsimp only at hR); obtain ⟨hm, hS⟩ := hR
          replace hm := iterN_step hm; obtain ⟨m1066, o1066, rfl, hm, hn1066⟩ := hm; try dsimp only [g_r14_Check_L7] at hm
          refine wp_seq (wp_seq (wp_region_lit (n_q H (q_move rfl) rfl (W_q (q_fieldAddr0 rfl fo27_1) rfl (W_q (q_load rfl ((hS.blk 0 rfl).ld ag22 rfl)) rfl ?_))))); clear H a; intro a H
          obtain ⟨A1069, c1069, hv1069, hl1069, hm1069⟩ := SlR.formV (hrp0_0.ext RGPlan.mono hS.x)
          refine n_q H (q_lenV Tryd.underlying22 rfl hv1069) rfl (W_q (q_lssN (i := i1067) (j := a0.Parts.length) rfl rfl) rfl ?_); clear H a; intro a H
          refine n_nil (then_normal (c_cond H rfl (fun hc1070 => ?_) (fun hc1070 => ?_)))
          · replace hm := condT hm hc1070
            have hlt1071 : i1067 < a0.Parts.length := of_decide_eq_true hc1070
            refine wp_skip (then_normal (wp_seq (wp_block ?_)))
            replace hm := bindS hm; obtain ⟨j1072, hm, hm1072⟩ := hm
            refine c_join (σ := Bool) H (fun q1573 => [(1, .pointer (some ⟨b21, 0, none⟩)), (2, .pointer (some ⟨b24, 0, none⟩)), (4, .int .i64 ((i1067 : Nat) : Int)), (57, .bool q1573)]) (fun q1573 wl => (g_r14_Check_J6 i1067) q1573 = some o1066 ∧ St NB w wl [blkR b21 [.int .i64 a0.Ticks, vp0_0, vp0_1, vp0_2, vp0_3, .int .i64 a0.Tries] 27, blkR b24 [.int .i64 0, .int .i64 0] 110]) ?_ ?_
            · skip
              refine wp_region_lit (n_q H (q_fieldAddr0 rfl fo27_1) rfl (W_q (q_load rfl ((hS.blk 0 rfl).ld ag22 rfl)) rfl (W_q (q_move rfl) rfl ?_))); clear H a; intro a H
              replace hm := bindS hm; obtain ⟨x1574, hx1574, hm⟩ := hm
              obtain ⟨adx1574, hAx1574⟩ := SlR.adV (hrp0_0.ext RGPlan.mono hS.x) hv1069 hx1574
              obtain ⟨csx1574, hclx1574, ⟨vx1574_0, vx1574_1, vx1574_2, vx1574_3, rfl, hrx1574_0, hrx1574_1, hrx1574_2, hrx1574_3⟩, hcx1574⟩ := SlR.elV hrp0_0 hv1069 hAx1574 hx1574
              refine n_q H (q_ixV (i := i1067) Tryd.underlying22 sz68 rfl hv1069 hAx1574 rfl (natI hx1574)) rfl (W_q (q_fieldAddr rfl fo68_1) rfl (W_q (q_load rfl (LdX.ext (ldElC (j := 1) ag4 hcx1574 rfl) hS.x)) rfl (W_q (q_move rfl) rfl ?_))); clear H a; intro a H
              rcases Bool.eq_false_or_eq_true x1574.Mobile with hg1575 | hg1575
              · replace H := H.know 53 rfl hg1575
                replace hm := condT hm hg1575
                refine n_yes H rfl rfl (n_q H (q_load rfl ((hS.blk 0 rfl).ldAll ag27 sz27)) rfl (W_yes rfl rfl ?_)); clear H a; intro a H
                replace hm := bindS hm; obtain ⟨r1576, hr1576, hm⟩ := hm
                refine n_call H rfl en77 (g_r14_count_w (A := A) (⟨_, _, _, _, rfl, (hrp0_0.ext RGPlan.mono hS.x), (hrp0_1.ext (Flat.mono _) hS.x), (hrp0_2.ext (Flat.mono _) hS.x), (hrp0_3.ext (Flat.mono _) hS.x)⟩ : RGConfig _ [.int .i64 a0.Ticks, vp0_0, vp0_1, vp0_2, vp0_3, .int .i64 a0.Tries] a0) hr1576) rfl ?_
                clear H; intro x1579 w1577 hv; clear a; intro a H; obtain ⟨rfl, hE1578⟩ := hv
                replace hS := hS.ext hE1578
                refine n_yes H rfl rfl (n_q H (q_eqlD rfl rfl) rfl (W_q (q_pickT rfl rfl) rfl ?_)); clear H a; intro a H
                refine n_nil (then_normal ?_)
                obtain rfl := Option.some.inj hm; replace hm := hm1072; try dsimp only at hm
                exact join (decide (r1576 = 0)) H ⟨rfl, rfl, rfl, rfl, trivial⟩ ⟨hm, hS⟩
              · replace H := H.know 53 rfl hg1575
                replace hm := condF hm hg1575
                refine n_no H rfl rfl (by decide) rfl (W_no rfl rfl (by decide) rfl (W_no rfl rfl (by decide) rfl (W_q (q_pickF rfl rfl) rfl ?_))); clear H a; intro a H
                refine n_nil (then_normal ?_)
                obtain rfl := Option.some.inj hm; replace hm := hm1072; try dsimp only at hm
                exact join false H ⟨rfl, rfl, rfl, rfl, trivial⟩ ⟨hm, hS⟩
            · clear H hS hm a; intro q1573 a w1580 H hR
              simp only [ent, List.map_cons, List.map_nil] at H; (try dsimp only at hR); obtain ⟨hm, hS⟩ := hR; try dsimp only [g_r14_Check_J6] at hm
              refine c_cond H rfl (fun hc1581 => ?_) (fun hc1581 => ?_)
              · replace hm := condT hm hc1581
                refine wp_seq (wp_region_lit ?_)
                replace hm := bindS hm; obtain ⟨r1582, hr1582, hm⟩ := hm
                refine n_call H rfl en73 (g_r14_bad_w (A := A) hr1582) rfl ?_
                clear H; intro x1585 w1583 hv; clear a; intro a H; obtain ⟨rfl, hE1584⟩ := hv
                replace hS := hS.ext hE1584
                replace hS := hS.pick 1 rfl; dsimp only [List.eraseIdx] at hS
                refine n_storeAll H rfl rfl (vs := [.int .i64 r1582.Code, .int .i64 r1582.Place]) rfl sz110 (hS.blk 0 rfl) rfl (by simp) ?_
                clear H; intro w1586 hN hC1587 hz; clear a; intro a H; replace hS := hS.setBlk hN hC1587; clear hN hz
                refine n_nil (then_normal (wp_ret (block_ret (then_ret (then_ret (block_ret (then_ret ?_)))))))
                obtain rfl := Option.some.inj hm; have hz : _ = q1066 := hn1066; subst hz; replace hm := hm1066; try dsimp only at hm
                obtain rfl := Option.some.inj hm
                replace hS := hS.take 1; simp only [List.take_succ_cons, List.take_zero] at hS
                refine retL H (.inr rfl) rfl (vs := [.agg #[.int .i64 r1582.Code, .int .i64 r1582.Place]]) (resCell rfl ((hS.blk 0 rfl).ldAll ag110 sz110) resNil) ?_
                replace hS := hS.take 0; simp only [List.take_succ_cons, List.take_zero] at hS
                exact ⟨rfl, hS.x⟩
              · replace hm := condF hm hc1581
                refine wp_skip (block_normal (then_normal (wp_region_lit (n_q H (q_move rfl) rfl (W_q (q_incr (i := i1067) (j := 1) rfl rfl (by omega)) rfl (W_q (q_assign rfl) rfl ?_)))))); clear H a; intro a H
                refine n_nil (then_normal ?_)
                obtain rfl := Option.some.inj hm
                exact round (m1066, i1067 + 1) H ⟨rfl, rfl, rfl, trivial⟩ ⟨hn1066, hS⟩ (Nat.lt_succ_self _)
          · replace hm := condF hm hc1070
            refine wp_exit (then_exit (then_exit (block_exit ?_)))
            obtain rfl := Option.some.inj hm; have hz : _ = q1066 := hn1066; subst hz; replace hm := hm1066; try dsimp only at hm
            refine then_normal (wp_seq (wp_region_lit ?_))
            replace hm := bindS hm; obtain ⟨r1588, hr1588, hm⟩ := hm
            refine n_call H rfl en78 (g_r14_none_w (A := A) hr1588) rfl ?_
            clear H; intro x1591 w1589 hv; clear a; intro a H; obtain ⟨rfl, hE1590⟩ := hv
            replace hS := hS.ext hE1590
            replace hS := hS.pick 1 rfl; dsimp only [List.eraseIdx] at hS
            refine n_storeAll H rfl rfl (vs := [.int .i64 r1588.Code, .int .i64 r1588.Place]) rfl sz110 (hS.blk 0 rfl) rfl (by simp) ?_
            clear H; intro w1592 hN hC1593 hz; clear a; intro a H; replace hS := hS.setBlk hN hC1593; clear hN hz
            refine n_nil (then_normal (wp_ret ?_))
            obtain rfl := Option.some.inj hm
            replace hS := hS.take 1; simp only [List.take_succ_cons, List.take_zero] at hS
            refine retL H (.inr rfl) rfl (vs := [.agg #[.int .i64 r1588.Code, .int .i64 r1588.Place]]) (resCell rfl ((hS.blk 0 rfl).ldAll ag110 sz110) resNil) ?_
            replace hS := hS.take 0; simp only [List.take_succ_cons, List.take_zero] at hS
            exact ⟨rfl, hS.x⟩
end Go.Proofs.YtjoihegnjjjdaaaDoor
