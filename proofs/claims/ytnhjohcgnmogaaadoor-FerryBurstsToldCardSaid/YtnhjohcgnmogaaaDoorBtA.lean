/- Bt (written by wip/tools) -/
import Derived.Test.YtnhjohcgnmogaaaDoorBtD
set_option linter.unusedVariables false
set_option linter.unusedSimpArgs false
set_option maxRecDepth 10000
namespace Go.Proofs.YtnhjohcgnmogaaaDoor
open Go Go.RowKit
theorem ag23 : aggB Tryd.prog 23 = some false := by kernel_rfl
theorem ag5 : aggB Tryd.prog 5 = some false := by kernel_rfl
theorem ag54 : aggB Tryd.prog 54 = some true := by kernel_rfl
theorem ag56 : aggB Tryd.prog 56 = some false := by kernel_rfl
theorem bd128 : bdB Tryd.prog 128 = true := by kernel_rfl
theorem pl128 : placesB Tryd.prog 128 = some #[(0, 1), (1, 1)] := by kernel_rfl
theorem bd136 : bdB Tryd.prog 136 = true := by kernel_rfl
theorem pl136 : placesB Tryd.prog 136 = some #[(0, 1), (1, 1)] := by kernel_rfl
theorem bd142 : bdB Tryd.prog 142 = true := by kernel_rfl
theorem pl142 : placesB Tryd.prog 142 = some #[(0, 1), (1, 1), (2, 1)] := by kernel_rfl
theorem bd54 : bdB Tryd.prog 54 = true := by kernel_rfl
theorem pl54 : placesB Tryd.prog 54 = some #[(0, 1), (1, 1)] := by kernel_rfl
theorem el5 : ElemOk Tryd.prog 5 1 1 [.int .u8 0] := ⟨by kernel_rfl, by kernel_rfl, by kernel_rfl, rfl, by decide⟩
theorem el54 : ElemOk Tryd.prog 54 2 32 [.int .i64 0, .slice none 0 0] := ⟨by kernel_rfl, by kernel_rfl, by kernel_rfl, rfl, by decide⟩
theorem en106 : entersB Tryd.prog 106 = true := by kernel_rfl
theorem en13 : entersB Tryd.prog 13 = true := by kernel_rfl
theorem en22 : entersB Tryd.prog 22 = true := by kernel_rfl
theorem en23 : entersB Tryd.prog 23 = true := by kernel_rfl
theorem en24 : entersB Tryd.prog 24 = true := by kernel_rfl
theorem en25 : entersB Tryd.prog 25 = true := by kernel_rfl
theorem en26 : entersB Tryd.prog 26 = true := by kernel_rfl
theorem en27 : entersB Tryd.prog 27 = true := by kernel_rfl
theorem en33 : entersB Tryd.prog 33 = true := by kernel_rfl
theorem en35 : entersB Tryd.prog 35 = true := by kernel_rfl
theorem en36 : entersB Tryd.prog 36 = true := by kernel_rfl
theorem en37 : entersB Tryd.prog 37 = true := by kernel_rfl
theorem en40 : entersB Tryd.prog 40 = true := by kernel_rfl
theorem en50 : entersB Tryd.prog 50 = true := by kernel_rfl
theorem en51 : entersB Tryd.prog 51 = true := by kernel_rfl
theorem en57 : entersB Tryd.prog 57 = true := by kernel_rfl
theorem en58 : entersB Tryd.prog 58 = true := by kernel_rfl
theorem en59 : entersB Tryd.prog 59 = true := by kernel_rfl
theorem en60 : entersB Tryd.prog 60 = true := by kernel_rfl
theorem en61 : entersB Tryd.prog 61 = true := by kernel_rfl
theorem en62 : entersB Tryd.prog 62 = true := by kernel_rfl
theorem en63 : entersB Tryd.prog 63 = true := by kernel_rfl
theorem en68 : entersB Tryd.prog 68 = true := by kernel_rfl
theorem en69 : entersB Tryd.prog 69 = true := by kernel_rfl
theorem en70 : entersB Tryd.prog 70 = true := by kernel_rfl
theorem en71 : entersB Tryd.prog 71 = true := by kernel_rfl
theorem en72 : entersB Tryd.prog 72 = true := by kernel_rfl
theorem en73 : entersB Tryd.prog 73 = true := by kernel_rfl
theorem en74 : entersB Tryd.prog 74 = true := by kernel_rfl
theorem en80 : entersB Tryd.prog 80 = true := by kernel_rfl
theorem en88 : entersB Tryd.prog 88 = true := by kernel_rfl
theorem en9 : entersB Tryd.prog 9 = true := by kernel_rfl
theorem en94 : entersB Tryd.prog 94 = true := by kernel_rfl
theorem fo136_0 : fOff Tryd.prog 136 0 = some 0 := by kernel_rfl
theorem fo136_1 : fOff Tryd.prog 136 1 = some 1 := by kernel_rfl
theorem fo142_0 : fOff Tryd.prog 142 0 = some 0 := by kernel_rfl
theorem fo142_1 : fOff Tryd.prog 142 1 = some 1 := by kernel_rfl
theorem fo142_2 : fOff Tryd.prog 142 2 = some 2 := by kernel_rfl
theorem fo54_0 : fOff Tryd.prog 54 0 = some 0 := by kernel_rfl
theorem fo54_1 : fOff Tryd.prog 54 1 = some 1 := by kernel_rfl
theorem fo58_0 : fOff Tryd.prog 58 0 = some 0 := by kernel_rfl
theorem fo58_1 : fOff Tryd.prog 58 1 = some 1 := by kernel_rfl
theorem fo58_2 : fOff Tryd.prog 58 2 = some 2 := by kernel_rfl
theorem fo58_3 : fOff Tryd.prog 58 3 = some 3 := by kernel_rfl
theorem sz23 : sizeB Tryd.prog 23 = some 1 := by kernel_rfl
theorem sz3 : sizeB Tryd.prog 3 = some 1 := by kernel_rfl
theorem sz5 : sizeB Tryd.prog 5 = some 1 := by kernel_rfl
theorem sz54 : sizeB Tryd.prog 54 = some 2 := by kernel_rfl
theorem sz56 : sizeB Tryd.prog 56 = some 1 := by kernel_rfl
theorem ze128 : zeroB Tryd.prog 128 = some [.int .i64 0, .nilIface] := by kernel_rfl
theorem ze136 : zeroB Tryd.prog 136 = some [.slice none 0 0, .nilIface] := by kernel_rfl
theorem ze142 : zeroB Tryd.prog 142 = some [.slice none 0 0, .int .i64 0, .int .i64 0] := by kernel_rfl
theorem ze205 : zeroB Tryd.prog 205 = some [.int .u32 0, .int .u32 0, .int .u32 0, .int .u32 0, .int .u32 0, .int .u32 0, .int .u32 0, .int .u32 0, .int .u32 0, .int .u32 0, .int .u32 0, .int .u32 0, .int .u32 0, .int .u32 0, .int .u32 0, .int .u32 0, .int .u32 0, .int .u32 0, .int .u32 0, .int .u32 0, .int .u32 0, .int .u32 0, .int .u32 0, .int .u32 0, .int .u32 0, .int .u32 0, .int .u32 0, .int .u32 0, .int .u32 0, .int .u32 0, .int .u32 0, .int .u32 0, .int .u32 0, .int .u32 0, .int .u32 0, .int .u32 0, .int .u32 0, .int .u32 0, .int .u32 0, .int .u32 0, .int .u32 0, .int .u32 0, .int .u32 0, .int .u32 0, .int .u32 0, .int .u32 0, .int .u32 0, .int .u32 0, .int .u32 0, .int .u32 0, .int .u32 0, .int .u32 0, .int .u32 0, .int .u32 0, .int .u32 0, .int .u32 0, .int .u32 0, .int .u32 0, .int .u32 0, .int .u32 0, .int .u32 0, .int .u32 0, .int .u32 0, .int .u32 0, .int .u32 0, .int .u32 0, .int .u32 0, .int .u32 0, .int .u32 0, .int .u32 0, .int .u32 0, .int .u32 0, .int .u32 0, .int .u32 0, .int .u32 0, .int .u32 0, .int .u32 0, .int .u32 0, .int .u32 0, .int .u32 0, .int .u32 0, .int .u32 0, .int .u32 0, .int .u32 0, .int .u32 0, .int .u32 0, .int .u32 0, .int .u32 0, .int .u32 0, .int .u32 0, .int .u32 0, .int .u32 0, .int .u32 0, .int .u32 0, .int .u32 0, .int .u32 0, .int .u32 0, .int .u32 0, .int .u32 0, .int .u32 0, .int .u32 0, .int .u32 0, .int .u32 0, .int .u32 0, .int .u32 0, .int .u32 0, .int .u32 0, .int .u32 0, .int .u32 0, .int .u32 0, .int .u32 0, .int .u32 0, .int .u32 0, .int .u32 0, .int .u32 0, .int .u32 0, .int .u32 0, .int .u32 0, .int .u32 0, .int .u32 0, .int .u32 0, .int .u32 0, .int .u32 0, .int .u32 0, .int .u32 0, .int .u32 0, .int .u32 0, .int .u32 0, .int .u32 0, .int .u32 0, .int .u32 0, .int .u32 0, .int .u32 0, .int .u32 0, .int .u32 0, .int .u32 0, .int .u32 0, .int .u32 0, .int .u32 0, .int .u32 0, .int .u32 0, .int .u32 0, .int .u32 0, .int .u32 0, .int .u32 0, .int .u32 0, .int .u32 0, .int .u32 0, .int .u32 0, .int .u32 0, .int .u32 0, .int .u32 0, .int .u32 0, .int .u32 0, .int .u32 0, .int .u32 0, .int .u32 0, .int .u32 0, .int .u32 0, .int .u32 0, .int .u32 0, .int .u32 0, .int .u32 0, .int .u32 0, .int .u32 0, .int .u32 0, .int .u32 0, .int .u32 0, .int .u32 0, .int .u32 0, .int .u32 0, .int .u32 0, .int .u32 0, .int .u32 0, .int .u32 0, .int .u32 0, .int .u32 0, .int .u32 0, .int .u32 0, .int .u32 0, .int .u32 0, .int .u32 0, .int .u32 0, .int .u32 0, .int .u32 0, .int .u32 0, .int .u32 0, .int .u32 0, .int .u32 0, .int .u32 0, .int .u32 0, .int .u32 0, .int .u32 0, .int .u32 0, .int .u32 0, .int .u32 0, .int .u32 0, .int .u32 0, .int .u32 0, .int .u32 0, .int .u32 0, .int .u32 0, .int .u32 0, .int .u32 0, .int .u32 0, .int .u32 0, .int .u32 0, .int .u32 0, .int .u32 0, .int .u32 0, .int .u32 0, .int .u32 0, .int .u32 0, .int .u32 0, .int .u32 0, .int .u32 0, .int .u32 0, .int .u32 0, .int .u32 0, .int .u32 0, .int .u32 0, .int .u32 0, .int .u32 0, .int .u32 0, .int .u32 0, .int .u32 0, .int .u32 0, .int .u32 0, .int .u32 0, .int .u32 0, .int .u32 0, .int .u32 0, .int .u32 0, .int .u32 0, .int .u32 0, .int .u32 0, .int .u32 0, .int .u32 0, .int .u32 0, .int .u32 0, .int .u32 0, .int .u32 0, .int .u32 0, .int .u32 0, .int .u32 0, .int .u32 0, .int .u32 0, .int .u32 0, .int .u32 0, .int .u32 0, .int .u32 0, .int .u32 0, .int .u32 0, .int .u32 0, .int .u32 0, .int .u32 0] := by kernel_rfl
theorem ze5 : zeroB Tryd.prog 5 = some [.int .u8 0] := by kernel_rfl
theorem ze54 : zeroB Tryd.prog 54 = some [.int .i64 0, .slice none 0 0] := by kernel_rfl

theorem g_crc_step_w {w : World} {A : Nat → Addr} {a0 : Int} {r : Int} (hm : g_crc_step a0 = some r) :
    Calls Tryd.prog 106 [.int .u32 a0].toArray w (Ret fun u w' => u = .int .u32 r ∧ Ext w w') := by
  have hS := St.begin NB w
  unfold g_crc_step at hm
  refine enter Tryd.func106 rfl rfl rfl ?_; intro a H; dsimp only [enumL, Nat.zero_add, Nat.reduceAdd] at H
  refine wp_seq (wp_region_lit (n_q H (q_assign rfl) rfl ?_)); clear H a; intro a H
  refine n_nil (then_normal (wp_seq (wp_seq (wp_region_lit (n_q H (q_move rfl) rfl (W_q (q_and rfl rfl) rfl (W_q (q_eqlD rfl rfl) rfl ?_))))))); clear H a; intro a H
  refine n_nil (then_normal (c_cond H rfl (fun hc21 => ?_) (fun hc21 => ?_)))
  · replace hm := condT hm hc21
    refine wp_seq (wp_region_lit (n_q H (q_move rfl) rfl (W_q (q_shr rfl rfl (by decide)) rfl (W_q (q_xor rfl rfl) rfl (W_q (q_assign rfl) rfl ?_))))); clear H a; intro a H
    refine n_nil (then_normal (wp_ret (then_ret ?_)))
    obtain rfl := Option.some.inj hm
    refine ret1 H (.inr rfl) rfl rfl ?_
    exact ⟨rfl, hS.x⟩
  · replace hm := condF hm hc21
    refine wp_skip (then_normal (wp_seq (wp_region_lit (n_q H (q_move rfl) rfl (W_q (q_shr rfl rfl (by decide)) rfl (W_q (q_assign rfl) rfl ?_)))))); clear H a; intro a H
    refine n_nil (then_normal (wp_ret ?_))
    obtain rfl := Option.some.inj hm
    refine ret1 H (.inr rfl) rfl rfl ?_
    exact ⟨rfl, hS.x⟩
theorem g_crc_table_w {w : World} {A : Nat → Addr} {r : Vector Int 256} (hm : g_crc_table = some r) :
    Calls Tryd.prog 94 [].toArray w (Ret fun u w' => ∃ (h_0 : Nat), u = .pointer (some ⟨h_0, 0, none⟩) ∧ St NB w w' [blkR h_0 (r.toList.map (Value.int .u32)) 205]) := by
  have hS := St.begin NB w
  unfold g_crc_table at hm
  refine enter Tryd.func94 rfl rfl rfl ?_; intro a H; dsimp only [enumL, Nat.zero_add, Nat.reduceAdd] at H
  refine wp_seq (wp_region_lit (n_q H (q_assign rfl) rfl ?_)); clear H a; intro a H
  refine n_nil (then_normal (wp_seq (wp_region_lit ?_)))
  refine n_q H (q_buildArr (cs := [.int .u32 0, .int .u32 0, .int .u32 0, .int .u32 0, .int .u32 0, .int .u32 0, .int .u32 0, .int .u32 0, .int .u32 0, .int .u32 0, .int .u32 0, .int .u32 0, .int .u32 0, .int .u32 0, .int .u32 0, .int .u32 0, .int .u32 0, .int .u32 0, .int .u32 0, .int .u32 0, .int .u32 0, .int .u32 0, .int .u32 0, .int .u32 0, .int .u32 0, .int .u32 0, .int .u32 0, .int .u32 0, .int .u32 0, .int .u32 0, .int .u32 0, .int .u32 0, .int .u32 0, .int .u32 0, .int .u32 0, .int .u32 0, .int .u32 0, .int .u32 0, .int .u32 0, .int .u32 0, .int .u32 0, .int .u32 0, .int .u32 0, .int .u32 0, .int .u32 0, .int .u32 0, .int .u32 0, .int .u32 0, .int .u32 0, .int .u32 0, .int .u32 0, .int .u32 0, .int .u32 0, .int .u32 0, .int .u32 0, .int .u32 0, .int .u32 0, .int .u32 0, .int .u32 0, .int .u32 0, .int .u32 0, .int .u32 0, .int .u32 0, .int .u32 0, .int .u32 0, .int .u32 0, .int .u32 0, .int .u32 0, .int .u32 0, .int .u32 0, .int .u32 0, .int .u32 0, .int .u32 0, .int .u32 0, .int .u32 0, .int .u32 0, .int .u32 0, .int .u32 0, .int .u32 0, .int .u32 0, .int .u32 0, .int .u32 0, .int .u32 0, .int .u32 0, .int .u32 0, .int .u32 0, .int .u32 0, .int .u32 0, .int .u32 0, .int .u32 0, .int .u32 0, .int .u32 0, .int .u32 0, .int .u32 0, .int .u32 0, .int .u32 0, .int .u32 0, .int .u32 0, .int .u32 0, .int .u32 0, .int .u32 0, .int .u32 0, .int .u32 0, .int .u32 0, .int .u32 0, .int .u32 0, .int .u32 0, .int .u32 0, .int .u32 0, .int .u32 0, .int .u32 0, .int .u32 0, .int .u32 0, .int .u32 0, .int .u32 0, .int .u32 0, .int .u32 0, .int .u32 0, .int .u32 0, .int .u32 0, .int .u32 0, .int .u32 0, .int .u32 0, .int .u32 0, .int .u32 0, .int .u32 0, .int .u32 0, .int .u32 0, .int .u32 0, .int .u32 0, .int .u32 0, .int .u32 0, .int .u32 0, .int .u32 0, .int .u32 0, .int .u32 0, .int .u32 0, .int .u32 0, .int .u32 0, .int .u32 0, .int .u32 0, .int .u32 0, .int .u32 0, .int .u32 0, .int .u32 0, .int .u32 0, .int .u32 0, .int .u32 0, .int .u32 0, .int .u32 0, .int .u32 0, .int .u32 0, .int .u32 0, .int .u32 0, .int .u32 0, .int .u32 0, .int .u32 0, .int .u32 0, .int .u32 0, .int .u32 0, .int .u32 0, .int .u32 0, .int .u32 0, .int .u32 0, .int .u32 0, .int .u32 0, .int .u32 0, .int .u32 0, .int .u32 0, .int .u32 0, .int .u32 0, .int .u32 0, .int .u32 0, .int .u32 0, .int .u32 0, .int .u32 0, .int .u32 0, .int .u32 0, .int .u32 0, .int .u32 0, .int .u32 0, .int .u32 0, .int .u32 0, .int .u32 0, .int .u32 0, .int .u32 0, .int .u32 0, .int .u32 0, .int .u32 0, .int .u32 0, .int .u32 0, .int .u32 0, .int .u32 0, .int .u32 0, .int .u32 0, .int .u32 0, .int .u32 0, .int .u32 0, .int .u32 0, .int .u32 0, .int .u32 0, .int .u32 0, .int .u32 0, .int .u32 0, .int .u32 0, .int .u32 0, .int .u32 0, .int .u32 0, .int .u32 0, .int .u32 0, .int .u32 0, .int .u32 0, .int .u32 0, .int .u32 0, .int .u32 0, .int .u32 0, .int .u32 0, .int .u32 0, .int .u32 0, .int .u32 0, .int .u32 0, .int .u32 0, .int .u32 0, .int .u32 0, .int .u32 0, .int .u32 0, .int .u32 0, .int .u32 0, .int .u32 0, .int .u32 0, .int .u32 0, .int .u32 0, .int .u32 0, .int .u32 0, .int .u32 0, .int .u32 0, .int .u32 0, .int .u32 0, .int .u32 0, .int .u32 0, .int .u32 0, .int .u32 0, .int .u32 0, .int .u32 0, .int .u32 0, .int .u32 0, .int .u32 0, .int .u32 0, .int .u32 0, .int .u32 0, .int .u32 0, .int .u32 0, .int .u32 0, .int .u32 0, .int .u32 0, .int .u32 0]) Tryd.underlying205 sz56 ze205 rfl (by kernel_rfl)) rfl ?_; clear H a; intro a H
  refine n_box H rfl (cs := ((#v[0, 0, 0, 0, 0, 0, 0, 0, 0, 0, 0, 0, 0, 0, 0, 0, 0, 0, 0, 0, 0, 0, 0, 0, 0, 0, 0, 0, 0, 0, 0, 0, 0, 0, 0, 0, 0, 0, 0, 0, 0, 0, 0, 0, 0, 0, 0, 0, 0, 0, 0, 0, 0, 0, 0, 0, 0, 0, 0, 0, 0, 0, 0, 0, 0, 0, 0, 0, 0, 0, 0, 0, 0, 0, 0, 0, 0, 0, 0, 0, 0, 0, 0, 0, 0, 0, 0, 0, 0, 0, 0, 0, 0, 0, 0, 0, 0, 0, 0, 0, 0, 0, 0, 0, 0, 0, 0, 0, 0, 0, 0, 0, 0, 0, 0, 0, 0, 0, 0, 0, 0, 0, 0, 0, 0, 0, 0, 0, 0, 0, 0, 0, 0, 0, 0, 0, 0, 0, 0, 0, 0, 0, 0, 0, 0, 0, 0, 0, 0, 0, 0, 0, 0, 0, 0, 0, 0, 0, 0, 0, 0, 0, 0, 0, 0, 0, 0, 0, 0, 0, 0, 0, 0, 0, 0, 0, 0, 0, 0, 0, 0, 0, 0, 0, 0, 0, 0, 0, 0, 0, 0, 0, 0, 0, 0, 0, 0, 0, 0, 0, 0, 0, 0, 0, 0, 0, 0, 0, 0, 0, 0, 0, 0, 0, 0, 0, 0, 0, 0, 0, 0, 0, 0, 0, 0, 0, 0, 0, 0, 0, 0, 0, 0, 0, 0, 0, 0, 0, 0, 0, 0, 0, 0, 0, 0, 0, 0, 0, 0, 0, 0, 0, 0, 0, 0, 0]).toList.map (Value.int .u32))) rfl rfl ?_
  clear H; intro b21 w22 hN hE23 hs; clear a; intro a H
  replace hS := hS.newBlk hN hE23 hs; clear hN hs
  refine n_q H (q_assign rfl) rfl ?_; clear H a; intro a H
  refine n_nil (then_normal (wp_seq (wp_seq (wp_region_lit (n_q H (q_move rfl) rfl ?_))))); clear H a; intro a H
  refine n_nil (then_normal (wp_block ?_))
  replace hm := bindS hm; obtain ⟨q24, hm, hm24⟩ := hm; replace hm := iter_some hm; obtain ⟨n24, hm⟩ := hm
  refine c_loop (σ := Nat × Nat × (Vector Int 256)) (fun (m, i25, y26) => [(1, .pointer (some ⟨b21, 0, none⟩)), (6, .int .i64 ((i25 : Nat) : Int))]) (fun (m, i25, y26) wl => iterN g_crc_table_L4 m (i25, y26) = some q24 ∧ St NB w wl [blkR b21 (y26.toList.map (Value.int .u32)) 205]) (fun (m, i25, y26) => m) (n24, 0, #v[0, 0, 0, 0, 0, 0, 0, 0, 0, 0, 0, 0, 0, 0, 0, 0, 0, 0, 0, 0, 0, 0, 0, 0, 0, 0, 0, 0, 0, 0, 0, 0, 0, 0, 0, 0, 0, 0, 0, 0, 0, 0, 0, 0, 0, 0, 0, 0, 0, 0, 0, 0, 0, 0, 0, 0, 0, 0, 0, 0, 0, 0, 0, 0, 0, 0, 0, 0, 0, 0, 0, 0, 0, 0, 0, 0, 0, 0, 0, 0, 0, 0, 0, 0, 0, 0, 0, 0, 0, 0, 0, 0, 0, 0, 0, 0, 0, 0, 0, 0, 0, 0, 0, 0, 0, 0, 0, 0, 0, 0, 0, 0, 0, 0, 0, 0, 0, 0, 0, 0, 0, 0, 0, 0, 0, 0, 0, 0, 0, 0, 0, 0, 0, 0, 0, 0, 0, 0, 0, 0, 0, 0, 0, 0, 0, 0, 0, 0, 0, 0, 0, 0, 0, 0, 0, 0, 0, 0, 0, 0, 0, 0, 0, 0, 0, 0, 0, 0, 0, 0, 0, 0, 0, 0, 0, 0, 0, 0, 0, 0, 0, 0, 0, 0, 0, 0, 0, 0, 0, 0, 0, 0, 0, 0, 0, 0, 0, 0, 0, 0, 0, 0, 0, 0, 0, 0, 0, 0, 0, 0, 0, 0, 0, 0, 0, 0, 0, 0, 0, 0, 0, 0, 0, 0, 0, 0, 0, 0, 0, 0, 0, 0, 0, 0, 0, 0, 0, 0, 0, 0, 0, 0, 0, 0, 0, 0, 0, 0, 0, 0, 0, 0, 0, 0, 0, 0]) H ⟨rfl, rfl, trivial⟩ ⟨hm, hS⟩ ?_
  clear H hS hm a; intro xx a w27 H hR; obtain ⟨m, i25, y26⟩ := xx; simp only [ent, List.map_cons, List.map_nil] at H; (try dsimp only at hR); obtain ⟨hm, hS⟩ := hR
  replace hm := iterN_step hm; obtain ⟨m24, o24, rfl, hm, hn24⟩ := hm; try dsimp only [g_crc_table_L4] at hm
  refine wp_seq (wp_region_lit (n_q H (q_lssN (i := i25) (j := 256) rfl rfl) rfl ?_)); clear H a; intro a H
  refine n_nil (then_normal (wp_seq (c_cond H rfl (fun hc28 => ?_) (fun hc28 => ?_))))
  · replace hm := condT hm hc28
    have hlt29 : i25 < 256 := of_decide_eq_true hc28
    refine wp_skip (then_normal (wp_seq (wp_block (wp_seq (wp_region_lit (n_q H (q_move rfl) rfl (W_q (q_assign rfl) rfl ?_))))))); clear H a; intro a H
    refine n_nil (then_normal (wp_seq (wp_region_lit (n_q H (q_move rfl) rfl (W_q (q_convI Tryd.underlying3 Tryd.underlying56 ⟨_, rfl⟩ rfl) rfl (W_q (q_assign rfl) rfl ?_)))))); clear H a; intro a H
    refine n_nil (then_normal (wp_seq (wp_seq (wp_region_lit (n_q H (q_move rfl) rfl ?_))))); clear H a; intro a H
    refine n_nil (then_normal (wp_block ?_))
    replace hm := bindS hm; obtain ⟨q30, hm, hm30⟩ := hm; replace hm := iter_some hm; obtain ⟨n30, hm⟩ := hm
    refine c_loop (σ := Nat × Int × Nat) (fun (m, z31, i32) => [(1, .pointer (some ⟨b21, 0, none⟩)), (2, .int .i64 ((i25 : Nat) : Int)), (3, .int .u32 z31), (6, .int .i64 ((i25 : Nat) : Int)), (11, .int .i64 ((i32 : Nat) : Int))]) (fun (m, z31, i32) wl => iterN g_crc_table_L3 m (z31, i32) = some q30 ∧ St NB w wl [blkR b21 (y26.toList.map (Value.int .u32)) 205]) (fun (m, z31, i32) => m) (n30, (IntKind.u32.wrap ((i25 : Nat) : Int)), 0) H ⟨rfl, rfl, rfl, rfl, rfl, trivial⟩ ⟨hm, hS⟩ ?_
    clear H hS hm a; intro xx a w33 H hR; obtain ⟨m, z31, i32⟩ := xx; simp only [ent, List.map_cons, List.map_nil] at H; (try dsimp only at hR); obtain ⟨hm, hS⟩ := hR
    replace hm := iterN_step hm; obtain ⟨m30, o30, rfl, hm, hn30⟩ := hm; try dsimp only [g_crc_table_L3] at hm
    refine wp_seq (wp_region_lit (n_q H (q_lssN (i := i32) (j := 8) rfl rfl) rfl ?_)); clear H a; intro a H
    refine n_nil (then_normal (wp_seq (c_cond H rfl (fun hc34 => ?_) (fun hc34 => ?_))))
    · replace hm := condT hm hc34
      have hlt35 : i32 < 8 := of_decide_eq_true hc34
      refine wp_skip (then_normal (wp_seq (wp_block (wp_region_lit (n_q H (q_move rfl) rfl ?_))))); clear H a; intro a H
      replace hm := bindS hm; obtain ⟨r36, hr36, hm⟩ := hm
      refine n_call H rfl en106 (g_crc_step_w (A := A) hr36) rfl ?_
      clear H; intro x39 w37 hv; clear a; intro a H; obtain ⟨rfl, hE38⟩ := hv
      replace hS := hS.ext hE38
      refine n_q H (q_assign rfl) rfl ?_; clear H a; intro a H
      refine n_nil (block_normal (then_normal (wp_region_lit (n_q H (q_incr (i := i32) (j := 1) rfl rfl (by omega)) rfl (W_q (q_move rfl) rfl ?_))))); clear H a; intro a H
      refine n_nil (then_normal ?_)
      obtain rfl := Option.some.inj hm
      exact round (m30, r36, i32 + 1) H ⟨rfl, rfl, rfl, rfl, rfl, trivial⟩ ⟨hn30, hS⟩ (Nat.lt_succ_self _)
    · replace hm := condF hm hc34
      refine wp_exit (then_exit (then_exit (block_exit ?_)))
      obtain rfl := Option.some.inj hm; have hz : _ = q30 := hn30; subst hz; replace hm := hm30; try dsimp only at hm
      refine then_normal (wp_region_lit (n_q H (q_move rfl) rfl (W_q (q_move rfl) rfl (W_q (q_move rfl) rfl (W_q (q_nilCheck rfl) rfl ?_))))); clear H a; intro a H
      replace hm := bindS hm; obtain ⟨x40, hx40, hm⟩ := hm
      obtain ⟨h0x40, h1x40, hxx40⟩ := rdV_some hx40
      refine n_q H (q_ixArrB Tryd.underlying205 sz56 rfl rfl h0x40 h1x40) rfl ?_; clear H a; intro a H
      refine n_store1 H rfl rfl sz56 (hS.blk 0 rfl) (by simp; omega) rfl ?_
      clear H; intro w41 hN hC42 hz; clear a; intro a H; replace hN := (congrArg (fun z => Blk w41 b21 z 205) (vec_setO y26 (Value.int .u32) (((i25 : Nat) : Int).toNat) z31)).mp hN; replace hS := hS.setBlk hN hC42; clear hN hz
      refine n_nil (block_normal (then_normal (wp_region_lit (n_q H (q_incr (i := i25) (j := 1) rfl rfl (by omega)) rfl (W_q (q_move rfl) rfl ?_))))); clear H a; intro a H
      refine n_nil (then_normal ?_)
      obtain rfl := Option.some.inj hm
      exact round (m24, i25 + 1, (y26.setIfInBounds (((i25 : Nat) : Int).toNat) z31)) H ⟨rfl, rfl, trivial⟩ ⟨hn24, hS⟩ (Nat.lt_succ_self _)
  · replace hm := condF hm hc28
    refine wp_exit (then_exit (then_exit (block_exit ?_)))
    obtain rfl := Option.some.inj hm; have hz : _ = q24 := hn24; subst hz; replace hm := hm24; try dsimp only at hm
    refine then_normal (wp_seq (wp_region_lit (n_q H (q_move rfl) rfl (W_q (q_assign rfl) rfl ?_)))); clear H a; intro a H
    refine n_nil (then_normal (wp_ret ?_))
    obtain rfl := Option.some.inj hm
    refine ret1 H (.inr rfl) rfl rfl ?_
    exact ⟨_, rfl, hS⟩
theorem g_crc_move_w {w : World} {A : Nat → Addr} {a0 : Int} {v1 : Value} {a1 : List UInt8} (h1 : SlR w 1 (Flat eB) v1 a1) {r : Int} (hm : g_crc_move a0 a1 = some r) :
    Calls Tryd.prog 80 [.int .u32 a0, v1].toArray w (Ret fun u w' => u = .int .u32 r ∧ Ext w w') := by
  have hS := St.begin NB w
  unfold g_crc_move at hm
  refine enter Tryd.func80 rfl rfl rfl ?_; intro a H; dsimp only [enumL, Nat.zero_add, Nat.reduceAdd] at H
  refine wp_seq (wp_region_lit (n_q H (q_assign rfl) rfl ?_)); clear H a; intro a H
  refine n_nil (then_normal (wp_seq (wp_seq (wp_region_lit (n_q H (q_move rfl) rfl ?_))))); clear H a; intro a H
  obtain ⟨A21, c21, hv21, hl21, hm21⟩ := SlR.formV (h1.ext (Flat.mono _) hS.x)
  refine n_q H (q_lenV Tryd.underlying23 rfl hv21) rfl (W_q (q_eqlN (i := a1.length) (j := 0) rfl rfl) rfl ?_); clear H a; intro a H
  refine n_nil (then_normal (c_cond H rfl (fun hc22 => ?_) (fun hc22 => ?_)))
  · replace hm := condT hm hc22
    refine wp_seq (wp_region_lit (n_q H (q_move rfl) rfl (W_q (q_assign rfl) rfl ?_))); clear H a; intro a H
    refine n_nil (then_normal (wp_ret (then_ret ?_)))
    obtain rfl := Option.some.inj hm
    refine ret1 H (.inr rfl) rfl rfl ?_
    exact ⟨rfl, hS.x⟩
  · replace hm := condF hm hc22
    refine wp_skip (then_normal (wp_seq (wp_region_lit ?_)))
    replace hm := bindS hm; obtain ⟨r23, hr23, hm⟩ := hm
    refine n_call H rfl en94 (g_crc_table_w (A := A) hr23) rfl ?_
    clear H; intro x28 w26 hv; clear a; intro a H; obtain ⟨u24, rfl, hE27⟩ := hv
    replace hS := hS.new hE27; simp only [List.cons_append, List.nil_append] at hS
    refine n_q H (q_assign rfl) rfl ?_; clear H a; intro a H
    refine n_nil (then_normal (wp_seq (wp_seq (wp_region_lit (n_q H (q_move rfl) rfl (W_q (q_lenV Tryd.underlying23 rfl hv21) rfl (W_q (q_move rfl) rfl ?_))))))); clear H a; intro a H
    refine n_nil (then_normal (wp_block ?_))
    replace hm := bindS hm; obtain ⟨q29, hm, hm29⟩ := hm; replace hm := iter_some hm; obtain ⟨n29, hm⟩ := hm
    refine c_loop (σ := Nat × Int × Nat) (fun (m, z30, i31) => [(0, .int .u32 z30), (5, .pointer (some ⟨u24, 0, none⟩)), (13, v1), (14, .int .i64 ((a1.length : Nat) : Int)), (15, .int .i64 ((i31 : Nat) : Int))]) (fun (m, z30, i31) wl => iterN (g_crc_move_L1 a1 r23) m (z30, i31) = some q29 ∧ St NB w wl [blkR u24 (r23.toList.map (Value.int .u32)) 205]) (fun (m, z30, i31) => m) (n29, a0, 0) H ⟨rfl, rfl, rfl, rfl, rfl, trivial⟩ ⟨hm, hS⟩ ?_
    clear H hS hm a; intro xx a w32 H hR; obtain ⟨m, z30, i31⟩ := xx; simp only [ent, List.map_cons, List.map_nil] at H; (try dsimp only at hR); obtain ⟨hm, hS⟩ := hR
    replace hm := iterN_step hm; obtain ⟨m29, o29, rfl, hm, hn29⟩ := hm; try dsimp only [g_crc_move_L1] at hm
    refine wp_seq (wp_region_lit (n_q H (q_lssN (i := i31) (j := a1.length) rfl rfl) rfl ?_)); clear H a; intro a H
    refine n_nil (then_normal (wp_seq (c_cond H rfl (fun hc33 => ?_) (fun hc33 => ?_))))
    · replace hm := condT hm hc33
      have hlt34 : i31 < a1.length := of_decide_eq_true hc33
      refine wp_skip (then_normal (wp_seq (wp_block (wp_seq (wp_region_lit ?_)))))
      replace hm := bindS hm; obtain ⟨x35, hx35, hm⟩ := hm
      obtain ⟨adx35, hAx35⟩ := SlR.adV (h1.ext (Flat.mono _) hS.x) hv21 hx35
      refine n_q H (q_ixV (i := i31) Tryd.underlying23 sz5 rfl hv21 hAx35 rfl (natI hx35)) rfl (W_q (q_load rfl (SlR.ldOneV (h1.ext (Flat.mono _) hS.x) hv21 hAx35 ag5 hx35 rfl)) rfl (W_q (q_assign rfl) rfl ?_)); clear H a; intro a H
      refine n_nil (then_normal (wp_region_lit (n_q H (q_move rfl) rfl (W_q (q_move rfl) rfl (W_q (q_convI Tryd.underlying56 Tryd.underlying5 ⟨_, rfl⟩ rfl) rfl (W_q (q_move rfl) rfl (W_q (q_xor rfl rfl) rfl (W_q (q_nilCheck rfl) rfl ?_)))))))); clear H a; intro a H
      replace hm := bindS hm; obtain ⟨x36, hx36, hm⟩ := hm
      obtain ⟨h0x36, h1x36, hxx36⟩ := rdV_some hx36
      refine n_q H (q_ixArrB Tryd.underlying205 sz56 rfl rfl h0x36 h1x36) rfl (W_q (q_load rfl ((hS.blk 0 rfl).ld ag56 (arr_at1O (f := (Value.int .u32)) hxx36))) rfl (W_q (q_move rfl) rfl (W_q (q_shr rfl rfl (by decide)) rfl (W_q (q_xor rfl rfl) rfl (W_q (q_assign rfl) rfl ?_))))); clear H a; intro a H
      refine n_nil (block_normal (then_normal (wp_region_lit (n_q H (q_incr (i := i31) (j := 1) rfl rfl (by omega)) rfl (W_q (q_move rfl) rfl ?_))))); clear H a; intro a H
      refine n_nil (then_normal ?_)
      obtain rfl := Option.some.inj hm
      exact round (m29, (bitXor .u32 x36 (shR .u32 z30 8)), i31 + 1) H ⟨rfl, rfl, rfl, rfl, rfl, trivial⟩ ⟨hn29, hS⟩ (Nat.lt_succ_self _)
    · replace hm := condF hm hc33
      refine wp_exit (then_exit (then_exit (block_exit ?_)))
      obtain rfl := Option.some.inj hm; have hz : _ = q29 := hn29; subst hz; replace hm := hm29; try dsimp only at hm
      refine then_normal (wp_seq (wp_region_lit (n_q H (q_move rfl) rfl (W_q (q_assign rfl) rfl ?_)))); clear H a; intro a H
      refine n_nil (then_normal (wp_ret ?_))
      obtain rfl := Option.some.inj hm
      replace hS := hS.tk0
      refine ret1 H (.inr rfl) rfl rfl ?_
      exact ⟨rfl, hS.x⟩
theorem g_crc_More_w {w : World} {A : Nat → Addr} {a0 : Int} {v1 : Value} {a1 : List UInt8} (h1 : SlR w 1 (Flat eB) v1 a1) {r : Int} (hm : g_crc_More a0 a1 = some r) :
    Calls Tryd.prog 58 [.int .u32 a0, v1].toArray w (Ret fun u w' => u = .int .u32 r ∧ Ext w w') := by
  have hS := St.begin NB w
  unfold g_crc_More at hm
  refine enter Tryd.func58 rfl rfl rfl ?_; intro a H; dsimp only [enumL, Nat.zero_add, Nat.reduceAdd] at H
  refine wp_seq (wp_region_lit (n_q H (q_assign rfl) rfl ?_)); clear H a; intro a H
  refine n_nil (then_normal (wp_seq (wp_region_lit (n_q H (q_move rfl) rfl (W_q (q_compl rfl) rfl (W_q (q_move rfl) rfl ?_)))))); clear H a; intro a H
  replace hm := bindS hm; obtain ⟨r21, hr21, hm⟩ := hm
  refine n_call H rfl en80 (g_crc_move_w (A := A) (h1.ext (Flat.mono _) hS.x) hr21) rfl ?_
  clear H; intro x24 w22 hv; clear a; intro a H; obtain ⟨rfl, hE23⟩ := hv
  replace hS := hS.ext hE23
  refine n_q H (q_compl rfl) rfl (W_q (q_assign rfl) rfl ?_); clear H a; intro a H
  refine n_nil (then_normal (wp_ret ?_))
  obtain rfl := Option.some.inj hm
  refine ret1 H (.inr rfl) rfl rfl ?_
  exact ⟨rfl, hS.x⟩
theorem g_crc_Sum_w {w : World} {A : Nat → Addr} {v0 : Value} {a0 : List UInt8} (h0 : SlR w 1 (Flat eB) v0 a0) {r : Int} (hm : g_crc_Sum a0 = some r) :
    Calls Tryd.prog 22 [v0].toArray w (Ret fun u w' => u = .int .u32 r ∧ Ext w w') := by
  have hS := St.begin NB w
  unfold g_crc_Sum at hm
  refine enter Tryd.func22 rfl rfl rfl ?_; intro a H; dsimp only [enumL, Nat.zero_add, Nat.reduceAdd] at H
  refine wp_seq (wp_region_lit (n_q H (q_assign rfl) rfl ?_)); clear H a; intro a H
  refine n_nil (then_normal (wp_seq (wp_region_lit (n_q H (q_move rfl) rfl ?_)))); clear H a; intro a H
  replace hm := bindS hm; obtain ⟨r21, hr21, hm⟩ := hm
  refine n_call H rfl en58 (g_crc_More_w (A := A) (h0.ext (Flat.mono _) hS.x) hr21) rfl ?_
  clear H; intro x24 w22 hv; clear a; intro a H; obtain ⟨rfl, hE23⟩ := hv
  replace hS := hS.ext hE23
  refine n_q H (q_assign rfl) rfl ?_; clear H a; intro a H
  refine n_nil (then_normal (wp_ret ?_))
  obtain rfl := Option.some.inj hm
  refine ret1 H (.inr rfl) rfl rfl ?_
  exact ⟨rfl, hS.x⟩
theorem g_bytes_Clone_w {w : World} {A : Nat → Addr} {v0 : Value} {a0 : List UInt8} (h0 : SlR w 1 (Flat eB) v0 a0) {r : List UInt8} (hm : g_bytes_Clone a0 = some r) :
    Calls Tryd.prog 59 [v0].toArray w (Ret fun u w' => ∃ h_0, u = h_0 ∧ St NB w w' [ownR 5 1 h_0 r.length (r.flatMap eB)]) := by
  have hS := St.begin NB w
  unfold g_bytes_Clone at hm
  refine enter Tryd.func59 rfl rfl rfl ?_; intro a H; dsimp only [enumL, Nat.zero_add, Nat.reduceAdd] at H
  refine wp_seq (wp_region_lit (n_q H (q_assign rfl) rfl ?_)); clear H a; intro a H
  refine n_nil (then_normal (wp_seq (wp_seq (wp_region_lit (n_q H (q_move rfl) rfl ?_))))); clear H a; intro a H
  obtain ⟨A21, c21, hv21, hl21, hm21⟩ := SlR.formV (h0.ext (Flat.mono _) hS.x)
  refine n_q H (q_nilV Tryd.underlying23 rfl hv21 rfl) rfl ?_; clear H a; intro a H
  refine n_nil (then_normal (c_cond H rfl (fun hc22 => ?_) (fun hc22 => ?_)))
  · obtain rfl := SlR.nilV (h0.ext (Flat.mono _) hS.x) hv21 hc22; replace hm := chkS hm; obtain ⟨_, hm⟩ := hm
    refine wp_seq (wp_region_lit (n_q H (q_assign rfl) rfl ?_)); clear H a; intro a H
    refine n_nil (then_normal (wp_ret (then_ret ?_)))
    obtain rfl := Option.some.inj hm
    replace hS := hS.nilOwn 5 1
    refine ret1 H (.inr rfl) rfl rfl ?_
    exact ⟨_, rfl, hS⟩
  · skip
    refine wp_skip (then_normal (wp_seq (wp_region_lit (n_buildSlice H Tryd.underlying23 sz5 ze5 rfl rfl rfl (cs := []) rfl rfl ?_))))
    clear H; intro b26 w24 hN hE25 hs; clear a; intro a H
    replace hS := hS.newBlk hN hE25 hs; clear hN hs
    replace hS := hS.blkOwnL (e := eB) (k := 1) ([] : List UInt8) rfl rfl (by simp [maxLen])
    refine n_q H (q_move rfl) rfl ?_; clear H a; intro a H
    replace hm := chkS hm; obtain ⟨hk28, hm⟩ := hm
    refine n_app (e := eB) H rfl rfl Tryd.underlying23 Tryd.underlying23 (by simp) el5 (hS.own 0 rfl) ((h0.ext (Flat.mono _) hS.x).src (fun _ _ => rfl)) eB_one hk28 (by simp only [maxLen]; omega) rfl ?_
    clear H; intro v31 w29 hN hC30 hb; clear a; intro a H; replace hS := hS.setOwn hN hC30 hb; clear hN hb
    refine n_q H (q_assign rfl) rfl ?_; clear H a; intro a H
    refine n_nil (then_normal (wp_ret ?_))
    obtain rfl := Option.some.inj hm
    refine ret1 H (.inr rfl) rfl rfl ?_
    exact ⟨_, rfl, hS⟩
theorem g_crc_laid_w {w : World} {A : Nat → Addr} {a0 : Int} {r : List UInt8} (hm : g_crc_laid a0 = some r) :
    Calls Tryd.prog 60 [.int .u32 a0].toArray w (Ret fun u w' => ∃ h_0, u = h_0 ∧ St NB w w' [ownR 5 1 h_0 r.length (r.flatMap eB)]) := by
  have hS := St.begin NB w
  unfold g_crc_laid at hm
  refine enter Tryd.func60 rfl rfl rfl ?_; intro a H; dsimp only [enumL, Nat.zero_add, Nat.reduceAdd] at H
  refine wp_seq (wp_region_lit (n_q H (q_assign rfl) rfl ?_)); clear H a; intro a H
  refine n_nil (then_normal (wp_seq (wp_region_lit (n_q H (q_move rfl) rfl (W_q (q_convI Tryd.underlying56 Tryd.underlying5 ⟨_, rfl⟩ rfl) rfl (W_q (q_move rfl) rfl (W_q (q_shr rfl rfl (by decide)) rfl (W_q (q_convI Tryd.underlying56 Tryd.underlying5 ⟨_, rfl⟩ rfl) rfl (W_q (q_move rfl) rfl (W_q (q_shr rfl rfl (by decide)) rfl (W_q (q_convI Tryd.underlying56 Tryd.underlying5 ⟨_, rfl⟩ rfl) rfl (W_q (q_move rfl) rfl (W_q (q_shr rfl rfl (by decide)) rfl (W_q (q_convI Tryd.underlying56 Tryd.underlying5 ⟨_, rfl⟩ rfl) rfl ?_)))))))))))))); clear H a; intro a H
  refine n_buildSlice H Tryd.underlying23 sz5 ze5 rfl rfl rfl (cs := [.int .u8 (IntKind.u8.wrap a0), .int .u8 (IntKind.u8.wrap (shR .u32 a0 8)), .int .u8 (IntKind.u8.wrap (shR .u32 a0 16)), .int .u8 (IntKind.u8.wrap (shR .u32 a0 24))]) (by kernel_rfl) rfl ?_
  clear H; intro b23 w21 hN hE22 hs; clear a; intro a H
  replace hS := hS.newBlk hN hE22 hs; clear hN hs
  replace hS := hS.blkOwnL (e := eB) (k := 1) [(byteOf a0), (byteOf (shR .u32 a0 8)), (byteOf (shR .u32 a0 16)), (byteOf (shR .u32 a0 24))] (by simp [eB_wrap, eB_lit]) rfl (by simp [maxLen])
  refine n_q H (q_assign rfl) rfl ?_; clear H a; intro a H
  refine n_nil (then_normal (wp_ret ?_))
  obtain rfl := Option.some.inj hm
  refine ret1 H (.inr rfl) rfl rfl ?_
  exact ⟨_, rfl, hS⟩
theorem g_crc_Seal_w {w : World} {A : Nat → Addr} {v0 : Value} {a0 : List UInt8} (h0 : SlR w 1 (Flat eB) v0 a0) {r : List UInt8} (hm : g_crc_Seal a0 = some r) :
    Calls Tryd.prog 23 [v0].toArray w (Ret fun u w' => ∃ h_0, u = h_0 ∧ St NB w w' [ownR 5 1 h_0 r.length (r.flatMap eB)]) := by
  have hS := St.begin NB w
  unfold g_crc_Seal at hm
  refine enter Tryd.func23 rfl rfl rfl ?_; intro a H; dsimp only [enumL, Nat.zero_add, Nat.reduceAdd] at H
  refine wp_seq (wp_region_lit (n_q H (q_assign rfl) rfl ?_)); clear H a; intro a H
  refine n_nil (then_normal (wp_seq (wp_region_lit (n_q H (q_move rfl) rfl ?_)))); clear H a; intro a H
  replace hm := bindS hm; obtain ⟨r21, hr21, hm⟩ := hm
  refine n_call H rfl en59 (g_bytes_Clone_w (A := A) (h0.ext (Flat.mono _) hS.x) hr21) rfl ?_
  clear H; intro u22 w24 hv; clear a; intro a H; obtain ⟨_, rfl, hE25⟩ := hv
  replace hS := hS.new hE25; simp only [List.cons_append, List.nil_append] at hS
  refine n_q H (q_move rfl) rfl ?_; clear H a; intro a H
  replace hm := bindS hm; obtain ⟨r27, hr27, hm⟩ := hm
  refine n_call H rfl en22 (g_crc_Sum_w (A := A) (h0.ext (Flat.mono _) hS.x) hr27) rfl ?_
  clear H; intro x30 w28 hv; clear a; intro a H; obtain ⟨rfl, hE29⟩ := hv
  replace hS := hS.ext hE29
  replace hm := bindS hm; obtain ⟨r31, hr31, hm⟩ := hm
  refine n_call H rfl en60 (g_crc_laid_w (A := A) hr31) rfl ?_
  clear H; intro u32 w34 hv; clear a; intro a H; obtain ⟨_, rfl, hE35⟩ := hv
  replace hS := hS.new hE35; simp only [List.cons_append, List.nil_append] at hS
  replace hS := hS.pk1
  replace hm := chkS hm; obtain ⟨hk37, hm⟩ := hm
  refine n_app (e := eB) H rfl rfl Tryd.underlying23 Tryd.underlying23 (by simp) el5 (hS.own 0 rfl) (((hS.own 1 rfl).slr rfl (fun _ _ => rfl)).src (fun _ _ => rfl)) eB_one hk37 (by simp only [maxLen]; omega) rfl ?_
  clear H; intro v40 w38 hN hC39 hb; clear a; intro a H; replace hS := hS.setOwn hN hC39 hb; clear hN hb
  refine n_q H (q_assign rfl) rfl ?_; clear H a; intro a H
  refine n_nil (then_normal (wp_ret ?_))
  obtain rfl := Option.some.inj hm
  replace hS := hS.tk1
  refine ret1 H (.inr rfl) rfl rfl ?_
  exact ⟨_, rfl, hS⟩
theorem g_bytes_Equal_w {w : World} {A : Nat → Addr} {v0 : Value} {a0 : List UInt8} {v1 : Value} {a1 : List UInt8} (h0 : SlR w 1 (Flat eB) v0 a0) (h1 : SlR w 1 (Flat eB) v1 a1) {r : Bool} (hm : g_bytes_Equal a0 a1 = some r) :
    Calls Tryd.prog 61 [v0, v1].toArray w (Ret fun u w' => u = .bool r ∧ Ext w w') := by
  have hS := St.begin NB w
  unfold g_bytes_Equal at hm
  refine enter Tryd.func61 rfl rfl rfl ?_; intro a H; dsimp only [enumL, Nat.zero_add, Nat.reduceAdd] at H
  refine wp_seq (wp_region_lit (n_q H (q_assign rfl) rfl ?_)); clear H a; intro a H
  refine n_nil (then_normal (wp_seq (wp_region_lit (n_q H (q_move rfl) rfl (W_q (q_str Tryd.underlying23 Tryd.underlying5 Tryd.underlying9 rfl (fun w' hw => ((h0.ext (Flat.mono _) hS.x).ext (Flat.mono _) hw))) rfl (W_q (q_move rfl) rfl (W_q (q_str Tryd.underlying23 Tryd.underlying5 Tryd.underlying9 rfl (fun w' hw => ((h1.ext (Flat.mono _) hS.x).ext (Flat.mono _) hw))) rfl (W_q (q_eqlS rfl rfl) rfl (W_q (q_assign rfl) rfl ?_))))))))); clear H a; intro a H
  refine n_nil (then_normal (wp_ret ?_))
  obtain rfl := Option.some.inj hm
  refine ret1 H (.inr rfl) rfl rfl ?_
  exact ⟨rfl, hS.x⟩
theorem g_crc_Open_w {w : World} {A : Nat → Addr} {v0 : Value} {a0 : List UInt8} (hG : EV A w) (h0 : SlR w 1 (Flat eB) v0 a0) {r : List UInt8 × ErrM} (hm : g_crc_Open a0 = some r) :
    Calls Tryd.prog 24 [v0].toArray w (Ret fun u w' => ∃ h_0 h_1, u = .tuple #[h_0, h_1] ∧ St NB w w' [ownR 5 1 h_0 r.1.length (r.1.flatMap eB), erQ A h_1 r.2]) := by
  have hS := St.begin NB w
  unfold g_crc_Open at hm
  refine enter Tryd.func24 rfl rfl rfl ?_; intro a H; dsimp only [enumL, Nat.zero_add, Nat.reduceAdd] at H
  refine wp_seq (wp_region_lit (n_q H (q_assign rfl) rfl (W_q (q_assign rfl) rfl ?_))); clear H a; intro a H
  refine n_nil (then_normal (wp_seq (wp_seq (wp_region_lit (n_q H (q_move rfl) rfl ?_))))); clear H a; intro a H
  obtain ⟨A21, c21, hv21, hl21, hm21⟩ := SlR.formV (h0.ext (Flat.mono _) hS.x)
  refine n_q H (q_lenV Tryd.underlying23 rfl hv21) rfl (W_q (q_lssN (i := a0.length) (j := 4) rfl rfl) rfl ?_); clear H a; intro a H
  refine n_nil (then_normal (c_cond H rfl (fun hc22 => ?_) (fun hc22 => ?_)))
  · replace hm := condT hm hc22
    have hlt23 : a0.length < 4 := of_decide_eq_true hc22
    refine wp_seq (c_quiet (by kernel_rfl) (by kernel_rfl) ?_)
    refine qq_q H (q_load rfl ((hG.ext hS.x).ld gShort (by decide) ag33)) rfl ?_; clear H a; intro a H
    refine qq_q H (q_assign rfl) rfl ?_; clear H a; intro a H
    refine qq_q H (q_assign rfl) rfl ?_; clear H a; intro a H
    refine qq_nil ?_; intro w24 hE25
    replace hS := hS.ext hE25
    refine then_normal (wp_ret (then_ret ?_))
    obtain rfl := Option.some.inj hm
    replace hS := hS.nilOwn 5 1
    replace hS := hS.dVar (A := A) (g := gShort) (by decide)
    replace hS := hS.pk1
    refine ret2 H (.inr rfl) rfl rfl rfl ?_
    exact ⟨_, _, rfl, hS⟩
  · replace hm := condF hm hc22
    refine wp_skip (then_normal (wp_seq (wp_region_lit (n_q H (q_move rfl) rfl (W_q (q_move rfl) rfl (W_q (q_lenV Tryd.underlying23 rfl hv21) rfl (W_q (q_subW rfl rfl) rfl ?_))))))); clear H a; intro a H
    replace hm := chkS hm; obtain ⟨hk28, hm⟩ := hm
    refine n_q H (q_sliceTo Tryd.underlying23 sz5 (show _ = some (Value.slice A21 a0.length c21) by rw [← hv21]; rfl) rfl hk28.1 (by omega)) rfl (W_q (q_assign rfl) rfl ?_); clear H a; intro a H
    refine n_nil (then_normal (wp_seq (wp_seq (c_ord [] 9 (by kernel_rfl) ?_))))
    obtain ⟨w30, hw30⟩ : ∃ x, x = w.drew := ⟨_, rfl⟩; rw [← hw30]; have hE31 : Ext w w30 := by rw [hw30]; exact Ext.drew' _
    clear hw30
    replace hS := hS.ext hE31
    have hS32 := hS
    have hW := Nat.le_refl w30.heap.size
    refine k_takeT 0 H rfl (q_move rfl) rfl (by kernel_rfl) (by kernel_rfl) (by kernel_rfl) (by kernel_rfl) (fun _ _ _ h => h) ?_; clear H a; intro a H
    refine k_takeT 3 H rfl (q_move rfl) rfl (by kernel_rfl) (by kernel_rfl) (by kernel_rfl) (by kernel_rfl) (fun _ _ _ h => h) ?_; clear H a; intro a H
    refine k_takeT 4 H rfl (q_move rfl) rfl (by kernel_rfl) (by kernel_rfl) (by kernel_rfl) (by kernel_rfl) (fun _ _ _ h => h) ?_; clear H a; intro a H
    obtain ⟨A33, c33, hv33, hl33, hm33⟩ := SlR.formV (SlR.takeV (h0.ext (Flat.mono _) hS.x) hv21 hk28.1 hk28.2)
    refine k_takeT 5 H rfl (q_lenV Tryd.underlying23 rfl hv33) rfl (by kernel_rfl) (by kernel_rfl) (by kernel_rfl) (by kernel_rfl) (fun _ _ _ h => h) ?_; clear H a; intro a H
    replace hm := chkS hm; obtain ⟨hk34, hm⟩ := hm
    obtain ⟨A35, c35, hV35, hsub35⟩ := sub_sl 1 (Flat eB) A21 a0.length c21 a0 (lo := (((a0.take (IntKind.i64.wrap (((a0.length : Nat) : Int) - 4)).toNat).length : Nat) : Int)) (hi := ((a0.length : Nat) : Int)) hk34.1 hk34.2.1 hk34.2.2
    rw [← hv21] at hsub35
    refine k_takeT 6 H rfl (q_cast (q_sliceFrom Tryd.underlying23 sz5 (show _ = some (Value.slice A21 a0.length c21) by rw [← hv21]; rfl) rfl hk34.1 (by omega)) (show _ = Value.slice A35 (((a0.length : Nat) : Int).toNat - (((a0.take (IntKind.i64.wrap (((a0.length : Nat) : Int) - 4)).toNat).length : Nat) : Int).toNat) c35 by rw [← hV35]; simp)) rfl (by kernel_rfl) (by kernel_rfl) (by kernel_rfl) (by kernel_rfl) (fun _ _ _ h => h) ?_; clear H a; intro a H
    replace hm := bindS hm; obtain ⟨r36, hr36, hm⟩ := hm
    refine k_of_kk 1 (by kernel_rfl) ?_
    refine kk_call 1 H rfl rfl en22 (g_crc_Sum_w (A := A) (SlR.takeV (h0.ext (Flat.mono _) hS.x) hv21 hk28.1 hk28.2) hr36) rfl (fun v w hv => .inl (ChgF.of_ext (by obtain ⟨_, hE0⟩ := hv; exact hE0))) ?_
    clear H; intro x39 w37 hv; clear a; intro a H; obtain ⟨rfl, hE38⟩ := hv
    replace hS := hS.ext hE38
    replace hW := Nat.le_trans hW hE38.size
    replace hm := bindS hm; obtain ⟨r40, hr40, hm⟩ := hm
    refine k_of_kk 2 (by kernel_rfl) ?_
    refine kk_call 2 H rfl rfl en60 (g_crc_laid_w (A := A) hr40) rfl (fun v w hv => .inl (ChgF.of_ext (by obtain ⟨_, _, hE0⟩ := hv; exact hE0.x))) ?_
    clear H; intro u41 w43 hv; clear a; intro a H; obtain ⟨_, rfl, hE44⟩ := hv
    replace hS := hS.new hE44; simp only [List.cons_append, List.nil_append] at hS
    replace hW := Nat.le_trans hW hE44.x.size
    replace hm := bindS hm; obtain ⟨r46, hr46, hm⟩ := hm
    refine k_of_kk 7 (by kernel_rfl) ?_
    refine kk_call 7 H rfl rfl en61 (g_bytes_Equal_w (A := A) ((hS.own 0 rfl).slr rfl (fun _ _ => rfl)) (hsub35 _ (h0.ext (Flat.mono _) hS.x)) hr46) rfl (fun v w hv => .inl (ChgF.of_ext (by obtain ⟨_, hE0⟩ := hv; exact hE0))) ?_
    clear H; intro x49 w47 hv; clear a; intro a H; obtain ⟨rfl, hE48⟩ := hv
    replace hS := hS.ext hE48
    replace hW := Nat.le_trans hW hE48.size
    refine k_takeT 8 H rfl (q_not rfl) rfl (by kernel_rfl) (by kernel_rfl) (by kernel_rfl) (by kernel_rfl) (fun _ _ _ h => h) ?_; clear H a; intro a H
    refine k_done (by kernel_rfl) ?_
    refine then_normal (c_cond H rfl (fun hc50 => ?_) (fun hc50 => ?_))
    · replace hm := condT hm hc50
      refine wp_seq (c_quiet (by kernel_rfl) (by kernel_rfl) ?_)
      refine qq_q H (q_load rfl ((hG.ext hS.x).ld gSum (by decide) ag33)) rfl ?_; clear H a; intro a H
      refine qq_q H (q_assign rfl) rfl ?_; clear H a; intro a H
      refine qq_q H (q_assign rfl) rfl ?_; clear H a; intro a H
      refine qq_nil ?_; intro w51 hE52
      replace hS := hS.ext hE52
      refine then_normal (wp_ret (then_ret ?_))
      obtain rfl := Option.some.inj hm
      replace hS := hS.nilOwn 5 1
      replace hS := hS.dVar (A := A) (g := gSum) (by decide)
      replace hS := hS.pk1
      replace hS := hS.tk2
      refine ret2 H (.inr rfl) rfl rfl rfl ?_
      exact ⟨_, _, rfl, hS⟩
    · replace hm := condF hm hc50
      refine wp_skip (then_normal (wp_seq (wp_region_lit (n_q H (q_move rfl) rfl ?_)))); clear H a; intro a H
      replace hm := bindS hm; obtain ⟨r55, hr55, hm⟩ := hm
      refine n_call H rfl en59 (g_bytes_Clone_w (A := A) (SlR.takeV (h0.ext (Flat.mono _) hS.x) hv21 hk28.1 hk28.2) hr55) rfl ?_
      clear H; intro u56 w58 hv; clear a; intro a H; obtain ⟨_, rfl, hE59⟩ := hv
      replace hS := hS.new hE59; simp only [List.cons_append, List.nil_append] at hS
      refine n_q H (q_assign rfl) rfl (W_q (q_assign rfl) rfl ?_); clear H a; intro a H
      refine n_nil (then_normal (wp_ret ?_))
      obtain rfl := Option.some.inj hm
      replace hS := hS.dNil (A := A)
      replace hS := hS.pk1
      replace hS := hS.tk2
      refine ret2 H (.inr rfl) rfl rfl rfl ?_
      exact ⟨_, _, rfl, hS⟩
theorem g_math_bits_Len32_w {w : World} {A : Nat → Addr} {a0 : Int} {r : Int} (hm : g_math_bits_Len32 a0 = some r) :
    Calls Tryd.prog 62 [.int .u32 a0].toArray w (Ret fun u w' => u = .int .i64 r ∧ Ext w w') := by
  have hS := St.begin NB w
  unfold g_math_bits_Len32 at hm
  refine enter Tryd.func62 rfl rfl rfl ?_; intro a H; dsimp only [enumL, Nat.zero_add, Nat.reduceAdd] at H
  refine wp_seq (wp_region_lit (n_q H (q_assign rfl) rfl ?_)); clear H a; intro a H
  refine n_nil (then_normal ?_)
  replace hm := bindS hm; obtain ⟨j21, hm, hm21⟩ := hm
  refine c_join (σ := Int × Nat) H (fun (z522, i523) => [(0, .int .u32 z522), (2, .int .i64 ((i523 : Nat) : Int))]) (fun (z522, i523) wl => g_math_bits_Len32_J2 (z522, i523) = some r ∧ St NB w wl []) ?_ ?_
  · skip
    refine wp_seq (wp_region_lit (n_q H (q_move rfl) rfl (W_q (q_geq rfl rfl) rfl ?_))); clear H a; intro a H
    refine n_nil (then_normal (c_cond H rfl (fun hc524 => ?_) (fun hc524 => ?_)))
    · replace hm := condT hm hc524
      refine wp_seq (wp_region_lit (n_q H (q_move rfl) rfl (W_q (q_shr rfl rfl (by decide)) rfl (W_q (q_assign rfl) rfl ?_)))); clear H a; intro a H
      refine n_nil (then_normal (wp_region_lit (n_q H (q_assign rfl) rfl ?_))); clear H a; intro a H
      refine n_nil (then_normal ?_)
      obtain rfl := Option.some.inj hm; replace hm := hm21; try dsimp only at hm
      exact join ((shR .u32 a0 16), 16) H ⟨rfl, rfl, trivial⟩ ⟨hm, hS⟩
    · replace hm := condF hm hc524
      refine wp_skip (then_normal ?_)
      obtain rfl := Option.some.inj hm; replace hm := hm21; try dsimp only at hm
      exact join (a0, 0) H ⟨rfl, rfl, trivial⟩ ⟨hm, hS⟩
  · clear H hS hm a; intro xx a w525 H hR
    obtain ⟨z522, i523⟩ := xx
    simp only [ent, List.map_cons, List.map_nil] at H; (try dsimp only at hR); obtain ⟨hm, hS⟩ := hR; try dsimp only [g_math_bits_Len32_J2] at hm
    replace hm := bindS hm; obtain ⟨j526, hm, hm526⟩ := hm
    refine c_join (σ := Int × Int) H (fun (z1027, z1028) => [(0, .int .u32 z1027), (2, .int .i64 z1028)]) (fun (z1027, z1028) wl => g_math_bits_Len32_J1 (z1027, z1028) = some r ∧ St NB w wl []) ?_ ?_
    · skip
      refine wp_seq (wp_region_lit (n_q H (q_move rfl) rfl (W_q (q_geq rfl rfl) rfl ?_))); clear H a; intro a H
      refine n_nil (then_normal (c_cond H rfl (fun hc1029 => ?_) (fun hc1029 => ?_)))
      · replace hm := condT hm hc1029
        refine wp_seq (wp_region_lit (n_q H (q_move rfl) rfl (W_q (q_shr rfl rfl (by decide)) rfl (W_q (q_assign rfl) rfl ?_)))); clear H a; intro a H
        refine n_nil (then_normal (wp_region_lit (n_q H (q_move rfl) rfl (W_q (q_addW rfl rfl) rfl (W_q (q_assign rfl) rfl ?_))))); clear H a; intro a H
        refine n_nil (then_normal ?_)
        obtain rfl := Option.some.inj hm; replace hm := hm526; try dsimp only at hm
        exact join ((shR .u32 z522 8), (IntKind.i64.wrap (((i523 : Nat) : Int) + 8))) H ⟨rfl, rfl, trivial⟩ ⟨hm, hS⟩
      · replace hm := condF hm hc1029
        refine wp_skip (then_normal ?_)
        obtain rfl := Option.some.inj hm; replace hm := hm526; try dsimp only at hm
        exact join (z522, ((i523 : Nat) : Int)) H ⟨rfl, rfl, trivial⟩ ⟨hm, hS⟩
    · clear H hS hm a; intro xx a w1030 H hR
      obtain ⟨z1027, z1028⟩ := xx
      simp only [ent, List.map_cons, List.map_nil] at H; (try dsimp only at hR); obtain ⟨hm, hS⟩ := hR; try dsimp only [g_math_bits_Len32_J1] at hm
      refine wp_seq (wp_region_lit (n_q H (q_move rfl) rfl (W_q (q_move rfl) rfl (W_q (q_convI Tryd.underlying56 Tryd.underlying5 ⟨_, rfl⟩ rfl) rfl ?_)))); clear H a; intro a H
      replace hm := bindS hm; obtain ⟨c1031, hc1031, hm⟩ := hm
      refine n_q H (q_ixS Tryd.underlying9 rfl rfl hc1031) rfl (W_q (q_convI Tryd.underlying5 Tryd.underlying3 ⟨_, rfl⟩ rfl) rfl (W_q (q_addW rfl rfl) rfl (W_q (q_assign rfl) rfl ?_))); clear H a; intro a H
      refine n_nil (then_normal (wp_ret ?_))
      obtain rfl := Option.some.inj hm
      refine ret1 H (.inr rfl) rfl rfl ?_
      exact ⟨rfl, hS.x⟩
theorem g_math_bits_TrailingZeros32_w {w : World} {A : Nat → Addr} {a0 : Int} (hT : TV w) {r : Int} (hm : g_math_bits_TrailingZeros32 a0 = some r) :
    Calls Tryd.prog 63 [.int .u32 a0].toArray w (Ret fun u w' => u = .int .i64 r ∧ Ext w w') := by
  have hS := St.begin NB w
  unfold g_math_bits_TrailingZeros32 at hm
  refine enter Tryd.func63 rfl rfl rfl ?_; intro a H; dsimp only [enumL, Nat.zero_add, Nat.reduceAdd] at H
  refine wp_seq (wp_region_lit (n_q H (q_assign rfl) rfl ?_)); clear H a; intro a H
  refine n_nil (then_normal (wp_seq (wp_seq (wp_region_lit (n_q H (q_move rfl) rfl (W_q (q_eqlD rfl rfl) rfl ?_)))))); clear H a; intro a H
  refine n_nil (then_normal (c_cond H rfl (fun hc21 => ?_) (fun hc21 => ?_)))
  · replace hm := condT hm hc21
    refine wp_seq (wp_region_lit (n_q H (q_assign rfl) rfl ?_)); clear H a; intro a H
    refine n_nil (then_normal (wp_ret (then_ret ?_)))
    obtain rfl := Option.some.inj hm
    refine ret1 H (.inr rfl) rfl rfl ?_
    exact ⟨rfl, hS.x⟩
  · replace hm := condF hm hc21
    refine wp_skip (then_normal (wp_seq (wp_region_lit (n_q H (q_move rfl) rfl (W_q (q_move rfl) rfl (W_q (q_negW rfl) rfl (W_q (q_and rfl rfl) rfl (W_q (q_mulW rfl rfl) rfl (W_q (q_shr rfl rfl (by decide)) rfl ?_))))))))); clear H a; intro a H
    replace hm := bindS hm; obtain ⟨x22, hx22, hm⟩ := hm
    obtain ⟨h0x22, h1x22, hxx22⟩ := rdV_some hx22
    refine n_q H (q_ixArrB Tryd.underlying153 sz5 rfl rfl h0x22 h1x22) rfl (W_q (q_load rfl (((hT.ext hS.x)).ld ag5 hxx22)) rfl (W_q (q_cast (q_convI Tryd.underlying5 Tryd.underlying3 ⟨_, rfl⟩ rfl) (wrap_byte_i64 _)) rfl (W_q (q_assign rfl) rfl ?_))); clear H a; intro a H
    refine n_nil (then_normal (wp_ret ?_))
    obtain rfl := Option.some.inj hm
    refine ret1 H (.inr rfl) rfl rfl ?_
    exact ⟨rfl, hS.x⟩
theorem g_crc_Turn_w {w : World} {A : Nat → Addr} {v0 : Value} {a0 : List UInt8} {a1 : Int} {a2 : Int} (hG : EV A w) (hT : TV w) (h0 : SlR w 1 (Flat eB) v0 a0) {r : List UInt8 × ErrM} (hm : g_crc_Turn a0 a1 a2 = some r) :
    Calls Tryd.prog 25 [v0, .int .i64 a1, .int .u32 a2].toArray w (Ret fun u w' => ∃ h_0 h_1, u = .tuple #[h_0, h_1] ∧ St NB w w' [ownR 5 1 h_0 r.1.length (r.1.flatMap eB), erQ A h_1 r.2]) := by
  have hS := St.begin NB w
  unfold g_crc_Turn at hm
  refine enter Tryd.func25 rfl rfl rfl ?_; intro a H; dsimp only [enumL, Nat.zero_add, Nat.reduceAdd] at H
  refine wp_seq (wp_region_lit (n_q H (q_assign rfl) rfl (W_q (q_assign rfl) rfl ?_))); clear H a; intro a H
  refine n_nil (then_normal (wp_seq ?_))
  replace hm := bindS hm; obtain ⟨j21, hm, hm21⟩ := hm
  refine c_join (σ := Bool) H (fun q522 => [(0, v0), (1, .int .i64 a1), (2, .int .u32 a2), (23, .bool q522)]) (fun q522 wl => (g_crc_Turn_J3 a0 a1 a2) q522 = some r ∧ St NB w wl []) ?_ ?_
  · skip
    refine wp_region_lit (n_q H (q_move rfl) rfl (W_q (q_eqlD rfl rfl) rfl (W_q (q_move rfl) rfl ?_))); clear H a; intro a H
    rcases Bool.eq_false_or_eq_true (decide (a2 = 0)) with hg523 | hg523
    · replace H := H.know 13 rfl hg523
      replace hm := condT hm hg523
      refine n_no H rfl rfl (by decide) rfl (W_no rfl rfl (by decide) rfl (W_q (q_pickT rfl rfl) rfl (W_q (q_move rfl) rfl (W_no rfl rfl (by decide) rfl (W_no rfl rfl (by decide) rfl (W_no rfl rfl (by decide) rfl (W_no rfl rfl (by decide) rfl (W_no rfl rfl (by decide) rfl (W_q (q_pickT rfl rfl) rfl ?_))))))))); clear H a; intro a H
      refine n_nil (then_normal ?_)
      obtain rfl := Option.some.inj hm; replace hm := hm21; try dsimp only at hm
      exact join true H ⟨rfl, rfl, rfl, rfl, trivial⟩ ⟨hm, hS⟩
    · replace H := H.know 13 rfl hg523
      replace hm := condF hm hg523
      refine n_yes H rfl rfl (n_q H (q_move rfl) rfl (W_yes rfl rfl (W_q (q_lss rfl rfl) rfl (W_q (q_pickF rfl rfl) rfl (W_q (q_move rfl) rfl ?_))))); clear H a; intro a H
      rcases Bool.eq_false_or_eq_true (decide (a1 < 0)) with hg524 | hg524
      · replace H := H.know 17 rfl hg524
        replace hm := condT hm hg524
        refine n_no H rfl rfl (by decide) rfl (W_no rfl rfl (by decide) rfl (W_no rfl rfl (by decide) rfl (W_no rfl rfl (by decide) rfl (W_no rfl rfl (by decide) rfl (W_q (q_pickT rfl rfl) rfl ?_))))); clear H a; intro a H
        refine n_nil (then_normal ?_)
        obtain rfl := Option.some.inj hm; replace hm := hm21; try dsimp only at hm
        exact join true H ⟨rfl, rfl, rfl, rfl, trivial⟩ ⟨hm, hS⟩
      · replace H := H.know 17 rfl hg524
        replace hm := condF hm hg524
        refine n_yes H rfl rfl (n_q H (q_move rfl) rfl (W_yes rfl rfl (W_q (q_quoW rfl rfl (by decide)) rfl (W_yes rfl rfl (W_q (q_move rfl) rfl (W_yes rfl rfl ?_)))))); clear H a; intro a H
        obtain ⟨A525, c525, hv525, hl525, hm525⟩ := SlR.formV (h0.ext (Flat.mono _) hS.x)
        refine n_q H (q_lenV Tryd.underlying23 rfl hv525) rfl (W_yes rfl rfl (W_q (q_geq rfl rfl) rfl (W_q (q_pickF rfl rfl) rfl ?_))); clear H a; intro a H
        refine n_nil (then_normal ?_)
        obtain rfl := Option.some.inj hm; replace hm := hm21; try dsimp only at hm
        exact join (decide (((a0.length : Nat) : Int) ≤ (IntKind.i64.wrap (Int.tdiv a1 8)))) H ⟨rfl, rfl, rfl, rfl, trivial⟩ ⟨hm, hS⟩
  · clear H hS hm a; intro q522 a w526 H hR
    simp only [ent, List.map_cons, List.map_nil] at H; (try dsimp only at hR); obtain ⟨hm, hS⟩ := hR; try dsimp only [g_crc_Turn_J3] at hm
    refine c_cond H rfl (fun hc527 => ?_) (fun hc527 => ?_)
    · replace hm := condT hm hc527
      refine wp_seq (c_quiet (by kernel_rfl) (by kernel_rfl) ?_)
      refine qq_q H (q_load rfl ((hG.ext hS.x).ld gArg (by decide) ag33)) rfl ?_; clear H a; intro a H
      refine qq_q H (q_assign rfl) rfl ?_; clear H a; intro a H
      refine qq_q H (q_assign rfl) rfl ?_; clear H a; intro a H
      refine qq_nil ?_; intro w528 hE529
      replace hS := hS.ext hE529
      refine then_normal (wp_ret (then_ret ?_))
      obtain rfl := Option.some.inj hm
      replace hS := hS.nilOwn 5 1
      replace hS := hS.dVar (A := A) (g := gArg) (by decide)
      replace hS := hS.pk1
      refine ret2 H (.inr rfl) rfl rfl rfl ?_
      exact ⟨_, _, rfl, hS⟩
    · replace hm := condF hm hc527
      refine wp_skip (then_normal (wp_seq (wp_seq (wp_region_lit (n_q H (q_move rfl) rfl (W_q (q_remW rfl rfl (by decide)) rfl (W_q (q_move rfl) rfl ?_))))))); clear H a; intro a H
      replace hm := bindS hm; obtain ⟨r532, hr532, hm⟩ := hm
      refine n_call H rfl en62 (g_math_bits_Len32_w (A := A) hr532) rfl ?_
      clear H; intro x535 w533 hv; clear a; intro a H; obtain ⟨rfl, hE534⟩ := hv
      replace hS := hS.ext hE534
      refine n_q H (q_addW rfl rfl) rfl (W_q (q_subW rfl rfl) rfl (W_q (q_assign rfl) rfl ?_)); clear H a; intro a H
      refine n_nil (then_normal (wp_seq (wp_region_lit (n_q H (q_move rfl) rfl (W_q (q_quoW rfl rfl (by decide)) rfl (W_q (q_move rfl) rfl (W_q (q_quoW rfl rfl (by decide)) rfl (W_q (q_addW rfl rfl) rfl (W_q (q_move rfl) rfl ?_))))))))); clear H a; intro a H
      obtain ⟨A536, c536, hv536, hl536, hm536⟩ := SlR.formV (h0.ext (Flat.mono _) hS.x)
      refine n_q H (q_lenV Tryd.underlying23 rfl hv536) rfl (W_q (q_geq rfl rfl) rfl ?_); clear H a; intro a H
      refine n_nil (then_normal (c_cond H rfl (fun hc537 => ?_) (fun hc537 => ?_)))
      · replace hm := condT hm hc537
        refine wp_seq (c_quiet (by kernel_rfl) (by kernel_rfl) ?_)
        refine qq_q H (q_load rfl ((hG.ext hS.x).ld gArg (by decide) ag33)) rfl ?_; clear H a; intro a H
        refine qq_q H (q_assign rfl) rfl ?_; clear H a; intro a H
        refine qq_q H (q_assign rfl) rfl ?_; clear H a; intro a H
        refine qq_nil ?_; intro w538 hE539
        replace hS := hS.ext hE539
        refine then_normal (wp_ret (then_ret ?_))
        obtain rfl := Option.some.inj hm
        replace hS := hS.nilOwn 5 1
        replace hS := hS.dVar (A := A) (g := gArg) (by decide)
        replace hS := hS.pk1
        refine ret2 H (.inr rfl) rfl rfl rfl ?_
        exact ⟨_, _, rfl, hS⟩
      · replace hm := condF hm hc537
        refine wp_skip (then_normal (wp_seq (wp_region_lit (n_q H (q_move rfl) rfl ?_)))); clear H a; intro a H
        replace hm := bindS hm; obtain ⟨r542, hr542, hm⟩ := hm
        refine n_call H rfl en59 (g_bytes_Clone_w (A := A) (h0.ext (Flat.mono _) hS.x) hr542) rfl ?_
        clear H; intro u543 w545 hv; clear a; intro a H; obtain ⟨_, rfl, hE546⟩ := hv
        replace hS := hS.new hE546; simp only [List.cons_append, List.nil_append] at hS
        refine n_q H (q_assign rfl) rfl ?_; clear H a; intro a H
        refine n_nil (then_normal (wp_seq (wp_block ?_)))
        replace hm := bindS hm; obtain ⟨q548, hm, hm548⟩ := hm; replace hm := iter_some hm; obtain ⟨n548, hm⟩ := hm
        refine c_loop (σ := Nat × Int × (List UInt8)) (fun (m, z549, l550) => [(1, .int .i64 a1), (2, .int .u32 z549), (9, u543)]) (fun (m, z549, l550) wl => iterN (g_crc_Turn_L2 a1) m (z549, l550) = some q548 ∧ St NB w wl [ownR 5 1 u543 l550.length (l550.flatMap eB)]) (fun (m, z549, l550) => m) (n548, a2, r542) H ⟨rfl, rfl, rfl, trivial⟩ ⟨hm, hS⟩ ?_
        clear H hS hm a; intro xx a w553 H hR; obtain ⟨m, z549, l550⟩ := xx; simp only [ent, List.map_cons, List.map_nil] at H; (try dsimp only at hR); obtain ⟨hm, hS⟩ := hR
        replace hm := iterN_step hm; obtain ⟨m548, o548, rfl, hm, hn548⟩ := hm; try dsimp only [g_crc_Turn_L2] at hm
        refine wp_seq (wp_seq (wp_region_lit (n_q H (q_move rfl) rfl (W_q (q_neqD rfl rfl) rfl ?_)))); clear H a; intro a H
        refine n_nil (then_normal (c_cond H rfl (fun hc554 => ?_) (fun hc554 => ?_)))
        · replace hm := condT hm hc554
          refine wp_skip (then_normal (wp_seq (wp_block (wp_seq (wp_region_lit (n_q H (q_move rfl) rfl (W_q (q_remW rfl rfl (by decide)) rfl (W_q (q_move rfl) rfl ?_)))))))); clear H a; intro a H
          replace hm := bindS hm; obtain ⟨r555, hr555, hm⟩ := hm
          refine n_call H rfl en63 (g_math_bits_TrailingZeros32_w (A := A) (hT.ext hS.x) hr555) rfl ?_
          clear H; intro x558 w556 hv; clear a; intro a H; obtain ⟨rfl, hE557⟩ := hv
          replace hS := hS.ext hE557
          refine n_q H (q_addW rfl rfl) rfl (W_q (q_assign rfl) rfl ?_); clear H a; intro a H
          refine n_nil (then_normal (c_ord [] 13 (by kernel_rfl) ?_))
          obtain ⟨w559, hw559⟩ : ∃ x, x = w556.drew := ⟨_, rfl⟩; rw [← hw559]; have hE560 : Ext w556 w559 := by rw [hw559]; exact Ext.drew' _
          clear hw559
          replace hS := hS.ext hE560
          have hS561 := hS
          have hW := Nat.le_refl w559.heap.size
          refine k_takeT 0 H rfl (q_move rfl) rfl (by kernel_rfl) (by kernel_rfl) (by kernel_rfl) (by kernel_rfl) (fun _ _ _ h => h) ?_; clear H a; intro a H
          refine k_takeT 1 H rfl (q_move rfl) rfl (by kernel_rfl) (by kernel_rfl) (by kernel_rfl) (by kernel_rfl) (fun _ _ _ h => h) ?_; clear H a; intro a H
          refine k_takeT 2 H rfl (q_quoW rfl rfl (by decide)) rfl (by kernel_rfl) (by kernel_rfl) (by kernel_rfl) (by kernel_rfl) (fun _ _ _ h => h) ?_; clear H a; intro a H
          refine k_takeT 3 H rfl (q_move rfl) rfl (by kernel_rfl) (by kernel_rfl) (by kernel_rfl) (by kernel_rfl) (fun _ _ _ h => h) ?_; clear H a; intro a H
          refine k_takeT 4 H rfl (q_quoW rfl rfl (by decide)) rfl (by kernel_rfl) (by kernel_rfl) (by kernel_rfl) (by kernel_rfl) (fun _ _ _ h => h) ?_; clear H a; intro a H
          refine k_takeT 5 H rfl (q_addW rfl rfl) rfl (by kernel_rfl) (by kernel_rfl) (by kernel_rfl) (by kernel_rfl) (fun _ _ _ h => h) ?_; clear H a; intro a H
          obtain ⟨A562, c562, hv562, hl562, hm562⟩ := SlR.formV ((hS.own 0 rfl).slr rfl (fun _ _ => rfl))
          replace hm := bindS hm; obtain ⟨x563, hx563, hm⟩ := hm
          obtain ⟨h0x563, h1x563, hxx563⟩ := rdI_some hx563
          obtain ⟨adx563, hAx563⟩ := SlR.adV ((hS.own 0 rfl).slr rfl (fun _ _ => rfl)) hv562 hxx563
          refine k_takeT 6 H rfl (q_ixVI Tryd.underlying23 sz5 rfl hv562 hAx563 rfl h0x563 h1x563) rfl (by kernel_rfl) (by kernel_rfl) (by kernel_rfl) (by kernel_rfl) (fun _ _ _ h => h) ?_; clear H a; intro a H
          refine k_take 7 H rfl (q_load rfl (LdC.old (SlR.ldOneV ((hS561.own 0 rfl).slr rfl (fun _ _ => rfl)) hv562 hAx563 ag5 hxx563 rfl) Ext.rfl' (Nat.le_refl _) (by simp))) rfl (by kernel_rfl) (by kernel_rfl) (by kernel_rfl) (by kernel_rfl) (fun _ _ _ h => h) ?_; clear H a; intro a H
          refine k_takeT 8 H rfl (q_move rfl) rfl (by kernel_rfl) (by kernel_rfl) (by kernel_rfl) (by kernel_rfl) (fun _ _ _ h => h) ?_; clear H a; intro a H
          refine k_takeT 9 H rfl (q_remW rfl rfl (by decide)) rfl (by kernel_rfl) (by kernel_rfl) (by kernel_rfl) (by kernel_rfl) (fun _ _ _ h => h) ?_; clear H a; intro a H
          replace hm := chkS hm; obtain ⟨hk564, hm⟩ := hm
          refine k_takeT 10 H rfl (q_shl rfl rfl hk564) rfl (by kernel_rfl) (by kernel_rfl) (by kernel_rfl) (by kernel_rfl) (fun _ _ _ h => h) ?_; clear H a; intro a H
          refine k_takeT 11 H rfl (q_xor rfl rfl) rfl (by kernel_rfl) (by kernel_rfl) (by kernel_rfl) (by kernel_rfl) (fun _ _ _ h => h) ?_; clear H a; intro a H
          replace hm := bindS hm; obtain ⟨x565, hx565, hm⟩ := hm
          obtain ⟨h0x565, h1x565, hxx565⟩ := rdI_some hx565
          obtain ⟨adx565, hAx565⟩ := SlR.adV ((hS.own 0 rfl).slr rfl (fun _ _ => rfl)) hv562 hxx565
          refine k_takeT 12 H rfl (q_ixVI Tryd.underlying23 sz5 rfl hv562 hAx565 rfl h0x565 h1x565) rfl (by kernel_rfl) (by kernel_rfl) (by kernel_rfl) (by kernel_rfl) (fun _ _ _ h => h) ?_; clear H a; intro a H
          refine k_storeEl (e := eB) (x' := (byteOf (bitXor .u8 (x563.toNat : Int) (shL .u8 1 (Int.tmod (IntKind.i64.wrap ((Int.tmod a1 8) + r555)) 8))))) 13 H rfl rfl rfl sz5 (hS.own 0 rfl) hv562 hAx565 (natI hxx565) (by rw [eB_xor]; rfl) (eB_one _) (fun _ => rfl) (by kernel_rfl) (.inr (by kernel_rfl)) ?_
          clear H; intro w566 hN hC567; clear a; intro a H; replace hS := hS.setOwn hN hC567 (.inl rfl); clear hN; replace hW := Nat.le_trans hW hC567.size
          refine k_done (by kernel_rfl) ?_
          refine block_normal (then_normal (wp_region_lit (n_q H (q_move rfl) rfl (W_q (q_move rfl) rfl (W_q (q_subW rfl rfl) rfl (W_q (q_and rfl rfl) rfl (W_q (q_assign rfl) rfl ?_))))))); clear H a; intro a H
          refine n_nil (then_normal ?_)
          obtain rfl := Option.some.inj hm
          exact round (m548, (bitAnd .u32 z549 (IntKind.u32.wrap (z549 - 1))), (l550.set ((IntKind.i64.wrap ((IntKind.i64.wrap (Int.tdiv a1 8)) + (IntKind.i64.wrap (Int.tdiv (IntKind.i64.wrap ((Int.tmod a1 8) + r555)) 8)))).toNat) (byteOf (bitXor .u8 (x563.toNat : Int) (shL .u8 1 (Int.tmod (IntKind.i64.wrap ((Int.tmod a1 8) + r555)) 8)))))) H ⟨rfl, rfl, rfl, trivial⟩ ⟨hn548, hS⟩ (Nat.lt_succ_self _)
        · replace hm := condF hm hc554
          refine wp_exit (then_exit (then_exit (block_exit ?_)))
          obtain rfl := Option.some.inj hm; have hz : _ = q548 := hn548; subst hz; replace hm := hm548; try dsimp only at hm
          refine then_normal (wp_seq (wp_region_lit (n_q H (q_move rfl) rfl (W_q (q_assign rfl) rfl (W_q (q_assign rfl) rfl ?_))))); clear H a; intro a H
          refine n_nil (then_normal (wp_ret ?_))
          obtain rfl := Option.some.inj hm
          replace hS := hS.dNil (A := A)
          replace hS := hS.pk1
          refine ret2 H (.inr rfl) rfl rfl rfl ?_
          exact ⟨_, _, rfl, hS⟩
theorem g_wire_NewWriter_w {w : World} {A : Nat → Addr} {r : GWireWriter} (hm : g_wire_NewWriter = some r) :
    Calls Tryd.prog 33 [].toArray w (Ret fun u w' => ∃ (h_0 : Nat) (h_1 : Value) (h_2 : Value), u = .pointer (some ⟨h_0, 0, none⟩) ∧ St NB w w' [blkR h_0 [h_1, h_2] 136, ownR 5 1 h_1 r.buf_.length (r.buf_.flatMap eB), erQ A h_2 r.err_]) := by
  have hS := St.begin NB w
  unfold g_wire_NewWriter at hm
  refine enter Tryd.func33 rfl rfl rfl ?_; intro a H; dsimp only [enumL, Nat.zero_add, Nat.reduceAdd] at H
  refine wp_seq (wp_region_lit (n_q H (q_assign rfl) rfl ?_)); clear H a; intro a H
  refine n_nil (then_normal (wp_seq (wp_region_lit (n_q H (q_build (cs := [.slice none 0 0, .nilIface]) ze136 bd136 pl136 rfl (by kernel_rfl)) rfl ?_)))); clear H a; intro a H
  refine n_box H rfl (cs := [.slice none 0 0, .nilIface]) rfl rfl ?_
  clear H; intro b21 w22 hN hE23 hs; clear a; intro a H
  replace hS := hS.newBlk hN hE23 hs; clear hN hs
  refine n_q H (q_assign rfl) rfl ?_; clear H a; intro a H
  refine n_nil (then_normal (wp_ret ?_))
  obtain rfl := Option.some.inj hm
  replace hS := hS.nilOwn 5 1
  replace hS := hS.dNil (A := A)
  replace hS := hS.pk1
  replace hS := hS.pk2
  refine ret1 H (.inr rfl) rfl rfl ?_
  exact ⟨_, _, _, rfl, hS⟩
theorem g_wire_most_w {w : World} {A : Nat → Addr} {a0 : Int} {r : Int} (hm : g_wire_most a0 = some r) :
    Calls Tryd.prog 69 [.int .i64 a0].toArray w (Ret fun u w' => u = .int .i64 r ∧ Ext w w') := by
  have hS := St.begin NB w
  unfold g_wire_most at hm
  refine enter Tryd.func69 rfl rfl rfl ?_; intro a H; dsimp only [enumL, Nat.zero_add, Nat.reduceAdd] at H
  refine wp_seq (wp_region_lit (n_q H (q_assign rfl) rfl ?_)); clear H a; intro a H
  refine n_nil (then_normal (wp_seq (wp_region_lit (n_q H (q_move rfl) rfl (W_q (q_mulW rfl rfl) rfl ?_))))); clear H a; intro a H
  replace hm := chkS hm; obtain ⟨hk21, hm⟩ := hm
  refine n_q H (q_shl rfl rfl hk21) rfl (W_q (q_subW rfl rfl) rfl (W_q (q_assign rfl) rfl ?_)); clear H a; intro a H
  refine n_nil (then_normal (wp_ret ?_))
  obtain rfl := Option.some.inj hm
  refine ret1 H (.inr rfl) rfl rfl ?_
  exact ⟨rfl, hS.x⟩
theorem g_wire_at_w {w : World} {A : Nat → Addr} {a0 : Int} {v1 : Value} {a1 : ErrM} (h1 : IsE A w v1 a1) {r : ErrM} (hm : g_wire_at a0 a1 = some r) :
    Calls Tryd.prog 57 [.int .i64 a0, v1].toArray w (Ret fun u w' => ∃ h_0, u = h_0 ∧ St NB w w' [erQ A h_0 r]) := by
  have hS := St.begin NB w
  unfold g_wire_at at hm
  refine enter Tryd.func57 rfl rfl rfl ?_; intro a H; dsimp only [enumL, Nat.zero_add, Nat.reduceAdd] at H
  refine wp_seq (wp_region_lit (n_q H (q_assign rfl) rfl ?_)); clear H a; intro a H
  refine n_nil (then_normal (wp_seq (wp_region_lit (n_q H (q_move rfl) rfl (W_q (q_move rfl) rfl (W_q (q_build (cs := [.int .i64 a0, v1]) ze128 bd128 pl128 rfl ((fill1 rfl rfl (by simp)).trans ((fill1 (IsErr.ext h1 hS.x).one rfl (by simp)).trans rfl))) rfl ?_)))))); clear H a; intro a H
  refine n_box H rfl (cs := [.int .i64 a0, v1]) rfl rfl ?_
  clear H; intro b21 w22 hN hE23 hs; clear a; intro a H
  replace hS := hS.newBlk hN hE23 hs; clear hN hs
  replace hm := bindS hm; obtain ⟨r24, hr24, hm⟩ := hm
  have hIr24 := (IsErr.ext h1 hS.x)
  refine n_q H (q_makeInterface Tryd.underlying126 (by simp) rfl) rfl ?_; clear H a; intro a H
  replace hS := hS.dAtE hIr24 hr24
  refine n_q H (q_assign rfl) rfl ?_; clear H a; intro a H
  refine n_nil (then_normal (wp_ret ?_))
  obtain rfl := Option.some.inj hm
  refine ret1 H (.inr rfl) rfl rfl ?_
  exact ⟨_, rfl, hS⟩
theorem g_wire_Writer_spoil_w {w : World} {A : Nat → Addr} {fp : Nat → Prop} {b0 : Nat} {v0_0 : Value} {v0_1 : Value} {a0 : GWireWriter} {v1 : Value} {a1 : ErrM} (hP : Sep w fp [blkR b0 [v0_0, v0_1] 136, ownR 5 1 v0_0 a0.buf_.length (a0.buf_.flatMap eB), erQ A v0_1 a0.err_]) (h1 : ∀ w', ChgP fp w w' → IsE A w' v1 a1) {r : GWireWriter} (hm : g_wire_Writer_spoil a0 a1 = some r) :
    Calls Tryd.prog 70 [.pointer (some ⟨b0, 0, none⟩), v1].toArray w (Ret fun u w' => ∃ h_0 h_1, u = .tuple #[] ∧ St fp w w' [blkR b0 [h_0, h_1] 136, ownR 5 1 h_0 r.buf_.length (r.buf_.flatMap eB), erQ A h_1 r.err_]) := by
  have hS := St.init hP
  unfold g_wire_Writer_spoil at hm
  refine enter Tryd.func70 rfl rfl rfl ?_; intro a H; dsimp only [enumL, Nat.zero_add, Nat.reduceAdd] at H
  refine wp_seq (wp_region_lit (n_q H (q_move rfl) rfl (W_q (q_nilCheck rfl) rfl (W_q (q_fieldAddr0 rfl fo136_1) rfl (W_q (q_load rfl ((hS.blk 0 rfl).ld ag33 rfl)) rfl (W_q (q_cast (q_nilI Tryd.underlying33 rfl rfl (hS.any 2 rfl : IsE A w v0_1 a0.err_).form) (show _ = Value.bool (decide (a0.err_ = .nil)) by rw [IsErr.isNil (hS.any 2 rfl : IsE A w v0_1 a0.err_)])) rfl ?_)))))); clear H a; intro a H
  refine n_nil (then_normal (c_cond H rfl (fun hc21 => ?_) (fun hc21 => ?_)))
  · replace hm := condT hm hc21
    refine wp_region_lit (n_q H (q_move rfl) rfl (W_q (q_move rfl) rfl (W_q (q_nilCheck rfl) rfl (W_q (q_fieldAddr0 rfl fo136_0) rfl (W_q (q_load rfl ((hS.blk 0 rfl).ld ag23 rfl)) rfl ?_))))); clear H a; intro a H
    obtain ⟨A22, c22, hv22, hl22, hm22⟩ := SlR.formV ((hS.own 1 rfl).slr rfl (fun _ _ => rfl))
    refine n_q H (q_lenV Tryd.underlying23 rfl hv22) rfl (W_q (q_move rfl) rfl ?_); clear H a; intro a H
    replace hm := bindS hm; obtain ⟨r23, hr23, hm⟩ := hm
    refine n_call H rfl en57 (g_wire_at_w (A := A) (h1 _ hS.chg) hr23) rfl ?_
    clear H; intro u24 w26 hv; clear a; intro a H; obtain ⟨_, rfl, hE27⟩ := hv
    replace hS := hS.new hE27; simp only [List.cons_append, List.nil_append] at hS
    refine n_q H (q_nilCheck rfl) rfl (W_q (q_fieldAddr0 rfl fo136_1) rfl ?_); clear H a; intro a H
    replace hS := hS.pk1
    refine n_store1 H rfl rfl sz33 (hS.blk 0 rfl) (by simp) (hS.any 1 rfl : IsE A w26 u24 r23).one ?_
    clear H; intro w29 hN hC30 hz; clear a; intro a H; replace hS := hS.setBlk hN hC30; clear hN hz
    try simp only [List.set_cons_succ, List.set_cons_zero] at hS
    refine n_nil ?_
    obtain rfl := Option.some.inj hm
    replace hS := hS.pk1
    replace hS := hS.pk2
    replace hS := hS.pk2
    replace hS := hS.tk3
    refine ret0 H (.inl rfl) rfl ?_
    exact ⟨_, _, rfl, hS⟩
  · replace hm := condF hm hc21
    refine wp_skip ?_
    obtain rfl := Option.some.inj hm
    refine ret0 H (.inl rfl) rfl ?_
    exact ⟨_, _, rfl, hS⟩
theorem g_wire_Writer_put_w {w : World} {A : Nat → Addr} {fp : Nat → Prop} {b0 : Nat} {v0_0 : Value} {v0_1 : Value} {a0 : GWireWriter} {v1 : Value} {a1 : List UInt8} (hP : Sep w fp [blkR b0 [v0_0, v0_1] 136, ownR 5 1 v0_0 a0.buf_.length (a0.buf_.flatMap eB), erQ A v0_1 a0.err_]) (h1 : ∀ w', ChgP fp w w' → SlR w' 1 (Flat eB) v1 a1) {r : GWireWriter} (hm : g_wire_Writer_put a0 a1 = some r) :
    Calls Tryd.prog 71 [.pointer (some ⟨b0, 0, none⟩), v1].toArray w (Ret fun u w' => ∃ h_0 h_1, u = .tuple #[] ∧ St fp w w' [blkR b0 [h_0, h_1] 136, ownR 5 1 h_0 r.buf_.length (r.buf_.flatMap eB), erQ A h_1 r.err_]) := by
  have hS := St.init hP
  unfold g_wire_Writer_put at hm
  refine enter Tryd.func71 rfl rfl rfl ?_; intro a H; dsimp only [enumL, Nat.zero_add, Nat.reduceAdd] at H
  refine wp_seq (wp_region_lit (n_q H (q_move rfl) rfl (W_q (q_nilCheck rfl) rfl (W_q (q_fieldAddr0 rfl fo136_1) rfl (W_q (q_load rfl ((hS.blk 0 rfl).ld ag33 rfl)) rfl (W_q (q_cast (q_nilI Tryd.underlying33 rfl rfl (hS.any 2 rfl : IsE A w v0_1 a0.err_).form) (show _ = Value.bool (decide (a0.err_ = .nil)) by rw [IsErr.isNil (hS.any 2 rfl : IsE A w v0_1 a0.err_)])) rfl ?_)))))); clear H a; intro a H
  refine n_nil (then_normal (c_cond H rfl (fun hc21 => ?_) (fun hc21 => ?_)))
  · replace hm := condT hm hc21
    refine wp_region_lit (n_q H (q_move rfl) rfl (W_q (q_move rfl) rfl (W_q (q_nilCheck rfl) rfl (W_q (q_fieldAddr0 rfl fo136_0) rfl (W_q (q_load rfl ((hS.blk 0 rfl).ld ag23 rfl)) rfl (W_q (q_move rfl) rfl ?_)))))); clear H a; intro a H
    replace hS := hS.pk1
    replace hm := chkS hm; obtain ⟨hk22, hm⟩ := hm
    refine n_app (e := eB) H rfl rfl Tryd.underlying23 Tryd.underlying23 (by simp) el5 (hS.own 0 rfl) ((h1 _ hS.chg).src (fun _ _ => rfl)) eB_one hk22 (by simp only [maxLen]; omega) rfl ?_
    clear H; intro v25 w23 hN hC24 hb; clear a; intro a H; replace hS := hS.setOwn hN hC24 hb; clear hN hb
    refine n_q H (q_nilCheck rfl) rfl (W_q (q_fieldAddr0 rfl fo136_0) rfl ?_); clear H a; intro a H
    replace hS := hS.pk1
    refine n_store1 H rfl rfl sz23 (hS.blk 0 rfl) (by simp) (((hS.own 1 rfl).slr rfl (fun _ _ => rfl))).one ?_
    clear H; intro w27 hN hC28 hz; clear a; intro a H; replace hS := hS.setBlk hN hC28; clear hN hz
    try simp only [List.set_cons_succ, List.set_cons_zero] at hS
    refine n_nil ?_
    obtain rfl := Option.some.inj hm
    refine ret0 H (.inl rfl) rfl ?_
    exact ⟨_, _, rfl, hS⟩
  · replace hm := condF hm hc21
    refine wp_skip ?_
    obtain rfl := Option.some.inj hm
    refine ret0 H (.inl rfl) rfl ?_
    exact ⟨_, _, rfl, hS⟩
theorem g_wire_Writer_num_w {w : World} {A : Nat → Addr} {fp : Nat → Prop} {b0 : Nat} {v0_0 : Value} {v0_1 : Value} {a0 : GWireWriter} {a1 : Int} {a2 : Int} (hG : ∀ w', ChgP fp w w' → EV A w') (hP : Sep w fp [blkR b0 [v0_0, v0_1] 136, ownR 5 1 v0_0 a0.buf_.length (a0.buf_.flatMap eB), erQ A v0_1 a0.err_]) {r : GWireWriter} (hm : g_wire_Writer_num a0 a1 a2 = some r) :
    Calls Tryd.prog 68 [.pointer (some ⟨b0, 0, none⟩), .int .i64 a1, .int .i64 a2].toArray w (Ret fun u w' => ∃ h_0 h_1, u = .tuple #[] ∧ St fp w w' [blkR b0 [h_0, h_1] 136, ownR 5 1 h_0 r.buf_.length (r.buf_.flatMap eB), erQ A h_1 r.err_]) := by
  have hS := St.init hP
  unfold g_wire_Writer_num at hm
  refine enter Tryd.func68 rfl rfl rfl ?_; intro a H; dsimp only [enumL, Nat.zero_add, Nat.reduceAdd] at H
  refine wp_seq ?_
  replace hm := bindS hm; obtain ⟨j21, hm, hm21⟩ := hm
  refine c_join (σ := Bool) H (fun q522 => [(0, .pointer (some ⟨b0, 0, none⟩)), (1, .int .i64 a1), (2, .int .i64 a2), (14, .bool q522)]) (fun q522 wl => (g_wire_Writer_num_J3 a0 a1 a2) q522 = some r ∧ St fp w wl [blkR b0 [v0_0, v0_1] 136, ownR 5 1 v0_0 a0.buf_.length (a0.buf_.flatMap eB), erQ A v0_1 a0.err_]) ?_ ?_
  · skip
    refine wp_region_lit (n_q H (q_move rfl) rfl (W_q (q_lss rfl rfl) rfl (W_q (q_move rfl) rfl ?_))); clear H a; intro a H
    rcases Bool.eq_false_or_eq_true (decide (a1 < 0)) with hg523 | hg523
    · replace H := H.know 9 rfl hg523
      replace hm := condT hm hg523
      refine n_no H rfl rfl (by decide) rfl (W_no rfl rfl (by decide) rfl (W_no rfl rfl (by decide) rfl (W_no rfl rfl (by decide) rfl (W_q (q_pickT rfl rfl) rfl ?_)))); clear H a; intro a H
      refine n_nil (then_normal ?_)
      obtain rfl := Option.some.inj hm; replace hm := hm21; try dsimp only at hm
      exact join true H ⟨rfl, rfl, rfl, rfl, trivial⟩ ⟨hm, hS⟩
    · replace H := H.know 9 rfl hg523
      replace hm := condF hm hg523
      refine n_yes H rfl rfl (n_q H (q_move rfl) rfl (W_yes rfl rfl (W_q (q_move rfl) rfl (W_yes rfl rfl ?_)))); clear H a; intro a H
      replace hm := bindS hm; obtain ⟨r524, hr524, hm⟩ := hm
      refine n_call H rfl en69 (g_wire_most_w (A := A) hr524) rfl ?_
      clear H; intro x527 w525 hv; clear a; intro a H; obtain ⟨rfl, hE526⟩ := hv
      replace hS := hS.ext hE526
      refine n_yes H rfl rfl (n_q H (q_gtr rfl rfl) rfl (W_q (q_pickF rfl rfl) rfl ?_)); clear H a; intro a H
      refine n_nil (then_normal ?_)
      obtain rfl := Option.some.inj hm; replace hm := hm21; try dsimp only at hm
      exact join (decide (r524 < a1)) H ⟨rfl, rfl, rfl, rfl, trivial⟩ ⟨hm, hS⟩
  · clear H hS hm a; intro q522 a w528 H hR
    simp only [ent, List.map_cons, List.map_nil] at H; (try dsimp only at hR); obtain ⟨hm, hS⟩ := hR; try dsimp only [g_wire_Writer_num_J3] at hm
    refine c_cond H rfl (fun hc529 => ?_) (fun hc529 => ?_)
    · replace hm := condT hm hc529
      refine wp_seq (wp_region_lit (n_q H (q_move rfl) rfl (W_q (q_load rfl ((hG _ hS.chg).ld gRange (by decide) ag33)) rfl ?_))); clear H a; intro a H
      replace hS := hS.pk2
      replace hS := hS.pk2
      replace hS := hS.pk2
      obtain ⟨fp530, hG530, hK530, hR530, hF530⟩ := hS.frame (rs1 := [blkR b0 [v0_0, v0_1] 136, ownR 5 1 v0_0 a0.buf_.length (a0.buf_.flatMap eB), erQ A v0_1 a0.err_])
      replace hm := bindS hm; obtain ⟨r531, hr531, hm⟩ := hm
      refine n_call H rfl en70 (g_wire_Writer_spoil_w (A := A) hG530 (fun w' hw => (IsErr.var (by decide) : IsE A w' _ (.v gRange))) hr531) rfl ?_
      clear H; intro x537 w535 hv; clear a; intro a H; obtain ⟨u532, u533, rfl, hE536⟩ := hv
      replace hS := hF530 _ _ hE536; simp only [List.cons_append, List.nil_append] at hS; clear hG530 hK530 hR530 hF530
      refine n_nil (then_normal (wp_ret (then_ret ?_)))
      obtain rfl := Option.some.inj hm
      refine ret0 H (.inr rfl) rfl ?_
      exact ⟨_, _, rfl, hS⟩
    · replace hm := condF hm hc529
      refine wp_skip (then_normal (wp_seq (wp_region_lit (n_q H (q_move rfl) rfl (W_q (q_subW rfl rfl) rfl (W_q (q_assign rfl) rfl ?_)))))); clear H a; intro a H
      refine n_nil (then_normal (wp_block ?_))
      replace hm := bindS hm; obtain ⟨q538, hm, hm538⟩ := hm; replace hm := iter_some hm; obtain ⟨n538, hm⟩ := hm
      refine c_loop (σ := Nat × Int × (List UInt8) × ErrM × Value × Value) (fun (m, z539, l540, e543, v541, u544) => [(0, .pointer (some ⟨b0, 0, none⟩)), (1, .int .i64 a1), (6, .int .i64 z539)]) (fun (m, z539, l540, e543, v541, u544) wl => iterN (g_wire_Writer_num_L2 a1) m (z539, l540, e543) = some q538 ∧ St fp w wl [blkR b0 [v541, u544] 136, ownR 5 1 v541 l540.length (l540.flatMap eB), erQ A u544 e543]) (fun (m, z539, l540, e543, v541, u544) => m) (n538, (IntKind.i64.wrap (a2 - 1)), a0.buf_, a0.err_, v0_0, v0_1) H ⟨rfl, rfl, rfl, trivial⟩ ⟨hm, hS⟩ ?_
      clear H hS hm a; intro xx a w546 H hR; obtain ⟨m, z539, l540, e543, v541, u544⟩ := xx; simp only [ent, List.map_cons, List.map_nil] at H; (try dsimp only at hR); obtain ⟨hm, hS⟩ := hR
      replace hm := iterN_step hm; obtain ⟨m538, o538, rfl, hm, hn538⟩ := hm; try dsimp only [g_wire_Writer_num_L2] at hm
      refine wp_seq (wp_seq (wp_region_lit (n_q H (q_move rfl) rfl (W_q (q_geq rfl rfl) rfl ?_)))); clear H a; intro a H
      refine n_nil (then_normal (c_cond H rfl (fun hc547 => ?_) (fun hc547 => ?_)))
      · replace hm := condT hm hc547
        refine wp_skip (then_normal (wp_seq (wp_block (wp_region_lit (n_q H (q_move rfl) rfl (W_q (q_move rfl) rfl (W_q (q_move rfl) rfl (W_q (q_mulW rfl rfl) rfl ?_)))))))); clear H a; intro a H
        replace hm := chkS hm; obtain ⟨hk548, hm⟩ := hm
        refine n_q H (q_shr rfl rfl hk548) rfl (W_q (q_convI Tryd.underlying3 Tryd.underlying5 ⟨_, rfl⟩ rfl) rfl ?_); clear H a; intro a H
        refine n_buildSlice H Tryd.underlying23 sz5 ze5 rfl rfl rfl (cs := [.int .u8 (IntKind.u8.wrap (shR .i64 a1 (IntKind.i64.wrap (8 * z539))))]) (by kernel_rfl) rfl ?_
        clear H; intro b551 w549 hN hE550 hs; clear a; intro a H
        replace hS := hS.newBlk hN hE550 hs; clear hN hs
        replace hS := hS.blkOwnL (e := eB) (k := 1) [(byteOf (shR .i64 a1 (IntKind.i64.wrap (8 * z539))))] (by simp [eB_wrap, eB_lit]) rfl (by simp [maxLen])
        replace hS := hS.pk3
        replace hS := hS.pk3
        replace hS := hS.pk3
        obtain ⟨fp553, hG553, hK553, hR553, hF553⟩ := hS.frame (rs1 := [blkR b0 [v541, u544] 136, ownR 5 1 v541 l540.length (l540.flatMap eB), erQ A u544 e543])
        replace hm := bindS hm; obtain ⟨r554, hr554, hm⟩ := hm
        refine n_call H rfl en71 (g_wire_Writer_put_w (A := A) hG553 (fun w' hw => (restOwn (hR553 0 _ rfl _ hw)).slr rfl (fun _ _ => rfl)) hr554) rfl ?_
        clear H; intro x560 w558 hv; clear a; intro a H; obtain ⟨u555, u556, rfl, hE559⟩ := hv
        replace hS := hF553 _ _ hE559; simp only [List.cons_append, List.nil_append] at hS; clear hG553 hK553 hR553 hF553
        refine n_nil (block_normal (then_normal (wp_region_lit (n_q H (q_move rfl) rfl (W_q (q_subW rfl rfl) rfl (W_q (q_assign rfl) rfl ?_)))))); clear H a; intro a H
        refine n_nil (then_normal ?_)
        obtain rfl := Option.some.inj hm
        replace hS := hS.tk3
        exact round (m538, (IntKind.i64.wrap (z539 - 1)), r554.buf_, r554.err_, u555, u556) H ⟨rfl, rfl, rfl, trivial⟩ ⟨hn538, hS⟩ (Nat.lt_succ_self _)
      · replace hm := condF hm hc547
        refine wp_exit (then_exit (then_exit (block_exit ?_)))
        obtain rfl := Option.some.inj hm; have hz : _ = q538 := hn538; subst hz; replace hm := hm538; try dsimp only at hm
        obtain rfl := Option.some.inj hm
        refine ret0 H (.inl rfl) rfl ?_
        exact ⟨_, _, rfl, hS⟩
theorem g_wire_Writer_Record_w {w : World} {A : Nat → Addr} {fp : Nat → Prop} {b0 : Nat} {v0_0 : Value} {v0_1 : Value} {a0 : GWireWriter} {a1 : Int} {v2 : Value} {a2 : List UInt8} (hG : ∀ w', ChgP fp w w' → EV A w') (hP : Sep w fp [blkR b0 [v0_0, v0_1] 136, ownR 5 1 v0_0 a0.buf_.length (a0.buf_.flatMap eB), erQ A v0_1 a0.err_]) (h2 : ∀ w', ChgP fp w w' → SlR w' 1 (Flat eB) v2 a2) {r : GWireWriter} (hm : g_wire_Writer_Record a0 a1 a2 = some r) :
    Calls Tryd.prog 35 [.pointer (some ⟨b0, 0, none⟩), .int .i64 a1, v2].toArray w (Ret fun u w' => ∃ h_0 h_1, u = .tuple #[] ∧ St fp w w' [blkR b0 [h_0, h_1] 136, ownR 5 1 h_0 r.buf_.length (r.buf_.flatMap eB), erQ A h_1 r.err_]) := by
  have hS := St.init hP
  unfold g_wire_Writer_Record at hm
  refine enter Tryd.func35 rfl rfl rfl ?_; intro a H; dsimp only [enumL, Nat.zero_add, Nat.reduceAdd] at H
  refine wp_block ?_
  replace hm := bindS hm; obtain ⟨j21, hm, hm21⟩ := hm
  refine c_join (σ := Bool) H (fun q522 => [(0, .pointer (some ⟨b0, 0, none⟩)), (1, .int .i64 a1), (2, v2), (16, .bool q522)]) (fun q522 wl => (g_wire_Writer_Record_J1 a0 a1 a2) q522 = some r ∧ St fp w wl [blkR b0 [v0_0, v0_1] 136, ownR 5 1 v0_0 a0.buf_.length (a0.buf_.flatMap eB), erQ A v0_1 a0.err_]) ?_ ?_
  · skip
    refine wp_region_lit (n_q H (q_move rfl) rfl (W_q (q_lss rfl rfl) rfl (W_q (q_move rfl) rfl ?_))); clear H a; intro a H
    rcases Bool.eq_false_or_eq_true (decide (a1 < 1)) with hg523 | hg523
    · replace H := H.know 19 rfl hg523
      replace hm := condT hm hg523
      refine n_no H rfl rfl (by decide) rfl (W_no rfl rfl (by decide) rfl (W_no rfl rfl (by decide) rfl (W_q (q_pickT rfl rfl) rfl (W_q (q_assign rfl) rfl ?_)))); clear H a; intro a H
      refine n_nil (then_normal ?_)
      obtain rfl := Option.some.inj hm; replace hm := hm21; try dsimp only at hm
      exact join true H ⟨rfl, rfl, rfl, rfl, trivial⟩ ⟨hm, hS⟩
    · replace H := H.know 19 rfl hg523
      replace hm := condF hm hg523
      refine n_yes H rfl rfl (n_q H (q_move rfl) rfl (W_yes rfl rfl ?_)); clear H a; intro a H
      replace hm := bindS hm; obtain ⟨r524, hr524, hm⟩ := hm
      refine n_call H rfl en69 (g_wire_most_w (A := A) hr524) rfl ?_
      clear H; intro x527 w525 hv; clear a; intro a H; obtain ⟨rfl, hE526⟩ := hv
      replace hS := hS.ext hE526
      refine n_yes H rfl rfl (n_q H (q_gtr rfl rfl) rfl (W_q (q_pickF rfl rfl) rfl (W_q (q_assign rfl) rfl ?_))); clear H a; intro a H
      refine n_nil (then_normal ?_)
      obtain rfl := Option.some.inj hm; replace hm := hm21; try dsimp only at hm
      exact join (decide (r524 < a1)) H ⟨rfl, rfl, rfl, rfl, trivial⟩ ⟨hm, hS⟩
  · clear H hS hm a; intro q522 a w528 H hR
    simp only [ent, List.map_cons, List.map_nil] at H; (try dsimp only at hR); obtain ⟨hm, hS⟩ := hR; try dsimp only [g_wire_Writer_Record_J1] at hm
    refine c_cond H rfl (fun hc529 => ?_) (fun hc529 => ?_)
    · replace hm := condT hm hc529
      refine wp_region_lit (n_q H (q_move rfl) rfl (W_q (q_load rfl ((hG _ hS.chg).ld gTag (by decide) ag33)) rfl ?_)); clear H a; intro a H
      replace hS := hS.pk2
      replace hS := hS.pk2
      replace hS := hS.pk2
      obtain ⟨fp530, hG530, hK530, hR530, hF530⟩ := hS.frame (rs1 := [blkR b0 [v0_0, v0_1] 136, ownR 5 1 v0_0 a0.buf_.length (a0.buf_.flatMap eB), erQ A v0_1 a0.err_])
      replace hm := bindS hm; obtain ⟨r531, hr531, hm⟩ := hm
      refine n_call H rfl en70 (g_wire_Writer_spoil_w (A := A) hG530 (fun w' hw => (IsErr.var (by decide) : IsE A w' _ (.v gTag))) hr531) rfl ?_
      clear H; intro x537 w535 hv; clear a; intro a H; obtain ⟨u532, u533, rfl, hE536⟩ := hv
      replace hS := hF530 _ _ hE536; simp only [List.cons_append, List.nil_append] at hS; clear hG530 hK530 hR530 hF530
      refine n_nil (block_normal ?_)
      obtain rfl := Option.some.inj hm
      refine ret0 H (.inl rfl) rfl ?_
      exact ⟨_, _, rfl, hS⟩
    · replace hm := condF hm hc529
      refine wp_seq (wp_region_lit (n_q H (q_move rfl) rfl ?_)); clear H a; intro a H
      obtain ⟨A538, c538, hv538, hl538, hm538⟩ := SlR.formV (h2 _ hS.chg)
      refine n_q H (q_lenV Tryd.underlying23 rfl hv538) rfl (W_q (q_gtrN (i := a2.length) (j := 65535) rfl rfl) rfl (W_q (q_assign rfl) rfl ?_)); clear H a; intro a H
      refine n_nil (then_normal (c_cond H rfl (fun hc539 => ?_) (fun hc539 => ?_)))
      · replace hm := condT hm hc539
        refine wp_region_lit (n_q H (q_move rfl) rfl (W_q (q_load rfl ((hG _ hS.chg).ld gLength (by decide) ag33)) rfl ?_)); clear H a; intro a H
        replace hS := hS.pk2
        replace hS := hS.pk2
        replace hS := hS.pk2
        obtain ⟨fp540, hG540, hK540, hR540, hF540⟩ := hS.frame (rs1 := [blkR b0 [v0_0, v0_1] 136, ownR 5 1 v0_0 a0.buf_.length (a0.buf_.flatMap eB), erQ A v0_1 a0.err_])
        replace hm := bindS hm; obtain ⟨r541, hr541, hm⟩ := hm
        refine n_call H rfl en70 (g_wire_Writer_spoil_w (A := A) hG540 (fun w' hw => (IsErr.var (by decide) : IsE A w' _ (.v gLength))) hr541) rfl ?_
        clear H; intro x547 w545 hv; clear a; intro a H; obtain ⟨u542, u543, rfl, hE546⟩ := hv
        replace hS := hF540 _ _ hE546; simp only [List.cons_append, List.nil_append] at hS; clear hG540 hK540 hR540 hF540
        refine n_nil (block_normal ?_)
        obtain rfl := Option.some.inj hm
        refine ret0 H (.inl rfl) rfl ?_
        exact ⟨_, _, rfl, hS⟩
      · replace hm := condF hm hc539
        refine wp_seq (wp_region_lit (n_q H (q_move rfl) rfl (W_q (q_move rfl) rfl ?_))); clear H a; intro a H
        replace hS := hS.pk2
        replace hS := hS.pk2
        replace hS := hS.pk2
        obtain ⟨fp548, hG548, hK548, hR548, hF548⟩ := hS.frame (rs1 := [blkR b0 [v0_0, v0_1] 136, ownR 5 1 v0_0 a0.buf_.length (a0.buf_.flatMap eB), erQ A v0_1 a0.err_])
        replace hm := bindS hm; obtain ⟨r549, hr549, hm⟩ := hm
        refine n_call H rfl en68 (g_wire_Writer_num_w (A := A) (fun w' hw => hG _ (hK548 _ hw)) hG548 hr549) rfl ?_
        clear H; intro x555 w553 hv; clear a; intro a H; obtain ⟨u550, u551, rfl, hE554⟩ := hv
        replace hS := hF548 _ _ hE554; simp only [List.cons_append, List.nil_append] at hS; clear hG548 hK548 hR548 hF548
        refine n_nil (then_normal (wp_seq (wp_region_lit (n_q H (q_move rfl) rfl (W_q (q_move rfl) rfl (W_q (q_lenV Tryd.underlying23 rfl hv538) rfl ?_)))))); clear H a; intro a H
        replace hS := hS.pk2
        replace hS := hS.pk2
        replace hS := hS.pk2
        obtain ⟨fp556, hG556, hK556, hR556, hF556⟩ := hS.frame (rs1 := [blkR b0 [u550, u551] 136, ownR 5 1 u550 r549.buf_.length (r549.buf_.flatMap eB), erQ A u551 r549.err_])
        replace hm := bindS hm; obtain ⟨r557, hr557, hm⟩ := hm
        refine n_call H rfl en68 (g_wire_Writer_num_w (A := A) (fun w' hw => hG _ (hK556 _ hw)) hG556 hr557) rfl ?_
        clear H; intro x563 w561 hv; clear a; intro a H; obtain ⟨u558, u559, rfl, hE562⟩ := hv
        replace hS := hF556 _ _ hE562; simp only [List.cons_append, List.nil_append] at hS; clear hG556 hK556 hR556 hF556
        refine n_nil (then_normal (wp_region_lit (n_q H (q_move rfl) rfl (W_q (q_move rfl) rfl ?_)))); clear H a; intro a H
        replace hS := hS.pk2
        replace hS := hS.pk2
        replace hS := hS.pk2
        obtain ⟨fp564, hG564, hK564, hR564, hF564⟩ := hS.frame (rs1 := [blkR b0 [u558, u559] 136, ownR 5 1 u558 r557.buf_.length (r557.buf_.flatMap eB), erQ A u559 r557.err_])
        replace hm := bindS hm; obtain ⟨r565, hr565, hm⟩ := hm
        refine n_call H rfl en71 (g_wire_Writer_put_w (A := A) hG564 (fun w' hw => h2 _ (hK564 _ hw)) hr565) rfl ?_
        clear H; intro x571 w569 hv; clear a; intro a H; obtain ⟨u566, u567, rfl, hE570⟩ := hv
        replace hS := hF564 _ _ hE570; simp only [List.cons_append, List.nil_append] at hS; clear hG564 hK564 hR564 hF564
        refine n_nil (block_normal ?_)
        obtain rfl := Option.some.inj hm
        refine ret0 H (.inl rfl) rfl ?_
        exact ⟨_, _, rfl, hS⟩
theorem g_slices_Clone_byte_w {w : World} {A : Nat → Addr} {v0 : Value} {a0 : List UInt8} (h0 : SlR w 1 (Flat eB) v0 a0) {r : List UInt8} (hm : g_slices_Clone_byte a0 = some r) :
    Calls Tryd.prog 72 [v0].toArray w (Ret fun u w' => ∃ h_0, u = h_0 ∧ St NB w w' [ownR 5 1 h_0 r.length (r.flatMap eB)]) := by
  have hS := St.begin NB w
  unfold g_slices_Clone_byte at hm
  refine enter Tryd.func72 rfl rfl rfl ?_; intro a H; dsimp only [enumL, Nat.zero_add, Nat.reduceAdd] at H
  refine wp_seq (wp_region_lit (n_q H (q_assign rfl) rfl ?_)); clear H a; intro a H
  refine n_nil (then_normal (wp_seq (wp_seq (wp_region_lit (n_q H (q_move rfl) rfl ?_))))); clear H a; intro a H
  obtain ⟨A21, c21, hv21, hl21, hm21⟩ := SlR.formV (h0.ext (Flat.mono _) hS.x)
  refine n_q H (q_nilV Tryd.underlying23 rfl hv21 rfl) rfl ?_; clear H a; intro a H
  refine n_nil (then_normal (c_cond H rfl (fun hc22 => ?_) (fun hc22 => ?_)))
  · obtain rfl := SlR.nilV (h0.ext (Flat.mono _) hS.x) hv21 hc22; replace hm := chkS hm; obtain ⟨_, hm⟩ := hm
    refine wp_seq (wp_region_lit (n_q H (q_assign rfl) rfl ?_)); clear H a; intro a H
    refine n_nil (then_normal (wp_ret (then_ret ?_)))
    obtain rfl := Option.some.inj hm
    replace hS := hS.nilOwn 5 1
    refine ret1 H (.inr rfl) rfl rfl ?_
    exact ⟨_, rfl, hS⟩
  · skip
    refine wp_skip (then_normal (wp_seq (wp_region_lit (n_buildSlice H Tryd.underlying23 sz5 ze5 rfl rfl rfl (cs := []) rfl rfl ?_))))
    clear H; intro b26 w24 hN hE25 hs; clear a; intro a H
    replace hS := hS.newBlk hN hE25 hs; clear hN hs
    replace hS := hS.blkOwnL (e := eB) (k := 1) ([] : List UInt8) rfl rfl (by simp [maxLen])
    refine n_q H (q_move rfl) rfl ?_; clear H a; intro a H
    replace hm := chkS hm; obtain ⟨hk28, hm⟩ := hm
    refine n_app (e := eB) H rfl rfl Tryd.underlying23 Tryd.underlying23 (by simp) el5 (hS.own 0 rfl) ((h0.ext (Flat.mono _) hS.x).src (fun _ _ => rfl)) eB_one hk28 (by simp only [maxLen]; omega) rfl ?_
    clear H; intro v31 w29 hN hC30 hb; clear a; intro a H; replace hS := hS.setOwn hN hC30 hb; clear hN hb
    refine n_q H (q_assign rfl) rfl ?_; clear H a; intro a H
    refine n_nil (then_normal (wp_ret ?_))
    obtain rfl := Option.some.inj hm
    refine ret1 H (.inr rfl) rfl rfl ?_
    exact ⟨_, rfl, hS⟩
theorem g_wire_Writer_Done_w {w : World} {A : Nat → Addr} {fp : Nat → Prop} {b0 : Nat} {v0_0 : Value} {v0_1 : Value} {a0 : GWireWriter} (hP : Sep w fp [blkR b0 [v0_0, v0_1] 136, ownR 5 1 v0_0 a0.buf_.length (a0.buf_.flatMap eB), erQ A v0_1 a0.err_]) {r : List UInt8 × ErrM × GWireWriter} (hm : g_wire_Writer_Done a0 = some r) :
    Calls Tryd.prog 36 [.pointer (some ⟨b0, 0, none⟩)].toArray w (Ret fun u w' => ∃ h_0 h_1 h_2 h_3, u = .tuple #[h_0, h_1] ∧ St fp w w' [blkR b0 [h_2, h_3] 136, ownR 5 1 h_2 r.2.2.buf_.length (r.2.2.buf_.flatMap eB), ownR 5 1 h_0 r.1.length (r.1.flatMap eB), erQ A h_1 r.2.1]) := by
  have hS := St.init hP
  unfold g_wire_Writer_Done at hm
  refine enter Tryd.func36 rfl rfl rfl ?_; intro a H; dsimp only [enumL, Nat.zero_add, Nat.reduceAdd] at H
  refine wp_seq (wp_region_lit (n_q H (q_assign rfl) rfl (W_q (q_assign rfl) rfl ?_))); clear H a; intro a H
  refine n_nil (then_normal (wp_seq (wp_seq (wp_region_lit (n_q H (q_move rfl) rfl (W_q (q_nilCheck rfl) rfl (W_q (q_fieldAddr0 rfl fo136_1) rfl (W_q (q_load rfl ((hS.blk 0 rfl).ld ag33 rfl)) rfl (W_q (q_cast (q_nnilI Tryd.underlying33 rfl rfl (hS.any 2 rfl : IsE A w v0_1 a0.err_).form) (show _ = Value.bool (!decide (a0.err_ = .nil)) by rw [IsErr.isNil (hS.any 2 rfl : IsE A w v0_1 a0.err_)])) rfl ?_))))))))); clear H a; intro a H
  refine n_nil (then_normal (c_cond H rfl (fun hc21 => ?_) (fun hc21 => ?_)))
  · replace hm := condT hm hc21
    refine wp_seq (c_quiet (by kernel_rfl) (by kernel_rfl) ?_)
    refine qq_q H (q_move rfl) rfl ?_; clear H a; intro a H
    refine qq_q H (q_nilCheck rfl) rfl ?_; clear H a; intro a H
    refine qq_q H (q_fieldAddr0 rfl fo136_1) rfl ?_; clear H a; intro a H
    refine qq_q H (q_load rfl ((hS.blk 0 rfl).ld ag33 rfl)) rfl ?_; clear H a; intro a H
    refine qq_q H (q_assign rfl) rfl ?_; clear H a; intro a H
    refine qq_q H (q_assign rfl) rfl ?_; clear H a; intro a H
    refine qq_nil ?_; intro w22 hE23
    replace hS := hS.ext hE23
    refine then_normal (wp_ret (then_ret ?_))
    obtain rfl := Option.some.inj hm
    replace hS := hS.nilOwn 5 1
    replace hS := hS.pk3
    replace hS := hS.pk1
    replace hS := hS.pk3
    replace hS := hS.pk3
    refine ret2 H (.inr rfl) rfl rfl rfl ?_
    exact ⟨_, _, _, _, rfl, hS⟩
  · replace hm := condF hm hc21
    refine wp_skip (then_normal (wp_seq (wp_region_lit (n_q H (q_move rfl) rfl (W_q (q_nilCheck rfl) rfl (W_q (q_fieldAddr0 rfl fo136_0) rfl (W_q (q_load rfl ((hS.blk 0 rfl).ld ag23 rfl)) rfl ?_))))))); clear H a; intro a H
    replace hm := bindS hm; obtain ⟨r25, hr25, hm⟩ := hm
    refine n_call H rfl en72 (g_slices_Clone_byte_w (A := A) ((hS.own 1 rfl).slr rfl (fun _ _ => rfl)) hr25) rfl ?_
    clear H; intro u26 w28 hv; clear a; intro a H; obtain ⟨_, rfl, hE29⟩ := hv
    replace hS := hS.new hE29; simp only [List.cons_append, List.nil_append] at hS
    refine n_q H (q_assign rfl) rfl (W_q (q_assign rfl) rfl ?_); clear H a; intro a H
    refine n_nil (then_normal (wp_ret ?_))
    obtain rfl := Option.some.inj hm
    replace hS := hS.dNil (A := A)
    replace hS := hS.pk1
    replace hS := hS.pk3
    replace hS := hS.pk3
    replace hS := hS.tk4
    refine ret2 H (.inr rfl) rfl rfl rfl ?_
    exact ⟨_, _, _, _, rfl, hS⟩
theorem g_wire_Join_w {w : World} {A : Nat → Addr} {v0 : Value} {a0 : List GWireRec} (hG : EV A w) (h0 : SlR w 2 RGWireRec v0 a0) {r : List UInt8 × ErrM} (hm : g_wire_Join a0 = some r) :
    Calls Tryd.prog 9 [v0].toArray w (Ret fun u w' => ∃ h_0 h_1, u = .tuple #[h_0, h_1] ∧ St NB w w' [ownR 5 1 h_0 r.1.length (r.1.flatMap eB), erQ A h_1 r.2]) := by
  have hS := St.begin NB w
  unfold g_wire_Join at hm
  refine enter Tryd.func9 rfl rfl rfl ?_; intro a H; dsimp only [enumL, Nat.zero_add, Nat.reduceAdd] at H
  refine wp_seq (wp_region_lit (n_q H (q_assign rfl) rfl (W_q (q_assign rfl) rfl ?_))); clear H a; intro a H
  refine n_nil (then_normal (wp_seq (wp_region_lit ?_)))
  replace hm := bindS hm; obtain ⟨r21, hr21, hm⟩ := hm
  refine n_call H rfl en33 (g_wire_NewWriter_w (A := A) hr21) rfl ?_
  clear H; intro x28 w26 hv; clear a; intro a H; obtain ⟨u22, u23, u24, rfl, hE27⟩ := hv
  replace hS := hS.new hE27; simp only [List.cons_append, List.nil_append] at hS
  refine n_q H (q_assign rfl) rfl ?_; clear H a; intro a H
  refine n_nil (then_normal (wp_seq (wp_seq (wp_region_lit (n_q H (q_move rfl) rfl ?_))))); clear H a; intro a H
  obtain ⟨A29, c29, hv29, hl29, hm29⟩ := SlR.formV (h0.ext RGWireRec.mono hS.x)
  refine n_q H (q_lenV Tryd.underlying36 rfl hv29) rfl (W_q (q_move rfl) rfl ?_); clear H a; intro a H
  refine n_nil (then_normal (wp_block ?_))
  replace hm := bindS hm; obtain ⟨q30, hm, hm30⟩ := hm; replace hm := iter_some hm; obtain ⟨n30, hm⟩ := hm
  refine c_loop (σ := Nat × Nat × (List UInt8) × ErrM × Value × Value) (fun (m, i31, l32, e35, v33, u36) => [(4, .pointer (some ⟨u22, 0, none⟩)), (8, v0), (9, .int .i64 ((a0.length : Nat) : Int)), (10, .int .i64 ((i31 : Nat) : Int))]) (fun (m, i31, l32, e35, v33, u36) wl => iterN (g_wire_Join_L1 a0) m (i31, l32, e35) = some q30 ∧ St NB w wl [blkR u22 [v33, u36] 136, ownR 5 1 v33 l32.length (l32.flatMap eB), erQ A u36 e35]) (fun (m, i31, l32, e35, v33, u36) => m) (n30, 0, r21.buf_, r21.err_, u23, u24) H ⟨rfl, rfl, rfl, rfl, trivial⟩ ⟨hm, hS⟩ ?_
  clear H hS hm a; intro xx a w38 H hR; obtain ⟨m, i31, l32, e35, v33, u36⟩ := xx; simp only [ent, List.map_cons, List.map_nil] at H; (try dsimp only at hR); obtain ⟨hm, hS⟩ := hR
  replace hm := iterN_step hm; obtain ⟨m30, o30, rfl, hm, hn30⟩ := hm; try dsimp only [g_wire_Join_L1] at hm
  refine wp_seq (wp_region_lit (n_q H (q_lssN (i := i31) (j := a0.length) rfl rfl) rfl ?_)); clear H a; intro a H
  refine n_nil (then_normal (wp_seq (c_cond H rfl (fun hc39 => ?_) (fun hc39 => ?_))))
  · replace hm := condT hm hc39
    have hlt40 : i31 < a0.length := of_decide_eq_true hc39
    refine wp_skip (then_normal (wp_seq (wp_block (wp_seq (wp_region_lit ?_)))))
    replace hm := bindS hm; obtain ⟨x41, hx41, hm⟩ := hm
    obtain ⟨adx41, hAx41⟩ := SlR.adV (h0.ext RGWireRec.mono hS.x) hv29 hx41
    obtain ⟨csx41, hclx41, ⟨vx41_0, rfl, hrx41_0⟩, hcx41⟩ := SlR.elV h0 hv29 hAx41 hx41
    refine n_q H (q_ixV (i := i31) Tryd.underlying36 sz54 rfl hv29 hAx41 rfl (natI hx41)) rfl (W_q (q_load rfl (LdX.ext (ldEl ag54 sz54 rfl hcx41) hS.x)) rfl ?_); clear H a; intro a H
    refine n_alloc H ze54 rfl ?_
    clear H; intro b42 w43 hN hE44 hs; clear a; intro a H
    replace hS := hS.newBlk hN hE44 hs; clear hN hs
    refine n_storeAll H rfl rfl (vs := [.int .i64 x41.Tag, vx41_0]) rfl sz54 (hS.blk 0 rfl) rfl (by simp [((hrx41_0.ext (Flat.mono _) hS.x)).one]) ?_
    clear H; intro w45 hN hC46 hz; clear a; intro a H; replace hS := hS.setBlk hN hC46; clear hN hz
    refine n_nil (then_normal (wp_region_lit (n_q H (q_move rfl) rfl (W_q (q_fieldAddr0 rfl fo54_0) rfl (W_q (q_load rfl ((hS.blk 0 rfl).ld ag3 rfl)) rfl (W_q (q_fieldAddr0 rfl fo54_1) rfl (W_q (q_load rfl ((hS.blk 0 rfl).ld ag23 rfl)) rfl ?_))))))); clear H a; intro a H
    replace hS := hS.pk3
    replace hS := hS.pk3
    replace hS := hS.pk3
    obtain ⟨fp47, hG47, hK47, hR47, hF47⟩ := hS.frame (rs1 := [blkR u22 [v33, u36] 136, ownR 5 1 v33 l32.length (l32.flatMap eB), erQ A u36 e35])
    replace hm := bindS hm; obtain ⟨r48, hr48, hm⟩ := hm
    refine n_call H rfl en35 (g_wire_Writer_Record_w (A := A) (fun w' hw => hG.ext (hK47 _ hw).ext) hG47 (fun w' hw => hrx41_0.ext (Flat.mono _) (hK47 _ hw).ext) hr48) rfl ?_
    clear H; intro x54 w52 hv; clear a; intro a H; obtain ⟨u49, u50, rfl, hE53⟩ := hv
    replace hS := hF47 _ _ hE53; simp only [List.cons_append, List.nil_append] at hS; clear hG47 hK47 hR47 hF47
    refine n_nil (block_normal (then_normal (wp_region_lit (n_q H (q_incr (i := i31) (j := 1) rfl rfl (by omega)) rfl (W_q (q_move rfl) rfl ?_))))); clear H a; intro a H
    refine n_nil (then_normal ?_)
    obtain rfl := Option.some.inj hm
    replace hS := hS.tk3
    exact round (m30, i31 + 1, r48.buf_, r48.err_, u49, u50) H ⟨rfl, rfl, rfl, rfl, trivial⟩ ⟨hn30, hS⟩ (Nat.lt_succ_self _)
  · replace hm := condF hm hc39
    refine wp_exit (then_exit (then_exit (block_exit ?_)))
    obtain rfl := Option.some.inj hm; have hz : _ = q30 := hn30; subst hz; replace hm := hm30; try dsimp only at hm
    refine then_normal (wp_seq (wp_region_lit (n_q H (q_move rfl) rfl ?_))); clear H a; intro a H
    replace hS := hS.pk2
    replace hS := hS.pk2
    replace hS := hS.pk2
    obtain ⟨fp55, hG55, hK55, hR55, hF55⟩ := hS.frame (rs1 := [blkR u22 [v33, u36] 136, ownR 5 1 v33 l32.length (l32.flatMap eB), erQ A u36 e35])
    replace hm := bindS hm; obtain ⟨r56, hr56, hm⟩ := hm
    refine n_call H rfl en36 (g_wire_Writer_Done_w (A := A) hG55 hr56) rfl ?_
    clear H; intro x66 w64 hv; clear a; intro a H; obtain ⟨u57, u58, u59, u60, rfl, hE65⟩ := hv
    replace hS := hF55 _ _ hE65; simp only [List.cons_append, List.nil_append] at hS; clear hG55 hK55 hR55 hF55
    refine n_q H (q_extract rfl rfl) rfl (W_q (q_extract rfl rfl) rfl (W_q (q_assign rfl) rfl (W_q (q_assign rfl) rfl ?_))); clear H a; intro a H
    refine n_nil (then_normal (wp_ret ?_))
    obtain rfl := Option.some.inj hm
    replace hS := hS.pk3
    replace hS := hS.pk3
    replace hS := hS.tk2
    refine ret2 H (.inr rfl) rfl rfl rfl ?_
    exact ⟨_, _, rfl, hS⟩
theorem g_wire_Open_w {w : World} {A : Nat → Addr} {v0 : Value} {a0 : List UInt8} (h0 : SlR w 1 (Flat eB) v0 a0) {r : GWireCursor} (hm : g_wire_Open a0 = some r) :
    Calls Tryd.prog 37 [v0].toArray w (Ret fun u w' => ∃ (h_0 : Nat) (h_1 : Value), u = .pointer (some ⟨h_0, 0, none⟩) ∧ St NB w w' [blkR h_0 [h_1, .int .i64 r.at_, .int .i64 r.bound_] 142, ownR 5 1 h_1 r.b_.length (r.b_.flatMap eB)]) := by
  have hS := St.begin NB w
  unfold g_wire_Open at hm
  refine enter Tryd.func37 rfl rfl rfl ?_; intro a H; dsimp only [enumL, Nat.zero_add, Nat.reduceAdd] at H
  refine wp_seq (wp_region_lit (n_q H (q_assign rfl) rfl ?_)); clear H a; intro a H
  refine n_nil (then_normal (wp_seq (wp_region_lit (n_q H (q_move rfl) rfl ?_)))); clear H a; intro a H
  replace hm := bindS hm; obtain ⟨r21, hr21, hm⟩ := hm
  refine n_call H rfl en72 (g_slices_Clone_byte_w (A := A) (h0.ext (Flat.mono _) hS.x) hr21) rfl ?_
  clear H; intro u22 w24 hv; clear a; intro a H; obtain ⟨_, rfl, hE25⟩ := hv
  replace hS := hS.new hE25; simp only [List.cons_append, List.nil_append] at hS
  refine n_q H (q_move rfl) rfl ?_; clear H a; intro a H
  obtain ⟨A27, c27, hv27, hl27, hm27⟩ := SlR.formV (h0.ext (Flat.mono _) hS.x)
  refine n_q H (q_lenV Tryd.underlying23 rfl hv27) rfl (W_q (q_build (cs := [u22, .int .i64 0, .int .i64 ((a0.length : Nat) : Int)]) ze142 bd142 pl142 rfl ((fill1 (((hS.own 0 rfl).slr rfl (fun _ _ => rfl))).one rfl (by simp)).trans ((fill1 rfl rfl (by simp)).trans rfl))) rfl ?_); clear H a; intro a H
  refine n_box H rfl (cs := [u22, .int .i64 0, .int .i64 ((a0.length : Nat) : Int)]) rfl rfl ?_
  clear H; intro b28 w29 hN hE30 hs; clear a; intro a H
  replace hS := hS.newBlk hN hE30 hs; clear hN hs
  refine n_q H (q_assign rfl) rfl ?_; clear H a; intro a H
  refine n_nil (then_normal (wp_ret ?_))
  obtain rfl := Option.some.inj hm
  refine ret1 H (.inr rfl) rfl rfl ?_
  exact ⟨_, _, rfl, hS⟩
theorem g_wire_Cursor_Left_w {w : World} {A : Nat → Addr} {fp : Nat → Prop} {b0 : Nat} {v0_0 : Value} {a0 : GWireCursor} (hP : Sep w fp [blkR b0 [v0_0, .int .i64 a0.at_, .int .i64 a0.bound_] 142]) (ro0_b : ∀ w', ChgP fp w w' → SlR w' 1 (Flat eB) v0_0 a0.b_) {r : Int × GWireCursor} (hm : g_wire_Cursor_Left a0 = some r) :
    Calls Tryd.prog 40 [.pointer (some ⟨b0, 0, none⟩)].toArray w (Ret fun u w' => u = .int .i64 r.1 ∧ St fp w w' [blkR b0 [v0_0, .int .i64 r.2.at_, .int .i64 r.2.bound_] 142]) := by
  have hS := St.init hP
  unfold g_wire_Cursor_Left at hm
  refine enter Tryd.func40 rfl rfl rfl ?_; intro a H; dsimp only [enumL, Nat.zero_add, Nat.reduceAdd] at H
  refine wp_seq (wp_region_lit (n_q H (q_assign rfl) rfl ?_)); clear H a; intro a H
  refine n_nil (then_normal (wp_seq (c_quiet (by kernel_rfl) (by kernel_rfl) ?_)))
  refine qq_q H (q_move rfl) rfl ?_; clear H a; intro a H
  refine qq_q H (q_nilCheck rfl) rfl ?_; clear H a; intro a H
  refine qq_q H (q_fieldAddr0 rfl fo142_2) rfl ?_; clear H a; intro a H
  refine qq_q H (q_load rfl ((hS.blk 0 rfl).ld ag3 rfl)) rfl ?_; clear H a; intro a H
  refine qq_q H (q_move rfl) rfl ?_; clear H a; intro a H
  refine qq_q H (q_nilCheck rfl) rfl ?_; clear H a; intro a H
  refine qq_q H (q_fieldAddr0 rfl fo142_1) rfl ?_; clear H a; intro a H
  refine qq_q H (q_load rfl ((hS.blk 0 rfl).ld ag3 rfl)) rfl ?_; clear H a; intro a H
  refine qq_q H (q_subW rfl rfl) rfl ?_; clear H a; intro a H
  refine qq_q H (q_assign rfl) rfl ?_; clear H a; intro a H
  refine qq_nil ?_; intro w21 hE22
  replace hS := hS.ext hE22
  refine then_normal (wp_ret ?_)
  obtain rfl := Option.some.inj hm
  refine ret1 H (.inr rfl) rfl rfl ?_
  exact ⟨rfl, hS⟩
theorem g_wire_Cursor_peek_w {w : World} {A : Nat → Addr} {fp : Nat → Prop} {b0 : Nat} {v0_0 : Value} {a0 : GWireCursor} {a1 : Int} {a2 : Int} (hP : Sep w fp [blkR b0 [v0_0, .int .i64 a0.at_, .int .i64 a0.bound_] 142]) (ro0_b : ∀ w', ChgP fp w w' → SlR w' 1 (Flat eB) v0_0 a0.b_) {r : Int × GWireCursor} (hm : g_wire_Cursor_peek a0 a1 a2 = some r) :
    Calls Tryd.prog 88 [.pointer (some ⟨b0, 0, none⟩), .int .i64 a1, .int .i64 a2].toArray w (Ret fun u w' => u = .int .i64 r.1 ∧ St fp w w' [blkR b0 [v0_0, .int .i64 r.2.at_, .int .i64 r.2.bound_] 142]) := by
  have hS := St.init hP
  unfold g_wire_Cursor_peek at hm
  refine enter Tryd.func88 rfl rfl rfl ?_; intro a H; dsimp only [enumL, Nat.zero_add, Nat.reduceAdd] at H
  refine wp_seq (wp_region_lit (n_q H (q_assign rfl) rfl ?_)); clear H a; intro a H
  refine n_nil (then_normal (wp_seq (wp_region_lit (n_q H (q_assign rfl) rfl ?_)))); clear H a; intro a H
  refine n_nil (then_normal (wp_seq (wp_seq (c_quiet (by kernel_rfl) (by kernel_rfl) ?_))))
  refine qq_q H (q_move rfl) rfl ?_; clear H a; intro a H
  refine qq_q H (q_nilCheck rfl) rfl ?_; clear H a; intro a H
  refine qq_q H (q_fieldAddr0 rfl fo142_0) rfl ?_; clear H a; intro a H
  refine qq_q H (q_load rfl ((hS.blk 0 rfl).ld ag23 rfl)) rfl ?_; clear H a; intro a H
  refine qq_q H (q_move rfl) rfl ?_; clear H a; intro a H
  refine qq_q H (q_nilCheck rfl) rfl ?_; clear H a; intro a H
  refine qq_q H (q_fieldAddr0 rfl fo142_1) rfl ?_; clear H a; intro a H
  refine qq_q H (q_load rfl ((hS.blk 0 rfl).ld ag3 rfl)) rfl ?_; clear H a; intro a H
  refine qq_q H (q_move rfl) rfl ?_; clear H a; intro a H
  refine qq_q H (q_addW rfl rfl) rfl ?_; clear H a; intro a H
  refine qq_q H (q_move rfl) rfl ?_; clear H a; intro a H
  refine qq_q H (q_nilCheck rfl) rfl ?_; clear H a; intro a H
  refine qq_q H (q_fieldAddr0 rfl fo142_1) rfl ?_; clear H a; intro a H
  refine qq_q H (q_load rfl ((hS.blk 0 rfl).ld ag3 rfl)) rfl ?_; clear H a; intro a H
  refine qq_q H (q_move rfl) rfl ?_; clear H a; intro a H
  refine qq_q H (q_addW rfl rfl) rfl ?_; clear H a; intro a H
  refine qq_q H (q_move rfl) rfl ?_; clear H a; intro a H
  refine qq_q H (q_addW rfl rfl) rfl ?_; clear H a; intro a H
  obtain ⟨A21, c21, hv21, hl21, hm21⟩ := SlR.formV (ro0_b _ hS.chg)
  replace hm := chkS hm; obtain ⟨hk22, hm⟩ := hm
  obtain ⟨A23, c23, hV23, hsub23⟩ := sub_sl 1 (Flat eB) A21 a0.b_.length c21 a0.b_ (lo := (IntKind.i64.wrap (a0.at_ + a1))) (hi := (IntKind.i64.wrap ((IntKind.i64.wrap (a0.at_ + a1)) + a2))) hk22.1 hk22.2.1 hk22.2.2
  rw [← hv21] at hsub23
  refine qq_q H (q_cast (q_slice Tryd.underlying23 sz5 (show _ = some (Value.slice A21 a0.b_.length c21) by rw [← hv21]; rfl) rfl rfl hk22.1 hk22.2.1 (by omega)) hV23) rfl ?_; clear H a; intro a H
  obtain ⟨A24, c24, hv24, hl24, hm24⟩ := SlR.formV (hsub23 _ (ro0_b _ hS.chg))
  refine qq_q H (q_lenV Tryd.underlying23 rfl hv24) rfl ?_; clear H a; intro a H
  refine qq_q H (q_move rfl) rfl ?_; clear H a; intro a H
  refine qq_nil ?_; intro w25 hE26
  replace hS := hS.ext hE26
  refine then_normal (wp_block ?_)
  replace hm := bindS hm; obtain ⟨q27, hm, hm27⟩ := hm; replace hm := iter_some hm; obtain ⟨n27, hm⟩ := hm
  refine c_loop (σ := Nat × Int × Nat) (fun (m, z30, i29) => [(0, .pointer (some ⟨b0, 0, none⟩)), (7, .int .i64 z30), (28, .slice A23 ((IntKind.i64.wrap ((IntKind.i64.wrap (a0.at_ + a1)) + a2)).toNat - (IntKind.i64.wrap (a0.at_ + a1)).toNat) c23), (29, .int .i64 ((((a0.b_.drop (IntKind.i64.wrap (a0.at_ + a1)).toNat).take ((IntKind.i64.wrap ((IntKind.i64.wrap (a0.at_ + a1)) + a2)).toNat - (IntKind.i64.wrap (a0.at_ + a1)).toNat)).length : Nat) : Int)), (30, .int .i64 ((i29 : Nat) : Int))]) (fun (m, z30, i29) wl => iterN (g_wire_Cursor_peek_L1 a0 a1 a2) m (z30, i29) = some q27 ∧ St fp w wl [blkR b0 [v0_0, .int .i64 a0.at_, .int .i64 a0.bound_] 142]) (fun (m, z30, i29) => m) (n27, 0, 0) H ⟨rfl, rfl, rfl, rfl, rfl, trivial⟩ ⟨hm, hS⟩ ?_
  clear H hS hm a; intro xx a w31 H hR; obtain ⟨m, z30, i29⟩ := xx; simp only [ent, List.map_cons, List.map_nil] at H; (try dsimp only at hR); obtain ⟨hm, hS⟩ := hR
  replace hm := iterN_step hm; obtain ⟨m27, o27, rfl, hm, hn27⟩ := hm; try dsimp only [g_wire_Cursor_peek_L1] at hm
  refine wp_seq (wp_region_lit (n_q H (q_lssN (i := i29) (j := (((a0.b_.drop (IntKind.i64.wrap (a0.at_ + a1)).toNat).take ((IntKind.i64.wrap ((IntKind.i64.wrap (a0.at_ + a1)) + a2)).toNat - (IntKind.i64.wrap (a0.at_ + a1)).toNat)).length)) rfl rfl) rfl ?_)); clear H a; intro a H
  refine n_nil (then_normal (wp_seq (c_cond H rfl (fun hc32 => ?_) (fun hc32 => ?_))))
  · replace hm := condT hm hc32
    have hlt33 : i29 < ((a0.b_.drop (IntKind.i64.wrap (a0.at_ + a1)).toNat).take ((IntKind.i64.wrap ((IntKind.i64.wrap (a0.at_ + a1)) + a2)).toNat - (IntKind.i64.wrap (a0.at_ + a1)).toNat)).length := of_decide_eq_true hc32
    refine wp_skip (then_normal (wp_seq (wp_block (wp_seq (wp_region_lit ?_)))))
    replace hm := bindS hm; obtain ⟨x34, hx34, hm⟩ := hm
    obtain ⟨adx34, hAx34⟩ := SlR.adV (hsub23 _ (ro0_b _ hS.chg)) hv24 hx34
    refine n_q H (q_ixV (i := i29) Tryd.underlying23 sz5 rfl hv24 hAx34 rfl (natI hx34)) rfl (W_q (q_load rfl (SlR.ldOneV (hsub23 _ (ro0_b _ hS.chg)) hv24 hAx34 ag5 hx34 rfl)) rfl (W_q (q_assign rfl) rfl ?_)); clear H a; intro a H
    refine n_nil (then_normal (wp_region_lit (n_q H (q_move rfl) rfl (W_q (q_shl rfl rfl (by decide)) rfl (W_q (q_move rfl) rfl (W_q (q_cast (q_convI Tryd.underlying5 Tryd.underlying3 ⟨_, rfl⟩ rfl) (wrap_byte_i64 _)) rfl (W_q (q_or rfl rfl) rfl (W_q (q_assign rfl) rfl ?_)))))))); clear H a; intro a H
    refine n_nil (block_normal (then_normal (wp_region_lit (n_q H (q_incr (i := i29) (j := 1) rfl rfl (by omega)) rfl (W_q (q_move rfl) rfl ?_))))); clear H a; intro a H
    refine n_nil (then_normal ?_)
    obtain rfl := Option.some.inj hm
    exact round (m27, (bitOr .i64 (shL .i64 z30 8) (x34.toNat : Int)), i29 + 1) H ⟨rfl, rfl, rfl, rfl, rfl, trivial⟩ ⟨hn27, hS⟩ (Nat.lt_succ_self _)
  · replace hm := condF hm hc32
    refine wp_exit (then_exit (then_exit (block_exit ?_)))
    obtain rfl := Option.some.inj hm; have hz : _ = q27 := hn27; subst hz; replace hm := hm27; try dsimp only at hm
    refine then_normal (wp_seq (wp_region_lit (n_q H (q_move rfl) rfl (W_q (q_assign rfl) rfl ?_)))); clear H a; intro a H
    refine n_nil (then_normal (wp_ret ?_))
    obtain rfl := Option.some.inj hm
    refine ret1 H (.inr rfl) rfl rfl ?_
    exact ⟨rfl, hS⟩
theorem g_wire_Cursor_head_w {w : World} {A : Nat → Addr} {fp : Nat → Prop} {b0 : Nat} {v0_0 : Value} {a0 : GWireCursor} (hG : ∀ w', ChgP fp w w' → EV A w') (hP : Sep w fp [blkR b0 [v0_0, .int .i64 a0.at_, .int .i64 a0.bound_] 142]) (ro0_b : ∀ w', ChgP fp w w' → SlR w' 1 (Flat eB) v0_0 a0.b_) {r : Int × Int × ErrM × GWireCursor} (hm : g_wire_Cursor_head a0 = some r) :
    Calls Tryd.prog 73 [.pointer (some ⟨b0, 0, none⟩)].toArray w (Ret fun u w' => ∃ h_0, u = .tuple #[.int .i64 r.1, .int .i64 r.2.1, h_0] ∧ St fp w w' [blkR b0 [v0_0, .int .i64 r.2.2.2.at_, .int .i64 r.2.2.2.bound_] 142, erQ A h_0 r.2.2.1]) := by
  have hS := St.init hP
  unfold g_wire_Cursor_head at hm
  refine enter Tryd.func73 rfl rfl rfl ?_; intro a H; dsimp only [enumL, Nat.zero_add, Nat.reduceAdd] at H
  refine wp_seq (wp_region_lit (n_q H (q_assign rfl) rfl (W_q (q_assign rfl) rfl (W_q (q_assign rfl) rfl ?_)))); clear H a; intro a H
  refine n_nil (then_normal (wp_seq (wp_seq (wp_region_lit (n_q H (q_move rfl) rfl ?_))))); clear H a; intro a H
  obtain ⟨fp21, hG21, hK21, hR21, hF21⟩ := hS.frame (rs1 := [blkR b0 [v0_0, .int .i64 a0.at_, .int .i64 a0.bound_] 142])
  replace hm := bindS hm; obtain ⟨r22, hr22, hm⟩ := hm
  refine n_call H rfl en40 (g_wire_Cursor_Left_w (A := A) hG21 (a0 := (⟨a0.b_, a0.at_, a0.bound_⟩ : GWireCursor)) (fun w' hw => ro0_b _ (hK21 _ hw)) hr22) rfl ?_
  clear H; intro x26 w24 hv; clear a; intro a H; obtain ⟨rfl, hE25⟩ := hv
  replace hS := hF21 _ _ hE25; simp only [List.cons_append, List.nil_append] at hS; clear hG21 hK21 hR21 hF21
  refine n_q H (q_lss rfl rfl) rfl ?_; clear H a; intro a H
  refine n_nil (then_normal (c_cond H rfl (fun hc27 => ?_) (fun hc27 => ?_)))
  · replace hm := condT hm hc27
    refine wp_seq (c_ord [] 9 (by kernel_rfl) ?_)
    obtain ⟨w28, hw28⟩ : ∃ x, x = w24.drew := ⟨_, rfl⟩; rw [← hw28]; have hE29 : Ext w24 w28 := by rw [hw28]; exact Ext.drew' _
    clear hw28
    replace hS := hS.ext hE29
    have hS30 := hS
    have hW := Nat.le_refl w28.heap.size
    refine k_takeT 0 H rfl (q_move rfl) rfl (by kernel_rfl) (by kernel_rfl) (by kernel_rfl) (by kernel_rfl) (fun _ _ _ h => h) ?_; clear H a; intro a H
    refine k_takeT 1 H rfl (q_nilCheck rfl) rfl (by kernel_rfl) (by kernel_rfl) (by kernel_rfl) (by kernel_rfl) (fun _ _ _ h => h) ?_; clear H a; intro a H
    refine k_takeT 2 H rfl (q_fieldAddr0 rfl fo142_1) rfl (by kernel_rfl) (by kernel_rfl) (by kernel_rfl) (by kernel_rfl) (fun _ _ _ h => h) ?_; clear H a; intro a H
    refine k_take 3 H rfl (q_load rfl (LdC.old ((hS30.blk 0 rfl).ld ag3 rfl) Ext.rfl' (Nat.le_refl _) (by simp))) rfl (by kernel_rfl) (by kernel_rfl) (by kernel_rfl) (by kernel_rfl) (fun _ _ _ h => h) ?_; clear H a; intro a H
    refine k_take 4 H rfl (q_load rfl (LdC.old ((hG _ hS30.chg).ld gShort (by decide) ag33) Ext.rfl' (Nat.le_refl _) (by simp))) rfl (by kernel_rfl) (by kernel_rfl) (by kernel_rfl) (by kernel_rfl) (fun _ _ _ h => h) ?_; clear H a; intro a H
    replace hm := bindS hm; obtain ⟨r31, hr31, hm⟩ := hm
    refine k_of_kk 5 (by kernel_rfl) ?_
    refine kk_call 5 H rfl rfl en57 (g_wire_at_w (A := A) (IsErr.var (by decide) : IsE A w28 _ (.v gShort)) hr31) rfl (fun v w hv => .inl (ChgF.of_ext (by obtain ⟨_, _, hE0⟩ := hv; exact hE0.x))) ?_
    clear H; intro u32 w34 hv; clear a; intro a H; obtain ⟨_, rfl, hE35⟩ := hv
    replace hS := hS.new hE35; simp only [List.cons_append, List.nil_append] at hS
    replace hW := Nat.le_trans hW hE35.x.size
    refine k_takeT 6 H rfl (q_assign rfl) rfl (by kernel_rfl) (by kernel_rfl) (by kernel_rfl) (by kernel_rfl) (fun _ _ _ h => h) ?_; clear H a; intro a H
    refine k_takeT 7 H rfl (q_assign rfl) rfl (by kernel_rfl) (by kernel_rfl) (by kernel_rfl) (by kernel_rfl) (fun _ _ _ h => h) ?_; clear H a; intro a H
    refine k_takeT 8 H rfl (q_assign rfl) rfl (by kernel_rfl) (by kernel_rfl) (by kernel_rfl) (by kernel_rfl) (fun _ _ _ h => h) ?_; clear H a; intro a H
    refine k_done (by kernel_rfl) ?_
    refine then_normal (wp_ret (then_ret ?_))
    obtain rfl := Option.some.inj hm
    replace hS := hS.pk1
    refine retL H (.inr rfl) rfl (vs := [.int .i64 0, .int .i64 0, u32]) (resTmp rfl (resTmp rfl (resTmp rfl resNil))) ?_
    exact ⟨_, rfl, hS⟩
  · replace hm := condF hm hc27
    refine wp_skip (then_normal (wp_seq (wp_region_lit (n_q H (q_move rfl) rfl ?_)))); clear H a; intro a H
    obtain ⟨fp37, hG37, hK37, hR37, hF37⟩ := hS.frame (rs1 := [blkR b0 [v0_0, .int .i64 r22.2.at_, .int .i64 r22.2.bound_] 142])
    replace hm := bindS hm; obtain ⟨r38, hr38, hm⟩ := hm
    refine n_call H rfl en88 (g_wire_Cursor_peek_w (A := A) hG37 (a0 := (⟨a0.b_, r22.2.at_, r22.2.bound_⟩ : GWireCursor)) (fun w' hw => ro0_b _ (hK37 _ hw)) hr38) rfl ?_
    clear H; intro x42 w40 hv; clear a; intro a H; obtain ⟨rfl, hE41⟩ := hv
    replace hS := hF37 _ _ hE41; simp only [List.cons_append, List.nil_append] at hS; clear hG37 hK37 hR37 hF37
    refine n_q H (q_move rfl) rfl ?_; clear H a; intro a H
    obtain ⟨fp43, hG43, hK43, hR43, hF43⟩ := hS.frame (rs1 := [blkR b0 [v0_0, .int .i64 r38.2.at_, .int .i64 r38.2.bound_] 142])
    replace hm := bindS hm; obtain ⟨r44, hr44, hm⟩ := hm
    refine n_call H rfl en88 (g_wire_Cursor_peek_w (A := A) hG43 (a0 := (⟨a0.b_, r38.2.at_, r38.2.bound_⟩ : GWireCursor)) (fun w' hw => ro0_b _ (hK43 _ hw)) hr44) rfl ?_
    clear H; intro x48 w46 hv; clear a; intro a H; obtain ⟨rfl, hE47⟩ := hv
    replace hS := hF43 _ _ hE47; simp only [List.cons_append, List.nil_append] at hS; clear hG43 hK43 hR43 hF43
    refine n_q H (q_assign rfl) rfl (W_q (q_assign rfl) rfl (W_q (q_assign rfl) rfl ?_)); clear H a; intro a H
    refine n_nil (then_normal (wp_ret ?_))
    obtain rfl := Option.some.inj hm
    replace hS := hS.dNil (A := A)
    replace hS := hS.pk1
    refine retL H (.inr rfl) rfl (vs := [.int .i64 r38.1, .int .i64 r44.1, .nilIface]) (resTmp rfl (resTmp rfl (resTmp rfl resNil))) ?_
    exact ⟨_, rfl, hS⟩
theorem g_wire_Cursor_enter_w {w : World} {A : Nat → Addr} {fp : Nat → Prop} {b0 : Nat} {v0_0 : Value} {a0 : GWireCursor} {a1 : Int} (hG : ∀ w', ChgP fp w w' → EV A w') (hP : Sep w fp [blkR b0 [v0_0, .int .i64 a0.at_, .int .i64 a0.bound_] 142]) (ro0_b : ∀ w', ChgP fp w w' → SlR w' 1 (Flat eB) v0_0 a0.b_) {r : Option GWireCursor × ErrM × GWireCursor} (hm : g_wire_Cursor_enter a0 a1 = some r) :
    Calls Tryd.prog 74 [.pointer (some ⟨b0, 0, none⟩), .int .i64 a1].toArray w (Ret fun u w' => ∃ h_0 h_1, u = .tuple #[h_0, h_1] ∧ St fp w w' [blkR b0 [v0_0, .int .i64 r.2.2.at_, .int .i64 r.2.2.bound_] 142, optR (fun (x : GWireCursor) b => blkR b [v0_0, .int .i64 x.at_, .int .i64 x.bound_] 142) h_0 r.1, erQ A h_1 r.2.1]) := by
  have hS := St.init hP
  unfold g_wire_Cursor_enter at hm
  refine enter Tryd.func74 rfl rfl rfl ?_; intro a H; dsimp only [enumL, Nat.zero_add, Nat.reduceAdd] at H
  refine wp_seq (wp_region_lit (n_q H (q_assign rfl) rfl (W_q (q_assign rfl) rfl ?_))); clear H a; intro a H
  refine n_nil (then_normal (wp_seq (wp_seq (wp_region_lit (n_q H (q_move rfl) rfl (W_q (q_move rfl) rfl ?_)))))); clear H a; intro a H
  obtain ⟨fp21, hG21, hK21, hR21, hF21⟩ := hS.frame (rs1 := [blkR b0 [v0_0, .int .i64 a0.at_, .int .i64 a0.bound_] 142])
  replace hm := bindS hm; obtain ⟨r22, hr22, hm⟩ := hm
  refine n_call H rfl en40 (g_wire_Cursor_Left_w (A := A) hG21 (a0 := (⟨a0.b_, a0.at_, a0.bound_⟩ : GWireCursor)) (fun w' hw => ro0_b _ (hK21 _ hw)) hr22) rfl ?_
  clear H; intro x26 w24 hv; clear a; intro a H; obtain ⟨rfl, hE25⟩ := hv
  replace hS := hF21 _ _ hE25; simp only [List.cons_append, List.nil_append] at hS; clear hG21 hK21 hR21 hF21
  refine n_q H (q_subW rfl rfl) rfl (W_q (q_gtr rfl rfl) rfl ?_); clear H a; intro a H
  refine n_nil (then_normal (c_cond H rfl (fun hc27 => ?_) (fun hc27 => ?_)))
  · replace hm := condT hm hc27
    refine wp_seq (c_ord [] 9 (by kernel_rfl) ?_)
    obtain ⟨w28, hw28⟩ : ∃ x, x = w24.drew := ⟨_, rfl⟩; rw [← hw28]; have hE29 : Ext w24 w28 := by rw [hw28]; exact Ext.drew' _
    clear hw28
    replace hS := hS.ext hE29
    have hS30 := hS
    have hW := Nat.le_refl w28.heap.size
    refine k_takeT 0 H rfl (q_move rfl) rfl (by kernel_rfl) (by kernel_rfl) (by kernel_rfl) (by kernel_rfl) (fun _ _ _ h => h) ?_; clear H a; intro a H
    refine k_takeT 1 H rfl (q_nilCheck rfl) rfl (by kernel_rfl) (by kernel_rfl) (by kernel_rfl) (by kernel_rfl) (fun _ _ _ h => h) ?_; clear H a; intro a H
    refine k_takeT 2 H rfl (q_fieldAddr0 rfl fo142_1) rfl (by kernel_rfl) (by kernel_rfl) (by kernel_rfl) (by kernel_rfl) (fun _ _ _ h => h) ?_; clear H a; intro a H
    refine k_take 3 H rfl (q_load rfl (LdC.old ((hS30.blk 0 rfl).ld ag3 rfl) Ext.rfl' (Nat.le_refl _) (by simp))) rfl (by kernel_rfl) (by kernel_rfl) (by kernel_rfl) (by kernel_rfl) (fun _ _ _ h => h) ?_; clear H a; intro a H
    refine k_takeT 4 H rfl (q_addW rfl rfl) rfl (by kernel_rfl) (by kernel_rfl) (by kernel_rfl) (by kernel_rfl) (fun _ _ _ h => h) ?_; clear H a; intro a H
    refine k_take 5 H rfl (q_load rfl (LdC.old ((hG _ hS30.chg).ld gLength (by decide) ag33) Ext.rfl' (Nat.le_refl _) (by simp))) rfl (by kernel_rfl) (by kernel_rfl) (by kernel_rfl) (by kernel_rfl) (fun _ _ _ h => h) ?_; clear H a; intro a H
    replace hm := bindS hm; obtain ⟨r31, hr31, hm⟩ := hm
    refine k_of_kk 6 (by kernel_rfl) ?_
    refine kk_call 6 H rfl rfl en57 (g_wire_at_w (A := A) (IsErr.var (by decide) : IsE A w28 _ (.v gLength)) hr31) rfl (fun v w hv => .inl (ChgF.of_ext (by obtain ⟨_, _, hE0⟩ := hv; exact hE0.x))) ?_
    clear H; intro u32 w34 hv; clear a; intro a H; obtain ⟨_, rfl, hE35⟩ := hv
    replace hS := hS.new hE35; simp only [List.cons_append, List.nil_append] at hS
    replace hW := Nat.le_trans hW hE35.x.size
    refine k_takeT 7 H rfl (q_assign rfl) rfl (by kernel_rfl) (by kernel_rfl) (by kernel_rfl) (by kernel_rfl) (fun _ _ _ h => h) ?_; clear H a; intro a H
    refine k_takeT 8 H rfl (q_assign rfl) rfl (by kernel_rfl) (by kernel_rfl) (by kernel_rfl) (by kernel_rfl) (fun _ _ _ h => h) ?_; clear H a; intro a H
    refine k_done (by kernel_rfl) ?_
    refine then_normal (wp_ret (then_ret ?_))
    obtain rfl := Option.some.inj hm
    replace hS := St.optNone (fun (x : GWireCursor) b => blkR b [v0_0, .int .i64 x.at_, .int .i64 x.bound_] 142) hS
    replace hS := hS.pk1
    replace hS := hS.pk1
    replace hS := hS.pk2
    refine ret2 H (.inr rfl) rfl rfl rfl ?_
    exact ⟨_, _, rfl, hS⟩
  · replace hm := condF hm hc27
    refine wp_skip (then_normal (wp_seq (c_ord [] 19 (by kernel_rfl) ?_)))
    obtain ⟨w38, hw38⟩ : ∃ x, x = w24.drew := ⟨_, rfl⟩; rw [← hw38]; have hE39 : Ext w24 w38 := by rw [hw38]; exact Ext.drew' _
    clear hw38
    replace hS := hS.ext hE39
    have hS40 := hS
    have hW := Nat.le_refl w38.heap.size
    refine k_takeT 0 H rfl (q_move rfl) rfl (by kernel_rfl) (by kernel_rfl) (by kernel_rfl) (by kernel_rfl) (fun _ _ _ h => h) ?_; clear H a; intro a H
    refine k_takeT 1 H rfl (q_nilCheck rfl) rfl (by kernel_rfl) (by kernel_rfl) (by kernel_rfl) (by kernel_rfl) (fun _ _ _ h => h) ?_; clear H a; intro a H
    refine k_takeT 2 H rfl (q_fieldAddr0 rfl fo142_0) rfl (by kernel_rfl) (by kernel_rfl) (by kernel_rfl) (by kernel_rfl) (fun _ _ _ h => h) ?_; clear H a; intro a H
    refine k_take 3 H rfl (q_load rfl (LdC.old ((hS40.blk 0 rfl).ld ag23 rfl) Ext.rfl' (Nat.le_refl _) (by simp))) rfl (by kernel_rfl) (by kernel_rfl) (by kernel_rfl) (by kernel_rfl) (fun _ _ _ h => h) ?_; clear H a; intro a H
    refine k_takeT 4 H rfl (q_move rfl) rfl (by kernel_rfl) (by kernel_rfl) (by kernel_rfl) (by kernel_rfl) (fun _ _ _ h => h) ?_; clear H a; intro a H
    refine k_takeT 5 H rfl (q_nilCheck rfl) rfl (by kernel_rfl) (by kernel_rfl) (by kernel_rfl) (by kernel_rfl) (fun _ _ _ h => h) ?_; clear H a; intro a H
    refine k_takeT 6 H rfl (q_fieldAddr0 rfl fo142_1) rfl (by kernel_rfl) (by kernel_rfl) (by kernel_rfl) (by kernel_rfl) (fun _ _ _ h => h) ?_; clear H a; intro a H
    refine k_take 7 H rfl (q_load rfl (LdC.old ((hS40.blk 0 rfl).ld ag3 rfl) Ext.rfl' (Nat.le_refl _) (by simp))) rfl (by kernel_rfl) (by kernel_rfl) (by kernel_rfl) (by kernel_rfl) (fun _ _ _ h => h) ?_; clear H a; intro a H
    refine k_takeT 8 H rfl (q_addW rfl rfl) rfl (by kernel_rfl) (by kernel_rfl) (by kernel_rfl) (by kernel_rfl) (fun _ _ _ h => h) ?_; clear H a; intro a H
    refine k_takeT 9 H rfl (q_move rfl) rfl (by kernel_rfl) (by kernel_rfl) (by kernel_rfl) (by kernel_rfl) (fun _ _ _ h => h) ?_; clear H a; intro a H
    refine k_takeT 10 H rfl (q_nilCheck rfl) rfl (by kernel_rfl) (by kernel_rfl) (by kernel_rfl) (by kernel_rfl) (fun _ _ _ h => h) ?_; clear H a; intro a H
    refine k_takeT 11 H rfl (q_fieldAddr0 rfl fo142_1) rfl (by kernel_rfl) (by kernel_rfl) (by kernel_rfl) (by kernel_rfl) (fun _ _ _ h => h) ?_; clear H a; intro a H
    refine k_take 12 H rfl (q_load rfl (LdC.old ((hS40.blk 0 rfl).ld ag3 rfl) Ext.rfl' (Nat.le_refl _) (by simp))) rfl (by kernel_rfl) (by kernel_rfl) (by kernel_rfl) (by kernel_rfl) (fun _ _ _ h => h) ?_; clear H a; intro a H
    refine k_takeT 13 H rfl (q_addW rfl rfl) rfl (by kernel_rfl) (by kernel_rfl) (by kernel_rfl) (by kernel_rfl) (fun _ _ _ h => h) ?_; clear H a; intro a H
    refine k_takeT 14 H rfl (q_move rfl) rfl (by kernel_rfl) (by kernel_rfl) (by kernel_rfl) (by kernel_rfl) (fun _ _ _ h => h) ?_; clear H a; intro a H
    refine k_takeT 15 H rfl (q_addW rfl rfl) rfl (by kernel_rfl) (by kernel_rfl) (by kernel_rfl) (by kernel_rfl) (fun _ _ _ h => h) ?_; clear H a; intro a H
    refine k_takeT 16 H rfl (q_build (cs := [v0_0, .int .i64 (IntKind.i64.wrap (r22.2.at_ + 3)), .int .i64 (IntKind.i64.wrap ((IntKind.i64.wrap (r22.2.at_ + 3)) + a1))]) ze142 bd142 pl142 rfl ((fill1 ((ro0_b _ hS.chg)).one rfl (by simp)).trans ((fill1 rfl rfl (by simp)).trans ((fill1 rfl rfl (by simp)).trans rfl)))) rfl (by kernel_rfl) (by kernel_rfl) (by kernel_rfl) (by kernel_rfl) (fun _ _ _ h => h) ?_; clear H a; intro a H
    refine k_box 17 H rfl rfl (cs := [v0_0, .int .i64 (IntKind.i64.wrap (r22.2.at_ + 3)), .int .i64 (IntKind.i64.wrap ((IntKind.i64.wrap (r22.2.at_ + 3)) + a1))]) rfl rfl (by kernel_rfl) ?_
    clear H; intro b41 w42 hN hE43 hs; clear a; intro a H
    have hge_b41 : w38.heap.size ≤ b41 := hs ▸ hW
    replace hS := hS.newBlk hN hE43 hs; clear hN hs
    replace hW := Nat.le_trans hW hE43.size
    refine k_takeT 18 H rfl (q_assign rfl) rfl (by kernel_rfl) (by kernel_rfl) (by kernel_rfl) (by kernel_rfl) (fun _ _ _ h => h) ?_; clear H a; intro a H
    refine k_done (by kernel_rfl) ?_
    refine then_normal (wp_seq (wp_region_lit (n_q H (q_move rfl) rfl (W_q (q_move rfl) rfl (W_q (q_nilCheck rfl) rfl (W_q (q_fieldAddr0 rfl fo142_2) rfl (W_q (q_load rfl ((hS.blk 0 rfl).ld ag3 rfl)) rfl (W_q (q_nilCheck rfl) rfl (W_q (q_fieldAddr0 rfl fo142_1) rfl ?_))))))))); clear H a; intro a H
    replace hS := hS.pk1
    refine n_store1 H rfl rfl sz3 (hS.blk 0 rfl) (by simp) rfl ?_
    clear H; intro w44 hN hC45 hz; clear a; intro a H; replace hS := hS.setBlk hN hC45; clear hN hz
    try simp only [List.set_cons_succ, List.set_cons_zero] at hS
    refine n_nil (then_normal (wp_seq (wp_region_lit (n_q H (q_move rfl) rfl (W_q (q_assign rfl) rfl (W_q (q_assign rfl) rfl ?_)))))); clear H a; intro a H
    refine n_nil (then_normal (wp_ret ?_))
    obtain rfl := Option.some.inj hm
    replace hS := hS.pk1
    replace hS := St.optSome (g := (fun (x : GWireCursor) b => blkR b [v0_0, .int .i64 x.at_, .int .i64 x.bound_] 142)) (⟨a0.b_, (IntKind.i64.wrap (r22.2.at_ + 3)), (IntKind.i64.wrap ((IntKind.i64.wrap (r22.2.at_ + 3)) + a1))⟩ : GWireCursor) hS
    replace hS := hS.dNil (A := A)
    replace hS := hS.pk1
    replace hS := hS.pk2
    refine ret2 H (.inr rfl) rfl rfl rfl ?_
    exact ⟨_, _, rfl, hS⟩
theorem g_wire_Cursor_Next_w {w : World} {A : Nat → Addr} {fp : Nat → Prop} {b0 : Nat} {v0_0 : Value} {a0 : GWireCursor} (hG : ∀ w', ChgP fp w w' → EV A w') (hP : Sep w fp [blkR b0 [v0_0, .int .i64 a0.at_, .int .i64 a0.bound_] 142]) (ro0_b : ∀ w', ChgP fp w w' → SlR w' 1 (Flat eB) v0_0 a0.b_) {r : Int × Option GWireCursor × ErrM × GWireCursor} (hm : g_wire_Cursor_Next a0 = some r) :
    Calls Tryd.prog 50 [.pointer (some ⟨b0, 0, none⟩)].toArray w (Ret fun u w' => ∃ h_0 h_1, u = .tuple #[.int .i64 r.1, h_0, h_1] ∧ St fp w w' [blkR b0 [v0_0, .int .i64 r.2.2.2.at_, .int .i64 r.2.2.2.bound_] 142, optR (fun (x : GWireCursor) b => blkR b [v0_0, .int .i64 x.at_, .int .i64 x.bound_] 142) h_0 r.2.1, erQ A h_1 r.2.2.1]) := by
  have hS := St.init hP
  unfold g_wire_Cursor_Next at hm
  refine enter Tryd.func50 rfl rfl rfl ?_; intro a H; dsimp only [enumL, Nat.zero_add, Nat.reduceAdd] at H
  refine wp_seq (wp_region_lit (n_q H (q_assign rfl) rfl (W_q (q_assign rfl) rfl (W_q (q_assign rfl) rfl ?_)))); clear H a; intro a H
  refine n_nil (then_normal (wp_seq (wp_region_lit (n_q H (q_move rfl) rfl ?_)))); clear H a; intro a H
  obtain ⟨fp21, hG21, hK21, hR21, hF21⟩ := hS.frame (rs1 := [blkR b0 [v0_0, .int .i64 a0.at_, .int .i64 a0.bound_] 142])
  replace hm := bindS hm; obtain ⟨r22, hr22, hm⟩ := hm
  refine n_call H rfl en73 (g_wire_Cursor_head_w (A := A) (fun w' hw => hG _ (hK21 _ hw)) hG21 (a0 := (⟨a0.b_, a0.at_, a0.bound_⟩ : GWireCursor)) (fun w' hw => ro0_b _ (hK21 _ hw)) hr22) rfl ?_
  clear H; intro x28 w26 hv; clear a; intro a H; obtain ⟨u23, rfl, hE27⟩ := hv
  replace hS := hF21 _ _ hE27; simp only [List.cons_append, List.nil_append] at hS; clear hG21 hK21 hR21 hF21
  refine n_q H (q_move rfl) rfl (W_q (q_extract rfl rfl) rfl (W_q (q_extract rfl rfl) rfl (W_q (q_extract rfl rfl) rfl (W_q (q_assign rfl) rfl (W_q (q_assign rfl) rfl (W_q (q_assign rfl) rfl ?_)))))); clear H a; intro a H
  refine n_nil (then_normal (wp_seq (wp_seq (wp_region_lit (n_q H (q_move rfl) rfl (W_q (q_cast (q_nnilI Tryd.underlying33 rfl rfl (hS.any 1 rfl : IsE A w26 u23 r22.2.2.1).form) (show _ = Value.bool (!decide (r22.2.2.1 = .nil)) by rw [IsErr.isNil (hS.any 1 rfl : IsE A w26 u23 r22.2.2.1)])) rfl ?_)))))); clear H a; intro a H
  refine n_nil (then_normal (c_cond H rfl (fun hc29 => ?_) (fun hc29 => ?_)))
  · replace hm := condT hm hc29
    refine wp_seq (wp_region_lit (n_q H (q_move rfl) rfl (W_q (q_assign rfl) rfl (W_q (q_assign rfl) rfl (W_q (q_assign rfl) rfl ?_))))); clear H a; intro a H
    refine n_nil (then_normal (wp_ret (then_ret ?_)))
    obtain rfl := Option.some.inj hm
    replace hS := St.optNone (fun (x : GWireCursor) b => blkR b [v0_0, .int .i64 x.at_, .int .i64 x.bound_] 142) hS
    replace hS := hS.pk2
    replace hS := hS.pk1
    replace hS := hS.pk2
    refine retL H (.inr rfl) rfl (vs := [.int .i64 0, .pointer none, u23]) (resTmp rfl (resTmp rfl (resTmp rfl resNil))) ?_
    exact ⟨_, _, rfl, hS⟩
  · replace hm := condF hm hc29
    refine wp_skip (then_normal (wp_seq (wp_seq (wp_region_lit (n_q H (q_move rfl) rfl (W_q (q_eqlD rfl rfl) rfl ?_)))))); clear H a; intro a H
    refine n_nil (then_normal (c_cond H rfl (fun hc31 => ?_) (fun hc31 => ?_)))
    · replace hm := condT hm hc31
      refine wp_seq (c_ord [] 9 (by kernel_rfl) ?_)
      obtain ⟨w32, hw32⟩ : ∃ x, x = w26.drew := ⟨_, rfl⟩; rw [← hw32]; have hE33 : Ext w26 w32 := by rw [hw32]; exact Ext.drew' _
      clear hw32
      replace hS := hS.ext hE33
      have hS34 := hS
      have hW := Nat.le_refl w32.heap.size
      refine k_takeT 0 H rfl (q_move rfl) rfl (by kernel_rfl) (by kernel_rfl) (by kernel_rfl) (by kernel_rfl) (fun _ _ _ h => h) ?_; clear H a; intro a H
      refine k_takeT 1 H rfl (q_nilCheck rfl) rfl (by kernel_rfl) (by kernel_rfl) (by kernel_rfl) (by kernel_rfl) (fun _ _ _ h => h) ?_; clear H a; intro a H
      refine k_takeT 2 H rfl (q_fieldAddr0 rfl fo142_1) rfl (by kernel_rfl) (by kernel_rfl) (by kernel_rfl) (by kernel_rfl) (fun _ _ _ h => h) ?_; clear H a; intro a H
      refine k_take 3 H rfl (q_load rfl (LdC.old ((hS34.blk 0 rfl).ld ag3 rfl) Ext.rfl' (Nat.le_refl _) (by simp))) rfl (by kernel_rfl) (by kernel_rfl) (by kernel_rfl) (by kernel_rfl) (fun _ _ _ h => h) ?_; clear H a; intro a H
      refine k_take 4 H rfl (q_load rfl (LdC.old ((hG _ hS34.chg).ld gTag (by decide) ag33) Ext.rfl' (Nat.le_refl _) (by simp))) rfl (by kernel_rfl) (by kernel_rfl) (by kernel_rfl) (by kernel_rfl) (fun _ _ _ h => h) ?_; clear H a; intro a H
      replace hm := bindS hm; obtain ⟨r35, hr35, hm⟩ := hm
      refine k_of_kk 5 (by kernel_rfl) ?_
      refine kk_call 5 H rfl rfl en57 (g_wire_at_w (A := A) (IsErr.var (by decide) : IsE A w32 _ (.v gTag)) hr35) rfl (fun v w hv => .inl (ChgF.of_ext (by obtain ⟨_, _, hE0⟩ := hv; exact hE0.x))) ?_
      clear H; intro u36 w38 hv; clear a; intro a H; obtain ⟨_, rfl, hE39⟩ := hv
      replace hS := hS.new hE39; simp only [List.cons_append, List.nil_append] at hS
      replace hW := Nat.le_trans hW hE39.x.size
      refine k_takeT 6 H rfl (q_assign rfl) rfl (by kernel_rfl) (by kernel_rfl) (by kernel_rfl) (by kernel_rfl) (fun _ _ _ h => h) ?_; clear H a; intro a H
      refine k_takeT 7 H rfl (q_assign rfl) rfl (by kernel_rfl) (by kernel_rfl) (by kernel_rfl) (by kernel_rfl) (fun _ _ _ h => h) ?_; clear H a; intro a H
      refine k_takeT 8 H rfl (q_assign rfl) rfl (by kernel_rfl) (by kernel_rfl) (by kernel_rfl) (by kernel_rfl) (fun _ _ _ h => h) ?_; clear H a; intro a H
      refine k_done (by kernel_rfl) ?_
      refine then_normal (wp_ret (then_ret ?_))
      obtain rfl := Option.some.inj hm
      replace hS := St.optNone (fun (x : GWireCursor) b => blkR b [v0_0, .int .i64 x.at_, .int .i64 x.bound_] 142) hS
      replace hS := hS.pk1
      replace hS := hS.pk1
      replace hS := hS.pk2
      replace hS := hS.tk3
      refine retL H (.inr rfl) rfl (vs := [.int .i64 0, .pointer none, u36]) (resTmp rfl (resTmp rfl (resTmp rfl resNil))) ?_
      exact ⟨_, _, rfl, hS⟩
    · replace hm := condF hm hc31
      refine wp_skip (then_normal (wp_seq (wp_region_lit (n_q H (q_move rfl) rfl (W_q (q_move rfl) rfl ?_))))); clear H a; intro a H
      obtain ⟨fp42, hG42, hK42, hR42, hF42⟩ := hS.frame (rs1 := [blkR b0 [v0_0, .int .i64 r22.2.2.2.at_, .int .i64 r22.2.2.2.bound_] 142])
      replace hm := bindS hm; obtain ⟨r43, hr43, hm⟩ := hm
      refine n_call H rfl en74 (g_wire_Cursor_enter_w (A := A) (fun w' hw => hG _ (hK42 _ hw)) hG42 (a0 := (⟨a0.b_, r22.2.2.2.at_, r22.2.2.2.bound_⟩ : GWireCursor)) (fun w' hw => ro0_b _ (hK42 _ hw)) hr43) rfl ?_
      clear H; intro x51 w49 hv; clear a; intro a H; obtain ⟨u44, u45, rfl, hE50⟩ := hv
      replace hS := hF42 _ _ hE50; simp only [List.cons_append, List.nil_append] at hS; clear hG42 hK42 hR42 hF42
      refine n_q H (q_move rfl) rfl (W_q (q_extract rfl rfl) rfl (W_q (q_extract rfl rfl) rfl (W_q (q_assign rfl) rfl (W_q (q_assign rfl) rfl ?_)))); clear H a; intro a H
      refine n_nil (then_normal (wp_seq (wp_seq (wp_region_lit (n_q H (q_move rfl) rfl (W_q (q_cast (q_nnilI Tryd.underlying33 rfl rfl (hS.any 2 rfl : IsE A w49 u45 r43.2.1).form) (show _ = Value.bool (!decide (r43.2.1 = .nil)) by rw [IsErr.isNil (hS.any 2 rfl : IsE A w49 u45 r43.2.1)])) rfl ?_)))))); clear H a; intro a H
      refine n_nil (then_normal (c_cond H rfl (fun hc52 => ?_) (fun hc52 => ?_)))
      · replace hm := condT hm hc52
        refine wp_seq (wp_region_lit (n_q H (q_move rfl) rfl (W_q (q_assign rfl) rfl (W_q (q_assign rfl) rfl (W_q (q_assign rfl) rfl ?_))))); clear H a; intro a H
        refine n_nil (then_normal (wp_ret (then_ret ?_)))
        obtain rfl := Option.some.inj hm
        replace hS := St.optNone (fun (x : GWireCursor) b => blkR b [v0_0, .int .i64 x.at_, .int .i64 x.bound_] 142) hS
        replace hS := hS.pk3
        replace hS := hS.pk1
        replace hS := hS.pk2
        replace hS := hS.tk3
        refine retL H (.inr rfl) rfl (vs := [.int .i64 0, .pointer none, u45]) (resTmp rfl (resTmp rfl (resTmp rfl resNil))) ?_
        exact ⟨_, _, rfl, hS⟩
      · replace hm := condF hm hc52
        refine wp_skip (then_normal (wp_seq (wp_region_lit (n_q H (q_move rfl) rfl (W_q (q_move rfl) rfl (W_q (q_assign rfl) rfl (W_q (q_assign rfl) rfl (W_q (q_assign rfl) rfl ?_)))))))); clear H a; intro a H
        refine n_nil (then_normal (wp_ret ?_))
        obtain rfl := Option.some.inj hm
        replace hS := hS.dNil (A := A)
        replace hS := hS.pk2
        replace hS := hS.pk2
        replace hS := hS.tk3
        refine retL H (.inr rfl) rfl (vs := [.int .i64 r22.1, u44, .nilIface]) (resTmp rfl (resTmp rfl (resTmp rfl resNil))) ?_
        exact ⟨_, _, rfl, hS⟩
theorem g_wire_Cursor_body_w {w : World} {A : Nat → Addr} {fp : Nat → Prop} {b0 : Nat} {v0_0 : Value} {a0 : GWireCursor} (hP : Sep w fp [blkR b0 [v0_0, .int .i64 a0.at_, .int .i64 a0.bound_] 142]) (ro0_b : ∀ w', ChgP fp w w' → SlR w' 1 (Flat eB) v0_0 a0.b_) {r : List UInt8 × GWireCursor} (hm : g_wire_Cursor_body a0 = some r) :
    Calls Tryd.prog 51 [.pointer (some ⟨b0, 0, none⟩)].toArray w (Ret fun u w' => ∃ h_0, u = h_0 ∧ St fp w w' [blkR b0 [v0_0, .int .i64 r.2.at_, .int .i64 r.2.bound_] 142, ownR 5 1 h_0 r.1.length (r.1.flatMap eB)]) := by
  have hS := St.init hP
  unfold g_wire_Cursor_body at hm
  refine enter Tryd.func51 rfl rfl rfl ?_; intro a H; dsimp only [enumL, Nat.zero_add, Nat.reduceAdd] at H
  refine wp_seq (wp_region_lit (n_q H (q_assign rfl) rfl ?_)); clear H a; intro a H
  refine n_nil (then_normal (wp_seq (c_ord [] 15 (by kernel_rfl) ?_)))
  obtain ⟨w21, hw21⟩ : ∃ x, x = w.drew := ⟨_, rfl⟩; rw [← hw21]; have hE22 : Ext w w21 := by rw [hw21]; exact Ext.drew' _
  clear hw21
  replace hS := hS.ext hE22
  have hS23 := hS
  have hW := Nat.le_refl w21.heap.size
  refine k_takeT 0 H rfl (q_move rfl) rfl (by kernel_rfl) (by kernel_rfl) (by kernel_rfl) (by kernel_rfl) (fun _ _ _ h => h) ?_; clear H a; intro a H
  refine k_takeT 1 H rfl (q_nilCheck rfl) rfl (by kernel_rfl) (by kernel_rfl) (by kernel_rfl) (by kernel_rfl) (fun _ _ _ h => h) ?_; clear H a; intro a H
  refine k_takeT 2 H rfl (q_fieldAddr0 rfl fo142_0) rfl (by kernel_rfl) (by kernel_rfl) (by kernel_rfl) (by kernel_rfl) (fun _ _ _ h => h) ?_; clear H a; intro a H
  refine k_take 3 H rfl (q_load rfl (LdC.old ((hS23.blk 0 rfl).ld ag23 rfl) Ext.rfl' (Nat.le_refl _) (by simp))) rfl (by kernel_rfl) (by kernel_rfl) (by kernel_rfl) (by kernel_rfl) (fun _ _ _ h => h) ?_; clear H a; intro a H
  refine k_takeT 4 H rfl (q_move rfl) rfl (by kernel_rfl) (by kernel_rfl) (by kernel_rfl) (by kernel_rfl) (fun _ _ _ h => h) ?_; clear H a; intro a H
  refine k_takeT 5 H rfl (q_nilCheck rfl) rfl (by kernel_rfl) (by kernel_rfl) (by kernel_rfl) (by kernel_rfl) (fun _ _ _ h => h) ?_; clear H a; intro a H
  refine k_takeT 6 H rfl (q_fieldAddr0 rfl fo142_1) rfl (by kernel_rfl) (by kernel_rfl) (by kernel_rfl) (by kernel_rfl) (fun _ _ _ h => h) ?_; clear H a; intro a H
  refine k_take 7 H rfl (q_load rfl (LdC.old ((hS23.blk 0 rfl).ld ag3 rfl) Ext.rfl' (Nat.le_refl _) (by simp))) rfl (by kernel_rfl) (by kernel_rfl) (by kernel_rfl) (by kernel_rfl) (fun _ _ _ h => h) ?_; clear H a; intro a H
  refine k_takeT 8 H rfl (q_move rfl) rfl (by kernel_rfl) (by kernel_rfl) (by kernel_rfl) (by kernel_rfl) (fun _ _ _ h => h) ?_; clear H a; intro a H
  refine k_takeT 9 H rfl (q_nilCheck rfl) rfl (by kernel_rfl) (by kernel_rfl) (by kernel_rfl) (by kernel_rfl) (fun _ _ _ h => h) ?_; clear H a; intro a H
  refine k_takeT 10 H rfl (q_fieldAddr0 rfl fo142_2) rfl (by kernel_rfl) (by kernel_rfl) (by kernel_rfl) (by kernel_rfl) (fun _ _ _ h => h) ?_; clear H a; intro a H
  refine k_take 11 H rfl (q_load rfl (LdC.old ((hS23.blk 0 rfl).ld ag3 rfl) Ext.rfl' (Nat.le_refl _) (by simp))) rfl (by kernel_rfl) (by kernel_rfl) (by kernel_rfl) (by kernel_rfl) (fun _ _ _ h => h) ?_; clear H a; intro a H
  obtain ⟨A24, c24, hv24, hl24, hm24⟩ := SlR.formV (ro0_b _ hS.chg)
  replace hm := chkS hm; obtain ⟨hk25, hm⟩ := hm
  obtain ⟨A26, c26, hV26, hsub26⟩ := sub_sl 1 (Flat eB) A24 a0.b_.length c24 a0.b_ (lo := a0.at_) (hi := a0.bound_) hk25.1 hk25.2.1 hk25.2.2
  rw [← hv24] at hsub26
  refine k_takeT 12 H rfl (q_cast (q_slice Tryd.underlying23 sz5 (show _ = some (Value.slice A24 a0.b_.length c24) by rw [← hv24]; rfl) rfl rfl hk25.1 hk25.2.1 (by omega)) hV26) rfl (by kernel_rfl) (by kernel_rfl) (by kernel_rfl) (by kernel_rfl) (fun _ _ _ h => h) ?_; clear H a; intro a H
  replace hm := bindS hm; obtain ⟨r27, hr27, hm⟩ := hm
  refine k_of_kk 13 (by kernel_rfl) ?_
  refine kk_call 13 H rfl rfl en72 (g_slices_Clone_byte_w (A := A) (hsub26 _ (ro0_b _ hS.chg)) hr27) rfl (fun v w hv => .inl (ChgF.of_ext (by obtain ⟨_, _, hE0⟩ := hv; exact hE0.x))) ?_
  clear H; intro u28 w30 hv; clear a; intro a H; obtain ⟨_, rfl, hE31⟩ := hv
  replace hS := hS.new hE31; simp only [List.cons_append, List.nil_append] at hS
  replace hW := Nat.le_trans hW hE31.x.size
  refine k_takeT 14 H rfl (q_assign rfl) rfl (by kernel_rfl) (by kernel_rfl) (by kernel_rfl) (by kernel_rfl) (fun _ _ _ h => h) ?_; clear H a; intro a H
  refine k_done (by kernel_rfl) ?_
  refine then_normal (wp_ret ?_)
  obtain rfl := Option.some.inj hm
  replace hS := hS.pk1
  refine ret1 H (.inr rfl) rfl rfl ?_
  exact ⟨_, rfl, hS⟩
theorem g_wire_Split_w {w : World} {A : Nat → Addr} {v0 : Value} {a0 : List UInt8} (hG : EV A w) (h0 : SlR w 1 (Flat eB) v0 a0) {r : List GWireRec × ErrM} (hm : g_wire_Split a0 = some r) :
    Calls Tryd.prog 13 [v0].toArray w (Ret fun u w' => ∃ h_0 h_1, u = .tuple #[h_0, h_1] ∧ St NB w w' [deepR 54 2 RGWireRec h_0 r.1, erQ A h_1 r.2]) := by
  have hS := St.begin NB w
  unfold g_wire_Split at hm
  refine enter Tryd.func13 rfl rfl rfl ?_; intro a H; dsimp only [enumL, Nat.zero_add, Nat.reduceAdd] at H
  refine wp_seq (wp_region_lit (n_q H (q_assign rfl) rfl (W_q (q_assign rfl) rfl ?_))); clear H a; intro a H
  refine n_nil (then_normal (wp_seq (wp_region_lit (n_q H (q_assign rfl) rfl ?_)))); clear H a; intro a H
  refine n_nil (then_normal (wp_seq (wp_seq (wp_region_lit (n_q H (q_move rfl) rfl ?_))))); clear H a; intro a H
  replace hm := bindS hm; obtain ⟨r21, hr21, hm⟩ := hm
  refine n_call H rfl en37 (g_wire_Open_w (A := A) (h0.ext (Flat.mono _) hS.x) hr21) rfl ?_
  clear H; intro x27 w25 hv; clear a; intro a H; obtain ⟨u22, u23, rfl, hE26⟩ := hv
  replace hS := hS.new hE26; simp only [List.cons_append, List.nil_append] at hS
  refine n_q H (q_assign rfl) rfl ?_; clear H a; intro a H
  refine n_nil (then_normal (wp_block ?_))
  replace hS := hS.deepNil 54 2 RGWireRec
  replace hm := bindS hm; obtain ⟨q28, hm, hm28⟩ := hm; replace hm := iter_some hm; obtain ⟨n28, hm⟩ := hm
  refine c_loop (σ := Nat × (List GWireRec) × Int × Int × Value) (fun (m, l29, z32, z33, v30) => [(4, v30), (5, .pointer (some ⟨u22, 0, none⟩))]) (fun (m, l29, z32, z33, v30) wl => iterN (g_wire_Split_L1 r21) m (l29, z32, z33) = some q28 ∧ St NB w wl [deepR 54 2 RGWireRec v30 l29, blkR u22 [u23, .int .i64 z32, .int .i64 z33] 142, ownR 5 1 u23 r21.b_.length (r21.b_.flatMap eB)]) (fun (m, l29, z32, z33, v30) => m) (n28, ([] : List GWireRec), r21.at_, r21.bound_, .slice none 0 0) H ⟨rfl, rfl, trivial⟩ ⟨hm, hS⟩ ?_
  clear H hS hm a; intro xx a w35 H hR; obtain ⟨m, l29, z32, z33, v30⟩ := xx; simp only [ent, List.map_cons, List.map_nil] at H; (try dsimp only at hR); obtain ⟨hm, hS⟩ := hR
  replace hm := iterN_step hm; obtain ⟨m28, o28, rfl, hm, hn28⟩ := hm; try dsimp only [g_wire_Split_L1] at hm
  refine wp_seq (wp_seq (wp_region_lit (n_q H (q_move rfl) rfl ?_))); clear H a; intro a H
  replace hS := hS.pk1
  obtain ⟨fp36, hG36, hK36, hR36, hF36⟩ := hS.frame (rs1 := [blkR u22 [u23, .int .i64 z32, .int .i64 z33] 142])
  replace hm := bindS hm; obtain ⟨r37, hr37, hm⟩ := hm
  refine n_call H rfl en40 (g_wire_Cursor_Left_w (A := A) hG36 (a0 := (⟨r21.b_, z32, z33⟩ : GWireCursor)) (fun w' hw => (restOwn (hR36 1 _ rfl _ hw)).slr rfl (fun _ _ => rfl)) hr37) rfl ?_
  clear H; intro x41 w39 hv; clear a; intro a H; obtain ⟨rfl, hE40⟩ := hv
  replace hS := hF36 _ _ hE40; simp only [List.cons_append, List.nil_append] at hS; clear hG36 hK36 hR36 hF36
  refine n_q H (q_gtr rfl rfl) rfl ?_; clear H a; intro a H
  refine n_nil (then_normal (c_cond H rfl (fun hc42 => ?_) (fun hc42 => ?_)))
  · replace hm := condT hm hc42
    refine wp_skip (then_normal (wp_block (wp_seq (wp_region_lit (n_q H (q_move rfl) rfl ?_))))); clear H a; intro a H
    obtain ⟨fp43, hG43, hK43, hR43, hF43⟩ := hS.frame (rs1 := [blkR u22 [u23, .int .i64 r37.2.at_, .int .i64 r37.2.bound_] 142])
    replace hm := bindS hm; obtain ⟨r44, hr44, hm⟩ := hm
    refine n_call H rfl en50 (g_wire_Cursor_Next_w (A := A) (fun w' hw => hG.ext (hK43 _ hw).ext) hG43 (a0 := (⟨r21.b_, r37.2.at_, r37.2.bound_⟩ : GWireCursor)) (fun w' hw => (restOwn (hR43 1 _ rfl _ hw)).slr rfl (fun _ _ => rfl)) hr44) rfl ?_
    clear H; intro x52 w50 hv; clear a; intro a H; obtain ⟨u45, u46, rfl, hE51⟩ := hv
    replace hS := hF43 _ _ hE51; simp only [List.cons_append, List.nil_append] at hS; clear hG43 hK43 hR43 hF43
    refine n_q H (q_move rfl) rfl (W_q (q_extract rfl rfl) rfl (W_q (q_extract rfl rfl) rfl (W_q (q_extract rfl rfl) rfl (W_q (q_assign rfl) rfl (W_q (q_assign rfl) rfl (W_q (q_assign rfl) rfl ?_)))))); clear H a; intro a H
    refine n_nil (then_normal (wp_seq (wp_seq (wp_region_lit (n_q H (q_move rfl) rfl (W_q (q_cast (q_nnilI Tryd.underlying33 rfl rfl (hS.any 2 rfl : IsE A w50 u46 r44.2.2.1).form) (show _ = Value.bool (!decide (r44.2.2.1 = .nil)) by rw [IsErr.isNil (hS.any 2 rfl : IsE A w50 u46 r44.2.2.1)])) rfl ?_)))))); clear H a; intro a H
    refine n_nil (then_normal (c_cond H rfl (fun hc53 => ?_) (fun hc53 => ?_)))
    · replace hm := condT hm hc53
      refine wp_seq (wp_region_lit (n_q H (q_move rfl) rfl (W_q (q_assign rfl) rfl (W_q (q_assign rfl) rfl ?_)))); clear H a; intro a H
      refine n_nil (then_normal (wp_ret (then_ret (block_ret (then_ret (block_ret (then_ret ?_)))))))
      obtain rfl := Option.some.inj hm; have hz : _ = q28 := hn28; subst hz; replace hm := hm28; try dsimp only at hm
      obtain rfl := Option.some.inj hm
      replace hS := hS.deepNil 54 2 RGWireRec
      replace hS := hS.pk3
      replace hS := hS.pk1
      replace hS := hS.tk2
      refine ret2 H (.inr rfl) rfl rfl rfl ?_
      exact ⟨_, _, rfl, hS⟩
    · replace hm := condF hm hc53
      refine wp_skip (then_normal (wp_region_lit (n_q H (q_move rfl) rfl (W_q (q_move rfl) rfl (W_q (q_move rfl) rfl ?_))))); clear H a; intro a H
      replace hm := bindS hm; obtain ⟨x55, hx55, hm⟩ := hm
      replace hS := hS.pk1
      obtain ⟨b56, hv, hS'⟩ := St.optOpen hx55 hS; clear hS; subst hv; have hS := hS'; clear hS'; try dsimp only at hS
      obtain ⟨fp57, hG57, hK57, hR57, hF57⟩ := hS.frame (rs1 := [blkR b56 [u23, .int .i64 x55.at_, .int .i64 x55.bound_] 142])
      replace hm := bindS hm; obtain ⟨r58, hr58, hm⟩ := hm
      refine n_call H rfl en51 (g_wire_Cursor_body_w (A := A) hG57 (a0 := (⟨r21.b_, x55.at_, x55.bound_⟩ : GWireCursor)) (fun w' hw => (restOwn (hR57 3 _ rfl _ hw)).slr rfl (fun _ _ => rfl)) hr58) rfl ?_
      clear H; intro u59 w62 hv; clear a; intro a H; obtain ⟨_, rfl, hE63⟩ := hv
      replace hS := hF57 _ _ hE63; simp only [List.cons_append, List.nil_append] at hS; clear hG57 hK57 hR57 hF57
      refine n_q H (q_build (cs := [.int .i64 r44.1, u59]) ze54 bd54 pl54 rfl ((fill1 rfl rfl (by simp)).trans ((fill1 (((hS.own 1 rfl).slr rfl (fun _ _ => rfl))).one rfl (by simp)).trans rfl))) rfl ?_; clear H a; intro a H
      refine n_buildSlice H Tryd.underlying36 sz54 ze54 rfl rfl rfl (cs := [.int .i64 r44.1, u59]) ((fillA (ds := [.int .i64 r44.1, u59]) rfl rfl rfl (by simp)).trans rfl) rfl ?_
      clear H; intro b67 w65 hN hE66 hs; clear a; intro a H
      replace hS := hS.newBlk hN hE66 hs; clear hN hs
      replace hS := hS.pk2
      replace hS := hS.ownAny (F := (fun w' => SlR w' 1 (Flat eB) u59 r58.1)) (fun w' hO => hO.slr rfl (fun _ _ => rfl))
      replace hS := hS.anyMono (G := DIn 2 RGWireRec [[.int .i64 r44.1, u59]] [(⟨r44.1, r58.1⟩ : GWireRec)]) (fun w' hw => (DIn.cons rfl (by simp [hw.one]) ⟨_, rfl, hw⟩ trivial))
      replace hm := chkS hm; obtain ⟨hk70, hm⟩ := hm
      replace hS := hS.pk5
      refine n_appD (css := [[.int .i64 r44.1, u59]]) hS H rfl rfl Tryd.underlying36 Tryd.underlying36 (by simp) el54 (Src.blk (k := 2) (hS.blk 2 rfl) rfl) hk70 (by simp only [maxLen, List.length_cons, List.length_nil]; omega) rfl ?_
      clear H hS; intro v72 w71 hS; clear a; intro a H
      refine n_q H (q_assign rfl) rfl ?_; clear H a; intro a H
      refine n_nil (block_normal (then_normal ?_))
      obtain rfl := Option.some.inj hm
      replace hS := hS.pk5
      replace hS := hS.pk4
      replace hS := hS.pk2
      replace hS := hS.tk3
      exact round (m28, (l29 ++ [(⟨r44.1, r58.1⟩ : GWireRec)]), r44.2.2.2.at_, r44.2.2.2.bound_, v72) H ⟨rfl, rfl, trivial⟩ ⟨hn28, hS⟩ (Nat.lt_succ_self _)
  · replace hm := condF hm hc42
    refine wp_exit (then_exit (then_exit (block_exit ?_)))
    obtain rfl := Option.some.inj hm; have hz : _ = q28 := hn28; subst hz; replace hm := hm28; try dsimp only at hm
    refine then_normal (wp_seq (wp_region_lit (n_q H (q_move rfl) rfl (W_q (q_assign rfl) rfl (W_q (q_assign rfl) rfl ?_))))); clear H a; intro a H
    refine n_nil (then_normal (wp_ret ?_))
    obtain rfl := Option.some.inj hm
    replace hS := hS.dNil (A := A)
    replace hS := hS.pk2
    replace hS := hS.tk2
    refine ret2 H (.inr rfl) rfl rfl rfl ?_
    exact ⟨_, _, rfl, hS⟩
theorem g_top_recordCut_w {w : World} {A : Nat → Addr} {v0 : Value} {a0 : List UInt8} {a1 : Int} (hG : EV A w) (h0 : SlR w 1 (Flat eB) v0 a0) {r : Bool} (hm : g_top_recordCut a0 a1 = some r) :
    Calls Tryd.prog 27 [v0, .int .i64 a1].toArray w (Ret fun u w' => u = .bool r ∧ Ext w w') := by
  have hS := St.begin NB w
  unfold g_top_recordCut at hm
  refine enter Tryd.func27 rfl rfl rfl ?_; intro a H; dsimp only [enumL, Nat.zero_add, Nat.reduceAdd] at H
  refine wp_seq (wp_region_lit (n_q H (q_assign rfl) rfl ?_)); clear H a; intro a H
  refine n_nil (then_normal ?_)
  replace hm := bindS hm; obtain ⟨j21, hm, hm21⟩ := hm
  refine c_join (σ := (List UInt8) × Value) H (fun (l522, v523) => [(0, v523), (1, .int .i64 a1)]) (fun (l522, v523) wl => (g_top_recordCut_J4 a1) l522 = some r ∧ St NB w wl [pureR (SlR w 1 (Flat eB) v523 l522)]) ?_ ?_
  · skip
    refine wp_seq (wp_region_lit (n_q H (q_move rfl) rfl ?_)); clear H a; intro a H
    obtain ⟨A525, c525, hv525, hl525, hm525⟩ := SlR.formV (h0.ext (Flat.mono _) hS.x)
    refine n_q H (q_lenV Tryd.underlying23 rfl hv525) rfl (W_q (q_gtrN (i := a0.length) (j := 60000) rfl rfl) rfl ?_); clear H a; intro a H
    refine n_nil (then_normal (c_cond H rfl (fun hc526 => ?_) (fun hc526 => ?_)))
    · replace hm := condT hm hc526
      refine wp_region_lit (n_q H (q_move rfl) rfl ?_); clear H a; intro a H
      replace hm := chkS hm; obtain ⟨hk527, hm⟩ := hm
      refine n_q H (q_sliceTo Tryd.underlying23 sz5 (show _ = some (Value.slice A525 a0.length c525) by rw [← hv525]; rfl) rfl hk527.1 (by omega)) rfl (W_q (q_assign rfl) rfl ?_); clear H a; intro a H
      refine n_nil (then_normal ?_)
      obtain rfl := Option.some.inj hm; replace hm := hm21; try dsimp only at hm
      replace hS := hS.mkPure (p := SlR w 1 (Flat eB) (Value.slice A525 (60000 : Int).toNat c525) (a0.take (60000 : Int).toNat)) (SlR.takeV h0 hv525 hk527.1 hk527.2)
      exact join ((a0.take (60000 : Int).toNat), .slice A525 (60000 : Int).toNat c525) H ⟨rfl, rfl, trivial⟩ ⟨hm, hS⟩
    · replace hm := condF hm hc526
      refine wp_skip (then_normal ?_)
      obtain rfl := Option.some.inj hm; replace hm := hm21; try dsimp only at hm
      replace hS := hS.mkPure (p := SlR w 1 (Flat eB) v0 a0) h0
      exact join (a0, v0) H ⟨rfl, rfl, trivial⟩ ⟨hm, hS⟩
  · clear H hS hm a; intro xx a w531 H hR
    obtain ⟨l522, v523⟩ := xx
    simp only [ent, List.map_cons, List.map_nil] at H; (try dsimp only at hR); obtain ⟨hm, hS⟩ := hR; try dsimp only [g_top_recordCut_J4] at hm
    refine wp_seq (wp_region_lit (n_buildSlice H Tryd.underlying23 sz5 ze5 rfl rfl rfl (cs := []) rfl rfl ?_))
    clear H; intro b534 w532 hN hE533 hs; clear a; intro a H
    replace hS := hS.newBlk hN hE533 hs; clear hN hs
    replace hS := hS.blkOwnL (e := eB) (k := 1) ([] : List UInt8) rfl rfl (by simp [maxLen])
    refine n_q H (q_move rfl) rfl ?_; clear H a; intro a H
    replace hm := chkS hm; obtain ⟨hk536, hm⟩ := hm
    refine n_app (e := eB) H rfl rfl Tryd.underlying23 Tryd.underlying23 (by simp) el5 (hS.own 0 rfl) (((hS.pureAt 1 rfl).ext (Flat.mono _) hS.x).src (fun _ _ => rfl)) eB_one hk536 (by simp only [maxLen]; omega) rfl ?_
    clear H; intro v539 w537 hN hC538 hb; clear a; intro a H; replace hS := hS.setOwn hN hC538 hb; clear hN hb
    refine n_q H (q_build (cs := [.int .i64 7, v539]) ze54 bd54 pl54 rfl ((fill1 rfl rfl (by simp)).trans ((fill1 (((hS.own 0 rfl).slr rfl (fun _ _ => rfl))).one rfl (by simp)).trans rfl))) rfl ?_; clear H a; intro a H
    refine n_buildSlice H Tryd.underlying36 sz54 ze54 rfl rfl rfl (cs := [.int .i64 7, v539]) ((fillA (ds := [.int .i64 7, v539]) rfl rfl rfl (by simp)).trans rfl) rfl ?_
    clear H; intro b543 w541 hN hE542 hs; clear a; intro a H
    replace hS := hS.newBlk hN hE542 hs; clear hN hs
    replace hm := bindS hm; obtain ⟨r544, hr544, hm⟩ := hm
    refine n_call H rfl en9 (g_wire_Join_w (A := A) (hG.ext hS.x) (SlR.ofBlk (k := 2) (R := RGWireRec) [[.int .i64 7, v539]] [(⟨7, (([] : List UInt8) ++ l522)⟩ : GWireRec)] (hS.blk 0 rfl) (DIn.cons rfl (by simp [(((hS.own 1 rfl).slr rfl (fun _ _ => rfl))).one]) (⟨_, rfl, ((hS.own 1 rfl).slr rfl (fun _ _ => rfl))⟩ : RGWireRec _ [.int .i64 7, v539] (⟨7, (([] : List UInt8) ++ l522)⟩ : GWireRec)) trivial) rfl (by simp [maxLen])) hr544) rfl ?_
    clear H; intro x551 w549 hv; clear a; intro a H; obtain ⟨u545, u546, rfl, hE550⟩ := hv
    replace hS := hS.new hE550; simp only [List.cons_append, List.nil_append] at hS
    refine n_q H (q_move rfl) rfl (W_q (q_extract rfl rfl) rfl (W_q (q_extract rfl rfl) rfl (W_q (q_assign rfl) rfl (W_q (q_assign rfl) rfl ?_)))); clear H a; intro a H
    refine n_nil (then_normal (wp_seq (wp_seq (wp_region_lit (n_c H (fun HC => ?_)))))); clear H
    refine nc_q HC (q_move rfl) rfl (by kernel_rfl) (V_q (q_cast (q_nnilI Tryd.underlying33 rfl rfl (hS.any 1 rfl : IsE A w549 u546 r544.2).form) (show _ = Value.bool (!decide (r544.2 = .nil)) by rw [IsErr.isNil (hS.any 1 rfl : IsE A w549 u546 r544.2)])) rfl (by kernel_rfl) (V_q (q_move rfl) rfl (by kernel_rfl) (V_g (q_move rfl) (by kernel_rfl) (by kernel_rfl) (by kernel_rfl) ?_))); clear HC a; intro a HC
    obtain ⟨A552, c552, hv552, hl552, hm552⟩ := SlR.formV ((hS.own 0 rfl).slr rfl (fun _ _ => rfl))
    refine nc_g HC (q_lenV Tryd.underlying23 rfl hv552) (by kernel_rfl) (by kernel_rfl) (by kernel_rfl) (V_g (q_move rfl) (by kernel_rfl) (by kernel_rfl) (by kernel_rfl) ?_); clear HC a; intro a HC
    obtain ⟨A553, c553, hv553, hl553, hm553⟩ := SlR.formV ((hS.pureAt 4 rfl).ext (Flat.mono _) hS.x)
    refine nc_g HC (q_lenV Tryd.underlying23 rfl hv553) (by kernel_rfl) (by kernel_rfl) (by kernel_rfl) (V_g (q_addW rfl rfl) (by kernel_rfl) (by kernel_rfl) (by kernel_rfl) (V_g (q_neqD rfl rfl) (by kernel_rfl) (by kernel_rfl) (by kernel_rfl) (V_or (j := 2) rfl rfl rfl (by kernel_rfl) (by kernel_rfl) ?_))); clear HC a; intro a HC
    have H := HC.has; clear HC
    refine n_nil (then_normal (c_cond H rfl (fun hc554 => ?_) (fun hc554 => ?_)))
    · replace hm := condT hm hc554
      refine wp_seq (wp_region_lit (n_q H (q_assign rfl) rfl ?_)); clear H a; intro a H
      refine n_nil (then_normal (wp_ret (then_ret ?_)))
      obtain rfl := Option.some.inj hm
      replace hS := hS.tk0
      refine ret1 H (.inr rfl) rfl rfl ?_
      exact ⟨rfl, hS.x⟩
    · replace hm := condF hm hc554
      refine wp_skip (then_normal (wp_seq (wp_region_lit (n_buildSlice H Tryd.underlying23 sz5 ze5 rfl rfl rfl (cs := []) rfl rfl ?_))))
      clear H; intro b557 w555 hN hE556 hs; clear a; intro a H
      replace hS := hS.newBlk hN hE556 hs; clear hN hs
      replace hS := hS.blkOwnL (e := eB) (k := 1) ([] : List UInt8) rfl rfl (by simp [maxLen])
      refine n_q H (q_move rfl) rfl ?_; clear H a; intro a H
      replace hm := chkS hm; obtain ⟨hk559, hm⟩ := hm
      refine n_app (e := eB) H rfl rfl Tryd.underlying23 Tryd.underlying23 (by simp) el5 (hS.own 0 rfl) (((hS.own 1 rfl).slr rfl (fun _ _ => rfl)).src (fun _ _ => rfl)) eB_one hk559 (by simp only [maxLen]; omega) rfl ?_
      clear H; intro v562 w560 hN hC561 hb; clear a; intro a H; replace hS := hS.setOwn hN hC561 hb; clear hN hb
      replace hm := bindS hm; obtain ⟨r564, hr564, hm⟩ := hm
      refine n_call H rfl en13 (g_wire_Split_w (A := A) (hG.ext hS.x) ((hS.own 0 rfl).slr rfl (fun _ _ => rfl)) hr564) rfl ?_
      clear H; intro x571 w569 hv; clear a; intro a H; obtain ⟨u565, u566, rfl, hE570⟩ := hv
      replace hS := hS.new hE570; simp only [List.cons_append, List.nil_append] at hS
      refine n_q H (q_move rfl) rfl (W_q (q_extract rfl rfl) rfl (W_q (q_extract rfl rfl) rfl (W_q (q_assign rfl) rfl (W_q (q_assign rfl) rfl ?_)))); clear H a; intro a H
      refine n_nil (then_normal (wp_seq ?_))
      replace hm := bindS hm; obtain ⟨j572, hm, hm572⟩ := hm
      refine c_join (σ := Bool) H (fun q1073 => [(1, .int .i64 a1), (5, u545), (63, .bool q1073)]) (fun q1073 wl => (g_top_recordCut_J3 a1 r544) q1073 = some r ∧ St NB w wl [ownR 5 1 u545 r544.1.length (r544.1.flatMap eB)]) ?_ ?_
      · skip
        refine c_quiet (by kernel_rfl) (by kernel_rfl) ?_
        refine qq_q H (q_move rfl) rfl ?_; clear H a; intro a H
        refine qq_q H (q_cast (q_nnilI Tryd.underlying33 rfl rfl (hS.any 1 rfl : IsE A w569 u566 r564.2).form) (show _ = Value.bool (!decide (r564.2 = .nil)) by rw [IsErr.isNil (hS.any 1 rfl : IsE A w569 u566 r564.2)])) rfl ?_; clear H a; intro a H
        refine qq_q H (q_move rfl) rfl ?_; clear H a; intro a H
        rcases Bool.eq_false_or_eq_true (!decide (r564.2 = .nil)) with hg1074 | hg1074
        · replace H := H.know 42 rfl hg1074
          replace hm := condT hm hg1074
          refine qq_no H rfl rfl (by decide) rfl ?_; clear H a; intro a H
          refine qq_no H rfl rfl (by decide) rfl ?_; clear H a; intro a H
          refine qq_no H rfl rfl (by decide) rfl ?_; clear H a; intro a H
          refine qq_q H (q_pickT rfl rfl) rfl ?_; clear H a; intro a H
          refine qq_q H (q_move rfl) rfl ?_; clear H a; intro a H
          refine qq_no H rfl rfl (by decide) rfl ?_; clear H a; intro a H
          refine qq_no H rfl rfl (by decide) rfl ?_; clear H a; intro a H
          refine qq_no H rfl rfl (by decide) rfl ?_; clear H a; intro a H
          refine qq_no H rfl rfl (by decide) rfl ?_; clear H a; intro a H
          refine qq_no H rfl rfl (by decide) rfl ?_; clear H a; intro a H
          refine qq_q H (q_pickT rfl rfl) rfl ?_; clear H a; intro a H
          refine qq_q H (q_move rfl) rfl ?_; clear H a; intro a H
          refine qq_no H rfl rfl (by decide) rfl ?_; clear H a; intro a H
          refine qq_no H rfl rfl (by decide) rfl ?_; clear H a; intro a H
          refine qq_no H rfl rfl (by decide) rfl ?_; clear H a; intro a H
          refine qq_no H rfl rfl (by decide) rfl ?_; clear H a; intro a H
          refine qq_no H rfl rfl (by decide) rfl ?_; clear H a; intro a H
          refine qq_no H rfl rfl (by decide) rfl ?_; clear H a; intro a H
          refine qq_no H rfl rfl (by decide) rfl ?_; clear H a; intro a H
          refine qq_no H rfl rfl (by decide) rfl ?_; clear H a; intro a H
          refine qq_q H (q_pickT rfl rfl) rfl ?_; clear H a; intro a H
          refine qq_nil ?_; intro w1075 hE1076
          replace hS := hS.ext hE1076
          refine then_normal ?_
          obtain rfl := Option.some.inj hm; replace hm := hm572; try dsimp only at hm
          replace hS := hS.pk3
          replace hS := hS.tk1
          exact join true H ⟨rfl, rfl, rfl, trivial⟩ ⟨hm, hS⟩
        · replace H := H.know 42 rfl hg1074
          replace hm := condF hm hg1074
          refine qq_yes H rfl rfl ?_
          refine qq_q H (q_move rfl) rfl ?_; clear H a; intro a H
          refine qq_yes H rfl rfl ?_
          obtain ⟨A1077, c1077, hv1077, hl1077, hm1077⟩ := SlR.formV (hS.deepSl 0 rfl)
          refine qq_q H (q_lenV Tryd.underlying36 rfl hv1077) rfl ?_; clear H a; intro a H
          refine qq_yes H rfl rfl ?_
          refine qq_q H (q_neqN (i := r564.1.length) (j := 1) rfl rfl) rfl ?_; clear H a; intro a H
          refine qq_q H (q_pickF rfl rfl) rfl ?_; clear H a; intro a H
          refine qq_q H (q_move rfl) rfl ?_; clear H a; intro a H
          rcases Bool.eq_false_or_eq_true (!decide (r564.1.length = 1)) with hg1078 | hg1078
          · replace H := H.know 47 rfl hg1078
            replace hm := condT hm hg1078
            refine qq_no H rfl rfl (by decide) rfl ?_; clear H a; intro a H
            refine qq_no H rfl rfl (by decide) rfl ?_; clear H a; intro a H
            refine qq_no H rfl rfl (by decide) rfl ?_; clear H a; intro a H
            refine qq_no H rfl rfl (by decide) rfl ?_; clear H a; intro a H
            refine qq_no H rfl rfl (by decide) rfl ?_; clear H a; intro a H
            refine qq_q H (q_pickT rfl rfl) rfl ?_; clear H a; intro a H
            refine qq_q H (q_move rfl) rfl ?_; clear H a; intro a H
            refine qq_no H rfl rfl (by decide) rfl ?_; clear H a; intro a H
            refine qq_no H rfl rfl (by decide) rfl ?_; clear H a; intro a H
            refine qq_no H rfl rfl (by decide) rfl ?_; clear H a; intro a H
            refine qq_no H rfl rfl (by decide) rfl ?_; clear H a; intro a H
            refine qq_no H rfl rfl (by decide) rfl ?_; clear H a; intro a H
            refine qq_no H rfl rfl (by decide) rfl ?_; clear H a; intro a H
            refine qq_no H rfl rfl (by decide) rfl ?_; clear H a; intro a H
            refine qq_no H rfl rfl (by decide) rfl ?_; clear H a; intro a H
            refine qq_q H (q_pickT rfl rfl) rfl ?_; clear H a; intro a H
            refine qq_nil ?_; intro w1079 hE1080
            replace hS := hS.ext hE1080
            refine then_normal ?_
            obtain rfl := Option.some.inj hm; replace hm := hm572; try dsimp only at hm
            replace hS := hS.pk3
            replace hS := hS.tk1
            exact join true H ⟨rfl, rfl, rfl, trivial⟩ ⟨hm, hS⟩
          · replace H := H.know 47 rfl hg1078
            replace hm := condF hm hg1078
            refine qq_yes H rfl rfl ?_
            refine qq_q H (q_move rfl) rfl ?_; clear H a; intro a H
            refine qq_yes H rfl rfl ?_
            replace hm := bindS hm; obtain ⟨x1081, hx1081, hm⟩ := hm
            obtain ⟨adx1081, hAx1081⟩ := SlR.adV (hS.deepSl 0 rfl) hv1077 hx1081
            obtain ⟨csx1081, hclx1081, ⟨vx1081_0, rfl, hrx1081_0⟩, hcx1081⟩ := SlR.elV (hS.deepSl 0 rfl) hv1077 hAx1081 hx1081
            refine qq_q H (q_ixV (i := 0) Tryd.underlying36 sz54 rfl hv1077 hAx1081 rfl (natI hx1081)) rfl ?_; clear H a; intro a H
            refine qq_yes H rfl rfl ?_
            refine qq_q H (q_fieldAddr rfl fo54_0) rfl ?_; clear H a; intro a H
            refine qq_yes H rfl rfl ?_
            refine qq_q H (q_load rfl (LdX.ext (ldElC (j := 0) ag3 hcx1081 rfl) Ext.rfl')) rfl ?_; clear H a; intro a H
            refine qq_yes H rfl rfl ?_
            refine qq_q H (q_neqD rfl rfl) rfl ?_; clear H a; intro a H
            refine qq_q H (q_pickF rfl rfl) rfl ?_; clear H a; intro a H
            refine qq_q H (q_move rfl) rfl ?_; clear H a; intro a H
            rcases Bool.eq_false_or_eq_true (!decide (x1081.Tag = 7)) with hg1082 | hg1082
            · replace H := H.know 54 rfl hg1082
              replace hm := condT hm hg1082
              refine qq_no H rfl rfl (by decide) rfl ?_; clear H a; intro a H
              refine qq_no H rfl rfl (by decide) rfl ?_; clear H a; intro a H
              refine qq_no H rfl rfl (by decide) rfl ?_; clear H a; intro a H
              refine qq_no H rfl rfl (by decide) rfl ?_; clear H a; intro a H
              refine qq_no H rfl rfl (by decide) rfl ?_; clear H a; intro a H
              refine qq_no H rfl rfl (by decide) rfl ?_; clear H a; intro a H
              refine qq_no H rfl rfl (by decide) rfl ?_; clear H a; intro a H
              refine qq_no H rfl rfl (by decide) rfl ?_; clear H a; intro a H
              refine qq_q H (q_pickT rfl rfl) rfl ?_; clear H a; intro a H
              refine qq_nil ?_; intro w1083 hE1084
              replace hS := hS.ext hE1084
              refine then_normal ?_
              obtain rfl := Option.some.inj hm; replace hm := hm572; try dsimp only at hm
              replace hS := hS.pk3
              replace hS := hS.tk1
              exact join true H ⟨rfl, rfl, rfl, trivial⟩ ⟨hm, hS⟩
            · replace H := H.know 54 rfl hg1082
              replace hm := condF hm hg1082
              refine qq_yes H rfl rfl ?_
              refine qq_q H (q_move rfl) rfl ?_; clear H a; intro a H
              refine qq_yes H rfl rfl ?_
              replace hm := bindS hm; obtain ⟨x1085, hx1085, hm⟩ := hm
              obtain ⟨adx1085, hAx1085⟩ := SlR.adV (hS.deepSl 0 rfl) hv1077 hx1085
              obtain ⟨csx1085, hclx1085, ⟨vx1085_0, rfl, hrx1085_0⟩, hcx1085⟩ := SlR.elV (hS.deepSl 0 rfl) hv1077 hAx1085 hx1085
              refine qq_q H (q_ixV (i := 0) Tryd.underlying36 sz54 rfl hv1077 hAx1085 rfl (natI hx1085)) rfl ?_; clear H a; intro a H
              refine qq_yes H rfl rfl ?_
              refine qq_q H (q_fieldAddr rfl fo54_1) rfl ?_; clear H a; intro a H
              refine qq_yes H rfl rfl ?_
              refine qq_q H (q_load rfl (LdX.ext (ldElC (j := 1) ag23 hcx1085 rfl) Ext.rfl')) rfl ?_; clear H a; intro a H
              refine qq_yes H rfl rfl ?_
              refine qq_q H (q_str Tryd.underlying23 Tryd.underlying5 Tryd.underlying9 rfl (fun w' hw => ((hrx1085_0.ext (Flat.mono _) Ext.rfl').ext (Flat.mono _) hw))) rfl ?_; clear H a; intro a H
              refine qq_yes H rfl rfl ?_
              refine qq_q H (q_move rfl) rfl ?_; clear H a; intro a H
              refine qq_yes H rfl rfl ?_
              refine qq_q H (q_str Tryd.underlying23 Tryd.underlying5 Tryd.underlying9 rfl (fun w' hw => (((hS.pureAt 7 rfl).ext (Flat.mono _) hS.x).ext (Flat.mono _) hw))) rfl ?_; clear H a; intro a H
              refine qq_yes H rfl rfl ?_
              refine qq_q H (q_neqS rfl rfl) rfl ?_; clear H a; intro a H
              refine qq_q H (q_pickF rfl rfl) rfl ?_; clear H a; intro a H
              refine qq_nil ?_; intro w1086 hE1087
              replace hS := hS.ext hE1087
              refine then_normal ?_
              obtain rfl := Option.some.inj hm; replace hm := hm572; try dsimp only at hm
              replace hS := hS.pk3
              replace hS := hS.tk1
              exact join (!decide ((strB x1085.Body) = (strB l522))) H ⟨rfl, rfl, rfl, trivial⟩ ⟨hm, hS⟩
      · clear H hS hm a; intro q1073 a w1088 H hR
        simp only [ent, List.map_cons, List.map_nil] at H; (try dsimp only at hR); obtain ⟨hm, hS⟩ := hR; try dsimp only [g_top_recordCut_J3] at hm
        refine c_cond H rfl (fun hc1089 => ?_) (fun hc1089 => ?_)
        · replace hm := condT hm hc1089
          refine wp_seq (wp_region_lit (n_q H (q_assign rfl) rfl ?_)); clear H a; intro a H
          refine n_nil (then_normal (wp_ret (then_ret ?_)))
          obtain rfl := Option.some.inj hm
          replace hS := hS.tk0
          refine ret1 H (.inr rfl) rfl rfl ?_
          exact ⟨rfl, hS.x⟩
        · replace hm := condF hm hc1089
          refine wp_skip (then_normal (wp_seq (wp_region_lit (n_q H (q_move rfl) rfl (W_q (q_move rfl) rfl (W_q (q_lenV Tryd.underlying23 rfl hv552) rfl ?_)))))); clear H a; intro a H
          replace hm := chkS hm; obtain ⟨hk1090, hm⟩ := hm
          refine n_q H (q_remW rfl rfl hk1090) rfl (W_q (q_assign rfl) rfl ?_); clear H a; intro a H
          refine n_nil (then_normal ?_)
          replace hm := bindS hm; obtain ⟨j1091, hm, hm1091⟩ := hm
          refine c_join (σ := Int) H (fun z1592 => [(5, u545), (8, .int .i64 z1592)]) (fun z1592 wl => (g_top_recordCut_J2 r544) z1592 = some r ∧ St NB w wl [ownR 5 1 u545 r544.1.length (r544.1.flatMap eB)]) ?_ ?_
          · skip
            refine wp_seq (wp_region_lit (n_q H (q_move rfl) rfl (W_q (q_lss rfl rfl) rfl ?_))); clear H a; intro a H
            refine n_nil (then_normal (c_cond H rfl (fun hc1593 => ?_) (fun hc1593 => ?_)))
            · replace hm := condT hm hc1593
              refine wp_region_lit (n_q H (q_assign rfl) rfl ?_); clear H a; intro a H
              refine n_nil (then_normal ?_)
              obtain rfl := Option.some.inj hm; replace hm := hm1091; try dsimp only at hm
              exact join 1 H ⟨rfl, rfl, trivial⟩ ⟨hm, hS⟩
            · replace hm := condF hm hc1593
              refine wp_skip (then_normal ?_)
              obtain rfl := Option.some.inj hm; replace hm := hm1091; try dsimp only at hm
              exact join (Int.tmod a1 ((r544.1.length : Nat) : Int)) H ⟨rfl, rfl, trivial⟩ ⟨hm, hS⟩
          · clear H hS hm a; intro z1592 a w1594 H hR
            simp only [ent, List.map_cons, List.map_nil] at H; (try dsimp only at hR); obtain ⟨hm, hS⟩ := hR; try dsimp only [g_top_recordCut_J2] at hm
            refine wp_seq (wp_seq (wp_region_lit (n_q H (q_move rfl) rfl (W_q (q_move rfl) rfl (W_q (q_lenV Tryd.underlying23 rfl hv552) rfl (W_q (q_geq rfl rfl) rfl ?_)))))); clear H a; intro a H
            refine n_nil (then_normal (c_cond H rfl (fun hc1595 => ?_) (fun hc1595 => ?_)))
            · replace hm := condT hm hc1595
              refine wp_seq (wp_region_lit (n_q H (q_assign rfl) rfl ?_)); clear H a; intro a H
              refine n_nil (then_normal (wp_ret (then_ret ?_)))
              obtain rfl := Option.some.inj hm
              replace hS := hS.tk0
              refine ret1 H (.inr rfl) rfl rfl ?_
              exact ⟨rfl, hS.x⟩
            · replace hm := condF hm hc1595
              refine wp_skip (then_normal (wp_seq (wp_region_lit (n_buildSlice H Tryd.underlying23 sz5 ze5 rfl rfl rfl (cs := []) rfl rfl ?_))))
              clear H; intro b1598 w1596 hN hE1597 hs; clear a; intro a H
              replace hS := hS.newBlk hN hE1597 hs; clear hN hs
              replace hS := hS.blkOwnL (e := eB) (k := 1) ([] : List UInt8) rfl rfl (by simp [maxLen])
              refine n_q H (q_move rfl) rfl (W_q (q_move rfl) rfl ?_); clear H a; intro a H
              replace hm := chkS hm; obtain ⟨hk1600, hm⟩ := hm
              refine n_q H (q_sliceTo Tryd.underlying23 sz5 (show _ = some (Value.slice A552 r544.1.length c552) by rw [← hv552]; rfl) rfl hk1600.1 (by omega)) rfl ?_; clear H a; intro a H
              replace hm := chkS hm; obtain ⟨hk1602, hm⟩ := hm
              refine n_app (e := eB) H rfl rfl Tryd.underlying23 Tryd.underlying23 (by simp) el5 (hS.own 0 rfl) ((SlR.takeV ((hS.own 1 rfl).slr rfl (fun _ _ => rfl)) hv552 hk1600.1 hk1600.2).src (fun _ _ => rfl)) eB_one hk1602 (by simp only [maxLen]; omega) rfl ?_
              clear H; intro v1605 w1603 hN hC1604 hb; clear a; intro a H; replace hS := hS.setOwn hN hC1604 hb; clear hN hb
              replace hm := bindS hm; obtain ⟨r1607, hr1607, hm⟩ := hm
              refine n_call H rfl en13 (g_wire_Split_w (A := A) (hG.ext hS.x) ((hS.own 0 rfl).slr rfl (fun _ _ => rfl)) hr1607) rfl ?_
              clear H; intro x1614 w1612 hv; clear a; intro a H; obtain ⟨u1608, u1609, rfl, hE1613⟩ := hv
              replace hS := hS.new hE1613; simp only [List.cons_append, List.nil_append] at hS
              refine n_q H (q_move rfl) rfl (W_q (q_extract rfl rfl) rfl (W_q (q_extract rfl rfl) rfl (W_q (q_assign rfl) rfl ?_))); clear H a; intro a H
              refine n_nil (then_normal (wp_seq (wp_region_lit (n_q H (q_move rfl) rfl (W_q (q_cast (q_nnilI Tryd.underlying33 rfl rfl (hS.any 1 rfl : IsE A w1612 u1609 r1607.2).form) (show _ = Value.bool (!decide (r1607.2 = .nil)) by rw [IsErr.isNil (hS.any 1 rfl : IsE A w1612 u1609 r1607.2)])) rfl (W_q (q_assign rfl) rfl ?_)))))); clear H a; intro a H
              refine n_nil (then_normal (wp_ret ?_))
              obtain rfl := Option.some.inj hm
              replace hS := hS.tk0
              refine ret1 H (.inr rfl) rfl rfl ?_
              exact ⟨rfl, hS.x⟩
theorem g_top_FerryBurstsTold_w {w : World} {A : Nat → Addr} {cs0 : List Value} {a0 : GTopHurt} (hG : EV A w) (hT : TV w) (h0 : RGTopHurt w cs0 a0) {r : Bool} (hm : g_top_FerryBurstsTold a0 = some r) :
    Calls Tryd.prog 5 [.agg cs0.toArray].toArray w (Ret fun u w' => u = .bool r ∧ Ext w w') := by
  obtain ⟨vp0_0, rfl, hrp0_0⟩ := h0
  have hS := St.begin NB w
  unfold g_top_FerryBurstsTold at hm
  refine enter Tryd.func5 rfl rfl rfl ?_; intro a H; dsimp only [enumL, Nat.zero_add, Nat.reduceAdd] at H
  refine wp_seq (wp_region_lit (n_box H rfl (cs := [vp0_0, .int .i64 a0.At, .int .u32 a0.Mask, .int .i64 a0.Cut]) rfl rfl ?_))
  clear H; intro b21 w22 hN hE23 hs; clear a; intro a H
  replace hS := hS.newBlk hN hE23 hs; clear hN hs
  refine n_q H (q_assign rfl) rfl ?_; clear H a; intro a H
  refine n_nil (then_normal (wp_seq (c_quiet (by kernel_rfl) (by kernel_rfl) ?_)))
  refine qq_q H (q_fieldAddr0 rfl fo58_0) rfl ?_; clear H a; intro a H
  refine qq_q H (q_load rfl ((hS.blk 0 rfl).ld ag23 rfl)) rfl ?_; clear H a; intro a H
  refine qq_q H (q_fieldAddr0 rfl fo58_1) rfl ?_; clear H a; intro a H
  refine qq_q H (q_load rfl ((hS.blk 0 rfl).ld ag3 rfl)) rfl ?_; clear H a; intro a H
  refine qq_q H (q_fieldAddr0 rfl fo58_2) rfl ?_; clear H a; intro a H
  refine qq_q H (q_load rfl ((hS.blk 0 rfl).ld ag56 rfl)) rfl ?_; clear H a; intro a H
  refine qq_q H (q_fieldAddr0 rfl fo58_3) rfl ?_; clear H a; intro a H
  refine qq_q H (q_load rfl ((hS.blk 0 rfl).ld ag3 rfl)) rfl ?_; clear H a; intro a H
  refine qq_q H (q_assign rfl) rfl ?_; clear H a; intro a H
  refine qq_q H (q_assign rfl) rfl ?_; clear H a; intro a H
  refine qq_q H (q_assign rfl) rfl ?_; clear H a; intro a H
  refine qq_q H (q_assign rfl) rfl ?_; clear H a; intro a H
  refine qq_nil ?_; intro w24 hE25
  replace hS := hS.ext hE25
  refine then_normal (wp_seq (wp_seq (wp_region_lit (n_bytesConst H Tryd.underlying23 Tryd.underlying5 sz5 ze5 rfl rfl rfl (cs := [.int .u8 49, .int .u8 50, .int .u8 51, .int .u8 52, .int .u8 53, .int .u8 54, .int .u8 55, .int .u8 56, .int .u8 57]) (by kernel_rfl) rfl rfl ?_))))
  clear H; intro b28 w26 hN hE27 hs; clear a; intro a H
  replace hS := hS.newBlk hN hE27 hs; clear hN hs
  replace hS := hS.blkOwnL (e := eB) (k := 1) [(byteOf 49), (byteOf 50), (byteOf 51), (byteOf 52), (byteOf 53), (byteOf 54), (byteOf 55), (byteOf 56), (byteOf 57)] (by kernel_rfl) rfl (by simp [maxLen])
  replace hm := bindS hm; obtain ⟨r30, hr30, hm⟩ := hm
  refine n_call H rfl en22 (g_crc_Sum_w (A := A) ((hS.own 0 rfl).slr rfl (fun _ _ => rfl)) hr30) rfl ?_
  clear H; intro x33 w31 hv; clear a; intro a H; obtain ⟨rfl, hE32⟩ := hv
  replace hS := hS.ext hE32
  refine n_q H (q_neqD rfl rfl) rfl ?_; clear H a; intro a H
  refine n_nil (then_normal (c_cond H rfl (fun hc34 => ?_) (fun hc34 => ?_)))
  · replace hm := condT hm hc34
    refine wp_seq (wp_region_lit (n_q H (q_assign rfl) rfl ?_)); clear H a; intro a H
    refine n_nil (then_normal (wp_ret (then_ret ?_)))
    obtain rfl := Option.some.inj hm
    replace hS := hS.tk0
    refine ret1 H (.inr rfl) rfl rfl ?_
    exact ⟨rfl, hS.x⟩
  · replace hm := condF hm hc34
    refine wp_skip (then_normal (wp_seq (wp_region_lit (n_buildSlice H Tryd.underlying23 sz5 ze5 rfl rfl rfl (cs := []) rfl rfl ?_))))
    clear H; intro b37 w35 hN hE36 hs; clear a; intro a H
    replace hS := hS.newBlk hN hE36 hs; clear hN hs
    replace hS := hS.blkOwnL (e := eB) (k := 1) ([] : List UInt8) rfl rfl (by simp [maxLen])
    refine n_q H (q_move rfl) rfl ?_; clear H a; intro a H
    replace hm := chkS hm; obtain ⟨hk39, hm⟩ := hm
    refine n_app (e := eB) H rfl rfl Tryd.underlying23 Tryd.underlying23 (by simp) el5 (hS.own 0 rfl) ((hrp0_0.ext (Flat.mono _) hS.x).src (fun _ _ => rfl)) eB_one hk39 (by simp only [maxLen]; omega) rfl ?_
    clear H; intro v42 w40 hN hC41 hb; clear a; intro a H; replace hS := hS.setOwn hN hC41 hb; clear hN hb
    replace hm := bindS hm; obtain ⟨r44, hr44, hm⟩ := hm
    refine n_call H rfl en23 (g_crc_Seal_w (A := A) ((hS.own 0 rfl).slr rfl (fun _ _ => rfl)) hr44) rfl ?_
    clear H; intro u45 w47 hv; clear a; intro a H; obtain ⟨_, rfl, hE48⟩ := hv
    replace hS := hS.new hE48; simp only [List.cons_append, List.nil_append] at hS
    refine n_q H (q_assign rfl) rfl ?_; clear H a; intro a H
    refine n_nil (then_normal (wp_seq (wp_region_lit (n_buildSlice H Tryd.underlying23 sz5 ze5 rfl rfl rfl (cs := []) rfl rfl ?_))))
    clear H; intro b52 w50 hN hE51 hs; clear a; intro a H
    replace hS := hS.newBlk hN hE51 hs; clear hN hs
    replace hS := hS.blkOwnL (e := eB) (k := 1) ([] : List UInt8) rfl rfl (by simp [maxLen])
    refine n_q H (q_move rfl) rfl ?_; clear H a; intro a H
    replace hm := chkS hm; obtain ⟨hk54, hm⟩ := hm
    refine n_app (e := eB) H rfl rfl Tryd.underlying23 Tryd.underlying23 (by simp) el5 (hS.own 0 rfl) (((hS.own 1 rfl).slr rfl (fun _ _ => rfl)).src (fun _ _ => rfl)) eB_one hk54 (by simp only [maxLen]; omega) rfl ?_
    clear H; intro v57 w55 hN hC56 hb; clear a; intro a H; replace hS := hS.setOwn hN hC56 hb; clear hN hb
    replace hm := bindS hm; obtain ⟨r59, hr59, hm⟩ := hm
    refine n_call H rfl en24 (g_crc_Open_w (A := A) (hG.ext hS.x) ((hS.own 0 rfl).slr rfl (fun _ _ => rfl)) hr59) rfl ?_
    clear H; intro x66 w64 hv; clear a; intro a H; obtain ⟨u60, u61, rfl, hE65⟩ := hv
    replace hS := hS.new hE65; simp only [List.cons_append, List.nil_append] at hS
    refine n_q H (q_move rfl) rfl (W_q (q_extract rfl rfl) rfl (W_q (q_extract rfl rfl) rfl (W_q (q_assign rfl) rfl (W_q (q_assign rfl) rfl ?_)))); clear H a; intro a H
    refine n_nil (then_normal (wp_seq ?_))
    replace hm := bindS hm; obtain ⟨j67, hm, hm67⟩ := hm
    refine c_join (σ := Bool) H (fun q568 => [(3, vp0_0), (4, .int .i64 a0.At), (5, .int .u32 a0.Mask), (6, .int .i64 a0.Cut), (7, u45), (55, .bool q568)]) (fun q568 wl => (g_top_FerryBurstsTold_J12 a0 r44) q568 = some r ∧ St NB w wl [ownR 5 1 u45 r44.length (r44.flatMap eB)]) ?_ ?_
    · skip
      refine wp_region_lit (n_q H (q_move rfl) rfl (W_q (q_cast (q_nnilI Tryd.underlying33 rfl rfl (hS.any 1 rfl : IsE A w64 u61 r59.2).form) (show _ = Value.bool (!decide (r59.2 = .nil)) by rw [IsErr.isNil (hS.any 1 rfl : IsE A w64 u61 r59.2)])) rfl (W_q (q_move rfl) rfl ?_))); clear H a; intro a H
      rcases Bool.eq_false_or_eq_true (!decide (r59.2 = .nil)) with hg569 | hg569
      · replace H := H.know 41 rfl hg569
        replace hm := condT hm hg569
        refine n_no H rfl rfl (by decide) rfl (W_no rfl rfl (by decide) rfl (W_no rfl rfl (by decide) rfl (W_no rfl rfl (by decide) rfl (W_no rfl rfl (by decide) rfl (W_no rfl rfl (by decide) rfl (W_q (q_pickT rfl rfl) rfl (W_q (q_move rfl) rfl (W_no rfl rfl (by decide) rfl (W_no rfl rfl (by decide) rfl (W_no rfl rfl (by decide) rfl (W_no rfl rfl (by decide) rfl ?_))))))))))); clear H a; intro a H
        refine n_no H rfl rfl (by decide) rfl (W_q (q_pickT rfl rfl) rfl ?_); clear H a; intro a H
        refine n_nil (then_normal ?_)
        obtain rfl := Option.some.inj hm; replace hm := hm67; try dsimp only at hm
        replace hS := hS.pk3
        replace hS := hS.tk1
        exact join true H ⟨rfl, rfl, rfl, rfl, rfl, rfl, trivial⟩ ⟨hm, hS⟩
      · replace H := H.know 41 rfl hg569
        replace hm := condF hm hg569
        refine n_yes H rfl rfl (n_q H (q_move rfl) rfl (W_yes rfl rfl ?_)); clear H a; intro a H
        obtain ⟨A570, c570, hv570, hl570, hm570⟩ := SlR.formV ((hS.own 3 rfl).slr rfl (fun _ _ => rfl))
        refine n_q H (q_lenV Tryd.underlying23 rfl hv570) rfl (W_yes rfl rfl (W_q (q_move rfl) rfl (W_yes rfl rfl ?_))); clear H a; intro a H
        obtain ⟨A571, c571, hv571, hl571, hm571⟩ := SlR.formV (hrp0_0.ext (Flat.mono _) hS.x)
        refine n_q H (q_lenV Tryd.underlying23 rfl hv571) rfl (W_yes rfl rfl (W_q (q_addW rfl rfl) rfl (W_yes rfl rfl (W_q (q_neqD rfl rfl) rfl (W_q (q_pickF rfl rfl) rfl (W_q (q_move rfl) rfl ?_)))))); clear H a; intro a H
        rcases Bool.eq_false_or_eq_true (!decide (((r44.length : Nat) : Int) = (IntKind.i64.wrap (((a0.B.length : Nat) : Int) + 4)))) with hg572 | hg572
        · replace H := H.know 49 rfl hg572
          replace hm := condT hm hg572
          refine n_no H rfl rfl (by decide) rfl (W_no rfl rfl (by decide) rfl (W_no rfl rfl (by decide) rfl (W_no rfl rfl (by decide) rfl (W_no rfl rfl (by decide) rfl (W_q (q_pickT rfl rfl) rfl ?_))))); clear H a; intro a H
          refine n_nil (then_normal ?_)
          obtain rfl := Option.some.inj hm; replace hm := hm67; try dsimp only at hm
          replace hS := hS.pk3
          replace hS := hS.tk1
          exact join true H ⟨rfl, rfl, rfl, rfl, rfl, rfl, trivial⟩ ⟨hm, hS⟩
        · replace H := H.know 49 rfl hg572
          replace hm := condF hm hg572
          refine n_yes H rfl rfl (n_q H (q_move rfl) rfl (W_yes rfl rfl (W_q (q_str Tryd.underlying23 Tryd.underlying5 Tryd.underlying9 rfl (fun w' hw => (((hS.own 0 rfl).slr rfl (fun _ _ => rfl)).ext (Flat.mono _) hw))) rfl (W_yes rfl rfl (W_q (q_move rfl) rfl (W_yes rfl rfl (W_q (q_str Tryd.underlying23 Tryd.underlying5 Tryd.underlying9 rfl (fun w' hw => ((hrp0_0.ext (Flat.mono _) hS.x).ext (Flat.mono _) hw))) rfl (W_yes rfl rfl (W_q (q_neqS rfl rfl) rfl (W_q (q_pickF rfl rfl) rfl ?_)))))))))); clear H a; intro a H
          refine n_nil (then_normal ?_)
          obtain rfl := Option.some.inj hm; replace hm := hm67; try dsimp only at hm
          replace hS := hS.pk3
          replace hS := hS.tk1
          exact join (!decide ((strB r59.1) = (strB a0.B))) H ⟨rfl, rfl, rfl, rfl, rfl, rfl, trivial⟩ ⟨hm, hS⟩
    · clear H hS hm a; intro q568 a w573 H hR
      simp only [ent, List.map_cons, List.map_nil] at H; (try dsimp only at hR); obtain ⟨hm, hS⟩ := hR; try dsimp only [g_top_FerryBurstsTold_J12] at hm
      refine c_cond H rfl (fun hc574 => ?_) (fun hc574 => ?_)
      · replace hm := condT hm hc574
        refine wp_seq (wp_region_lit (n_q H (q_assign rfl) rfl ?_)); clear H a; intro a H
        refine n_nil (then_normal (wp_ret (then_ret ?_)))
        obtain rfl := Option.some.inj hm
        replace hS := hS.tk0
        refine ret1 H (.inr rfl) rfl rfl ?_
        exact ⟨rfl, hS.x⟩
      · replace hm := condF hm hc574
        refine wp_skip (then_normal (wp_seq (wp_region_lit (n_q H (q_assign rfl) rfl ?_)))); clear H a; intro a H
        refine n_nil (then_normal (wp_seq (wp_block ?_)))
        replace hm := bindS hm; obtain ⟨q575, hm, hm575⟩ := hm; replace hm := iter_some hm; obtain ⟨n575, hm⟩ := hm
        refine c_loop (σ := Nat × Int) (fun (m, z577) => [(3, vp0_0), (4, .int .i64 a0.At), (5, .int .u32 a0.Mask), (6, .int .i64 a0.Cut), (7, u45), (10, .int .i64 z577)]) (fun (m, z577) wl => iterN (g_top_FerryBurstsTold_L11 a0) m z577 = some q575 ∧ St NB w wl [ownR 5 1 u45 r44.length (r44.flatMap eB)]) (fun (m, z577) => m) (n575, 31) H ⟨rfl, rfl, rfl, rfl, rfl, rfl, trivial⟩ ⟨hm, hS⟩ ?_
        clear H hS hm a; intro xx a w578 H hR; obtain ⟨m, z577⟩ := xx; simp only [ent, List.map_cons, List.map_nil] at H; (try dsimp only at hR); obtain ⟨hm, hS⟩ := hR
        replace hm := iterN_step hm; obtain ⟨m575, o575, rfl, hm, hn575⟩ := hm; try dsimp only [g_top_FerryBurstsTold_L11] at hm
        refine wp_seq ?_
        replace hm := bindS hm; obtain ⟨j579, hm, hm579⟩ := hm
        refine c_join (σ := Bool) H (fun q1080 => [(3, vp0_0), (4, .int .i64 a0.At), (5, .int .u32 a0.Mask), (6, .int .i64 a0.Cut), (7, u45), (10, .int .i64 z577), (63, .bool q1080)]) (fun q1080 wl => (g_top_FerryBurstsTold_J10 z577) q1080 = some o575 ∧ St NB w wl [ownR 5 1 u45 r44.length (r44.flatMap eB)]) ?_ ?_
        · skip
          refine wp_region_lit (n_q H (q_move rfl) rfl (W_q (q_gtr rfl rfl) rfl (W_q (q_move rfl) rfl ?_))); clear H a; intro a H
          rcases Bool.eq_false_or_eq_true (decide (0 < z577)) with hg1081 | hg1081
          · replace H := H.know 58 rfl hg1081
            replace hm := condT hm hg1081
            refine n_yes H rfl rfl (n_q H (q_move rfl) rfl (W_yes rfl rfl (W_q (q_move rfl) rfl (W_yes rfl rfl ?_)))); clear H a; intro a H
            replace hm := chkS hm; obtain ⟨hk1082, hm⟩ := hm
            refine n_q H (q_shr rfl rfl hk1082) rfl (W_yes rfl rfl (W_q (q_eqlD rfl rfl) rfl (W_q (q_pickT rfl rfl) rfl ?_))); clear H a; intro a H
            refine n_nil (then_normal ?_)
            obtain rfl := Option.some.inj hm; replace hm := hm579; try dsimp only at hm
            exact join (decide ((shR .u32 a0.Mask z577) = 0)) H ⟨rfl, rfl, rfl, rfl, rfl, rfl, rfl, trivial⟩ ⟨hm, hS⟩
          · replace H := H.know 58 rfl hg1081
            replace hm := condF hm hg1081
            refine n_no H rfl rfl (by decide) rfl (W_no rfl rfl (by decide) rfl (W_no rfl rfl (by decide) rfl (W_no rfl rfl (by decide) rfl (W_q (q_pickF rfl rfl) rfl ?_)))); clear H a; intro a H
            refine n_nil (then_normal ?_)
            obtain rfl := Option.some.inj hm; replace hm := hm579; try dsimp only at hm
            exact join false H ⟨rfl, rfl, rfl, rfl, rfl, rfl, rfl, trivial⟩ ⟨hm, hS⟩
        · clear H hS hm a; intro q1080 a w1083 H hR
          simp only [ent, List.map_cons, List.map_nil] at H; (try dsimp only at hR); obtain ⟨hm, hS⟩ := hR; try dsimp only [g_top_FerryBurstsTold_J10] at hm
          refine c_cond H rfl (fun hc1084 => ?_) (fun hc1084 => ?_)
          · replace hm := condT hm hc1084
            refine wp_skip (then_normal (wp_block (wp_region_lit (n_q H (q_move rfl) rfl (W_q (q_subW rfl rfl) rfl (W_q (q_assign rfl) rfl ?_)))))); clear H a; intro a H
            refine n_nil (block_normal (then_normal ?_))
            obtain rfl := Option.some.inj hm
            exact round (m575, (IntKind.i64.wrap (z577 - 1))) H ⟨rfl, rfl, rfl, rfl, rfl, rfl, trivial⟩ ⟨hn575, hS⟩ (Nat.lt_succ_self _)
          · replace hm := condF hm hc1084
            refine wp_exit (then_exit (then_exit (block_exit ?_)))
            obtain rfl := Option.some.inj hm; have hz : _ = q575 := hn575; subst hz; replace hm := hm575; try dsimp only at hm
            refine then_normal (wp_seq (wp_region_lit (n_c H (fun HC => ?_)))); clear H
            refine nc_q HC (q_move rfl) rfl (by kernel_rfl) (V_q (q_neqD rfl rfl) rfl (by kernel_rfl) (V_q (q_move rfl) rfl (by kernel_rfl) (V_g (q_move rfl) (by kernel_rfl) (by kernel_rfl) (by kernel_rfl) (V_g (q_geq rfl rfl) (by kernel_rfl) (by kernel_rfl) (by kernel_rfl) (V_and (j := 2) rfl rfl rfl (by kernel_rfl) (by kernel_rfl) (V_q (q_move rfl) rfl (by kernel_rfl) (V_g (q_move rfl) (by kernel_rfl) (by kernel_rfl) (by kernel_rfl) (V_g (q_move rfl) (by kernel_rfl) (by kernel_rfl) (by kernel_rfl) ?_)))))))); clear HC a; intro a HC
            obtain ⟨A1085, c1085, hv1085, hl1085, hm1085⟩ := SlR.formV ((hS.own 0 rfl).slr rfl (fun _ _ => rfl))
            refine nc_g HC (q_lenV Tryd.underlying23 rfl hv1085) (by kernel_rfl) (by kernel_rfl) (by kernel_rfl) (V_g (q_mulW rfl rfl) (by kernel_rfl) (by kernel_rfl) (by kernel_rfl) (V_g (q_subW rfl rfl) (by kernel_rfl) (by kernel_rfl) (by kernel_rfl) (V_g (q_move rfl) (by kernel_rfl) (by kernel_rfl) (by kernel_rfl) (V_g (q_subW rfl rfl) (by kernel_rfl) (by kernel_rfl) (by kernel_rfl) (V_g (q_leq rfl rfl) (by kernel_rfl) (by kernel_rfl) (by kernel_rfl) (V_and (j := 6) rfl rfl rfl (by kernel_rfl) (by kernel_rfl) (V_q (q_assign rfl) rfl (by kernel_rfl) ?_))))))); clear HC a; intro a HC
            have H := HC.has; clear HC
            refine n_nil (then_normal (wp_seq (wp_region_lit (n_buildSlice H Tryd.underlying23 sz5 ze5 rfl rfl rfl (cs := []) rfl rfl ?_))))
            clear H; intro b1088 w1086 hN hE1087 hs; clear a; intro a H
            replace hS := hS.newBlk hN hE1087 hs; clear hN hs
            replace hS := hS.blkOwnL (e := eB) (k := 1) ([] : List UInt8) rfl rfl (by simp [maxLen])
            refine n_q H (q_move rfl) rfl ?_; clear H a; intro a H
            replace hm := chkS hm; obtain ⟨hk1090, hm⟩ := hm
            refine n_app (e := eB) H rfl rfl Tryd.underlying23 Tryd.underlying23 (by simp) el5 (hS.own 0 rfl) (((hS.own 1 rfl).slr rfl (fun _ _ => rfl)).src (fun _ _ => rfl)) eB_one hk1090 (by simp only [maxLen]; omega) rfl ?_
            clear H; intro v1093 w1091 hN hC1092 hb; clear a; intro a H; replace hS := hS.setOwn hN hC1092 hb; clear hN hb
            refine n_q H (q_move rfl) rfl (W_q (q_move rfl) rfl ?_); clear H a; intro a H
            replace hm := bindS hm; obtain ⟨r1095, hr1095, hm⟩ := hm
            refine n_call H rfl en25 (g_crc_Turn_w (A := A) (hG.ext hS.x) (hT.ext hS.x) ((hS.own 0 rfl).slr rfl (fun _ _ => rfl)) hr1095) rfl ?_
            clear H; intro x1102 w1100 hv; clear a; intro a H; obtain ⟨u1096, u1097, rfl, hE1101⟩ := hv
            replace hS := hS.new hE1101; simp only [List.cons_append, List.nil_append] at hS
            refine n_q H (q_move rfl) rfl (W_q (q_extract rfl rfl) rfl (W_q (q_extract rfl rfl) rfl (W_q (q_assign rfl) rfl (W_q (q_assign rfl) rfl ?_)))); clear H a; intro a H
            refine n_nil (then_normal (wp_seq (wp_seq (wp_region_lit (n_q H (q_move rfl) rfl (W_q (q_not rfl) rfl ?_)))))); clear H a; intro a H
            refine n_nil (then_normal (c_cond H rfl (fun hc1103 => ?_) (fun hc1103 => ?_)))
            · replace hm := condT hm hc1103
              replace hm := bindS hm; obtain ⟨j1104, hm, hm1104⟩ := hm
              refine c_join (σ := Bool) H (fun q1605 => [(2, .bool q1605)]) (fun q1605 wl => g_top_FerryBurstsTold_J7 q1605 = some r ∧ St NB w wl []) ?_ ?_
              · skip
                refine wp_region_lit (n_q H (q_move rfl) rfl ?_); clear H a; intro a H
                refine n_call H rfl en26 (code_w (hG.ext hS.x) (hS.any 1 rfl : IsE A w1100 u1097 r1095.2)) rfl ?_
                clear H; intro x1608 w1606 hv; clear a; intro a H; obtain ⟨rfl, hE1607⟩ := hv; replace hS := hS.ext hE1607
                refine n_q H (q_eqlD rfl rfl) rfl (W_q (q_move rfl) rfl ?_); clear H a; intro a H
                rcases Bool.eq_false_or_eq_true (decide ((ErrM.code r1095.2) = 12)) with hg1609 | hg1609
                · replace H := H.know 96 rfl hg1609
                  replace hm := condT hm hg1609
                  refine n_yes H rfl rfl (n_q H (q_move rfl) rfl (W_yes rfl rfl (W_q (q_move rfl) rfl (W_yes rfl rfl ?_)))); clear H a; intro a H
                  replace hm := bindS hm; obtain ⟨r1610, hr1610, hm⟩ := hm
                  refine n_call H rfl en27 (g_top_recordCut_w (A := A) (hG.ext hS.x) (hrp0_0.ext (Flat.mono _) hS.x) hr1610) rfl ?_
                  clear H; intro x1613 w1611 hv; clear a; intro a H; obtain ⟨rfl, hE1612⟩ := hv
                  replace hS := hS.ext hE1612
                  refine n_q H (q_pickT rfl rfl) rfl (W_q (q_assign rfl) rfl ?_); clear H a; intro a H
                  refine n_nil (then_normal ?_)
                  obtain rfl := Option.some.inj hm; replace hm := hm1104; try dsimp only at hm
                  replace hS := hS.tk0
                  exact join r1610 H ⟨rfl, trivial⟩ ⟨hm, hS⟩
                · replace H := H.know 96 rfl hg1609
                  replace hm := condF hm hg1609
                  refine n_no H rfl rfl (by decide) rfl (W_no rfl rfl (by decide) rfl (W_no rfl rfl (by decide) rfl (W_q (q_pickF rfl rfl) rfl (W_q (q_assign rfl) rfl ?_)))); clear H a; intro a H
                  refine n_nil (then_normal ?_)
                  obtain rfl := Option.some.inj hm; replace hm := hm1104; try dsimp only at hm
                  replace hS := hS.tk0
                  exact join false H ⟨rfl, trivial⟩ ⟨hm, hS⟩
              · clear H hS hm a; intro q1605 a w1614 H hR
                simp only [ent, List.map_cons, List.map_nil] at H; (try dsimp only at hR); obtain ⟨hm, hS⟩ := hR; try dsimp only [g_top_FerryBurstsTold_J7] at hm
                refine wp_ret (then_ret ?_)
                obtain rfl := Option.some.inj hm
                refine ret1 H (.inr rfl) rfl rfl ?_
                exact ⟨rfl, hS.x⟩
            · replace hm := condF hm hc1103
              refine wp_skip (then_normal (wp_seq (wp_region_lit (n_buildSlice H Tryd.underlying23 sz5 ze5 rfl rfl rfl (cs := []) rfl rfl ?_))))
              clear H; intro b1617 w1615 hN hE1616 hs; clear a; intro a H
              replace hS := hS.newBlk hN hE1616 hs; clear hN hs
              replace hS := hS.blkOwnL (e := eB) (k := 1) ([] : List UInt8) rfl rfl (by simp [maxLen])
              refine n_q H (q_move rfl) rfl ?_; clear H a; intro a H
              replace hm := chkS hm; obtain ⟨hk1619, hm⟩ := hm
              refine n_app (e := eB) H rfl rfl Tryd.underlying23 Tryd.underlying23 (by simp) el5 (hS.own 0 rfl) (((hS.own 1 rfl).slr rfl (fun _ _ => rfl)).src (fun _ _ => rfl)) eB_one hk1619 (by simp only [maxLen]; omega) rfl ?_
              clear H; intro v1622 w1620 hN hC1621 hb; clear a; intro a H; replace hS := hS.setOwn hN hC1621 hb; clear hN hb
              replace hm := bindS hm; obtain ⟨r1624, hr1624, hm⟩ := hm
              refine n_call H rfl en24 (g_crc_Open_w (A := A) (hG.ext hS.x) ((hS.own 0 rfl).slr rfl (fun _ _ => rfl)) hr1624) rfl ?_
              clear H; intro x1631 w1629 hv; clear a; intro a H; obtain ⟨u1625, u1626, rfl, hE1630⟩ := hv
              replace hS := hS.new hE1630; simp only [List.cons_append, List.nil_append] at hS
              refine n_q H (q_move rfl) rfl (W_q (q_extract rfl rfl) rfl (W_q (q_extract rfl rfl) rfl (W_q (q_assign rfl) rfl (W_q (q_assign rfl) rfl ?_)))); clear H a; intro a H
              refine n_nil (then_normal (wp_seq ?_))
              replace hm := bindS hm; obtain ⟨j1632, hm, hm1632⟩ := hm
              refine c_join (σ := Bool) H (fun q2133 => [(3, vp0_0), (4, .int .i64 a0.At), (5, .int .u32 a0.Mask), (6, .int .i64 a0.Cut), (7, u45), (12, u1096), (114, .bool q2133)]) (fun q2133 wl => (g_top_FerryBurstsTold_J9 a0 r44 r1095) q2133 = some r ∧ St NB w wl [ownR 5 1 u45 r44.length (r44.flatMap eB), ownR 5 1 u1096 r1095.1.length (r1095.1.flatMap eB)]) ?_ ?_
              · skip
                refine wp_region_lit (n_q H (q_move rfl) rfl (W_q (q_cast (q_nnilI Tryd.underlying33 rfl rfl (hS.any 4 rfl : IsE A w1629 u1097 r1095.2).form) (show _ = Value.bool (!decide (r1095.2 = .nil)) by rw [IsErr.isNil (hS.any 4 rfl : IsE A w1629 u1097 r1095.2)])) rfl (W_q (q_move rfl) rfl ?_))); clear H a; intro a H
                rcases Bool.eq_false_or_eq_true (!decide (r1095.2 = .nil)) with hg2134 | hg2134
                · replace H := H.know 110 rfl hg2134
                  replace hm := condT hm hg2134
                  refine n_no H rfl rfl (by decide) rfl (W_no rfl rfl (by decide) rfl (W_no rfl rfl (by decide) rfl (W_q (q_pickT rfl rfl) rfl ?_))); clear H a; intro a H
                  refine n_nil (then_normal ?_)
                  obtain rfl := Option.some.inj hm; replace hm := hm1632; try dsimp only at hm
                  replace hS := hS.pk3
                  replace hS := hS.pk6
                  replace hS := hS.tk2
                  exact join true H ⟨rfl, rfl, rfl, rfl, rfl, rfl, rfl, trivial⟩ ⟨hm, hS⟩
                · replace H := H.know 110 rfl hg2134
                  replace hm := condF hm hg2134
                  refine n_yes H rfl rfl (n_q H (q_move rfl) rfl (W_yes rfl rfl ?_)); clear H a; intro a H
                  refine n_call H rfl en26 (code_w (hG.ext hS.x) (hS.any 1 rfl : IsE A w1629 u1626 r1624.2)) rfl ?_
                  clear H; intro x2137 w2135 hv; clear a; intro a H; obtain ⟨rfl, hE2136⟩ := hv; replace hS := hS.ext hE2136
                  refine n_yes H rfl rfl (n_q H (q_neqD rfl rfl) rfl (W_q (q_pickF rfl rfl) rfl ?_)); clear H a; intro a H
                  refine n_nil (then_normal ?_)
                  obtain rfl := Option.some.inj hm; replace hm := hm1632; try dsimp only at hm
                  replace hS := hS.pk3
                  replace hS := hS.pk6
                  replace hS := hS.tk2
                  exact join (!decide ((ErrM.code r1624.2) = 6)) H ⟨rfl, rfl, rfl, rfl, rfl, rfl, rfl, trivial⟩ ⟨hm, hS⟩
              · clear H hS hm a; intro q2133 a w2138 H hR
                simp only [ent, List.map_cons, List.map_nil] at H; (try dsimp only at hR); obtain ⟨hm, hS⟩ := hR; try dsimp only [g_top_FerryBurstsTold_J9] at hm
                refine c_cond H rfl (fun hc2139 => ?_) (fun hc2139 => ?_)
                · replace hm := condT hm hc2139
                  refine wp_seq (wp_region_lit (n_q H (q_assign rfl) rfl ?_)); clear H a; intro a H
                  refine n_nil (then_normal (wp_ret (then_ret ?_)))
                  obtain rfl := Option.some.inj hm
                  replace hS := hS.tk0
                  refine ret1 H (.inr rfl) rfl rfl ?_
                  exact ⟨rfl, hS.x⟩
                · replace hm := condF hm hc2139
                  refine wp_skip (then_normal (wp_seq (wp_region_lit (n_q H (q_move rfl) rfl (W_q (q_move rfl) rfl (W_q (q_move rfl) rfl ?_)))))); clear H a; intro a H
                  replace hm := bindS hm; obtain ⟨r2140, hr2140, hm⟩ := hm
                  refine n_call H rfl en25 (g_crc_Turn_w (A := A) (hG.ext hS.x) (hT.ext hS.x) ((hS.own 1 rfl).slr rfl (fun _ _ => rfl)) hr2140) rfl ?_
                  clear H; intro x2147 w2145 hv; clear a; intro a H; obtain ⟨u2141, u2142, rfl, hE2146⟩ := hv
                  replace hS := hS.new hE2146; simp only [List.cons_append, List.nil_append] at hS
                  refine n_q H (q_move rfl) rfl (W_q (q_extract rfl rfl) rfl (W_q (q_extract rfl rfl) rfl (W_q (q_assign rfl) rfl (W_q (q_assign rfl) rfl ?_)))); clear H a; intro a H
                  refine n_nil (then_normal (wp_seq (wp_region_lit (n_q H (q_move rfl) rfl (W_q (q_cast (q_nilI Tryd.underlying33 rfl rfl (hS.any 1 rfl : IsE A w2145 u2142 r2140.2).form) (show _ = Value.bool (decide (r2140.2 = .nil)) by rw [IsErr.isNil (hS.any 1 rfl : IsE A w2145 u2142 r2140.2)])) rfl (W_q (q_move rfl) rfl ?_)))))); clear H a; intro a H
                  rcases Bool.eq_false_or_eq_true (decide (r2140.2 = .nil)) with hg2148 | hg2148
                  · replace H := H.know 124 rfl hg2148
                    replace hm := condT hm hg2148
                    refine n_yes H rfl rfl (n_q H (q_move rfl) rfl (W_yes rfl rfl (W_q (q_str Tryd.underlying23 Tryd.underlying5 Tryd.underlying9 rfl (fun w' hw => (((hS.own 0 rfl).slr rfl (fun _ _ => rfl)).ext (Flat.mono _) hw))) rfl (W_yes rfl rfl (W_q (q_move rfl) rfl (W_yes rfl rfl (W_q (q_str Tryd.underlying23 Tryd.underlying5 Tryd.underlying9 rfl (fun w' hw => (((hS.own 2 rfl).slr rfl (fun _ _ => rfl)).ext (Flat.mono _) hw))) rfl (W_yes rfl rfl (W_q (q_eqlS rfl rfl) rfl (W_q (q_pickT rfl rfl) rfl (W_q (q_move rfl) rfl ?_))))))))))); clear H a; intro a H
                    rcases Bool.eq_false_or_eq_true (decide ((strB r2140.1) = (strB r44))) with hg2149 | hg2149
                    · replace H := H.know 131 rfl hg2149
                      replace hm := condT hm hg2149
                      refine n_yes H rfl rfl (n_q H (q_move rfl) rfl (W_yes rfl rfl (W_q (q_move rfl) rfl (W_yes rfl rfl ?_)))); clear H a; intro a H
                      replace hm := bindS hm; obtain ⟨r2150, hr2150, hm⟩ := hm
                      refine n_call H rfl en27 (g_top_recordCut_w (A := A) (hG.ext hS.x) (hrp0_0.ext (Flat.mono _) hS.x) hr2150) rfl ?_
                      clear H; intro x2153 w2151 hv; clear a; intro a H; obtain ⟨rfl, hE2152⟩ := hv
                      replace hS := hS.ext hE2152
                      refine n_q H (q_pickT rfl rfl) rfl (W_q (q_assign rfl) rfl ?_); clear H a; intro a H
                      refine n_nil (then_normal (wp_ret ?_))
                      obtain rfl := Option.some.inj hm
                      replace hS := hS.tk0
                      refine ret1 H (.inr rfl) rfl rfl ?_
                      exact ⟨rfl, hS.x⟩
                    · replace H := H.know 131 rfl hg2149
                      replace hm := condF hm hg2149
                      refine n_no H rfl rfl (by decide) rfl (W_no rfl rfl (by decide) rfl (W_no rfl rfl (by decide) rfl (W_q (q_pickF rfl rfl) rfl (W_q (q_assign rfl) rfl ?_)))); clear H a; intro a H
                      refine n_nil (then_normal (wp_ret ?_))
                      obtain rfl := Option.some.inj hm
                      replace hS := hS.tk0
                      refine ret1 H (.inr rfl) rfl rfl ?_
                      exact ⟨rfl, hS.x⟩
                  · replace H := H.know 124 rfl hg2148
                    replace hm := condF hm hg2148
                    refine n_no H rfl rfl (by decide) rfl (W_no rfl rfl (by decide) rfl (W_no rfl rfl (by decide) rfl (W_no rfl rfl (by decide) rfl (W_no rfl rfl (by decide) rfl (W_q (q_pickF rfl rfl) rfl (W_q (q_move rfl) rfl (W_no rfl rfl (by decide) rfl (W_no rfl rfl (by decide) rfl (W_no rfl rfl (by decide) rfl (W_q (q_pickF rfl rfl) rfl (W_q (q_assign rfl) rfl ?_))))))))))); clear H a; intro a H
                    refine n_nil (then_normal (wp_ret ?_))
                    obtain rfl := Option.some.inj hm
                    replace hS := hS.tk0
                    refine ret1 H (.inr rfl) rfl rfl ?_
                    exact ⟨rfl, hS.x⟩
end Go.Proofs.YtnhjohcgnmogaaaDoor
