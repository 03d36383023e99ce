/- The document's lists and digits (written by wip/tools) -/
import Derived.Test.YtnhjohcgnmogaaaDoorRecs
set_option linter.unusedVariables false
set_option linter.unusedSimpArgs false
set_option maxRecDepth 10000
namespace Go.Proofs.YtnhjohcgnmogaaaDoor
open Go Go.RowKit
theorem bd102 : bdB Tryd.prog 102 = true := by kernel_rfl
theorem pl102 : placesB Tryd.prog 102 = some #[(0, 1), (1, 1)] := by kernel_rfl
theorem el102 : ElemOk Tryd.prog 102 2 32 [.int .i64 0, .slice none 0 0] := ⟨by kernel_rfl, by kernel_rfl, by kernel_rfl, rfl, by decide⟩
theorem en43 : entersB Tryd.prog 43 = true := by kernel_rfl
theorem en44 : entersB Tryd.prog 44 = true := by kernel_rfl
theorem en45 : entersB Tryd.prog 45 = true := by kernel_rfl
theorem en46 : entersB Tryd.prog 46 = true := by kernel_rfl
theorem en48 : entersB Tryd.prog 48 = true := by kernel_rfl
theorem en52 : entersB Tryd.prog 52 = true := by kernel_rfl
theorem en53 : entersB Tryd.prog 53 = true := by kernel_rfl
theorem en55 : entersB Tryd.prog 55 = true := by kernel_rfl
theorem ze102 : zeroB Tryd.prog 102 = some [.int .i64 0, .slice none 0 0] := by kernel_rfl

theorem quo16 (x : UInt8) : IntKind.u8.wrap ((x.toNat : Int).tdiv 16) = ((x.toNat / 16 : Nat) : Int) := by
  have hx := x.toNat_lt
  rw [Int.tdiv_eq_ediv_of_nonneg (by omega), w8 (by omega) (by omega)]; omega
theorem rem16 (x : UInt8) : (x.toNat : Int).tmod 16 = ((x.toNat % 16 : Nat) : Int) := by
  rw [Int.tmod_eq_emod_of_nonneg (by omega)]; omega
theorem rHex_w {w : World} {v : Value} {bs : List UInt8} (h : ∀ w', Ext w w' → SlR w' 1 (Flat eB) v bs) (hz : bs.length ≤ 35184372088832) : Calls Tryd.prog 20 [v].toArray w (Ret fun r w' => r = .string (strB (hexM bs)) ∧ Ext w w') := by
  have hS := St.begin NB w
  obtain ⟨A0, c0, hv0, hl0, hm0, hn0⟩ := (h w Ext.rfl').form
  subst hv0
  refine enter Tryd.func20 rfl rfl rfl ?_
  intro a H
  dsimp only [enumL, Nat.zero_add, Nat.reduceAdd] at H
  refine wp_seq ?_
  refine wp_region_lit ?_
  refine n_q H (q_assign rfl) rfl ?_
  clear H a; intro a H
  refine n_nil ?_
  refine then_normal ?_
  refine wp_seq ?_
  refine wp_region_lit ?_
  refine n_q H (q_move rfl) rfl ?_
  clear H a; intro a H
  refine n_q H (q_lenSl Tryd.underlying23 rfl) rfl ?_
  clear H a; intro a H
  refine n_q H (q_mul rfl rfl (by constructor <;> omega)) rfl ?_
  clear H a; intro a H
  refine n_make (L := 0) (C := (2 * bs.length)) H Tryd.underlying23 el5 rfl (congrArg (fun z => some (Value.int .i64 z)) (show (2 : Int) * (bs.length : Nat) = ((2 * bs.length : Nat) : Int) by omega)) (by omega) (by omega) (by simp only [maxLen]; omega) rfl ?_
  clear H; intro b8 w1 hN hE2 hs_b8; clear a; intro a H
  replace hS := hS.newOwn hN hE2 (by simp [blks]; omega); clear hN hE2
  simp only [List.replicate_zero, List.flatten_nil] at hS
  refine n_q H (q_assign rfl) rfl ?_
  clear H a; intro a H
  refine n_nil ?_
  refine then_normal ?_
  refine wp_seq ?_
  refine wp_seq ?_
  refine wp_region_lit ?_
  refine n_q H (q_assign rfl) rfl ?_
  clear H a; intro a H
  refine n_nil ?_
  refine then_normal ?_
  refine wp_block ?_
  refine c_loop (σ := Nat × Value) (fun (i, vw) => [(0, .slice A0 bs.length c0), (3, vw), (4, .int .i64 (i : Nat))]) (fun (i, vw) wl => i ≤ bs.length ∧ St NB w wl [ownR 5 1 vw (2 * i) ((hexM (bs.take i)).flatMap eB)]) (fun (i, vw) => bs.length - i) (0, .slice (some ⟨b8, 0, none⟩) 0 (2 * bs.length)) H ⟨rfl, rfl, rfl, trivial⟩ ⟨Nat.zero_le _, hS⟩ ?_
  clear H hS; clear a; intro xx a w3 H hR
  obtain ⟨i, vw⟩ := xx
  simp only [ent, List.map_cons, List.map_nil] at H
  try dsimp only at hR
  obtain ⟨hi, hS⟩ := hR; try clear hR
  refine wp_seq ?_
  refine wp_seq ?_
  refine wp_region_lit ?_
  refine n_q H (q_move rfl) rfl ?_
  clear H a; intro a H
  refine n_q H (q_move rfl) rfl ?_
  clear H a; intro a H
  refine n_q H (q_lenSl Tryd.underlying23 rfl) rfl ?_
  clear H a; intro a H
  refine n_q H (q_lss rfl rfl) rfl ?_
  clear H a; intro a H
  refine n_nil ?_
  refine then_normal ?_
  refine c_cond H rfl (fun hc12 => ?_) (fun hc12 => ?_)
  · (try simp only [decide_eq_true_eq, decide_eq_false_iff_not, Bool.and_eq_true, Bool.or_eq_true, Bool.and_eq_false_iff, Bool.or_eq_false_iff, beq_iff_eq, bne_iff_ne, beq_eq_false_iff_ne, bne_eq_false_iff_eq, ne_eq, Bool.not_eq_true', Bool.not_eq_false', Int.not_lt, Int.not_le, Bool.not_eq_true, Bool.not_eq_false] at hc12)
    have hi1 : i < bs.length := by simp at hc12; omega
    obtain ⟨x, hx⟩ := (h w Ext.rfl').at hi1
    obtain ⟨ad0, had⟩ := (h w Ext.rfl').addr hi1
    subst had
    have hge := hS.ownGe (i := 0) rfl
    have hx8 := x.toNat_lt
    refine wp_skip ?_
    refine then_normal ?_
    refine wp_seq ?_
    refine wp_block ?_
    refine c_ord (blks vw) 16 (by kernel_rfl) ?_
    obtain ⟨w4, hw4⟩ : ∃ x, x = w3.drew := ⟨_, rfl⟩
    rw [← hw4]
    have hE5 : Ext w3 w4 := by rw [hw4]; exact Ext.drew' _
    clear hw4
    replace hS := hS.ext hE5
    have hh0 := hS.x.size
    refine k_take 0 H rfl (q_move rfl) rfl (by kernel_rfl) (by kernel_rfl) (by kernel_rfl) (by kernel_rfl) (fun _ _ _ h => h) ?_
    clear H a; intro a H
    refine k_take 1 H rfl (q_move rfl) rfl (by kernel_rfl) (by kernel_rfl) (by kernel_rfl) (by kernel_rfl) (fun _ _ _ h => h) ?_
    clear H a; intro a H
    refine k_take 2 H rfl (q_move rfl) rfl (by kernel_rfl) (by kernel_rfl) (by kernel_rfl) (by kernel_rfl) (fun _ _ _ h => h) ?_
    clear H a; intro a H
    refine k_take 3 H rfl (q_indexAddr Tryd.underlying23 sz5 rfl rfl (by omega) (by omega)) rfl (by kernel_rfl) (by kernel_rfl) (by kernel_rfl) (by kernel_rfl) (fun _ _ _ h => h) ?_
    clear H a; intro a H
    refine k_take 4 H rfl (q_load rfl (LdC.old ((h w Ext.rfl').ldOne ag5 hx rfl) hS.x hh0 hge)) rfl (by kernel_rfl) (by kernel_rfl) (by kernel_rfl) (by kernel_rfl) (fun _ _ _ h => h) ?_
    clear H a; intro a H
    refine k_take 5 H rfl (q_cast (q_quoW rfl rfl (by decide)) (show _ = Value.int .u8 ((x.toNat / 16 : Nat) : Int) by rw [quo16])) rfl (by kernel_rfl) (by kernel_rfl) (by kernel_rfl) (by kernel_rfl) (fun _ _ _ h => h) ?_
    clear H a; intro a H
    refine k_take 6 H rfl (q_cast (q_indexS Tryd.underlying9 rfl rfl (by omega) (by show _ < 16; omega)) (show _ = Value.int .u8 ((hexD (x.toNat / 16)).toNat : Int) by refine congrArg (Value.int .u8) ((digS_at (by omega) (by omega) _).trans ?_); rfl)) rfl (by kernel_rfl) (by kernel_rfl) (by kernel_rfl) (by kernel_rfl) (fun _ _ _ h => h) ?_
    clear H a; intro a H
    refine k_take 7 H rfl (q_move rfl) rfl (by kernel_rfl) (by kernel_rfl) (by kernel_rfl) (by kernel_rfl) (fun _ _ _ h => h) ?_
    clear H a; intro a H
    refine k_take 8 H rfl (q_move rfl) rfl (by kernel_rfl) (by kernel_rfl) (by kernel_rfl) (by kernel_rfl) (fun _ _ _ h => h) ?_
    clear H a; intro a H
    refine k_take 9 H rfl (q_indexAddr Tryd.underlying23 sz5 rfl rfl (by omega) (by omega)) rfl (by kernel_rfl) (by kernel_rfl) (by kernel_rfl) (by kernel_rfl) (fun _ _ _ h => h) ?_
    clear H a; intro a H
    refine k_take 10 H rfl (q_load rfl (LdC.old ((h w Ext.rfl').ldOne ag5 hx rfl) hS.x hh0 hge)) rfl (by kernel_rfl) (by kernel_rfl) (by kernel_rfl) (by kernel_rfl) (fun _ _ _ h => h) ?_
    clear H a; intro a H
    refine k_take 11 H rfl (q_cast (q_remW rfl rfl (by decide)) (show _ = Value.int .u8 ((x.toNat % 16 : Nat) : Int) by rw [rem16])) rfl (by kernel_rfl) (by kernel_rfl) (by kernel_rfl) (by kernel_rfl) (fun _ _ _ h => h) ?_
    clear H a; intro a H
    refine k_take 12 H rfl (q_cast (q_indexS Tryd.underlying9 rfl rfl (by omega) (by show _ < 16; omega)) (show _ = Value.int .u8 ((hexD (x.toNat % 16)).toNat : Int) by refine congrArg (Value.int .u8) ((digS_at (by omega) (by omega) _).trans ?_); rfl)) rfl (by kernel_rfl) (by kernel_rfl) (by kernel_rfl) (by kernel_rfl) (fun _ _ _ h => h) ?_
    clear H a; intro a H
    refine k_buildSlice 13 H rfl Tryd.underlying23 sz5 ze5 rfl rfl rfl (cs := [.int .u8 ((hexD (x.toNat / 16)).toNat : Int), .int .u8 ((hexD (x.toNat % 16)).toNat : Int)]) (by kernel_rfl) rfl (by kernel_rfl) ?_
    clear H; intro b28 w6 hN hE7 hs_b28; clear a; intro a H
    have hz_b28 := hE7.size
    replace hS := hS.newBlk hN hE7 hs_b28; clear hN hE7
    replace hS := hS.pick 1 rfl
    dsimp only [List.eraseIdx] at hS
    refine k_append 14 H rfl rfl rfl Tryd.underlying23 Tryd.underlying23 (by simp) el5 (hS.own 0 rfl) (show Src _ 1 _ 2 ([hexD (x.toNat / 16), hexD (x.toNat % 16)].flatMap eB) from (Own.ofBlk (n := 2) (k := 1) (hS.blk 1 rfl) rfl (by simp [maxLen])).src) (flat_one eB_one _) (by omega) (by simp only [maxLen]; omega) rfl (by kernel_rfl) (.inl (fun b hb _ => hb)) ?_
    clear H; intro v29 w8 hN hC9 hb29 hnil29; clear a; intro a H
    have hz29 := hC9.size
    replace hS := hS.setOwn hN hC9 hb29; clear hN
    refine k_take 15 H rfl (q_assign rfl) rfl (by kernel_rfl) (by kernel_rfl) (by kernel_rfl) (by kernel_rfl) (fun _ _ _ h => h) ?_
    clear H a; intro a H
    refine k_done (by kernel_rfl) ?_
    refine block_normal ?_
    refine then_normal ?_
    refine wp_region_lit ?_
    refine n_q H (q_move rfl) rfl ?_
    clear H a; intro a H
    refine n_q H (q_add rfl rfl (by constructor <;> omega)) rfl ?_
    clear H a; intro a H
    refine n_q H (q_assign rfl) rfl ?_
    clear H a; intro a H
    refine n_nil ?_
    refine then_normal ?_
    replace hS := hS.take 1
    simp only [List.take_succ_cons, List.take_zero] at hS
    exact round (i + 1, v29) H ⟨rfl, rfl, rfl, trivial⟩ ⟨by omega, by rw [take_snoc hx, hexM_snoc, List.flatMap_append]; exact hS⟩ (by first | omega | (dsimp only; omega))
  · (try simp only [decide_eq_true_eq, decide_eq_false_iff_not, Bool.and_eq_true, Bool.or_eq_true, Bool.and_eq_false_iff, Bool.or_eq_false_iff, beq_iff_eq, bne_iff_ne, beq_eq_false_iff_ne, bne_eq_false_iff_eq, ne_eq, Bool.not_eq_true', Bool.not_eq_false', Int.not_lt, Int.not_le, Bool.not_eq_true, Bool.not_eq_false] at hc12)
    obtain rfl : i = bs.length := by simp at hc12; omega
    rw [List.take_length] at hS
    refine wp_exit ?_
    refine then_exit ?_
    refine then_exit ?_
    refine block_exit ?_
    refine then_normal ?_
    refine wp_seq ?_
    refine wp_region_lit ?_
    refine n_q H (q_move rfl) rfl ?_
    clear H a; intro a H
    refine n_q H (q_str Tryd.underlying23 Tryd.underlying5 Tryd.underlying9 rfl (fun w' e => ((hS.own 0 rfl).ext e).slB (hexM_len bs).symm)) rfl ?_
    clear H a; intro a H
    refine n_q H (q_assign rfl) rfl ?_
    clear H a; intro a H
    refine n_nil ?_
    refine then_normal ?_
    refine wp_ret ?_
    refine ret1 H (.inr rfl) rfl rfl ?_
    exact ⟨rfl, hS.x⟩

set_option maxHeartbeats 2000000 in
theorem rUnhex_w {w : World} {s : ByteArray} (hz : s.size ≤ 35184372088832) : Calls Tryd.prog 17 [.string s].toArray w (Ret fun r w' => ∃ v n, n = (unhexM s.data.toList).1.length ∧ r = .tuple #[v, eE (unhexM s.data.toList).2] ∧ St NB w w' [ownR 5 1 v n ((unhexM s.data.toList).1.flatMap eB)]) := by
  have hS := St.begin NB w
  have hl8 : s.data.toList.length = s.size := rfl
  refine enter Tryd.func17 rfl rfl rfl ?_
  intro a H
  dsimp only [enumL, Nat.zero_add, Nat.reduceAdd] at H
  refine wp_seq ?_
  refine wp_region_lit ?_
  refine n_q H (q_assign rfl) rfl ?_
  clear H a; intro a H
  refine n_alloc H ze29 rfl ?_
  clear H; intro b3 w1 hN hE2 hs_b3; clear a; intro a H
  replace hS := hS.newBlk hN hE2 hs_b3; clear hN hE2
  refine n_nil ?_
  refine then_normal ?_
  refine wp_seq ?_
  refine wp_seq ?_
  refine wp_region_lit ?_
  refine n_q H (q_assign rfl) rfl ?_
  clear H a; intro a H
  refine n_nil ?_
  refine then_normal ?_
  refine wp_block ?_
  refine c_loop (σ := Nat) (fun i => [(0, .string s), (3, .pointer (some ⟨b3, 0, none⟩)), (4, .int .i64 (i : Nat))]) (fun i wl => i ≤ s.size ∧ (∀ j y, j < i → s.data.toList[j]? = some y → 0 ≤ digitM y) ∧ St NB w wl [blkR b3 [.int .i64 0, .int .i64 0] 29]) (fun i => s.size - i) 0 H ⟨rfl, rfl, rfl, trivial⟩ ⟨Nat.zero_le _, fun j y hj => by omega, hS⟩ ?_
  clear H hS; clear a; intro i a w3 H hR
  simp only [ent, List.map_cons, List.map_nil] at H
  try dsimp only at hR
  obtain ⟨hi, hno, hS⟩ := hR; try clear hR
  refine wp_seq ?_
  refine wp_seq ?_
  refine wp_region_lit ?_
  refine n_q H (q_move rfl) rfl ?_
  clear H a; intro a H
  refine n_q H (q_move rfl) rfl ?_
  clear H a; intro a H
  refine n_q H (q_lenS Tryd.underlying9 rfl) rfl ?_
  clear H a; intro a H
  refine n_q H (q_lss rfl rfl) rfl ?_
  clear H a; intro a H
  refine n_nil ?_
  refine then_normal ?_
  refine c_cond H rfl (fun hc10 => ?_) (fun hc10 => ?_)
  · skip
    have hi1 : i < s.size := by simp at hc10; omega
    obtain ⟨x, hx⟩ : ∃ x, s.data.toList[i]? = some x := ⟨_, List.getElem?_eq_getElem (by rw [hl8]; exact hi1)⟩
    refine wp_skip ?_
    refine then_normal ?_
    refine wp_seq ?_
    refine wp_block ?_
    refine wp_seq ?_
    refine wp_region_lit ?_
    refine n_q H (q_move rfl) rfl ?_
    clear H a; intro a H
    refine n_q H (q_move rfl) rfl ?_
    clear H a; intro a H
    refine n_q H (q_cast (q_indexS Tryd.underlying9 rfl rfl (by omega) (by have := hl8; omega)) (congrArg (Value.int .u8) (strAt hx _ (by omega) _))) rfl ?_
    clear H a; intro a H
    refine n_call H rfl en55 (rdigit_w (b := x)) rfl ?_
    clear H a; intro v6 w4 hv a H
    obtain ⟨rfl, hE5⟩ := hv
    replace hS := hS.ext hE5
    refine n_q H (q_lss rfl rfl) rfl ?_
    clear H a; intro a H
    refine n_nil ?_
    refine then_normal ?_
    refine c_cond H rfl (fun hc17 => ?_) (fun hc17 => ?_)
    · skip
      have hneg : digitM x < 0 := by simpa using hc17
      refine wp_seq ?_
      refine wp_region_lit ?_
      refine n_q H (q_move rfl) rfl ?_
      clear H a; intro a H
      refine n_q H (q_build (cs := [.int .i64 18, .int .i64 (i : Nat)]) ze29 bd29 pl29 rfl (by kernel_rfl)) rfl ?_
      clear H a; intro a H
      refine n_q H (q_assign rfl) rfl ?_
      clear H a; intro a H
      refine n_storeAll H rfl rfl rfl sz29 (hS.blk 0 rfl) rfl (by simp) ?_
      clear H; intro w7 hN hC8 hz; clear a; intro a H
      replace hS := hS.setBlk hN hC8; clear hN hz
      refine n_nil ?_
      refine then_normal ?_
      refine wp_ret ?_
      refine block_ret ?_
      refine then_ret ?_
      refine then_ret ?_
      refine block_ret ?_
      refine then_ret ?_
      have hr3 := (hS.blk 0 rfl)
      replace hS := hS.nilOwn 5 1
      replace hS := hS.take 1
      simp only [List.take_succ_cons, List.take_zero] at hS
      refine retL H (.inr rfl) rfl (vs := _) (resTmp rfl (resCell rfl (hr3.ldAll ag29 sz29) resNil)) ?_
      rw [show unhexM s.data.toList = ([], .pl (i : Nat) 0) from by unfold unhexM; rw [badM_at hx hno hneg, if_pos (by omega)]]; exact ⟨_, _, rfl, rfl, hS⟩
    · skip
      have hpos : 0 ≤ digitM x := by simp at hc17; omega
      refine wp_skip ?_
      refine block_normal ?_
      refine then_normal ?_
      refine wp_region_lit ?_
      refine n_q H (q_move rfl) rfl ?_
      clear H a; intro a H
      refine n_q H (q_add rfl rfl (by constructor <;> omega)) rfl ?_
      clear H a; intro a H
      refine n_q H (q_assign rfl) rfl ?_
      clear H a; intro a H
      refine n_nil ?_
      refine then_normal ?_
      exact round (i + 1) H ⟨rfl, rfl, rfl, trivial⟩ ⟨by omega, fun j y hj hy => (by rcases Nat.lt_or_ge j i with h | h; exact hno j y h hy; have e : j = i := (by omega); rw [e, hx] at hy; cases hy; exact hpos), hS⟩ (by first | omega | (dsimp only; omega))
  · skip
    obtain rfl : i = s.size := by simp at hc10; omega
    refine wp_exit ?_
    refine then_exit ?_
    refine then_exit ?_
    refine block_exit ?_
    refine then_normal ?_
    refine wp_seq ?_
    refine wp_seq ?_
    refine wp_region_lit ?_
    refine n_q H (q_move rfl) rfl ?_
    clear H a; intro a H
    refine n_q H (q_lenS Tryd.underlying9 rfl) rfl ?_
    clear H a; intro a H
    refine n_q H (q_rem rfl rfl (by omega) (by omega)) rfl ?_
    clear H a; intro a H
    refine n_q H (q_eql rfl rfl) rfl ?_
    clear H a; intro a H
    refine n_nil ?_
    refine then_normal ?_
    refine c_cond H rfl (fun hc23 => ?_) (fun hc23 => ?_)
    · skip
      have hodd : s.size % 2 = 1 := by simp at hc23; omega
      refine wp_seq ?_
      refine wp_region_lit ?_
      refine n_q H (q_move rfl) rfl ?_
      clear H a; intro a H
      refine n_q H (q_lenS Tryd.underlying9 rfl) rfl ?_
      clear H a; intro a H
      refine n_q H (q_build (cs := [.int .i64 1, .int .i64 (s.size : Nat)]) ze29 bd29 pl29 rfl (by kernel_rfl)) rfl ?_
      clear H a; intro a H
      refine n_q H (q_assign rfl) rfl ?_
      clear H a; intro a H
      refine n_storeAll H rfl rfl rfl sz29 (hS.blk 0 rfl) rfl (by simp) ?_
      clear H; intro w9 hN hC10 hz; clear a; intro a H
      replace hS := hS.setBlk hN hC10; clear hN hz
      refine n_nil ?_
      refine then_normal ?_
      refine wp_ret ?_
      refine then_ret ?_
      have hr3 := (hS.blk 0 rfl)
      replace hS := hS.nilOwn 5 1
      replace hS := hS.take 1
      simp only [List.take_succ_cons, List.take_zero] at hS
      refine retL H (.inr rfl) rfl (vs := _) (resTmp rfl (resCell rfl (hr3.ldAll ag29 sz29) resNil)) ?_
      rw [show unhexM s.data.toList = ([], .pl (s.size : Nat) 1) from by unfold unhexM; rw [if_neg (badM_no hno), hl8, if_pos hodd]]; exact ⟨_, _, rfl, rfl, hS⟩
    · skip
      have heven : ¬ s.size % 2 = 1 := by simp at hc23; omega
      refine wp_skip ?_
      refine then_normal ?_
      refine wp_seq ?_
      refine wp_region_lit ?_
      refine n_q H (q_assign rfl) rfl ?_
      clear H a; intro a H
      refine n_nil ?_
      refine then_normal ?_
      refine wp_seq ?_
      refine wp_seq ?_
      refine wp_region_lit ?_
      refine n_q H (q_assign rfl) rfl ?_
      clear H a; intro a H
      refine n_nil ?_
      refine then_normal ?_
      refine wp_block ?_
      replace hS := hS.nilOwn 5 1
      replace hS := hS.pick 1 rfl
      dsimp only [List.eraseIdx] at hS
      replace hS := hS.pick 1 rfl
      dsimp only [List.eraseIdx] at hS
      refine c_loop (σ := Nat × Value) (fun (m, vb) => [(0, .string s), (3, .pointer (some ⟨b3, 0, none⟩)), (5, vb), (6, .int .i64 ((2 * m : Nat) : Int))]) (fun (m, vb) wl => 2 * m ≤ s.size ∧ St NB w wl [ownR 5 1 vb m ((pairsM (s.data.toList.take (2 * m))).flatMap eB), blkR b3 [.int .i64 0, .int .i64 0] 29]) (fun (m, vb) => s.size - 2 * m) (0, .slice none 0 0) H ⟨rfl, rfl, rfl, rfl, trivial⟩ ⟨Nat.zero_le _, hS⟩ ?_
      clear H hS; clear a; intro xx a w11 H hR
      obtain ⟨m, vb⟩ := xx
      simp only [ent, List.map_cons, List.map_nil] at H
      try dsimp only at hR
      obtain ⟨hm, hS⟩ := hR; try clear hR
      refine wp_seq ?_
      refine wp_seq ?_
      refine wp_region_lit ?_
      refine n_q H (q_move rfl) rfl ?_
      clear H a; intro a H
      refine n_q H (q_move rfl) rfl ?_
      clear H a; intro a H
      refine n_q H (q_lenS Tryd.underlying9 rfl) rfl ?_
      clear H a; intro a H
      refine n_q H (q_lss rfl rfl) rfl ?_
      clear H a; intro a H
      refine n_nil ?_
      refine then_normal ?_
      refine c_cond H rfl (fun hc30 => ?_) (fun hc30 => ?_)
      · skip
        have hm1 : 2 * m + 1 < s.size := by simp at hc30; omega
        obtain ⟨xa, hxa⟩ : ∃ x, s.data.toList[2 * m]? = some x := ⟨_, List.getElem?_eq_getElem (by rw [hl8]; omega)⟩
        obtain ⟨xb, hxb⟩ : ∃ x, s.data.toList[2 * m + 1]? = some x := ⟨_, List.getElem?_eq_getElem (by rw [hl8]; omega)⟩
        have h0a := hno _ _ (by omega) hxa
        have h0b := hno _ _ (by omega) hxb
        have hda := digit_lt xa
        have hdb := digit_lt xb
        refine wp_skip ?_
        refine then_normal ?_
        refine wp_seq ?_
        refine wp_block ?_
        refine c_ord (blks vb) 16 (by kernel_rfl) ?_
        obtain ⟨w12, hw12⟩ : ∃ x, x = w11.drew := ⟨_, rfl⟩
        rw [← hw12]
        have hE13 : Ext w11 w12 := by rw [hw12]; exact Ext.drew' _
        clear hw12
        replace hS := hS.ext hE13
        have hh_b3 := (hS.blk 1 rfl).lt
        refine k_take 0 H rfl (q_move rfl) rfl (by kernel_rfl) (by kernel_rfl) (by kernel_rfl) (by kernel_rfl) (fun _ _ _ h => h) ?_
        clear H a; intro a H
        refine k_take 1 H rfl (q_move rfl) rfl (by kernel_rfl) (by kernel_rfl) (by kernel_rfl) (by kernel_rfl) (fun _ _ _ h => h) ?_
        clear H a; intro a H
        refine k_take 2 H rfl (q_move rfl) rfl (by kernel_rfl) (by kernel_rfl) (by kernel_rfl) (by kernel_rfl) (fun _ _ _ h => h) ?_
        clear H a; intro a H
        refine k_take 3 H rfl (q_cast (q_indexS Tryd.underlying9 rfl rfl (by omega) (by have := hl8; omega)) (congrArg (Value.int .u8) (strAt hxa _ (by omega) _))) rfl (by kernel_rfl) (by kernel_rfl) (by kernel_rfl) (by kernel_rfl) (fun _ _ _ h => h) ?_
        clear H a; intro a H
        refine k_take 6 H rfl (q_move rfl) rfl (by kernel_rfl) (by kernel_rfl) (by kernel_rfl) (by kernel_rfl) (fun _ _ _ h => h) ?_
        clear H a; intro a H
        refine k_take 7 H rfl (q_move rfl) rfl (by kernel_rfl) (by kernel_rfl) (by kernel_rfl) (by kernel_rfl) (fun _ _ _ h => h) ?_
        clear H a; intro a H
        refine k_take 8 H rfl (q_add rfl rfl (by constructor <;> omega)) rfl (by kernel_rfl) (by kernel_rfl) (by kernel_rfl) (by kernel_rfl) (fun _ _ _ h => h) ?_
        clear H a; intro a H
        refine k_take 9 H rfl (q_cast (q_indexS Tryd.underlying9 rfl rfl (by omega) (by have := hl8; omega)) (congrArg (Value.int .u8) (strAt hxb _ (by omega) _))) rfl (by kernel_rfl) (by kernel_rfl) (by kernel_rfl) (by kernel_rfl) (fun _ _ _ h => h) ?_
        clear H a; intro a H
        refine k_call 4 H rfl rfl en55 (rdigit_w (b := xa)) rfl (by kernel_rfl) (fun v w hv => .inl (ChgF.of_ext hv.2)) ?_
        clear H a; intro v16 w14 hv a H
        obtain ⟨rfl, hE15⟩ := hv
        replace hS := hS.ext hE15
        refine k_take 5 H rfl (q_mul rfl rfl (by constructor <;> omega)) rfl (by kernel_rfl) (by kernel_rfl) (by kernel_rfl) (by kernel_rfl) (fun _ _ _ h => h) ?_
        clear H a; intro a H
        refine k_call 10 H rfl rfl en55 (rdigit_w (b := xb)) rfl (by kernel_rfl) (fun v w hv => .inl (ChgF.of_ext hv.2)) ?_
        clear H a; intro v19 w17 hv a H
        obtain ⟨rfl, hE18⟩ := hv
        replace hS := hS.ext hE18
        refine k_take 11 H rfl (q_add rfl rfl (by constructor <;> omega)) rfl (by kernel_rfl) (by kernel_rfl) (by kernel_rfl) (by kernel_rfl) (fun _ _ _ h => h) ?_
        clear H a; intro a H
        refine k_take 12 H rfl (q_cast (q_convI Tryd.underlying3 Tryd.underlying5 ⟨_, rfl⟩ rfl) (show _ = Value.int .u8 ((byteOf (digitM xa * 16 + digitM xb)).toNat : Int) by rw [wrap8, Int.mul_comm])) rfl (by kernel_rfl) (by kernel_rfl) (by kernel_rfl) (by kernel_rfl) (fun _ _ _ h => h) ?_
        clear H a; intro a H
        refine k_buildSlice 13 H rfl Tryd.underlying23 sz5 ze5 rfl rfl rfl rfl rfl (by kernel_rfl) ?_
        clear H; intro b46 w20 hN hE21 hs_b46; clear a; intro a H
        have hz_b46 := hE21.size
        replace hS := hS.newBlk hN hE21 hs_b46; clear hN hE21
        replace hS := hS.pick 1 rfl
        dsimp only [List.eraseIdx] at hS
        refine k_append 14 H rfl rfl rfl Tryd.underlying23 Tryd.underlying23 (by simp) el5 (hS.own 0 rfl) (show Src _ 1 _ 1 (([byteOf (digitM xa * 16 + digitM xb)] : List UInt8).flatMap eB) from (Own.ofBlk (n := 1) (k := 1) (hS.blk 1 rfl) rfl (by simp [maxLen])).src) (flat_one eB_one _) (by omega) (by simp only [maxLen]; omega) rfl (by kernel_rfl) (.inl (fun b hb _ => hb)) ?_
        clear H; intro v47 w22 hN hC23 hb47 hnil47; clear a; intro a H
        have hz47 := hC23.size
        replace hS := hS.setOwn hN hC23 hb47; clear hN
        refine k_take 15 H rfl (q_assign rfl) rfl (by kernel_rfl) (by kernel_rfl) (by kernel_rfl) (by kernel_rfl) (fun _ _ _ h => h) ?_
        clear H a; intro a H
        refine k_done (by kernel_rfl) ?_
        refine block_normal ?_
        refine then_normal ?_
        refine wp_region_lit ?_
        refine n_q H (q_move rfl) rfl ?_
        clear H a; intro a H
        refine n_q H (q_cast (q_add rfl rfl (by constructor <;> omega)) (show _ = Value.int .i64 ((2 * (m + 1) : Nat) : Int) by congr 1)) rfl ?_
        clear H a; intro a H
        refine n_q H (q_assign rfl) rfl ?_
        clear H a; intro a H
        refine n_nil ?_
        refine then_normal ?_
        replace hS := hS.pick 2 rfl
        dsimp only [List.eraseIdx] at hS
        replace hS := hS.pick 1 rfl
        dsimp only [List.eraseIdx] at hS
        replace hS := hS.take 2
        simp only [List.take_succ_cons, List.take_zero] at hS
        exact round (m + 1, v47) H ⟨rfl, rfl, rfl, rfl, trivial⟩ ⟨by omega, by rw [pairsM_take hxa hxb, List.flatMap_append]; exact hS⟩ (by first | omega | (dsimp only; omega))
      · skip
        have hm2 : 2 * m = s.size := by simp at hc30; omega
        rw [List.take_of_length_le (by omega)] at hS
        refine wp_exit ?_
        refine then_exit ?_
        refine then_exit ?_
        refine block_exit ?_
        refine then_normal ?_
        refine wp_seq ?_
        refine wp_region_lit ?_
        refine n_q H (q_move rfl) rfl ?_
        clear H a; intro a H
        refine n_call H rfl en49 (rNone_w) rfl ?_
        clear H a; intro v26 w24 hv a H
        obtain ⟨rfl, hE25⟩ := hv
        replace hS := hS.ext hE25
        refine n_q H (q_assign rfl) rfl ?_
        clear H a; intro a H
        replace hS := hS.pick 1 rfl
        dsimp only [List.eraseIdx] at hS
        refine n_storeAll H rfl rfl (vs := [.int .i64 0, .int .i64 (-1)]) rfl sz29 (hS.blk 0 rfl) rfl (by simp) ?_
        clear H; intro w27 hN hC28 hz; clear a; intro a H
        replace hS := hS.setBlk hN hC28; clear hN hz
        refine n_nil ?_
        refine then_normal ?_
        refine wp_ret ?_
        have hr3 := (hS.blk 0 rfl)
        replace hS := hS.pick 1 rfl
        dsimp only [List.eraseIdx] at hS
        replace hS := hS.take 1
        simp only [List.take_succ_cons, List.take_zero] at hS
        refine retL H (.inr rfl) rfl (vs := _) (resTmp rfl (resCell rfl (hr3.ldAll ag29 sz29) resNil)) ?_
        rw [show unhexM s.data.toList = (pairsM s.data.toList, .nil) from by unfold unhexM; rw [if_neg (badM_no hno), hl8, if_neg heven]]; exact ⟨_, _, (pairsM_len m _ (by omega)).symm, rfl, hS⟩

set_option maxHeartbeats 2000000 in
theorem rJoin_w {w : World} {v : Value} {xs : List RecM} (h : SlR w 2 (Flat eRec) v xs) (hr : RecsIn w xs) (hbk : bulkR xs ≤ 16777216) : Calls Tryd.prog 8 [v].toArray w (Ret fun r w' => ∃ vb n, n = (joinM (xs.map RecM.key)).out.length ∧ r = .tuple #[vb, eE (joinM (xs.map RecM.key)).err] ∧ St NB w w' [ownR 5 1 vb n ((joinM (xs.map RecM.key)).out.flatMap eB)]) := by
  have hS := St.begin NB w
  obtain ⟨A0, c0, rfl, hl0, hm0, hn0⟩ := h.form
  refine enter Tryd.func8 rfl rfl rfl ?_
  intro a H
  dsimp only [enumL, Nat.zero_add, Nat.reduceAdd] at H
  refine wp_seq ?_
  refine wp_region_lit ?_
  refine n_q H (q_assign rfl) rfl ?_
  clear H a; intro a H
  refine n_alloc H ze29 rfl ?_
  clear H; intro b3 w1 hN hE2 hs_b3; clear a; intro a H
  replace hS := hS.newBlk hN hE2 hs_b3; clear hN hE2
  refine n_nil ?_
  refine then_normal ?_
  refine wp_seq ?_
  refine wp_region_lit ?_
  refine n_call H rfl en43 (rNew_w) rfl ?_
  clear H a; intro v5 w3 hv a H
  obtain ⟨p1, rfl, hE4⟩ := hv
  replace hS := hS.new hE4
  simp only [List.cons_append, List.nil_append] at hS
  refine n_q H (q_assign rfl) rfl ?_
  clear H a; intro a H
  refine n_nil ?_
  refine then_normal ?_
  refine wp_seq ?_
  refine wp_seq ?_
  refine wp_region_lit ?_
  refine n_q H (q_assign rfl) rfl ?_
  clear H a; intro a H
  refine n_nil ?_
  refine then_normal ?_
  refine wp_block ?_
  replace hS := hS.pick 1 rfl
  dsimp only [List.eraseIdx] at hS
  replace hS := hS.pick 1 rfl
  dsimp only [List.eraseIdx] at hS
  refine c_loop (σ := Nat) (fun i => [(0, .slice A0 xs.length c0), (3, .pointer (some ⟨b3, 0, none⟩)), (4, .pointer (some ⟨p1, 0, none⟩)), (5, .int .i64 (i : Nat))]) (fun i wl => i ≤ xs.length ∧ (joinM ((xs.take i).map RecM.key)).buf.length ≤ bulkR (xs.take i) ∧ St NB w wl [rrR p1 (joinM ((xs.take i).map RecM.key)), blkR b3 [.int .i64 0, .int .i64 0] 29]) (fun i => xs.length - i) 0 H ⟨rfl, rfl, rfl, rfl, trivial⟩ ⟨Nat.zero_le _, Nat.le_refl _, hS⟩ ?_
  clear H hS; clear a; intro i a w6 H hR
  simp only [ent, List.map_cons, List.map_nil] at H
  try dsimp only at hR
  obtain ⟨hi, hlb, hS⟩ := hR; try clear hR
  refine wp_seq ?_
  refine wp_seq ?_
  refine wp_region_lit ?_
  refine n_q H (q_move rfl) rfl ?_
  clear H a; intro a H
  refine n_q H (q_move rfl) rfl ?_
  clear H a; intro a H
  refine n_q H (q_lenSl Tryd.underlying22 rfl) rfl ?_
  clear H a; intro a H
  refine n_q H (q_lss rfl rfl) rfl ?_
  clear H a; intro a H
  refine n_nil ?_
  refine then_normal ?_
  refine c_cond H rfl (fun hc10 => ?_) (fun hc10 => ?_)
  · skip
    have hi1 : i < xs.length := by simp at hc10; omega
    obtain ⟨r, hx⟩ := h.at hi1
    obtain ⟨ad0, had⟩ := h.addr hi1
    subst had
    have hxb := hr r (List.mem_of_getElem? hx)
    have hb1 := bulkR_snoc hx
    have hb2 := bulkR_le xs (i + 1)
    have hb3 := record_len (joinM ((xs.take i).map RecM.key)) r.tag r.body
    refine wp_skip ?_
    refine then_normal ?_
    refine wp_seq ?_
    refine wp_block ?_
    refine c_ord [] 11 (by kernel_rfl) ?_
    obtain ⟨w7, hw7⟩ : ∃ x, x = w6.drew := ⟨_, rfl⟩
    rw [← hw7]
    have hE8 : Ext w6 w7 := by rw [hw7]; exact Ext.drew' _
    clear hw7
    replace hS := hS.ext hE8
    refine k_take 0 H rfl (q_move rfl) rfl (by kernel_rfl) (by kernel_rfl) (by kernel_rfl) (by kernel_rfl) (fun _ _ _ h => h) ?_
    clear H a; intro a H
    refine k_takeT 1 H rfl (q_move rfl) rfl (by kernel_rfl) (by kernel_rfl) (by kernel_rfl) (by kernel_rfl) (fun _ _ _ h => h) ?_
    clear H a; intro a H
    refine k_takeT 2 H rfl (q_move rfl) rfl (by kernel_rfl) (by kernel_rfl) (by kernel_rfl) (by kernel_rfl) (fun _ _ _ h => h) ?_
    clear H a; intro a H
    refine k_takeT 3 H rfl (q_indexAddr Tryd.underlying22 sz102 rfl rfl (by omega) (by omega)) rfl (by kernel_rfl) (by kernel_rfl) (by kernel_rfl) (by kernel_rfl) (fun _ _ _ h => h) ?_
    clear H a; intro a H
    refine k_takeT 4 H rfl (q_fieldAddr rfl fo102_0) rfl (by kernel_rfl) (by kernel_rfl) (by kernel_rfl) (by kernel_rfl) (fun _ _ _ h => h) ?_
    clear H a; intro a H
    refine k_take 5 H rfl (q_load rfl (LdC.k0 ((h.ext (Flat.mono _) hS.x).ldCell ag3 hx (j := 0) rfl))) rfl (by kernel_rfl) (by kernel_rfl) (by kernel_rfl) (by kernel_rfl) (fun _ _ _ h => h) ?_
    clear H a; intro a H
    refine k_takeT 6 H rfl (q_move rfl) rfl (by kernel_rfl) (by kernel_rfl) (by kernel_rfl) (by kernel_rfl) (fun _ _ _ h => h) ?_
    clear H a; intro a H
    refine k_takeT 7 H rfl (q_move rfl) rfl (by kernel_rfl) (by kernel_rfl) (by kernel_rfl) (by kernel_rfl) (fun _ _ _ h => h) ?_
    clear H a; intro a H
    refine k_takeT 8 H rfl (q_indexAddr Tryd.underlying22 sz102 rfl rfl (by omega) (by omega)) rfl (by kernel_rfl) (by kernel_rfl) (by kernel_rfl) (by kernel_rfl) (fun _ _ _ h => h) ?_
    clear H a; intro a H
    refine k_takeT 9 H rfl (q_fieldAddr rfl fo102_1) rfl (by kernel_rfl) (by kernel_rfl) (by kernel_rfl) (by kernel_rfl) (fun _ _ _ h => h) ?_
    clear H a; intro a H
    refine k_take 10 H rfl (q_load rfl (LdC.k0 ((h.ext (Flat.mono _) hS.x).ldCell ag23 hx (j := 1) rfl))) rfl (by kernel_rfl) (by kernel_rfl) (by kernel_rfl) (by kernel_rfl) (fun _ _ _ h => h) ?_
    clear H a; intro a H
    obtain ⟨fp24, hG24, hK24, hR24, hF24⟩ := hS.frame1
    refine k_call 11 H rfl rfl en44 (rRecord_w (t := r.tag) (bs := r.body) (fun w' hw => hxb.ext (Flat.mono _) (hK24 _ hw).ext) (by omega) hG24) rfl (by kernel_rfl) (fun v w hv => .inr (by kernel_rfl)) ?_
    clear H a; intro v11 w9 hv a H
    obtain ⟨rfl, hE10⟩ := hv
    replace hS := hF24 _ _ hE10
    simp only [List.cons_append, List.nil_append] at hS
    clear hG24 hK24 hR24 hF24
    refine k_done (by kernel_rfl) ?_
    refine block_normal ?_
    refine then_normal ?_
    refine wp_region_lit ?_
    refine n_q H (q_move rfl) rfl ?_
    clear H a; intro a H
    refine n_q H (q_add rfl rfl (by constructor <;> omega)) rfl ?_
    clear H a; intro a H
    refine n_q H (q_assign rfl) rfl ?_
    clear H a; intro a H
    refine n_nil ?_
    refine then_normal ?_
    replace hS := hS.pick 1 rfl
    dsimp only [List.eraseIdx] at hS
    replace hS := hS.pick 1 rfl
    dsimp only [List.eraseIdx] at hS
    exact round (i + 1) H ⟨rfl, rfl, rfl, rfl, trivial⟩ ⟨by omega, by rw [joinM_snoc hx]; omega, by rw [joinM_snoc hx]; exact hS⟩ (by first | omega | (dsimp only; omega))
  · skip
    obtain rfl : i = xs.length := by simp at hc10; omega
    have hb2 := bulkR_le xs xs.length
    rw [List.take_length] at hS hlb hb2
    refine wp_exit ?_
    refine then_exit ?_
    refine then_exit ?_
    refine block_exit ?_
    refine then_normal ?_
    refine wp_seq ?_
    refine wp_region_lit ?_
    refine n_q H (q_move rfl) rfl ?_
    clear H a; intro a H
    obtain ⟨fp26, hG26, hK26, hR26, hF26⟩ := hS.frame1
    refine n_call H rfl en45 (rDone_w (by omega) hG26) rfl ?_
    clear H a; intro v14 w12 hv a H
    obtain ⟨v26, rfl, hE13⟩ := hv
    replace hS := hF26 _ _ hE13
    simp only [List.cons_append, List.nil_append] at hS
    clear hG26 hK26 hR26 hF26
    refine n_q H (q_extract rfl rfl) rfl ?_
    clear H a; intro a H
    refine n_q H (q_extract rfl rfl) rfl ?_
    clear H a; intro a H
    refine n_q H (q_assign rfl) rfl ?_
    clear H a; intro a H
    replace hS := hS.pick 2 rfl
    dsimp only [List.eraseIdx] at hS
    refine n_storeAll H rfl rfl (vs := [.int .i64 (joinM (xs.map RecM.key)).err.code, .int .i64 (joinM (xs.map RecM.key)).err.place]) rfl sz29 (hS.blk 0 rfl) rfl (by simp [Value.oneCell']) ?_
    clear H; intro w15 hN hC16 hz; clear a; intro a H
    replace hS := hS.setBlk hN hC16; clear hN hz
    refine n_nil ?_
    refine then_normal ?_
    refine wp_ret ?_
    have hr3 := (hS.blk 0 rfl)
    replace hS := hS.pick 2 rfl
    dsimp only [List.eraseIdx] at hS
    replace hS := hS.take 1
    simp only [List.take_succ_cons, List.take_zero] at hS
    refine retL H (.inr rfl) rfl (vs := _) (resTmp rfl (resCell rfl (hr3.ldAll ag29 sz29) resNil)) ?_
    exact ⟨_, _, rfl, rfl, hS⟩

set_option maxHeartbeats 2000000 in
theorem rSplit_w {w : World} {v : Value} {bs : List UInt8} (hb : ∀ w', Ext w w' → SlR w' 1 (Flat eB) v bs) (hz : bs.length ≤ 16777216) : Calls Tryd.prog 12 [v].toArray w (Ret fun r w' => ∃ vo ys n er, n = ys.length ∧ (ys.map RecM.key, er) = splitM bs ∧ r = .tuple #[vo, eE er] ∧ St NB w w' [ownR 102 2 vo n (ys.flatMap eRec), anyR (fun w' => RecsIn w' ys)]) := by
  have hS := St.begin NB w
  obtain ⟨A9, c9, hv9, hl9, hm9, hn9⟩ := (hb w Ext.rfl').form
  subst hv9
  refine enter Tryd.func12 rfl rfl rfl ?_
  intro a H
  dsimp only [enumL, Nat.zero_add, Nat.reduceAdd] at H
  refine wp_seq ?_
  refine wp_region_lit ?_
  refine n_q H (q_assign rfl) rfl ?_
  clear H a; intro a H
  refine n_alloc H ze29 rfl ?_
  clear H; intro b3 w1 hN hE2 hs_b3; clear a; intro a H
  replace hS := hS.newBlk hN hE2 hs_b3; clear hN hE2
  refine n_nil ?_
  refine then_normal ?_
  refine wp_seq ?_
  refine wp_region_lit ?_
  refine n_q H (q_move rfl) rfl ?_
  clear H a; intro a H
  refine n_call H rfl en46 (rOpen_w (bs := bs) (fun w' e => hb w' (Ext.trans' hS.x e)) (by omega)) rfl ?_
  clear H a; intro v5 w3 hv a H
  obtain ⟨q1, v2, n2, rfl, hn2, hE4⟩ := hv
  replace hS := hS.new hE4
  simp only [List.cons_append, List.nil_append] at hS
  refine n_q H (q_assign rfl) rfl ?_
  clear H a; intro a H
  refine n_nil ?_
  refine then_normal ?_
  refine wp_seq ?_
  refine wp_region_lit ?_
  refine n_q H (q_assign rfl) rfl ?_
  clear H a; intro a H
  refine n_nil ?_
  refine then_normal ?_
  refine wp_seq ?_
  refine wp_block ?_
  replace hS := hS.trivAny (F := fun w' => RecsIn w' []) (fun w' => RecsIn.nil w')
  replace hS := hS.nilOwn 102 2
  replace hS := hS.pick 4 rfl
  dsimp only [List.eraseIdx] at hS
  replace hS := hS.pick 2 rfl
  dsimp only [List.eraseIdx] at hS
  replace hS := hS.pick 2 rfl
  dsimp only [List.eraseIdx] at hS
  replace hS := hS.pick 4 rfl
  dsimp only [List.eraseIdx] at hS
  replace hS := hS.pick 4 rfl
  dsimp only [List.eraseIdx] at hS
  refine c_loop (σ := Nat × Value × List RecM) (fun (ca, vb, ys) => [(0, .slice A9 bs.length c9), (3, .pointer (some ⟨b3, 0, none⟩)), (4, .pointer (some ⟨q1, 0, none⟩)), (5, vb)]) (fun (ca, vb, ys) wl => (ca ≤ bs.length ∧ ys.length ≤ ca ∧ ∃ f, bs.length - ca < f ∧ splitM bs = splitF bs f ca (ys.map RecM.key)) ∧ St NB w wl [rcR q1 v2 ca bs.length, ownR 5 1 v2 n2 (bs.flatMap eB), ownR 102 2 vb ys.length (ys.flatMap eRec), anyR (fun w' => RecsIn w' ys), blkR b3 [.int .i64 0, .int .i64 0] 29]) (fun (ca, vb, ys) => bs.length - ca) (0, .slice none 0 0, []) H ⟨rfl, rfl, rfl, rfl, trivial⟩ ⟨⟨Nat.zero_le _, Nat.le_refl _, _, Nat.lt_succ_self _, rfl⟩, hS⟩ ?_
  clear H hS; clear a; intro xx a w6 H hR
  obtain ⟨ca, vb, ys⟩ := xx
  simp only [ent, List.map_cons, List.map_nil] at H
  try dsimp only at hR
  obtain ⟨⟨ha, hya, f, hf, hsp⟩, hS⟩ := hR; try clear hR
  refine wp_seq ?_
  refine wp_seq ?_
  refine wp_region_lit ?_
  refine n_q H (q_move rfl) rfl ?_
  clear H a; intro a H
  refine n_call H rfl en47 (rLeft_w ha (by omega) (hS.blk 0 rfl)) rfl ?_
  clear H a; intro v9 w7 hv a H
  obtain ⟨rfl, hE8⟩ := hv
  replace hS := hS.ext hE8
  refine n_q H (q_gtr rfl rfl) rfl ?_
  clear H a; intro a H
  refine n_nil ?_
  refine then_normal ?_
  refine c_cond H rfl (fun hc13 => ?_) (fun hc13 => ?_)
  · skip
    have ha2 : ca < bs.length := by simp at hc13; omega
    refine wp_skip ?_
    refine then_normal ?_
    refine wp_block ?_
    refine wp_seq ?_
    refine wp_region_lit ?_
    refine n_q H (q_move rfl) rfl ?_
    clear H a; intro a H
    obtain ⟨fp16, hG16, hK16, hR16, hF16⟩ := hS.frame1
    refine n_call H rfl en48 (rNext_w (fun w' hw => (restOwn (hR16 0 _ rfl _ hw)).slB hn2) ha (Nat.le_refl _) (by omega) hG16) rfl ?_
    clear H a; intro v12 w10 hv a H
    obtain ⟨q16, rfl, hE11⟩ := hv
    replace hS := hF16 _ _ hE11
    simp only [List.cons_append, List.nil_append] at hS
    clear hG16 hK16 hR16 hF16
    refine n_q H (q_move rfl) rfl ?_
    clear H a; intro a H
    refine n_q H (q_extract rfl rfl) rfl ?_
    clear H a; intro a H
    refine n_q H (q_extract rfl rfl) rfl ?_
    clear H a; intro a H
    refine n_q H (q_extract rfl rfl) rfl ?_
    clear H a; intro a H
    refine n_alloc H ze29 rfl ?_
    clear H; intro b8 w13 hN hE14 hs_b8; clear a; intro a H
    replace hS := hS.newBlk hN hE14 hs_b8; clear hN hE14
    refine n_q H (q_assign rfl) rfl ?_
    clear H a; intro a H
    refine n_q H (q_assign rfl) rfl ?_
    clear H a; intro a H
    refine n_storeAll H rfl rfl (vs := [.int .i64 (nextM bs ca bs.length).2.2.1.code, .int .i64 (nextM bs ca bs.length).2.2.1.place]) rfl sz29 (hS.blk 0 rfl) rfl (by simp [Value.oneCell']) ?_
    clear H; intro w15 hN hC16 hz; clear a; intro a H
    replace hS := hS.setBlk hN hC16; clear hN hz
    refine n_nil ?_
    refine then_normal ?_
    refine wp_seq ?_
    refine wp_seq ?_
    refine wp_region_lit ?_
    refine n_q H (q_fieldAddr0 rfl fo29_0) rfl ?_
    clear H a; intro a H
    refine n_q H (q_load rfl ((hS.blk 0 rfl).ld ag3 rfl)) rfl ?_
    clear H a; intro a H
    refine n_q H (q_neq rfl rfl) rfl ?_
    clear H a; intro a H
    refine n_nil ?_
    refine then_normal ?_
    refine c_cond H rfl (fun hc22 => ?_) (fun hc22 => ?_)
    · skip
      have hne : (nextM bs ca bs.length).2.2.1 ≠ .nil := by rw [code_nil] at hc22; simpa using hc22
      have hq : (nextM bs ca bs.length).2.1 = none := by
        rcases nextM_form ha (Nat.le_refl _) with h | ⟨x, _, he, _⟩
        · exact h.1
        · exact absurd he hne
      refine wp_seq ?_
      refine c_ord [] 2 (by kernel_rfl) ?_
      obtain ⟨w17, hw17⟩ : ∃ x, x = w15.drew := ⟨_, rfl⟩
      rw [← hw17]
      have hE18 : Ext w15 w17 := by rw [hw17]; exact Ext.drew' _
      clear hw17
      replace hS := hS.ext hE18
      refine k_take 0 H rfl (q_load rfl (LdC.k0 ((hS.blk 0 rfl).ldAll ag29 sz29))) rfl (by kernel_rfl) (by kernel_rfl) (by kernel_rfl) (by kernel_rfl) (fun _ _ _ h => h) ?_
      clear H a; intro a H
      refine k_take 1 H rfl (q_assign rfl) rfl (by kernel_rfl) (by kernel_rfl) (by kernel_rfl) (by kernel_rfl) (fun _ _ _ h => h) ?_
      clear H a; intro a H
      replace hS := hS.pick 6 rfl
      dsimp only [List.eraseIdx] at hS
      refine k_storeAll 2 H rfl rfl rfl (vs := [.int .i64 (nextM bs ca bs.length).2.2.1.code, .int .i64 (nextM bs ca bs.length).2.2.1.place]) rfl sz29 (hS.blk 0 rfl) rfl (by simp [Value.oneCell']) (by kernel_rfl) (.inr (by kernel_rfl)) ?_
      clear H; intro w19 hN hC20 hz; clear a; intro a H
      replace hS := hS.setBlk hN hC20; clear hN hz
      refine k_done (by kernel_rfl) ?_
      refine then_normal ?_
      refine wp_ret ?_
      refine then_ret ?_
      refine block_ret ?_
      refine then_ret ?_
      refine block_ret ?_
      refine then_ret ?_
      have hr3 := (hS.blk 0 rfl)
      replace hS := hS.trivAny (F := fun w' => RecsIn w' []) (fun w' => RecsIn.nil w')
      replace hS := hS.nilOwn 102 2
      replace hS := hS.pick 1 rfl
      dsimp only [List.eraseIdx] at hS
      replace hS := hS.pick 1 rfl
      dsimp only [List.eraseIdx] at hS
      replace hS := hS.take 2
      simp only [List.take_succ_cons, List.take_zero] at hS
      refine retL H (.inr rfl) rfl (vs := _) (resTmp rfl (resCell rfl (hr3.ldAll ag29 sz29) resNil)) ?_
      exact ⟨_, [], _, _, rfl, by rw [hsp]; obtain ⟨f, rfl⟩ : ∃ g, f = g + 1 := ⟨f - 1, by omega⟩; rw [splitF, if_neg (by omega), hq]; rfl, rfl, hS⟩
    · skip
      have he : (nextM bs ca bs.length).2.2.1 = .nil := by rw [code_nil] at hc22; simpa using hc22
      obtain ⟨x, hq, hx0, hx1⟩ : ∃ x, (nextM bs ca bs.length).2.1 = some x ∧ (nextM bs ca bs.length).2.2.2 = x.2 ∧ (x.1 ≤ x.2 ∧ x.2 ≤ bs.length ∧ ca < x.2) := by
        rcases nextM_form ha (Nat.le_refl _) with h | ⟨x, h1, _, h2, h3⟩
        · exact absurd he h.2
        · exact ⟨x, h1, h2, h3⟩
      replace hS := hS.pick 2 rfl
      dsimp only [List.eraseIdx] at hS
      rw [hq] at hS
      obtain ⟨bq, hq16, hS3⟩ := hS.rnGet
      replace hS := hS3
      clear hS3
      subst hq16
      obtain ⟨A1, c1, hV, hsub⟩ := sub_sl 1 (Flat eB) A9 bs.length c9 bs (lo := (x.1 : Int)) (hi := (x.2 : Int)) (by omega) (by omega) (by omega)
      simp only [Int.toNat_natCast] at hV hsub
      refine wp_skip ?_
      refine then_normal ?_
      refine c_ord (blks vb) 18 (by kernel_rfl) ?_
      obtain ⟨w21, hw21⟩ : ∃ x, x = w15.drew := ⟨_, rfl⟩
      rw [← hw21]
      have hE22 : Ext w15 w21 := by rw [hw21]; exact Ext.drew' _
      clear hw21
      replace hS := hS.ext hE22
      have hh_bq := (hS.blk 0 rfl).lt
      have hh_b8 := (hS.blk 1 rfl).lt
      have hh_q1 := (hS.blk 2 rfl).lt
      have hh_b3 := (hS.blk 6 rfl).lt
      have hnbq : bq ∉ blks vb := hS.neOwn (by decide : (0 : Nat) ≠ 4) rfl rfl
      refine k_take 0 H rfl (q_move rfl) rfl (by kernel_rfl) (by kernel_rfl) (by kernel_rfl) (by kernel_rfl) (fun _ _ _ h => h) ?_
      clear H a; intro a H
      refine k_take 1 H rfl (q_move rfl) rfl (by kernel_rfl) (by kernel_rfl) (by kernel_rfl) (by kernel_rfl) (fun _ _ _ h => h) ?_
      clear H a; intro a H
      refine k_take 3 H rfl (q_move rfl) rfl (by kernel_rfl) (by kernel_rfl) (by kernel_rfl) (by kernel_rfl) (fun _ _ _ h => h) ?_
      clear H a; intro a H
      refine k_take 4 H rfl (q_move rfl) rfl (by kernel_rfl) (by kernel_rfl) (by kernel_rfl) (by kernel_rfl) (fun _ _ _ h => h) ?_
      clear H a; intro a H
      refine k_take 5 H rfl (q_nilCheck rfl) rfl (by kernel_rfl) (by kernel_rfl) (by kernel_rfl) (by kernel_rfl) (fun _ _ _ h => h) ?_
      clear H a; intro a H
      refine k_take 6 H rfl (q_fieldAddr0 rfl fo109_1) rfl (by kernel_rfl) (by kernel_rfl) (by kernel_rfl) (by kernel_rfl) (fun _ _ _ h => h) ?_
      clear H a; intro a H
      refine k_take 7 H rfl (q_load rfl ((hS.blk 0 rfl).ldB hh_bq hnbq ag3 rfl)) rfl (by kernel_rfl) (by kernel_rfl) (by kernel_rfl) (by kernel_rfl) (fun _ _ _ h => h) ?_
      clear H a; intro a H
      refine k_take 8 H rfl (q_move rfl) rfl (by kernel_rfl) (by kernel_rfl) (by kernel_rfl) (by kernel_rfl) (fun _ _ _ h => h) ?_
      clear H a; intro a H
      refine k_take 9 H rfl (q_nilCheck rfl) rfl (by kernel_rfl) (by kernel_rfl) (by kernel_rfl) (by kernel_rfl) (fun _ _ _ h => h) ?_
      clear H a; intro a H
      refine k_take 10 H rfl (q_fieldAddr0 rfl fo109_2) rfl (by kernel_rfl) (by kernel_rfl) (by kernel_rfl) (by kernel_rfl) (fun _ _ _ h => h) ?_
      clear H a; intro a H
      refine k_take 11 H rfl (q_load rfl ((hS.blk 0 rfl).ldB hh_bq hnbq ag3 rfl)) rfl (by kernel_rfl) (by kernel_rfl) (by kernel_rfl) (by kernel_rfl) (fun _ _ _ h => h) ?_
      clear H a; intro a H
      refine k_take 12 H rfl (q_cast (q_slice (A := A9) (n := bs.length) (c := c9) Tryd.underlying23 sz5 rfl rfl rfl (by omega) (by omega) (by omega)) (by simp only [Int.toNat_natCast]; exact hV)) rfl (by kernel_rfl) (by kernel_rfl) (by kernel_rfl) (by kernel_rfl) (fun _ _ _ h => h) ?_
      clear H a; intro a H
      refine k_buildSlice 2 H rfl Tryd.underlying23 sz5 ze5 rfl rfl rfl (cs := []) (by kernel_rfl) rfl (by kernel_rfl) ?_
      clear H; intro b26 w23 hN hE24 hs_b26; clear a; intro a H
      have hz_b26 := hE24.size
      replace hS := hS.newBlk hN hE24 hs_b26; clear hN hE24
      replace hS := hS.blkOwn 0 1 (by simp) (by simp [maxLen])
      refine k_append 13 H rfl rfl rfl Tryd.underlying23 Tryd.underlying23 (by simp) el5 (hS.own 0 rfl) ((hsub _ (hb _ hS.x)).srcB') (flat_one eB_one _) (by rw [List.length_take, List.length_drop]; omega) (by rw [List.length_take, List.length_drop]; simp only [maxLen]; omega) rfl (by kernel_rfl) (.inl (by simp [blks]; omega)) ?_
      clear H; intro v37 w25 hN hC26 hb37 hnil37; clear a; intro a H
      have hz37 := hC26.size
      replace hS := hS.setOwn hN hC26 hb37; clear hN
      simp only [Nat.zero_add, List.nil_append] at hS
      obtain ⟨A37, c37, hv37, _⟩ := (hS.own 0 rfl).form
      subst hv37
      refine k_take 14 H rfl (q_build (cs := [.int .i64 (nextM bs ca bs.length).1, .slice A37 ((bs.drop x.1).take (x.2 - x.1)).length c37]) ze102 bd102 pl102 rfl (by kernel_rfl)) rfl (by kernel_rfl) (by kernel_rfl) (by kernel_rfl) (by kernel_rfl) (fun _ _ _ h => h) ?_
      clear H a; intro a H
      refine k_buildSlice 15 H rfl Tryd.underlying22 sz102 ze102 rfl rfl rfl (cs := [.int .i64 (nextM bs ca bs.length).1, .slice A37 ((bs.drop x.1).take (x.2 - x.1)).length c37]) (by kernel_rfl) rfl (by kernel_rfl) ?_
      clear H; intro b39 w27 hN hE28 hs_b39; clear a; intro a H
      have hz_b39 := hE28.size
      replace hS := hS.newBlk hN hE28 hs_b39; clear hN hE28
      replace hS := hS.pick 6 rfl
      dsimp only [List.eraseIdx] at hS
      refine k_append 16 H rfl rfl rfl Tryd.underlying22 Tryd.underlying22 (by simp) el102 (hS.own 0 rfl) (show Src _ 2 _ 1 (([⟨(nextM bs ca bs.length).1, .slice A37 ((bs.drop x.1).take (x.2 - x.1)).length c37, ((bs.drop x.1).take (x.2 - x.1))⟩] : List RecM).flatMap eRec) from (Own.ofBlk (n := 1) (k := 2) (hS.blk 1 rfl) rfl (by simp [maxLen])).src) (by simp [eRec, Value.oneCell']) (by omega) (by simp only [maxLen]; omega) rfl (by kernel_rfl) (.inl (fun b hb _ => hb)) ?_
      clear H; intro v40 w29 hN hC30 hb40 hnil40; clear a; intro a H
      have hz40 := hC30.size
      replace hS := hS.setOwn hN hC30 hb40; clear hN
      rw [← List.flatMap_append] at hS
      refine k_take 17 H rfl (q_assign rfl) rfl (by kernel_rfl) (by kernel_rfl) (by kernel_rfl) (by kernel_rfl) (fun _ _ _ h => h) ?_
      clear H a; intro a H
      refine k_done (by kernel_rfl) ?_
      refine block_normal ?_
      refine then_normal ?_
      replace hS := hS.pick 8 rfl
      dsimp only [List.eraseIdx] at hS
      replace hS := hS.pick 7 rfl
      dsimp only [List.eraseIdx] at hS
      replace hS := hS.pick 7 rfl
      dsimp only [List.eraseIdx] at hS
      replace hS := hS.pick 3 rfl
      dsimp only [List.eraseIdx] at hS
      replace hS := hS.pick 8 rfl
      dsimp only [List.eraseIdx] at hS
      replace hS := hS.pick 6 rfl
      dsimp only [List.eraseIdx] at hS
      replace hS := hS.take 6
      simp only [List.take_succ_cons, List.take_zero] at hS
      replace hS := St.recAdd (r := ⟨(nextM bs ca bs.length).1, .slice A37 ((bs.drop x.1).take (x.2 - x.1)).length c37, ((bs.drop x.1).take (x.2 - x.1))⟩) hS rfl
      replace hS := hS.pick 4 rfl
      dsimp only [List.eraseIdx] at hS
      replace hS := hS.pick 1 rfl
      dsimp only [List.eraseIdx] at hS
      replace hS := hS.pick 2 rfl
      dsimp only [List.eraseIdx] at hS
      replace hS := hS.pick 4 rfl
      dsimp only [List.eraseIdx] at hS
      replace hS := hS.pick 4 rfl
      dsimp only [List.eraseIdx] at hS
      exact round (x.2, v40, ys ++ [⟨(nextM bs ca bs.length).1, .slice A37 ((bs.drop x.1).take (x.2 - x.1)).length c37, ((bs.drop x.1).take (x.2 - x.1))⟩]) H ⟨rfl, rfl, rfl, rfl, trivial⟩ ⟨⟨hx1.2.1, by simp; omega, f - 1, by omega, by rw [hsp]; obtain ⟨f, rfl⟩ : ∃ g, f = g + 1 := ⟨f - 1, by omega⟩; rw [splitF, if_neg (by omega), hq]; simp [he, hx0, RecM.key]⟩, by simpa [hx0] using hS⟩ (by first | omega | (dsimp only; omega))
  · skip
    have ha2 : bs.length ≤ ca := by simp at hc13; omega
    refine wp_exit ?_
    refine then_exit ?_
    refine then_exit ?_
    refine block_exit ?_
    refine then_normal ?_
    refine wp_seq ?_
    refine wp_region_lit ?_
    refine n_q H (q_move rfl) rfl ?_
    clear H a; intro a H
    refine n_call H rfl en49 (rNone_w) rfl ?_
    clear H a; intro v33 w31 hv a H
    obtain ⟨rfl, hE32⟩ := hv
    replace hS := hS.ext hE32
    refine n_q H (q_assign rfl) rfl ?_
    clear H a; intro a H
    replace hS := hS.pick 4 rfl
    dsimp only [List.eraseIdx] at hS
    refine n_storeAll H rfl rfl (vs := [.int .i64 0, .int .i64 (-1)]) rfl sz29 (hS.blk 0 rfl) rfl (by simp) ?_
    clear H; intro w34 hN hC35 hz; clear a; intro a H
    replace hS := hS.setBlk hN hC35; clear hN hz
    refine n_nil ?_
    refine then_normal ?_
    refine wp_ret ?_
    have hr3 := (hS.blk 0 rfl)
    replace hS := hS.pick 4 rfl
    dsimp only [List.eraseIdx] at hS
    replace hS := hS.pick 4 rfl
    dsimp only [List.eraseIdx] at hS
    replace hS := hS.take 2
    simp only [List.take_succ_cons, List.take_zero] at hS
    refine retL H (.inr rfl) rfl (vs := _) (resTmp rfl (resCell rfl (hr3.ldAll ag29 sz29) resNil)) ?_
    exact ⟨_, ys, _, .nil, rfl, by rw [hsp]; obtain ⟨f, rfl⟩ : ∃ g, f = g + 1 := ⟨f - 1, by omega⟩; rw [splitF, if_pos ha2], rfl, hS⟩

set_option maxHeartbeats 2000000 in
theorem rExpect_w {w : World} {v vt : Value} {bs : List UInt8} {tags : List Int} (hb : ∀ w', Ext w w' → SlR w' 1 (Flat eB) v bs) (ht : SlR w 1 (Flat eI) vt tags) (hz : bs.length ≤ 16777216) (htl : tags.length ≤ 16777216) : Calls Tryd.prog 15 [v, vt].toArray w (Ret fun r w' => ∃ vo ys n er, n = ys.length ∧ (ys.map RecM.body, er) = expM bs tags ∧ r = .tuple #[vo, eE er] ∧ St NB w w' [ownR 23 1 vo n (ys.flatMap eBod), anyR (fun w' => RecsIn w' ys)]) := by
  have hS := St.begin NB w
  obtain ⟨A9, c9, hv9, hl9, hm9, hn9⟩ := (hb w Ext.rfl').form
  subst hv9
  obtain ⟨AT, cT, rfl, hlT, hmT, hnT⟩ := ht.form
  refine enter Tryd.func15 rfl rfl rfl ?_
  intro a H
  dsimp only [enumL, Nat.zero_add, Nat.reduceAdd] at H
  refine wp_seq ?_
  refine wp_region_lit ?_
  refine n_q H (q_assign rfl) rfl ?_
  clear H a; intro a H
  refine n_alloc H ze29 rfl ?_
  clear H; intro b5 w1 hN hE2 hs_b5; clear a; intro a H
  replace hS := hS.newBlk hN hE2 hs_b5; clear hN hE2
  refine n_nil ?_
  refine then_normal ?_
  refine wp_seq ?_
  refine wp_region_lit ?_
  refine n_q H (q_move rfl) rfl ?_
  clear H a; intro a H
  refine n_call H rfl en46 (rOpen_w (bs := bs) (fun w' e => hb w' (Ext.trans' hS.x e)) (by omega)) rfl ?_
  clear H a; intro v5 w3 hv a H
  obtain ⟨q1, v2, n2, rfl, hn2, hE4⟩ := hv
  replace hS := hS.new hE4
  simp only [List.cons_append, List.nil_append] at hS
  refine n_q H (q_assign rfl) rfl ?_
  clear H a; intro a H
  refine n_nil ?_
  refine then_normal ?_
  refine wp_seq ?_
  refine wp_region_lit ?_
  refine n_q H (q_assign rfl) rfl ?_
  clear H a; intro a H
  refine n_nil ?_
  refine then_normal ?_
  refine wp_seq ?_
  refine wp_seq ?_
  refine wp_region_lit ?_
  refine n_q H (q_assign rfl) rfl ?_
  clear H a; intro a H
  refine n_nil ?_
  refine then_normal ?_
  refine wp_block ?_
  replace hS := hS.trivAny (F := fun w' => RecsIn w' []) (fun w' => RecsIn.nil w')
  replace hS := hS.nilOwn 23 1
  replace hS := hS.pick 4 rfl
  dsimp only [List.eraseIdx] at hS
  replace hS := hS.pick 2 rfl
  dsimp only [List.eraseIdx] at hS
  replace hS := hS.pick 2 rfl
  dsimp only [List.eraseIdx] at hS
  replace hS := hS.pick 4 rfl
  dsimp only [List.eraseIdx] at hS
  replace hS := hS.pick 4 rfl
  dsimp only [List.eraseIdx] at hS
  refine c_loop (σ := Nat × Nat × Value × List RecM) (fun (i, ca, vb, ys) => [(0, .slice A9 bs.length c9), (1, .slice AT tags.length cT), (5, .pointer (some ⟨b5, 0, none⟩)), (6, .pointer (some ⟨q1, 0, none⟩)), (7, vb), (8, .int .i64 (i : Nat))]) (fun (i, ca, vb, ys) wl => (i ≤ tags.length ∧ ca ≤ bs.length ∧ ys.length = i ∧ expM bs tags = expF bs (tags.drop i) ca (ys.map RecM.body)) ∧ St NB w wl [rcR q1 v2 ca bs.length, ownR 5 1 v2 n2 (bs.flatMap eB), ownR 23 1 vb i (ys.flatMap eBod), anyR (fun w' => RecsIn w' ys), blkR b5 [.int .i64 0, .int .i64 0] 29]) (fun (i, ca, vb, ys) => tags.length - i) (0, 0, .slice none 0 0, []) H ⟨rfl, rfl, rfl, rfl, rfl, rfl, trivial⟩ ⟨⟨Nat.zero_le _, Nat.zero_le _, rfl, rfl⟩, hS⟩ ?_
  clear H hS; clear a; intro xx a w6 H hR
  obtain ⟨i, ca, vb, ys⟩ := xx
  simp only [ent, List.map_cons, List.map_nil] at H
  try dsimp only at hR
  obtain ⟨⟨hi, ha, hyl, hex⟩, hS⟩ := hR; try clear hR
  refine wp_seq ?_
  refine wp_seq ?_
  refine wp_region_lit ?_
  refine n_q H (q_move rfl) rfl ?_
  clear H a; intro a H
  refine n_q H (q_move rfl) rfl ?_
  clear H a; intro a H
  refine n_q H (q_lenSl Tryd.underlying24 rfl) rfl ?_
  clear H a; intro a H
  refine n_q H (q_lss rfl rfl) rfl ?_
  clear H a; intro a H
  refine n_nil ?_
  refine then_normal ?_
  refine c_cond H rfl (fun hc17 => ?_) (fun hc17 => ?_)
  · skip
    have hi1 : i < tags.length := by simp at hc17; omega
    obtain ⟨tg, hx⟩ := ht.at hi1
    obtain ⟨ad0, had⟩ := ht.addr hi1
    subst had
    refine wp_skip ?_
    refine then_normal ?_
    refine wp_seq ?_
    refine wp_block ?_
    refine wp_seq ?_
    refine wp_region_lit ?_
    refine n_q H (q_move rfl) rfl ?_
    clear H a; intro a H
    refine n_q H (q_move rfl) rfl ?_
    clear H a; intro a H
    refine n_q H (q_move rfl) rfl ?_
    clear H a; intro a H
    refine n_q H (q_indexAddr Tryd.underlying24 sz3 rfl rfl (by omega) (by omega)) rfl ?_
    clear H a; intro a H
    refine n_q H (q_load rfl (LdX.ext ((ht.ldOne ag3 hx rfl)) hS.x)) rfl ?_
    clear H a; intro a H
    obtain ⟨fp26, hG26, hK26, hR26, hF26⟩ := hS.frame1
    refine n_call H rfl en52 (rRecordC_w (t := tg) (fun w' hw => (restOwn (hR26 0 _ rfl _ hw)).slB hn2) ha (Nat.le_refl _) (by omega) hG26) rfl ?_
    clear H a; intro v9 w7 hv a H
    obtain ⟨q26, rfl, hE8⟩ := hv
    replace hS := hF26 _ _ hE8
    simp only [List.cons_append, List.nil_append] at hS
    clear hG26 hK26 hR26 hF26
    refine n_q H (q_move rfl) rfl ?_
    clear H a; intro a H
    refine n_q H (q_extract rfl rfl) rfl ?_
    clear H a; intro a H
    refine n_q H (q_extract rfl rfl) rfl ?_
    clear H a; intro a H
    refine n_alloc H ze29 rfl ?_
    clear H; intro b10 w10 hN hE11 hs_b10; clear a; intro a H
    replace hS := hS.newBlk hN hE11 hs_b10; clear hN hE11
    refine n_q H (q_assign rfl) rfl ?_
    clear H a; intro a H
    refine n_storeAll H rfl rfl (vs := [.int .i64 (recordM bs ca bs.length tg).2.1.code, .int .i64 (recordM bs ca bs.length tg).2.1.place]) rfl sz29 (hS.blk 0 rfl) rfl (by simp [Value.oneCell']) ?_
    clear H; intro w12 hN hC13 hz; clear a; intro a H
    replace hS := hS.setBlk hN hC13; clear hN hz
    refine n_nil ?_
    refine then_normal ?_
    refine wp_seq ?_
    refine wp_seq ?_
    refine wp_region_lit ?_
    refine n_q H (q_fieldAddr0 rfl fo29_0) rfl ?_
    clear H a; intro a H
    refine n_q H (q_load rfl ((hS.blk 0 rfl).ld ag3 rfl)) rfl ?_
    clear H a; intro a H
    refine n_q H (q_neq rfl rfl) rfl ?_
    clear H a; intro a H
    refine n_nil ?_
    refine then_normal ?_
    refine c_cond H rfl (fun hc31 => ?_) (fun hc31 => ?_)
    · skip
      have hne : (recordM bs ca bs.length tg).2.1 ≠ .nil := by rw [code_nil] at hc31; simpa using hc31
      have hq : (recordM bs ca bs.length tg).1 = none := by
        rcases recordM_form2 (t := tg) ha (Nat.le_refl _) with h | ⟨x, _, he, _⟩
        · exact h.1
        · exact absurd he hne
      refine wp_seq ?_
      refine c_ord [] 2 (by kernel_rfl) ?_
      obtain ⟨w14, hw14⟩ : ∃ x, x = w12.drew := ⟨_, rfl⟩
      rw [← hw14]
      have hE15 : Ext w12 w14 := by rw [hw14]; exact Ext.drew' _
      clear hw14
      replace hS := hS.ext hE15
      refine k_take 0 H rfl (q_load rfl (LdC.k0 ((hS.blk 0 rfl).ldAll ag29 sz29))) rfl (by kernel_rfl) (by kernel_rfl) (by kernel_rfl) (by kernel_rfl) (fun _ _ _ h => h) ?_
      clear H a; intro a H
      refine k_take 1 H rfl (q_assign rfl) rfl (by kernel_rfl) (by kernel_rfl) (by kernel_rfl) (by kernel_rfl) (fun _ _ _ h => h) ?_
      clear H a; intro a H
      replace hS := hS.pick 6 rfl
      dsimp only [List.eraseIdx] at hS
      refine k_storeAll 2 H rfl rfl rfl (vs := [.int .i64 (recordM bs ca bs.length tg).2.1.code, .int .i64 (recordM bs ca bs.length tg).2.1.place]) rfl sz29 (hS.blk 0 rfl) rfl (by simp [Value.oneCell']) (by kernel_rfl) (.inr (by kernel_rfl)) ?_
      clear H; intro w16 hN hC17 hz; clear a; intro a H
      replace hS := hS.setBlk hN hC17; clear hN hz
      refine k_done (by kernel_rfl) ?_
      refine then_normal ?_
      refine wp_ret ?_
      refine then_ret ?_
      refine block_ret ?_
      refine then_ret ?_
      refine then_ret ?_
      refine block_ret ?_
      refine then_ret ?_
      have hr5 := (hS.blk 0 rfl)
      replace hS := hS.trivAny (F := fun w' => RecsIn w' []) (fun w' => RecsIn.nil w')
      replace hS := hS.nilOwn 23 1
      replace hS := hS.pick 1 rfl
      dsimp only [List.eraseIdx] at hS
      replace hS := hS.pick 1 rfl
      dsimp only [List.eraseIdx] at hS
      replace hS := hS.take 2
      simp only [List.take_succ_cons, List.take_zero] at hS
      refine retL H (.inr rfl) rfl (vs := _) (resTmp rfl (resCell rfl (hr5.ldAll ag29 sz29) resNil)) ?_
      exact ⟨_, [], _, _, rfl, by rw [hex, drop_cons hx, expF, hq]; rfl, rfl, hS⟩
    · skip
      have he : (recordM bs ca bs.length tg).2.1 = .nil := by rw [code_nil] at hc31; simpa using hc31
      obtain ⟨x, hq, hx0, hx1⟩ : ∃ x, (recordM bs ca bs.length tg).1 = some x ∧ (recordM bs ca bs.length tg).2.2 = x.2 ∧ (x.1 ≤ x.2 ∧ x.2 ≤ bs.length) := by
        rcases recordM_form2 (t := tg) ha (Nat.le_refl _) with h | ⟨x, h1, _, h2, h3⟩
        · exact absurd he h.2
        · exact ⟨x, h1, h2, h3⟩
      replace hS := hS.pick 2 rfl
      dsimp only [List.eraseIdx] at hS
      rw [hq] at hS
      obtain ⟨bq, hq26, hS3⟩ := hS.rnGet
      replace hS := hS3
      clear hS3
      subst hq26
      obtain ⟨A1, c1, hV, hsub⟩ := sub_sl 1 (Flat eB) A9 bs.length c9 bs (lo := (x.1 : Int)) (hi := (x.2 : Int)) (by omega) (by omega) (by omega)
      simp only [Int.toNat_natCast] at hV hsub
      refine wp_skip ?_
      refine then_normal ?_
      refine c_ord (blks vb) 16 (by kernel_rfl) ?_
      obtain ⟨w18, hw18⟩ : ∃ x, x = w12.drew := ⟨_, rfl⟩
      rw [← hw18]
      have hE19 : Ext w12 w18 := by rw [hw18]; exact Ext.drew' _
      clear hw18
      replace hS := hS.ext hE19
      have hh_bq := (hS.blk 0 rfl).lt
      have hh_b10 := (hS.blk 1 rfl).lt
      have hh_q1 := (hS.blk 2 rfl).lt
      have hh_b5 := (hS.blk 6 rfl).lt
      have hnbq : bq ∉ blks vb := hS.neOwn (by decide : (0 : Nat) ≠ 4) rfl rfl
      refine k_take 0 H rfl (q_move rfl) rfl (by kernel_rfl) (by kernel_rfl) (by kernel_rfl) (by kernel_rfl) (fun _ _ _ h => h) ?_
      clear H a; intro a H
      refine k_take 2 H rfl (q_move rfl) rfl (by kernel_rfl) (by kernel_rfl) (by kernel_rfl) (by kernel_rfl) (fun _ _ _ h => h) ?_
      clear H a; intro a H
      refine k_take 3 H rfl (q_move rfl) rfl (by kernel_rfl) (by kernel_rfl) (by kernel_rfl) (by kernel_rfl) (fun _ _ _ h => h) ?_
      clear H a; intro a H
      refine k_take 4 H rfl (q_nilCheck rfl) rfl (by kernel_rfl) (by kernel_rfl) (by kernel_rfl) (by kernel_rfl) (fun _ _ _ h => h) ?_
      clear H a; intro a H
      refine k_take 5 H rfl (q_fieldAddr0 rfl fo109_1) rfl (by kernel_rfl) (by kernel_rfl) (by kernel_rfl) (by kernel_rfl) (fun _ _ _ h => h) ?_
      clear H a; intro a H
      refine k_take 6 H rfl (q_load rfl ((hS.blk 0 rfl).ldB hh_bq hnbq ag3 rfl)) rfl (by kernel_rfl) (by kernel_rfl) (by kernel_rfl) (by kernel_rfl) (fun _ _ _ h => h) ?_
      clear H a; intro a H
      refine k_take 7 H rfl (q_move rfl) rfl (by kernel_rfl) (by kernel_rfl) (by kernel_rfl) (by kernel_rfl) (fun _ _ _ h => h) ?_
      clear H a; intro a H
      refine k_take 8 H rfl (q_nilCheck rfl) rfl (by kernel_rfl) (by kernel_rfl) (by kernel_rfl) (by kernel_rfl) (fun _ _ _ h => h) ?_
      clear H a; intro a H
      refine k_take 9 H rfl (q_fieldAddr0 rfl fo109_2) rfl (by kernel_rfl) (by kernel_rfl) (by kernel_rfl) (by kernel_rfl) (fun _ _ _ h => h) ?_
      clear H a; intro a H
      refine k_take 10 H rfl (q_load rfl ((hS.blk 0 rfl).ldB hh_bq hnbq ag3 rfl)) rfl (by kernel_rfl) (by kernel_rfl) (by kernel_rfl) (by kernel_rfl) (fun _ _ _ h => h) ?_
      clear H a; intro a H
      refine k_take 11 H rfl (q_cast (q_slice (A := A9) (n := bs.length) (c := c9) Tryd.underlying23 sz5 rfl rfl rfl (by omega) (by omega) (by omega)) (by simp only [Int.toNat_natCast]; exact hV)) rfl (by kernel_rfl) (by kernel_rfl) (by kernel_rfl) (by kernel_rfl) (fun _ _ _ h => h) ?_
      clear H a; intro a H
      refine k_buildSlice 1 H rfl Tryd.underlying23 sz5 ze5 rfl rfl rfl (cs := []) (by kernel_rfl) rfl (by kernel_rfl) ?_
      clear H; intro b34 w20 hN hE21 hs_b34; clear a; intro a H
      have hz_b34 := hE21.size
      replace hS := hS.newBlk hN hE21 hs_b34; clear hN hE21
      replace hS := hS.blkOwn 0 1 (by simp) (by simp [maxLen])
      refine k_append 12 H rfl rfl rfl Tryd.underlying23 Tryd.underlying23 (by simp) el5 (hS.own 0 rfl) ((hsub _ (hb _ hS.x)).srcB') (flat_one eB_one _) (by rw [List.length_take, List.length_drop]; omega) (by rw [List.length_take, List.length_drop]; simp only [maxLen]; omega) rfl (by kernel_rfl) (.inl (by simp [blks]; omega)) ?_
      clear H; intro v45 w22 hN hC23 hb45 hnil45; clear a; intro a H
      have hz45 := hC23.size
      replace hS := hS.setOwn hN hC23 hb45; clear hN
      simp only [Nat.zero_add, List.nil_append] at hS
      obtain ⟨A45, c45, hv45, _⟩ := (hS.own 0 rfl).form
      subst hv45
      refine k_buildSlice 13 H rfl Tryd.underlying44 sz23 ze23 rfl rfl rfl (cs := [.slice A45 ((bs.drop x.1).take (x.2 - x.1)).length c45]) (by kernel_rfl) rfl (by kernel_rfl) ?_
      clear H; intro b46 w24 hN hE25 hs_b46; clear a; intro a H
      have hz_b46 := hE25.size
      replace hS := hS.newBlk hN hE25 hs_b46; clear hN hE25
      replace hS := hS.pick 6 rfl
      dsimp only [List.eraseIdx] at hS
      refine k_append 14 H rfl rfl rfl Tryd.underlying44 Tryd.underlying44 (by simp) el23 (hS.own 0 rfl) (show Src _ 1 _ 1 (([⟨0, .slice A45 ((bs.drop x.1).take (x.2 - x.1)).length c45, ((bs.drop x.1).take (x.2 - x.1))⟩] : List RecM).flatMap eBod) from (Own.ofBlk (n := 1) (k := 1) (hS.blk 1 rfl) rfl (by simp [maxLen])).src) (by simp [eBod, Value.oneCell']) (by omega) (by simp only [maxLen]; omega) rfl (by kernel_rfl) (.inl (fun b hb _ => hb)) ?_
      clear H; intro v47 w26 hN hC27 hb47 hnil47; clear a; intro a H
      have hz47 := hC27.size
      replace hS := hS.setOwn hN hC27 hb47; clear hN
      rw [← List.flatMap_append] at hS
      refine k_take 15 H rfl (q_assign rfl) rfl (by kernel_rfl) (by kernel_rfl) (by kernel_rfl) (by kernel_rfl) (fun _ _ _ h => h) ?_
      clear H a; intro a H
      refine k_done (by kernel_rfl) ?_
      refine block_normal ?_
      refine then_normal ?_
      refine wp_region_lit ?_
      refine n_q H (q_move rfl) rfl ?_
      clear H a; intro a H
      refine n_q H (q_add rfl rfl (by constructor <;> omega)) rfl ?_
      clear H a; intro a H
      refine n_q H (q_assign rfl) rfl ?_
      clear H a; intro a H
      refine n_nil ?_
      refine then_normal ?_
      replace hS := hS.pick 8 rfl
      dsimp only [List.eraseIdx] at hS
      replace hS := hS.pick 7 rfl
      dsimp only [List.eraseIdx] at hS
      replace hS := hS.pick 7 rfl
      dsimp only [List.eraseIdx] at hS
      replace hS := hS.pick 3 rfl
      dsimp only [List.eraseIdx] at hS
      replace hS := hS.pick 8 rfl
      dsimp only [List.eraseIdx] at hS
      replace hS := hS.pick 6 rfl
      dsimp only [List.eraseIdx] at hS
      replace hS := hS.take 6
      simp only [List.take_succ_cons, List.take_zero] at hS
      replace hS := St.recAdd (r := ⟨0, .slice A45 ((bs.drop x.1).take (x.2 - x.1)).length c45, ((bs.drop x.1).take (x.2 - x.1))⟩) hS rfl
      replace hS := hS.pick 4 rfl
      dsimp only [List.eraseIdx] at hS
      replace hS := hS.pick 1 rfl
      dsimp only [List.eraseIdx] at hS
      replace hS := hS.pick 2 rfl
      dsimp only [List.eraseIdx] at hS
      replace hS := hS.pick 4 rfl
      dsimp only [List.eraseIdx] at hS
      replace hS := hS.pick 4 rfl
      dsimp only [List.eraseIdx] at hS
      exact round (i + 1, x.2, v47, ys ++ [⟨0, .slice A45 ((bs.drop x.1).take (x.2 - x.1)).length c45, ((bs.drop x.1).take (x.2 - x.1))⟩]) H ⟨rfl, rfl, rfl, rfl, rfl, rfl, trivial⟩ ⟨⟨by omega, hx1.2, by simp; omega, by rw [hex, drop_cons hx, expF, hq]; simp [hx0]⟩, by simpa [hx0] using hS⟩ (by first | omega | (dsimp only; omega))
  · skip
    obtain rfl : i = tags.length := by simp at hc17; omega
    rw [List.drop_length, expF] at hex
    refine wp_exit ?_
    refine then_exit ?_
    refine then_exit ?_
    refine block_exit ?_
    refine then_normal ?_
    refine wp_seq ?_
    refine wp_region_lit ?_
    refine n_q H (q_move rfl) rfl ?_
    clear H a; intro a H
    obtain ⟨fp49, hG49, hK49, hR49, hF49⟩ := hS.frame1
    refine n_call H rfl en53 (rEnded_w (fun w' hw => (restOwn (hR49 0 _ rfl _ hw)).slB hn2) ha (Nat.le_refl _) (by omega) hG49) rfl ?_
    clear H a; intro v30 w28 hv a H
    obtain ⟨rfl, hE29⟩ := hv
    replace hS := hF49 _ _ hE29
    simp only [List.cons_append, List.nil_append] at hS
    clear hG49 hK49 hR49 hF49
    refine n_alloc H ze29 rfl ?_
    clear H; intro b11 w31 hN hE32 hs_b11; clear a; intro a H
    replace hS := hS.newBlk hN hE32 hs_b11; clear hN hE32
    refine n_storeAll H rfl rfl (vs := [.int .i64 (endM ca bs.length).code, .int .i64 (endM ca bs.length).place]) rfl sz29 (hS.blk 0 rfl) rfl (by simp [Value.oneCell']) ?_
    clear H; intro w33 hN hC34 hz; clear a; intro a H
    replace hS := hS.setBlk hN hC34; clear hN hz
    refine n_nil ?_
    refine then_normal ?_
    refine wp_seq ?_
    refine wp_seq ?_
    refine wp_region_lit ?_
    refine n_q H (q_fieldAddr0 rfl fo29_0) rfl ?_
    clear H a; intro a H
    refine n_q H (q_load rfl ((hS.blk 0 rfl).ld ag3 rfl)) rfl ?_
    clear H a; intro a H
    refine n_q H (q_neq rfl rfl) rfl ?_
    clear H a; intro a H
    refine n_nil ?_
    refine then_normal ?_
    refine c_cond H rfl (fun hc52 => ?_) (fun hc52 => ?_)
    · skip
      have hne : endM ca bs.length ≠ .nil := by rw [code_nil] at hc52; simpa using hc52
      rw [if_neg hne] at hex
      refine wp_seq ?_
      refine c_ord [] 2 (by kernel_rfl) ?_
      obtain ⟨w35, hw35⟩ : ∃ x, x = w33.drew := ⟨_, rfl⟩
      rw [← hw35]
      have hE36 : Ext w33 w35 := by rw [hw35]; exact Ext.drew' _
      clear hw35
      replace hS := hS.ext hE36
      refine k_take 0 H rfl (q_load rfl (LdC.k0 ((hS.blk 0 rfl).ldAll ag29 sz29))) rfl (by kernel_rfl) (by kernel_rfl) (by kernel_rfl) (by kernel_rfl) (fun _ _ _ h => h) ?_
      clear H a; intro a H
      refine k_take 1 H rfl (q_assign rfl) rfl (by kernel_rfl) (by kernel_rfl) (by kernel_rfl) (by kernel_rfl) (fun _ _ _ h => h) ?_
      clear H a; intro a H
      replace hS := hS.pick 5 rfl
      dsimp only [List.eraseIdx] at hS
      refine k_storeAll 2 H rfl rfl rfl (vs := [.int .i64 (endM ca bs.length).code, .int .i64 (endM ca bs.length).place]) rfl sz29 (hS.blk 0 rfl) rfl (by simp [Value.oneCell']) (by kernel_rfl) (.inr (by kernel_rfl)) ?_
      clear H; intro w37 hN hC38 hz; clear a; intro a H
      replace hS := hS.setBlk hN hC38; clear hN hz
      refine k_done (by kernel_rfl) ?_
      refine then_normal ?_
      refine wp_ret ?_
      refine then_ret ?_
      have hr5 := (hS.blk 0 rfl)
      replace hS := hS.trivAny (F := fun w' => RecsIn w' []) (fun w' => RecsIn.nil w')
      replace hS := hS.nilOwn 23 1
      replace hS := hS.pick 1 rfl
      dsimp only [List.eraseIdx] at hS
      replace hS := hS.pick 1 rfl
      dsimp only [List.eraseIdx] at hS
      replace hS := hS.take 2
      simp only [List.take_succ_cons, List.take_zero] at hS
      refine retL H (.inr rfl) rfl (vs := _) (resTmp rfl (resCell rfl (hr5.ldAll ag29 sz29) resNil)) ?_
      exact ⟨_, [], _, _, rfl, hex.symm, rfl, hS⟩
    · skip
      have he : endM ca bs.length = .nil := by rw [code_nil] at hc52; simpa using hc52
      rw [if_pos he] at hex
      refine wp_skip ?_
      refine then_normal ?_
      refine wp_seq ?_
      refine wp_region_lit ?_
      refine n_q H (q_move rfl) rfl ?_
      clear H a; intro a H
      refine n_call H rfl en49 (rNone_w) rfl ?_
      clear H a; intro v41 w39 hv a H
      obtain ⟨rfl, hE40⟩ := hv
      replace hS := hS.ext hE40
      refine n_q H (q_assign rfl) rfl ?_
      clear H a; intro a H
      replace hS := hS.pick 5 rfl
      dsimp only [List.eraseIdx] at hS
      refine n_storeAll H rfl rfl (vs := [.int .i64 0, .int .i64 (-1)]) rfl sz29 (hS.blk 0 rfl) rfl (by simp) ?_
      clear H; intro w42 hN hC43 hz; clear a; intro a H
      replace hS := hS.setBlk hN hC43; clear hN hz
      refine n_nil ?_
      refine then_normal ?_
      refine wp_ret ?_
      have hr5 := (hS.blk 0 rfl)
      replace hS := hS.pick 5 rfl
      dsimp only [List.eraseIdx] at hS
      replace hS := hS.pick 5 rfl
      dsimp only [List.eraseIdx] at hS
      replace hS := hS.take 2
      simp only [List.take_succ_cons, List.take_zero] at hS
      refine retL H (.inr rfl) rfl (vs := _) (resTmp rfl (resCell rfl (hr5.ldAll ag29 sz29) resNil)) ?_
      exact ⟨_, ys, _, .nil, hyl.symm, hex.symm, rfl, hS⟩

end Go.Proofs.YtnhjohcgnmogaaaDoor
