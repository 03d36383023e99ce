/- Digits of base 16 (written by wip/tools) -/
import Derived.Test.YtnhjohcgnmogaaaDoorRefW
set_option linter.unusedVariables false
set_option linter.unusedSimpArgs false
set_option maxRecDepth 10000
namespace Go.Proofs.YtnhjohcgnmogaaaDoor
open Go Go.RowKit
theorem ag9 : aggB Tryd.prog 9 = some false := by kernel_rfl
theorem sz9 : sizeB Tryd.prog 9 = some 1 := by kernel_rfl

/-- A digit of base 16. -/
def hexD (n : Nat) : UInt8 := if n < 10 then UInt8.ofNat (48 + n) else UInt8.ofNat (87 + n)
abbrev digS : ByteArray := ⟨#[48, 49, 50, 51, 52, 53, 54, 55, 56, 57, 97, 98, 99, 100, 101, 102]⟩
theorem digS_at {i : Int} (h0 : 0 ≤ i) (h1 : i < 16) (hn : i.toNat < digS.size) : ((digS[i.toNat]'hn).toNat : Int) = ((hexD i.toNat).toNat : Int) := by
  have key : ∀ n : Fin 16, ((digS[n.1]'(by have := n.2; show n.1 < 16; omega)).toNat : Int) = ((hexD n.1).toNat : Int) := by decide
  exact key ⟨i.toNat, by omega⟩
/-- Hex. -/
def hexM (bs : List UInt8) : List UInt8 := bs.flatMap fun b => [hexD (b.toNat / 16), hexD (b.toNat % 16)]
theorem hexM_snoc (xs : List UInt8) (b : UInt8) : hexM (xs ++ [b]) = hexM xs ++ [hexD (b.toNat / 16), hexD (b.toNat % 16)] := by simp [hexM]
theorem hexM_len : ∀ bs : List UInt8, (hexM bs).length = 2 * bs.length
  | [] => rfl
  | b :: bs => by have := hexM_len bs; simp [hexM] at this ⊢; omega
theorem and15 (x : UInt8) : IntKind.u8.wrap ((BitVec.ofInt IntKind.u8.bits (x.toNat : Int) &&& BitVec.ofInt IntKind.u8.bits 15).toNat : Int) = ((x.toNat % 16 : Nat) : Int) := by
  have hb : IntKind.u8.bits = 8 := rfl
  have e1 : (BitVec.ofInt 8 (x.toNat : Int) &&& BitVec.ofInt 8 15).toNat = x.toNat % 16 := by
    rw [BitVec.toNat_and]
    have h1 : (BitVec.ofInt 8 (x.toNat : Int)).toNat = x.toNat := by rw [BitVec.ofInt_natCast, BitVec.toNat_ofNat]; exact Nat.mod_eq_of_lt x.toNat_lt
    have h2 : (BitVec.ofInt 8 (15 : Int)).toNat = 2 ^ 4 - 1 := by decide
    rw [h1, h2, Nat.and_two_pow_sub_one_eq_mod]
  rw [hb, e1]
  have : IntKind.u8.wrap ((x.toNat % 16 : Nat) : Int) = (((x.toNat % 16 : Nat) : Int)) % 256 := by simp [IntKind.wrap, IntKind.bits, IntKind.signed]
  rw [this]
  omega
theorem shr4 (x : UInt8) {z : Nat} (hz : min z IntKind.u8.bits = 4) : (x.toNat : Int).fdiv (2 ^ (min z IntKind.u8.bits)) = ((x.toNat / 16 : Nat) : Int) := by
  rw [hz, Int.fdiv_eq_ediv_of_nonneg _ (by decide)]
  show (x.toNat : Int) / 16 = _
  omega
/-- digit. -/
def digitM (b : UInt8) : Int := if 48 ≤ b.toNat ∧ b.toNat ≤ 57 then (b.toNat : Int) - 48 else if 97 ≤ b.toNat ∧ b.toNat ≤ 102 then (b.toNat : Int) - 87 else -1
theorem hex_w {w : World} {v : Value} {bs : List UInt8} (h : ∀ w', Ext w w' → SlR w' 1 (Flat eB) v bs) (hz : bs.length ≤ 35184372088832) : Calls Tryd.prog 19 [v].toArray w (Ret fun r w' => r = .string (strB (hexM bs)) ∧ Ext w w') := by
  have hS := St.begin NB w
  obtain ⟨A0, c0, hv0, hl0, hm0, hn0⟩ := (h w Ext.rfl').form
  subst hv0
  refine enter Tryd.func19 rfl rfl rfl ?_
  intro a H
  dsimp only [enumL, Nat.zero_add, Nat.reduceAdd] at H
  refine wp_seq ?_
  refine wp_region_lit ?_
  refine n_q H (q_assign rfl) rfl ?_
  clear H a; intro a H
  refine n_nil ?_
  refine then_normal ?_
  refine wp_seq ?_
  refine wp_region_lit ?_
  refine n_q H (q_move rfl) rfl ?_
  clear H a; intro a H
  refine n_q H (q_lenSl Tryd.underlying23 rfl) rfl ?_
  clear H a; intro a H
  refine n_q H (q_mul rfl rfl (by constructor <;> omega)) rfl ?_
  clear H a; intro a H
  refine n_make (L := 0) (C := (2 * bs.length)) H Tryd.underlying23 el5 rfl (congrArg (fun z => some (Value.int .i64 z)) (show (2 : Int) * (bs.length : Nat) = ((2 * bs.length : Nat) : Int) by omega)) (by omega) (by omega) (by simp only [maxLen]; omega) rfl ?_
  clear H; intro b9 w1 hN hE2 hs_b9; clear a; intro a H
  replace hS := hS.newOwn hN hE2 (by simp [blks]; omega); clear hN hE2
  simp only [List.replicate_zero, List.flatten_nil] at hS
  refine n_q H (q_assign rfl) rfl ?_
  clear H a; intro a H
  refine n_nil ?_
  refine then_normal ?_
  refine wp_seq ?_
  refine wp_seq ?_
  refine wp_region_lit ?_
  refine n_q H (q_move rfl) rfl ?_
  clear H a; intro a H
  refine n_q H (q_lenSl Tryd.underlying23 rfl) rfl ?_
  clear H a; intro a H
  refine n_q H (q_move rfl) rfl ?_
  clear H a; intro a H
  refine n_nil ?_
  refine then_normal ?_
  refine wp_block ?_
  refine c_loop (σ := Nat × Value) (fun (i, vw) => [(3, vw), (10, .slice A0 bs.length c0), (11, .int .i64 (bs.length : Nat)), (12, .int .i64 (i : Nat))]) (fun (i, vw) wl => i ≤ bs.length ∧ St NB w wl [ownR 5 1 vw (2 * i) ((hexM (bs.take i)).flatMap eB)]) (fun (i, vw) => bs.length - i) (0, .slice (some ⟨b9, 0, none⟩) 0 (2 * bs.length)) H ⟨rfl, rfl, rfl, rfl, trivial⟩ ⟨Nat.zero_le _, hS⟩ ?_
  clear H hS; clear a; intro xx a w3 H hR
  obtain ⟨i, vw⟩ := xx
  simp only [ent, List.map_cons, List.map_nil] at H
  try dsimp only at hR
  obtain ⟨hi, hS⟩ := hR; try clear hR
  refine wp_seq ?_
  refine wp_region_lit ?_
  refine n_q H (q_lss rfl rfl) rfl ?_
  clear H a; intro a H
  refine n_nil ?_
  refine then_normal ?_
  refine wp_seq ?_
  refine c_cond H rfl (fun hc13 => ?_) (fun hc13 => ?_)
  · (try simp only [decide_eq_true_eq, decide_eq_false_iff_not, Bool.and_eq_true, Bool.or_eq_true, Bool.and_eq_false_iff, Bool.or_eq_false_iff, beq_iff_eq, bne_iff_ne, beq_eq_false_iff_ne, bne_eq_false_iff_eq, ne_eq, Bool.not_eq_true', Bool.not_eq_false', Int.not_lt, Int.not_le, Bool.not_eq_true, Bool.not_eq_false] at hc13)
    have hi1 : i < bs.length := by simp at hc13; omega
    obtain ⟨x, hx⟩ := (h w Ext.rfl').at hi1
    obtain ⟨ad0, had⟩ := (h w Ext.rfl').addr hi1
    subst had
    refine wp_skip ?_
    refine then_normal ?_
    refine wp_seq ?_
    refine wp_block ?_
    refine wp_seq ?_
    refine wp_region_lit ?_
    refine n_q H (q_indexAddr Tryd.underlying23 sz5 rfl rfl (by omega) (by omega)) rfl ?_
    clear H a; intro a H
    refine n_q H (q_load rfl ((h _ hS.x).ldOne ag5 hx rfl)) rfl ?_
    clear H a; intro a H
    refine n_q H (q_assign rfl) rfl ?_
    clear H a; intro a H
    refine n_nil ?_
    refine then_normal ?_
    refine c_ord (blks vw) 9 (by kernel_rfl) ?_
    obtain ⟨w4, hw4⟩ : ∃ x, x = w3.drew := ⟨_, rfl⟩
    rw [← hw4]
    have hE5 : Ext w3 w4 := by rw [hw4]; exact Ext.drew' _
    clear hw4
    replace hS := hS.ext hE5
    refine k_take 0 H rfl (q_move rfl) rfl (by kernel_rfl) (by kernel_rfl) (by kernel_rfl) (by kernel_rfl) (fun _ _ _ h => h) ?_
    clear H a; intro a H
    refine k_take 1 H rfl (q_move rfl) rfl (by kernel_rfl) (by kernel_rfl) (by kernel_rfl) (by kernel_rfl) (fun _ _ _ h => h) ?_
    clear H a; intro a H
    refine k_take 2 H rfl (q_shr rfl rfl (by omega)) rfl (by kernel_rfl) (by kernel_rfl) (by kernel_rfl) (by kernel_rfl) (fun _ _ _ h => h) ?_
    clear H a; intro a H
    refine k_take 3 H rfl (q_cast (q_indexS Tryd.underlying9 rfl rfl (by rw [shr4 x (by rfl)]; omega) (by rw [shr4 x (by rfl)]; have := x.toNat_lt; show _ < 16; omega)) (show _ = Value.int .u8 ((hexD (x.toNat / 16)).toNat : Int) by have := x.toNat_lt; refine congrArg (Value.int .u8) ((digS_at (by rw [shr4 x (by rfl)]; omega) (by rw [shr4 x (by rfl)]; omega) _).trans ?_); rw [shr4 x (by rfl)]; rfl)) rfl (by kernel_rfl) (by kernel_rfl) (by kernel_rfl) (by kernel_rfl) (fun _ _ _ h => h) ?_
    clear H a; intro a H
    refine k_take 4 H rfl (q_move rfl) rfl (by kernel_rfl) (by kernel_rfl) (by kernel_rfl) (by kernel_rfl) (fun _ _ _ h => h) ?_
    clear H a; intro a H
    refine k_take 5 H rfl (q_and rfl rfl) rfl (by kernel_rfl) (by kernel_rfl) (by kernel_rfl) (by kernel_rfl) (fun _ _ _ h => h) ?_
    clear H a; intro a H
    refine k_take 6 H rfl (q_cast (q_indexS Tryd.underlying9 rfl rfl (by rw [and15]; omega) (by rw [and15]; show _ < 16; omega)) (show _ = Value.int .u8 ((hexD (x.toNat % 16)).toNat : Int) by refine congrArg (Value.int .u8) ((digS_at (by rw [and15]; omega) (by rw [and15]; omega) _).trans ?_); rw [and15]; rfl)) rfl (by kernel_rfl) (by kernel_rfl) (by kernel_rfl) (by kernel_rfl) (fun _ _ _ h => h) ?_
    clear H a; intro a H
    refine k_buildSlice 7 H rfl Tryd.underlying23 sz5 ze5 rfl rfl rfl (cs := [.int .u8 ((hexD (x.toNat / 16)).toNat : Int), .int .u8 ((hexD (x.toNat % 16)).toNat : Int)]) (by kernel_rfl) rfl (by kernel_rfl) ?_
    clear H; intro b23 w6 hN hE7 hs_b23; clear a; intro a H
    have hz_b23 := hE7.size
    replace hS := hS.newBlk hN hE7 hs_b23; clear hN hE7
    replace hS := hS.pick 1 rfl
    dsimp only [List.eraseIdx] at hS
    refine k_append 8 H rfl rfl rfl Tryd.underlying23 Tryd.underlying23 (by simp) el5 (hS.own 0 rfl) (show Src _ 1 _ 2 ([hexD (x.toNat / 16), hexD (x.toNat % 16)].flatMap eB) from (Own.ofBlk (n := 2) (k := 1) (hS.blk 1 rfl) rfl (by simp [maxLen])).src) (flat_one eB_one _) (by omega) (by simp only [maxLen]; omega) rfl (by kernel_rfl) (.inl (fun b hb _ => hb)) ?_
    clear H; intro v24 w8 hN hC9 hb24 hnil24; clear a; intro a H
    have hz24 := hC9.size
    replace hS := hS.setOwn hN hC9 hb24; clear hN
    refine k_q 9 H rfl (q_assign rfl) rfl (by kernel_rfl) ?_
    clear H a; intro a H
    refine k_done (by kernel_rfl) ?_
    refine block_normal ?_
    refine then_normal ?_
    refine wp_region_lit ?_
    refine n_q H (q_add rfl rfl (by constructor <;> omega)) rfl ?_
    clear H a; intro a H
    refine n_q H (q_move rfl) rfl ?_
    clear H a; intro a H
    refine n_nil ?_
    refine then_normal ?_
    replace hS := hS.take 1
    simp only [List.take_succ_cons, List.take_zero] at hS
    exact round (i + 1, v24) H ⟨rfl, rfl, rfl, rfl, trivial⟩ ⟨by omega, by rw [take_snoc hx, hexM_snoc, List.flatMap_append]; exact hS⟩ (by first | omega | (dsimp only; omega))
  · (try simp only [decide_eq_true_eq, decide_eq_false_iff_not, Bool.and_eq_true, Bool.or_eq_true, Bool.and_eq_false_iff, Bool.or_eq_false_iff, beq_iff_eq, bne_iff_ne, beq_eq_false_iff_ne, bne_eq_false_iff_eq, ne_eq, Bool.not_eq_true', Bool.not_eq_false', Int.not_lt, Int.not_le, Bool.not_eq_true, Bool.not_eq_false] at hc13)
    obtain rfl : i = bs.length := by simp at hc13; omega
    rw [List.take_length] at hS
    refine wp_exit ?_
    refine then_exit ?_
    refine then_exit ?_
    refine block_exit ?_
    refine then_normal ?_
    refine wp_seq ?_
    refine wp_region_lit ?_
    refine n_q H (q_move rfl) rfl ?_
    clear H a; intro a H
    refine n_q H (q_str Tryd.underlying23 Tryd.underlying5 Tryd.underlying9 rfl (fun w' e => ((hS.own 0 rfl).ext e).slB (hexM_len bs).symm)) rfl ?_
    clear H a; intro a H
    refine n_q H (q_assign rfl) rfl ?_
    clear H a; intro a H
    refine n_nil ?_
    refine then_normal ?_
    refine wp_ret ?_
    refine ret1 H (.inr rfl) rfl rfl ?_
    exact ⟨rfl, hS.x⟩

end Go.Proofs.YtnhjohcgnmogaaaDoor
