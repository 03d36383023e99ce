/- Out of digits of base 16 (written by wip/tools) -/
import Derived.Test.YtnhjohcgnmogaaaDoorLaw02
set_option linter.unusedVariables false
set_option linter.unusedSimpArgs false
set_option maxRecDepth 10000
namespace Go.Proofs.YtnhjohcgnmogaaaDoor
open Go Go.RowKit
theorem en56 : entersB Tryd.prog 56 = true := by kernel_rfl

theorem w8 {z : Int} (h0 : 0 ≤ z) (h1 : z < 256) : IntKind.u8.wrap z = z := by
  have h : IntKind.u8.wrap z = z % 256 := by simp [IntKind.wrap, IntKind.bits, IntKind.signed]
  rw [h]; omega
theorem hexD_digit : ∀ j : Fin 16, digitM (hexD j.val) = j.val := by decide +kernel
theorem hexD_none : ∀ n : Fin 256, (∀ j : Fin 16, hexD j.val ≠ UInt8.ofNat n.val) → digitM (UInt8.ofNat n.val) = -1 := by decide +kernel
theorem digit_none {b : UInt8} (h : ∀ j, j < 16 → hexD j ≠ b) : digitM b = -1 := by
  have := hexD_none ⟨b.toNat, b.toNat_lt⟩ fun j => by
    have := h j.val j.isLt
    simpa using this
  simpa using this
theorem digit_some {j : Nat} (h : j < 16) : digitM (hexD j) = j := hexD_digit ⟨j, h⟩
theorem digit_lt (b : UInt8) : -1 ≤ digitM b ∧ digitM b ≤ 15 := by unfold digitM; have := b.toNat_lt; split; omega; split; omega; omega
theorem digit_w {w : World} {b : UInt8} : Calls Tryd.prog 56 [.int .u8 (b.toNat : Int)].toArray w (Ret fun r w' => r = .int .i64 (digitM b) ∧ Ext w w') := by
  have hS := St.begin NB w
  have hb := b.toNat_lt
  refine enter Tryd.func56 rfl rfl rfl ?_
  intro a H
  dsimp only [enumL, Nat.zero_add, Nat.reduceAdd] at H
  refine wp_seq ?_
  refine wp_region_lit ?_
  refine n_q H (q_assign rfl) rfl ?_
  clear H a; intro a H
  refine n_nil ?_
  refine then_normal ?_
  refine wp_seq ?_
  refine wp_block ?_
  refine wp_seq ?_
  refine wp_region_lit ?_
  refine n_c H (fun HC => ?_); clear H
  refine nc_q HC (q_move rfl) rfl (by kernel_rfl) ?_
  clear HC a; intro a HC
  refine nc_q HC (q_leq rfl rfl) rfl (by kernel_rfl) ?_
  clear HC a; intro a HC
  refine nc_q HC (q_move rfl) rfl (by kernel_rfl) ?_
  clear HC a; intro a HC
  refine nc_g HC (q_move rfl) (by kernel_rfl) (by kernel_rfl) (by kernel_rfl) ?_
  clear HC a; intro a HC
  refine nc_g HC (q_leq rfl rfl) (by kernel_rfl) (by kernel_rfl) (by kernel_rfl) ?_
  clear HC a; intro a HC
  refine nc_and (j := 2) HC rfl rfl rfl (by kernel_rfl) (by kernel_rfl) ?_
  clear HC a; intro a HC
  refine nc_q HC (q_assign rfl) rfl (by kernel_rfl) ?_
  clear HC a; intro a HC
  have H := HC.has; clear HC
  refine n_nil ?_
  refine then_normal ?_
  refine c_cond H rfl (fun hc3 => ?_) (fun hc3 => ?_)
  · skip
    have h3 : 48 ≤ b.toNat ∧ b.toNat ≤ 57 := by simp at hc3; omega
    refine wp_seq ?_
    refine wp_region_lit ?_
    refine n_q H (q_move rfl) rfl ?_
    clear H a; intro a H
    refine n_q H (q_cast (q_subW rfl rfl) (show _ = Value.int .u8 ((b.toNat : Int) - 48) by rw [w8 (by omega) (by omega)])) rfl ?_
    clear H a; intro a H
    refine n_q H (q_cast (q_convI Tryd.underlying5 Tryd.underlying3 ⟨_, rfl⟩ rfl) (show _ = Value.int .i64 ((b.toNat : Int) - 48) by rw [wrap64_eq (by constructor <;> omega)])) rfl ?_
    clear H a; intro a H
    refine n_q H (q_assign rfl) rfl ?_
    clear H a; intro a H
    refine n_nil ?_
    refine then_normal ?_
    refine wp_ret ?_
    refine block_ret ?_
    refine then_ret ?_
    refine ret1 H (.inr rfl) rfl rfl ?_
    exact ⟨congrArg (Value.int .i64) (by unfold digitM; rw [if_pos h3]), hS.x⟩
  · skip
    have h3 : ¬ (48 ≤ b.toNat ∧ b.toNat ≤ 57) := by simp at hc3; omega
    refine wp_seq ?_
    refine wp_region_lit ?_
    refine n_c H (fun HC => ?_); clear H
    refine nc_q HC (q_move rfl) rfl (by kernel_rfl) ?_
    clear HC a; intro a HC
    refine nc_q HC (q_leq rfl rfl) rfl (by kernel_rfl) ?_
    clear HC a; intro a HC
    refine nc_q HC (q_move rfl) rfl (by kernel_rfl) ?_
    clear HC a; intro a HC
    refine nc_g HC (q_move rfl) (by kernel_rfl) (by kernel_rfl) (by kernel_rfl) ?_
    clear HC a; intro a HC
    refine nc_g HC (q_leq rfl rfl) (by kernel_rfl) (by kernel_rfl) (by kernel_rfl) ?_
    clear HC a; intro a HC
    refine nc_and (j := 2) HC rfl rfl rfl (by kernel_rfl) (by kernel_rfl) ?_
    clear HC a; intro a HC
    refine nc_q HC (q_assign rfl) rfl (by kernel_rfl) ?_
    clear HC a; intro a HC
    have H := HC.has; clear HC
    refine n_nil ?_
    refine then_normal ?_
    refine c_cond H rfl (fun hc13 => ?_) (fun hc13 => ?_)
    · skip
      have h4 : 97 ≤ b.toNat ∧ b.toNat ≤ 102 := by simp at hc13; omega
      refine wp_seq ?_
      refine wp_region_lit ?_
      refine n_q H (q_move rfl) rfl ?_
      clear H a; intro a H
      refine n_q H (q_cast (q_subW rfl rfl) (show _ = Value.int .u8 ((b.toNat : Int) - 97) by rw [w8 (by omega) (by omega)])) rfl ?_
      clear H a; intro a H
      refine n_q H (q_cast (q_convI Tryd.underlying5 Tryd.underlying3 ⟨_, rfl⟩ rfl) (show _ = Value.int .i64 ((b.toNat : Int) - 97) by rw [wrap64_eq (by constructor <;> omega)])) rfl ?_
      clear H a; intro a H
      refine n_q H (q_add rfl rfl (by constructor <;> omega)) rfl ?_
      clear H a; intro a H
      refine n_q H (q_assign rfl) rfl ?_
      clear H a; intro a H
      refine n_nil ?_
      refine then_normal ?_
      refine wp_ret ?_
      refine block_ret ?_
      refine then_ret ?_
      refine ret1 H (.inr rfl) rfl rfl ?_
      exact ⟨congrArg (Value.int .i64) (by unfold digitM; rw [if_neg h3, if_pos h4]; omega), hS.x⟩
    · skip
      have h4 : ¬ (97 ≤ b.toNat ∧ b.toNat ≤ 102) := by simp at hc13; omega
      refine wp_skip ?_
      refine block_normal ?_
      refine then_normal ?_
      refine wp_seq ?_
      refine wp_region_lit ?_
      refine n_q H (q_assign rfl) rfl ?_
      clear H a; intro a H
      refine n_nil ?_
      refine then_normal ?_
      refine wp_ret ?_
      refine ret1 H (.inr rfl) rfl rfl ?_
      exact ⟨congrArg (Value.int .i64) (by unfold digitM; rw [if_neg h3, if_neg h4]), hS.x⟩

theorem rdigit_w {w : World} {b : UInt8} : Calls Tryd.prog 55 [.int .u8 (b.toNat : Int)].toArray w (Ret fun r w' => r = .int .i64 (digitM b) ∧ Ext w w') := by
  have hS := St.begin NB w
  refine enter Tryd.func55 rfl rfl rfl ?_
  intro a H
  dsimp only [enumL, Nat.zero_add, Nat.reduceAdd] at H
  refine wp_seq ?_
  refine wp_region_lit ?_
  refine n_q H (q_assign rfl) rfl ?_
  clear H a; intro a H
  refine n_nil ?_
  refine then_normal ?_
  refine wp_seq ?_
  refine wp_seq ?_
  refine wp_region_lit ?_
  refine n_q H (q_assign rfl) rfl ?_
  clear H a; intro a H
  refine n_nil ?_
  refine then_normal ?_
  refine wp_block ?_
  refine c_loop (σ := Nat) (fun i => [(0, .int .u8 (b.toNat : Int)), (3, .int .i64 (i : Nat))]) (fun i wl => i ≤ 16 ∧ (∀ j, j < i → hexD j ≠ b) ∧ St NB w wl []) (fun i => 16 - i) 0 H ⟨rfl, rfl, trivial⟩ ⟨by omega, fun j hj => by omega, hS⟩ ?_
  clear H hS; clear a; intro i a w1 H hR
  simp only [ent, List.map_cons, List.map_nil] at H
  try dsimp only at hR
  obtain ⟨hi, hno, hS⟩ := hR; try clear hR
  refine wp_seq ?_
  refine wp_seq ?_
  refine wp_region_lit ?_
  refine n_q H (q_move rfl) rfl ?_
  clear H a; intro a H
  refine n_q H (q_lss rfl rfl) rfl ?_
  clear H a; intro a H
  refine n_nil ?_
  refine then_normal ?_
  refine c_cond H rfl (fun hc5 => ?_) (fun hc5 => ?_)
  · skip
    have hi1 : i < 16 := by simp at hc5; omega
    refine wp_skip ?_
    refine then_normal ?_
    refine wp_seq ?_
    refine wp_block ?_
    refine wp_seq ?_
    refine wp_region_lit ?_
    refine n_q H (q_move rfl) rfl ?_
    clear H a; intro a H
    refine n_q H (q_cast (q_indexS Tryd.underlying9 rfl rfl (by omega) (by show _ < 16; omega)) (show _ = Value.int .u8 ((hexD i).toNat : Int) by refine congrArg (Value.int .u8) ((digS_at (by omega) (by omega) _).trans ?_); rw [show (i : Int).toNat = i by omega])) rfl ?_
    clear H a; intro a H
    refine n_q H (q_move rfl) rfl ?_
    clear H a; intro a H
    refine n_q H (q_eql rfl rfl) rfl ?_
    clear H a; intro a H
    refine n_nil ?_
    refine then_normal ?_
    refine c_cond H rfl (fun hc11 => ?_) (fun hc11 => ?_)
    · skip
      have heq : hexD i = b := UInt8.toNat_inj.1 (by simp at hc11; omega)
      subst heq
      refine wp_seq ?_
      refine wp_region_lit ?_
      refine n_q H (q_move rfl) rfl ?_
      clear H a; intro a H
      refine n_q H (q_assign rfl) rfl ?_
      clear H a; intro a H
      refine n_nil ?_
      refine then_normal ?_
      refine wp_ret ?_
      refine block_ret ?_
      refine then_ret ?_
      refine then_ret ?_
      refine block_ret ?_
      refine then_ret ?_
      refine ret1 H (.inr rfl) rfl rfl ?_
      exact ⟨congrArg (Value.int .i64) (digit_some hi1).symm, hS.x⟩
    · skip
      have hne : hexD i ≠ b := fun he => by rw [he] at hc11; simp at hc11
      refine wp_skip ?_
      refine block_normal ?_
      refine then_normal ?_
      refine wp_region_lit ?_
      refine n_q H (q_move rfl) rfl ?_
      clear H a; intro a H
      refine n_q H (q_add rfl rfl (by constructor <;> omega)) rfl ?_
      clear H a; intro a H
      refine n_q H (q_assign rfl) rfl ?_
      clear H a; intro a H
      refine n_nil ?_
      refine then_normal ?_
      exact round (i + 1) H ⟨rfl, rfl, trivial⟩ ⟨by omega, fun j hj => (by rcases Nat.lt_or_ge j i with h | h; exact hno j h; have e : j = i := (by omega); rw [e]; exact hne), hS⟩ (by first | omega | (dsimp only; omega))
  · skip
    obtain rfl : i = 16 := by simp at hc5; omega
    refine wp_exit ?_
    refine then_exit ?_
    refine then_exit ?_
    refine block_exit ?_
    refine then_normal ?_
    refine wp_seq ?_
    refine wp_region_lit ?_
    refine n_q H (q_assign rfl) rfl ?_
    clear H a; intro a H
    refine n_nil ?_
    refine then_normal ?_
    refine wp_ret ?_
    refine ret1 H (.inr rfl) rfl rfl ?_
    exact ⟨congrArg (Value.int .i64) (digit_none hno).symm, hS.x⟩

/-- The bytes of an even number of digits. -/
def pairsM : List UInt8 → List UInt8
  | a :: b :: r => byteOf (digitM a * 16 + digitM b) :: pairsM r
  | _ => []
theorem pairsM_snoc : ∀ (n : Nat) (l : List UInt8) (a b : UInt8), l.length = 2 * n → pairsM (l ++ [a, b]) = pairsM l ++ [byteOf (digitM a * 16 + digitM b)]
  | 0, l, a, b, h => by rw [List.eq_nil_of_length_eq_zero h]; rfl
  | n + 1, [], a, b, h => by simp at h
  | n + 1, [x], a, b, h => by simp at h; omega
  | n + 1, x :: y :: l, a, b, h => by
    have := pairsM_snoc n l a b (by simp at h; omega)
    simp only [List.cons_append, pairsM, this]
theorem pairsM_take {l : List UInt8} {n : Nat} {a b : UInt8} (ha : l[2 * n]? = some a) (hb : l[2 * n + 1]? = some b) : pairsM (l.take (2 * (n + 1))) = pairsM (l.take (2 * n)) ++ [byteOf (digitM a * 16 + digitM b)] := by
  have hl := (List.getElem?_eq_some_iff.1 hb).1
  rw [show 2 * (n + 1) = 2 * n + 1 + 1 from by omega, take_snoc hb, take_snoc ha, List.append_assoc]
  exact pairsM_snoc n _ a b (by simp; omega)
theorem pairsM_len : ∀ (n : Nat) (l : List UInt8), l.length = 2 * n → (pairsM l).length = n
  | 0, l, h => by rw [List.eq_nil_of_length_eq_zero h]; rfl
  | n + 1, [], h => by simp at h
  | n + 1, [x], h => by simp at h; omega
  | n + 1, x :: y :: l, h => by
    have := pairsM_len n l (by simp at h; omega)
    simp only [pairsM, List.length_cons, this]
/-- Unhex, out of the first place without a digit. -/
def badM (l : List UInt8) : Nat := l.findIdx fun b => decide (digitM b < 0)
def unhexM (l : List UInt8) : List UInt8 × ErrM :=
  if badM l < l.length then ([], .pl (badM l : Nat) 0) else if l.length % 2 = 1 then ([], .pl (l.length : Nat) 1) else (pairsM l, .nil)
theorem badM_at {l : List UInt8} {i : Nat} {x : UInt8} (hx : l[i]? = some x) (hn : ∀ j y, j < i → l[j]? = some y → 0 ≤ digitM y) (h : digitM x < 0) : badM l = i := by
  obtain ⟨hl, he⟩ := List.getElem?_eq_some_iff.1 hx
  unfold badM
  rw [List.findIdx_eq hl]
  refine ⟨by rw [he]; simpa using h, fun j hj => ?_⟩
  have := hn j _ hj (List.getElem?_eq_getElem (by omega))
  simpa using this
theorem badM_no {l : List UInt8} (hn : ∀ j y, j < l.length → l[j]? = some y → 0 ≤ digitM y) : ¬ badM l < l.length := by
  intro h
  unfold badM at h
  have h2 := List.findIdx_getElem (w := h)
  have := hn _ _ h (List.getElem?_eq_getElem h)
  simp at h2
  omega
theorem strAt {s : ByteArray} {i : Nat} {x : UInt8} (h : s.data.toList[i]? = some x) (z : Int) (hz : z.toNat = i) (hn : z.toNat < s.size) : ((s[z.toNat]'hn).toNat : Int) = (x.toNat : Int) := by
  subst hz
  obtain ⟨hl, he⟩ := List.getElem?_eq_some_iff.1 h
  rw [← he]; rfl
theorem shlor (a b : UInt8) (ha : 0 ≤ digitM a) (hb : 0 ≤ digitM b) : IntKind.i64.wrap ((BitVec.ofInt IntKind.i64.bits (digitM a * 16) ||| BitVec.ofInt IntKind.i64.bits (digitM b)).toNat : Int) = digitM a * 16 + digitM b := by
  have key : ∀ x y : Fin 16, IntKind.i64.wrap ((BitVec.ofInt IntKind.i64.bits ((x.val : Int) * 16) ||| BitVec.ofInt IntKind.i64.bits (y.val : Int)).toNat : Int) = (x.val : Int) * 16 + y.val := by decide +kernel
  have la := digit_lt a
  have lb := digit_lt b
  have := key ⟨(digitM a).toNat, by omega⟩ ⟨(digitM b).toNat, by omega⟩
  simp only at this
  rw [show ((digitM a).toNat : Int) = digitM a by omega, show ((digitM b).toNat : Int) = digitM b by omega] at this
  exact this
set_option maxHeartbeats 2000000 in
theorem unhex_w {w : World} {A : Nat → Addr} {s : ByteArray} (hG : EV A w) (hz : s.size ≤ 35184372088832) : Calls Tryd.prog 18 [.string s].toArray w (Ret fun r w' => ∃ v e n, n = (unhexM s.data.toList).1.length ∧ r = .tuple #[v, e] ∧ St NB w w' [ownR 5 1 v n ((unhexM s.data.toList).1.flatMap eB), erR A e (unhexM s.data.toList).2]) := by
  have hS := St.begin NB w
  have hl8 : s.data.toList.length = s.size := rfl
  refine enter Tryd.func18 rfl rfl rfl ?_
  intro a H
  dsimp only [enumL, Nat.zero_add, Nat.reduceAdd] at H
  refine wp_seq ?_
  refine wp_region_lit ?_
  refine n_q H (q_assign rfl) rfl ?_
  clear H a; intro a H
  refine n_q H (q_assign rfl) rfl ?_
  clear H a; intro a H
  refine n_nil ?_
  refine then_normal ?_
  refine wp_seq ?_
  refine wp_seq ?_
  refine wp_region_lit ?_
  refine n_q H (q_move rfl) rfl ?_
  clear H a; intro a H
  refine n_q H (q_lenS Tryd.underlying9 rfl) rfl ?_
  clear H a; intro a H
  refine n_q H (q_move rfl) rfl ?_
  clear H a; intro a H
  refine n_nil ?_
  refine then_normal ?_
  refine wp_block ?_
  refine c_loop (σ := Nat) (fun i => [(0, .string s), (8, .int .i64 (s.size : Nat)), (9, .int .i64 (i : Nat))]) (fun i wl => i ≤ s.size ∧ (∀ j y, j < i → s.data.toList[j]? = some y → 0 ≤ digitM y) ∧ St NB w wl []) (fun i => s.size - i) 0 H ⟨rfl, rfl, rfl, trivial⟩ ⟨Nat.zero_le _, fun j y hj => by omega, hS⟩ ?_
  clear H hS; clear a; intro i a w1 H hR
  simp only [ent, List.map_cons, List.map_nil] at H
  try dsimp only at hR
  obtain ⟨hi, hno, hS⟩ := hR; try clear hR
  refine wp_seq ?_
  refine wp_region_lit ?_
  refine n_q H (q_lss rfl rfl) rfl ?_
  clear H a; intro a H
  refine n_nil ?_
  refine then_normal ?_
  refine wp_seq ?_
  refine c_cond H rfl (fun hc10 => ?_) (fun hc10 => ?_)
  · skip
    have hi1 : i < s.size := by simp at hc10; omega
    obtain ⟨x, hx⟩ : ∃ x, s.data.toList[i]? = some x := ⟨_, List.getElem?_eq_getElem (by rw [hl8]; exact hi1)⟩
    refine wp_skip ?_
    refine then_normal ?_
    refine wp_seq ?_
    refine wp_block ?_
    refine wp_seq ?_
    refine wp_region_lit ?_
    refine n_q H (q_move rfl) rfl ?_
    clear H a; intro a H
    refine n_q H (q_assign rfl) rfl ?_
    clear H a; intro a H
    refine n_nil ?_
    refine then_normal ?_
    refine wp_seq ?_
    refine wp_region_lit ?_
    refine n_q H (q_move rfl) rfl ?_
    clear H a; intro a H
    refine n_q H (q_move rfl) rfl ?_
    clear H a; intro a H
    refine n_q H (q_cast (q_indexS Tryd.underlying9 rfl rfl (by omega) (by have := hl8; omega)) (congrArg (Value.int .u8) (strAt hx _ (by omega) _))) rfl ?_
    clear H a; intro a H
    refine n_call H rfl en56 (digit_w (b := x)) rfl ?_
    clear H a; intro v4 w2 hv a H
    obtain ⟨rfl, hE3⟩ := hv
    replace hS := hS.ext hE3
    refine n_q H (q_lss rfl rfl) rfl ?_
    clear H a; intro a H
    refine n_nil ?_
    refine then_normal ?_
    refine c_cond H rfl (fun hc16 => ?_) (fun hc16 => ?_)
    · skip
      have hneg : digitM x < 0 := by simpa using hc16
      refine wp_seq ?_
      refine wp_region_lit ?_
      refine n_q H (q_move rfl) rfl ?_
      clear H a; intro a H
      refine n_q H (q_load rfl ((hG.ext hS.x).ld 0 (by decide) ag33)) rfl ?_
      clear H a; intro a H
      refine n_call H rfl en57 (at_w rfl) rfl ?_
      clear H a; intro v7 w5 hv a H
      obtain ⟨be, rfl, hE6⟩ := hv
      replace hS := hS.new hE6
      simp only [List.cons_append, List.nil_append] at hS
      replace hS := hS.atErr (g := 0) (by decide)
      refine n_q H (q_assign rfl) rfl ?_
      clear H a; intro a H
      refine n_q H (q_assign rfl) rfl ?_
      clear H a; intro a H
      refine n_nil ?_
      refine then_normal ?_
      refine wp_ret ?_
      refine block_ret ?_
      refine then_ret ?_
      refine then_ret ?_
      refine block_ret ?_
      refine then_ret ?_
      replace hS := hS.nilOwn 5 1
      replace hS := hS.pick 1 rfl
      dsimp only [List.eraseIdx] at hS
      replace hS := hS.pick 1 rfl
      dsimp only [List.eraseIdx] at hS
      refine ret2 H (.inr rfl) rfl rfl rfl ?_
      rw [show unhexM s.data.toList = ([], .pl (i : Nat) 0) from by unfold unhexM; rw [badM_at hx hno hneg, if_pos (by omega)]]; exact ⟨_, _, _, rfl, rfl, hS⟩
    · skip
      have hpos : 0 ≤ digitM x := by simp at hc16; omega
      refine wp_skip ?_
      refine block_normal ?_
      refine then_normal ?_
      refine wp_region_lit ?_
      refine n_q H (q_add rfl rfl (by constructor <;> omega)) rfl ?_
      clear H a; intro a H
      refine n_q H (q_move rfl) rfl ?_
      clear H a; intro a H
      refine n_nil ?_
      refine then_normal ?_
      exact round (i + 1) H ⟨rfl, rfl, rfl, trivial⟩ ⟨by omega, fun j y hj hy => (by rcases Nat.lt_or_ge j i with h | h; exact hno j y h hy; have e : j = i := (by omega); rw [e, hx] at hy; cases hy; exact hpos), hS⟩ (by first | omega | (dsimp only; omega))
  · skip
    obtain rfl : i = s.size := by simp at hc10; omega
    refine wp_exit ?_
    refine then_exit ?_
    refine then_exit ?_
    refine block_exit ?_
    refine then_normal ?_
    refine wp_seq ?_
    refine wp_seq ?_
    refine wp_region_lit ?_
    refine n_q H (q_move rfl) rfl ?_
    clear H a; intro a H
    refine n_q H (q_lenS Tryd.underlying9 rfl) rfl ?_
    clear H a; intro a H
    refine n_q H (q_rem rfl rfl (by omega) (by omega)) rfl ?_
    clear H a; intro a H
    refine n_q H (q_eql rfl rfl) rfl ?_
    clear H a; intro a H
    refine n_nil ?_
    refine then_normal ?_
    refine c_cond H rfl (fun hc24 => ?_) (fun hc24 => ?_)
    · skip
      have hodd : s.size % 2 = 1 := by simp at hc24; omega
      refine wp_seq ?_
      refine wp_region_lit ?_
      refine n_q H (q_move rfl) rfl ?_
      clear H a; intro a H
      refine n_q H (q_lenS Tryd.underlying9 rfl) rfl ?_
      clear H a; intro a H
      refine n_q H (q_load rfl ((hG.ext hS.x).ld 1 (by decide) ag33)) rfl ?_
      clear H a; intro a H
      refine n_call H rfl en57 (at_w rfl) rfl ?_
      clear H a; intro v10 w8 hv a H
      obtain ⟨be, rfl, hE9⟩ := hv
      replace hS := hS.new hE9
      simp only [List.cons_append, List.nil_append] at hS
      replace hS := hS.atErr (g := 1) (by decide)
      refine n_q H (q_assign rfl) rfl ?_
      clear H a; intro a H
      refine n_q H (q_assign rfl) rfl ?_
      clear H a; intro a H
      refine n_nil ?_
      refine then_normal ?_
      refine wp_ret ?_
      refine then_ret ?_
      replace hS := hS.nilOwn 5 1
      replace hS := hS.pick 1 rfl
      dsimp only [List.eraseIdx] at hS
      replace hS := hS.pick 1 rfl
      dsimp only [List.eraseIdx] at hS
      refine ret2 H (.inr rfl) rfl rfl rfl ?_
      rw [show unhexM s.data.toList = ([], .pl (s.size : Nat) 1) from by unfold unhexM; rw [if_neg (badM_no hno), hl8, if_pos hodd]]; exact ⟨_, _, _, rfl, rfl, hS⟩
    · skip
      have heven : ¬ s.size % 2 = 1 := by simp at hc24; omega
      refine wp_skip ?_
      refine then_normal ?_
      refine wp_seq ?_
      refine wp_region_lit ?_
      refine n_q H (q_assign rfl) rfl ?_
      clear H a; intro a H
      refine n_nil ?_
      refine then_normal ?_
      refine wp_seq ?_
      refine wp_seq ?_
      refine wp_region_lit ?_
      refine n_q H (q_assign rfl) rfl ?_
      clear H a; intro a H
      refine n_nil ?_
      refine then_normal ?_
      refine wp_block ?_
      replace hS := hS.nilOwn 5 1
      refine c_loop (σ := Nat × Value) (fun (m, vb) => [(0, .string s), (5, vb), (6, .int .i64 ((2 * m : Nat) : Int))]) (fun (m, vb) wl => 2 * m ≤ s.size ∧ St NB w wl [ownR 5 1 vb m ((pairsM (s.data.toList.take (2 * m))).flatMap eB)]) (fun (m, vb) => s.size - 2 * m) (0, .slice none 0 0) H ⟨rfl, rfl, rfl, trivial⟩ ⟨Nat.zero_le _, hS⟩ ?_
      clear H hS; clear a; intro xx a w11 H hR
      obtain ⟨m, vb⟩ := xx
      simp only [ent, List.map_cons, List.map_nil] at H
      try dsimp only at hR
      obtain ⟨hm, hS⟩ := hR; try clear hR
      refine wp_seq ?_
      refine wp_seq ?_
      refine wp_region_lit ?_
      refine n_q H (q_move rfl) rfl ?_
      clear H a; intro a H
      refine n_q H (q_move rfl) rfl ?_
      clear H a; intro a H
      refine n_q H (q_lenS Tryd.underlying9 rfl) rfl ?_
      clear H a; intro a H
      refine n_q H (q_lss rfl rfl) rfl ?_
      clear H a; intro a H
      refine n_nil ?_
      refine then_normal ?_
      refine c_cond H rfl (fun hc32 => ?_) (fun hc32 => ?_)
      · skip
        have hm1 : 2 * m + 1 < s.size := by simp at hc32; omega
        obtain ⟨xa, hxa⟩ : ∃ x, s.data.toList[2 * m]? = some x := ⟨_, List.getElem?_eq_getElem (by rw [hl8]; omega)⟩
        obtain ⟨xb, hxb⟩ : ∃ x, s.data.toList[2 * m + 1]? = some x := ⟨_, List.getElem?_eq_getElem (by rw [hl8]; omega)⟩
        have h0a := hno _ _ (by omega) hxa
        have h0b := hno _ _ (by omega) hxb
        have hda := digit_lt xa
        have hdb := digit_lt xb
        refine wp_skip ?_
        refine then_normal ?_
        refine wp_seq ?_
        refine wp_block ?_
        refine c_ord (blks vb) 16 (by kernel_rfl) ?_
        obtain ⟨w12, hw12⟩ : ∃ x, x = w11.drew := ⟨_, rfl⟩
        rw [← hw12]
        have hE13 : Ext w11 w12 := by rw [hw12]; exact Ext.drew' _
        clear hw12
        replace hS := hS.ext hE13
        refine k_take 0 H rfl (q_move rfl) rfl (by kernel_rfl) (by kernel_rfl) (by kernel_rfl) (by kernel_rfl) (fun _ _ _ h => h) ?_
        clear H a; intro a H
        refine k_take 1 H rfl (q_move rfl) rfl (by kernel_rfl) (by kernel_rfl) (by kernel_rfl) (by kernel_rfl) (fun _ _ _ h => h) ?_
        clear H a; intro a H
        refine k_take 2 H rfl (q_move rfl) rfl (by kernel_rfl) (by kernel_rfl) (by kernel_rfl) (by kernel_rfl) (fun _ _ _ h => h) ?_
        clear H a; intro a H
        refine k_take 3 H rfl (q_cast (q_indexS Tryd.underlying9 rfl rfl (by omega) (by have := hl8; omega)) (congrArg (Value.int .u8) (strAt hxa _ (by omega) _))) rfl (by kernel_rfl) (by kernel_rfl) (by kernel_rfl) (by kernel_rfl) (fun _ _ _ h => h) ?_
        clear H a; intro a H
        refine k_take 6 H rfl (q_move rfl) rfl (by kernel_rfl) (by kernel_rfl) (by kernel_rfl) (by kernel_rfl) (fun _ _ _ h => h) ?_
        clear H a; intro a H
        refine k_take 7 H rfl (q_move rfl) rfl (by kernel_rfl) (by kernel_rfl) (by kernel_rfl) (by kernel_rfl) (fun _ _ _ h => h) ?_
        clear H a; intro a H
        refine k_take 8 H rfl (q_add rfl rfl (by constructor <;> omega)) rfl (by kernel_rfl) (by kernel_rfl) (by kernel_rfl) (by kernel_rfl) (fun _ _ _ h => h) ?_
        clear H a; intro a H
        refine k_take 9 H rfl (q_cast (q_indexS Tryd.underlying9 rfl rfl (by omega) (by have := hl8; omega)) (congrArg (Value.int .u8) (strAt hxb _ (by omega) _))) rfl (by kernel_rfl) (by kernel_rfl) (by kernel_rfl) (by kernel_rfl) (fun _ _ _ h => h) ?_
        clear H a; intro a H
        refine k_call 4 H rfl rfl en56 (digit_w (b := xa)) rfl (by kernel_rfl) (fun v w hv => .inl (ChgF.of_ext hv.2)) ?_
        clear H a; intro v16 w14 hv a H
        obtain ⟨rfl, hE15⟩ := hv
        replace hS := hS.ext hE15
        refine k_take 5 H rfl (q_cast (q_shl rfl rfl (by omega)) (show _ = Value.int .i64 (digitM xa * 16) by rw [show (2 : Int) ^ (min (4 : Int).toNat IntKind.i64.bits) = 16 from rfl, wrap64_eq (by constructor <;> omega)])) rfl (by kernel_rfl) (by kernel_rfl) (by kernel_rfl) (by kernel_rfl) (fun _ _ _ h => h) ?_
        clear H a; intro a H
        refine k_call 10 H rfl rfl en56 (digit_w (b := xb)) rfl (by kernel_rfl) (fun v w hv => .inl (ChgF.of_ext hv.2)) ?_
        clear H a; intro v19 w17 hv a H
        obtain ⟨rfl, hE18⟩ := hv
        replace hS := hS.ext hE18
        refine k_take 11 H rfl (q_cast (q_or rfl rfl) (show _ = Value.int .i64 (digitM xa * 16 + digitM xb) by rw [shlor _ _ h0a h0b])) rfl (by kernel_rfl) (by kernel_rfl) (by kernel_rfl) (by kernel_rfl) (fun _ _ _ h => h) ?_
        clear H a; intro a H
        refine k_take 12 H rfl (q_cast (q_convI Tryd.underlying3 Tryd.underlying5 ⟨_, rfl⟩ rfl) (show _ = Value.int .u8 ((byteOf (digitM xa * 16 + digitM xb)).toNat : Int) by rw [wrap8])) rfl (by kernel_rfl) (by kernel_rfl) (by kernel_rfl) (by kernel_rfl) (fun _ _ _ h => h) ?_
        clear H a; intro a H
        refine k_buildSlice 13 H rfl Tryd.underlying23 sz5 ze5 rfl rfl rfl rfl rfl (by kernel_rfl) ?_
        clear H; intro b48 w20 hN hE21 hs_b48; clear a; intro a H
        have hz_b48 := hE21.size
        replace hS := hS.newBlk hN hE21 hs_b48; clear hN hE21
        replace hS := hS.pick 1 rfl
        dsimp only [List.eraseIdx] at hS
        refine k_append 14 H rfl rfl rfl Tryd.underlying23 Tryd.underlying23 (by simp) el5 (hS.own 0 rfl) (show Src _ 1 _ 1 (([byteOf (digitM xa * 16 + digitM xb)] : List UInt8).flatMap eB) from (Own.ofBlk (n := 1) (k := 1) (hS.blk 1 rfl) rfl (by simp [maxLen])).src) (flat_one eB_one _) (by omega) (by simp only [maxLen]; omega) rfl (by kernel_rfl) (.inl (fun b hb _ => hb)) ?_
        clear H; intro v49 w22 hN hC23 hb49 hnil49; clear a; intro a H
        have hz49 := hC23.size
        replace hS := hS.setOwn hN hC23 hb49; clear hN
        refine k_take 15 H rfl (q_assign rfl) rfl (by kernel_rfl) (by kernel_rfl) (by kernel_rfl) (by kernel_rfl) (fun _ _ _ h => h) ?_
        clear H a; intro a H
        refine k_done (by kernel_rfl) ?_
        refine block_normal ?_
        refine then_normal ?_
        refine wp_region_lit ?_
        refine n_q H (q_move rfl) rfl ?_
        clear H a; intro a H
        refine n_q H (q_cast (q_add rfl rfl (by constructor <;> omega)) (show _ = Value.int .i64 ((2 * (m + 1) : Nat) : Int) by congr 1)) rfl ?_
        clear H a; intro a H
        refine n_q H (q_assign rfl) rfl ?_
        clear H a; intro a H
        refine n_nil ?_
        refine then_normal ?_
        replace hS := hS.take 1
        simp only [List.take_succ_cons, List.take_zero] at hS
        exact round (m + 1, v49) H ⟨rfl, rfl, rfl, trivial⟩ ⟨by omega, by rw [pairsM_take hxa hxb, List.flatMap_append]; exact hS⟩ (by first | omega | (dsimp only; omega))
      · skip
        have hm2 : 2 * m = s.size := by simp at hc32; omega
        rw [List.take_of_length_le (by omega)] at hS
        refine wp_exit ?_
        refine then_exit ?_
        refine then_exit ?_
        refine block_exit ?_
        refine then_normal ?_
        refine wp_seq ?_
        refine wp_region_lit ?_
        refine n_q H (q_move rfl) rfl ?_
        clear H a; intro a H
        refine n_q H (q_assign rfl) rfl ?_
        clear H a; intro a H
        refine n_q H (q_assign rfl) rfl ?_
        clear H a; intro a H
        refine n_nil ?_
        refine then_normal ?_
        refine wp_ret ?_
        replace hS := hS.noErr (A := A)
        replace hS := hS.pick 1 rfl
        dsimp only [List.eraseIdx] at hS
        refine ret2 H (.inr rfl) rfl rfl rfl ?_
        rw [show unhexM s.data.toList = (pairsM s.data.toList, .nil) from by unfold unhexM; rw [if_neg (badM_no hno), hl8, if_neg heven]]; exact ⟨_, _, _, (pairsM_len m _ (by omega)).symm, rfl, hS⟩

end Go.Proofs.YtnhjohcgnmogaaaDoor
