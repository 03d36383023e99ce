/- The document on wires (written by wip/tools) -/
import Derived.Test.YtnhjohcgnmogaaaDoorWireC
set_option linter.unusedVariables false
set_option linter.unusedSimpArgs false
set_option maxRecDepth 10000
namespace Go.Proofs.YtnhjohcgnmogaaaDoor
open Go Go.RowKit
theorem ag109 : aggB Tryd.prog 109 = some true := by kernel_rfl
theorem ag149 : aggB Tryd.prog 149 = some true := by kernel_rfl
theorem ag29 : aggB Tryd.prog 29 = some true := by kernel_rfl
theorem bd109 : bdB Tryd.prog 109 = true := by kernel_rfl
theorem pl109 : placesB Tryd.prog 109 = some #[(0, 1), (1, 1), (2, 1)] := by kernel_rfl
theorem bd149 : bdB Tryd.prog 149 = true := by kernel_rfl
theorem pl149 : placesB Tryd.prog 149 = some #[(0, 1), (1, 2)] := by kernel_rfl
theorem bd29 : bdB Tryd.prog 29 = true := by kernel_rfl
theorem pl29 : placesB Tryd.prog 29 = some #[(0, 1), (1, 1)] := by kernel_rfl
theorem en47 : entersB Tryd.prog 47 = true := by kernel_rfl
theorem en49 : entersB Tryd.prog 49 = true := by kernel_rfl
theorem en77 : entersB Tryd.prog 77 = true := by kernel_rfl
theorem en78 : entersB Tryd.prog 78 = true := by kernel_rfl
theorem en79 : entersB Tryd.prog 79 = true := by kernel_rfl
theorem en93 : entersB Tryd.prog 93 = true := by kernel_rfl
theorem fo109_0 : fOff Tryd.prog 109 0 = some 0 := by kernel_rfl
theorem fo109_1 : fOff Tryd.prog 109 1 = some 1 := by kernel_rfl
theorem fo109_2 : fOff Tryd.prog 109 2 = some 2 := by kernel_rfl
theorem fo149_0 : fOff Tryd.prog 149 0 = some 0 := by kernel_rfl
theorem fo149_1 : fOff Tryd.prog 149 1 = some 1 := by kernel_rfl
theorem fo29_0 : fOff Tryd.prog 29 0 = some 0 := by kernel_rfl
theorem sz109 : sizeB Tryd.prog 109 = some 3 := by kernel_rfl
theorem sz149 : sizeB Tryd.prog 149 = some 3 := by kernel_rfl
theorem sz29 : sizeB Tryd.prog 29 = some 2 := by kernel_rfl
theorem ze109 : zeroB Tryd.prog 109 = some [.slice none 0 0, .int .i64 0, .int .i64 0] := by kernel_rfl
theorem ze149 : zeroB Tryd.prog 149 = some [.slice none 0 0, .int .i64 0, .int .i64 0] := by kernel_rfl
theorem ze29 : zeroB Tryd.prog 29 = some [.int .i64 0, .int .i64 0] := by kernel_rfl

/-- The document's error. -/
def eE (e : ErrM) : Value := .agg #[.int .i64 e.code, .int .i64 e.place]
theorem codeG_pos (g : Nat) : 1 ≤ codeG g := by unfold codeG; omega
theorem code_nil {e : ErrM} : (e.code != 0) = !decide (e = .nil) := by
  cases e with
  | nil => rfl
  | v g => have := codeG_pos g; simp only [ErrM.code, ErrM.g?, bne]; rw [beq_false_of_ne (by omega)]; simp
  | pl p g => have := codeG_pos g; simp only [ErrM.code, ErrM.g?, bne]; rw [beq_false_of_ne (by omega)]; simp
def rmost (k : Int) : Int := if k = 1 then 255 else if k = 2 then 65535 else if k = 4 then 4294967295 else -1
theorem rmost_w {k : Int} (h : k = 1 ∨ k = 2 ∨ k = 4) : rmost k = mostW k := by rcases h with rfl | rfl | rfl <;> rfl
/-- The document's writer at p. -/
def rrR (p : Nat) (x : WM) : Rs := exR fun v => starR [blkR p [v, .int .i64 x.err.code, .int .i64 x.err.place] 149, ownR 5 1 v x.buf.length (x.buf.flatMap eB)]
theorem St.rr {fp : Nat → Prop} {w0 w : World} {rs : List Rs} {p : Nat} {x : WM} (h : St fp w0 w (rrR p x :: rs)) : ∃ v, St fp w0 w (blkR p [v, .int .i64 x.err.code, .int .i64 x.err.place] 149 :: ownR 5 1 v x.buf.length (x.buf.flatMap eB) :: rs) := by
  obtain ⟨v, h⟩ := h.ex
  exact ⟨v, h.star⟩
theorem St.rrMk {fp : Nat → Prop} {w0 w : World} {rs : List Rs} {p n : Nat} {v : Value} {x : WM} {cs : List Value} {i j : Int} (h : St fp w0 w (blkR p [v, .int .i64 i, .int .i64 j] 149 :: ownR 5 1 v n cs :: rs)) (hn : n = x.buf.length) (hc : cs = x.buf.flatMap eB) (hi : i = x.err.code) (hj : j = x.err.place) : St fp w0 w (rrR p x :: rs) := by
  subst hn; subst hc; subst hi; subst hj
  exact (St.fold [_, _] h).mkEx (f := fun v => starR [blkR p [v, .int .i64 x.err.code, .int .i64 x.err.place] 149, ownR 5 1 v x.buf.length (x.buf.flatMap eB)]) v
abbrev rcR (p : Nat) (v : Value) (a d : Nat) : Rs := blkR p [v, .int .i64 (a : Nat), .int .i64 (d : Nat)] 109
def rnR (v : Value) (q : Option Addr) : Option (Nat × Nat) → Rs
  | none => pureR (q = none)
  | some x => exR fun p => starR [pureR (q = some ⟨p, 0, none⟩), rcR p v x.1 x.2]
theorem St.rnNone {fp : Nat → Prop} {w0 w : World} {rs : List Rs} (v : Value) (h : St fp w0 w rs) : St fp w0 w (rnR v none none :: rs) := h.mkPure rfl
theorem St.rnSome {fp : Nat → Prop} {w0 w : World} {rs : List Rs} {v : Value} {p a d : Nat} (h : St fp w0 w (rcR p v a d :: rs)) : St fp w0 w (rnR v (some ⟨p, 0, none⟩) (some (a, d)) :: rs) :=
  (St.fold [_, _] (h.mkPure (p := (some (⟨p, 0, none⟩ : Addr)) = some ⟨p, 0, none⟩) rfl)).mkEx (f := fun p' => starR [pureR ((some (⟨p, 0, none⟩ : Addr)) = some ⟨p', 0, none⟩), rcR p' v a d]) p
theorem St.rnGet {fp : Nat → Prop} {w0 w : World} {rs : List Rs} {v : Value} {q : Option Addr} {x : Nat × Nat} (h : St fp w0 w (rnR v q (some x) :: rs)) : ∃ p, q = some ⟨p, 0, none⟩ ∧ St fp w0 w (rcR p v x.1 x.2 :: rs) := by
  obtain ⟨p, h⟩ := h.ex
  obtain ⟨h1, h2⟩ := h.star.pure
  exact ⟨p, h1, h2⟩
theorem St.rnGet0 {fp : Nat → Prop} {w0 w : World} {rs : List Rs} {v : Value} {q : Option Addr} (h : St fp w0 w (rnR v q none :: rs)) : q = none ∧ St fp w0 w rs := h.pure
/-- Number's bytes: what is still to come, and what is there. -/
theorem be_snoc {n : Int} (h : 0 ≤ n) : ∀ k : Nat, beDown n (k + 1) = beDown (n / 256) k ++ [byteOf n]
  | 0 => by simp [beDown]
  | k + 1 => by
    rw [beDown, be_snoc h k, beDown, List.cons_append]
    congr 2
    rw [Int.fdiv_eq_ediv_of_nonneg n (Int.le_of_lt (Int.pow_pos (by omega))), Int.fdiv_eq_ediv_of_nonneg _ (Int.le_of_lt (Int.pow_pos (by omega))), Int.ediv_ediv_of_nonneg (by omega), show 8 * (k + 1) = 8 + 8 * k by omega, Int.pow_add]
    rfl
theorem peek1 {bs : List UInt8} {a : Nat} {x : UInt8} (h : bs[a]? = some x) : peekN bs a 1 = (x.toNat : Int) := by
  have e : (bs.drop a).take 1 = [x] := by
    obtain ⟨hl, he⟩ := List.getElem?_eq_some_iff.1 h
    rw [List.drop_eq_getElem_cons hl, he]; rfl
  rw [peekN, e]; simp [beNat]
theorem rep0 (k : Nat) : (List.replicate k (0 : UInt8)).flatMap eB = (List.replicate k [Value.int .u8 0]).flatten := by
  induction k with
  | zero => rfl
  | succ k ih => rw [List.replicate_succ, List.flatMap_cons, ih, List.replicate_succ, List.flatten_cons]; rfl
theorem rep_set {i : Int} (h : 0 ≤ i) (m : Int) (tl : List UInt8) : (((List.replicate (i + 1).toNat 0 ++ tl).flatMap eB).set (i.toNat * 1) (.int .u8 (IntKind.u8.wrap (m % 256)))) = (List.replicate i.toNat 0 ++ byteOf m :: tl).flatMap eB := by
  have e1 : (i + 1).toNat = i.toNat + 1 := by omega
  have e2 : IntKind.u8.wrap (m % 256) = ((byteOf m).toNat : Int) := by rw [wrap8, byteOf_toNat, byteOf_toNat]; omega
  rw [e1, e2, List.replicate_succ', List.append_assoc, List.flatMap_append, List.flatMap_append, Nat.mul_one]
  have hl : ((List.replicate i.toNat (0 : UInt8)).flatMap eB).length = i.toNat := by rw [eB_flen]; simp
  rw [List.set_append, if_neg (by rw [hl]; exact Nat.lt_irrefl _), hl, Nat.sub_self, List.flatMap_append (xs := List.replicate i.toNat 0)]
  rfl
theorem be1 (t : Int) : beDown t (1 : Int).toNat = [byteOf t] := by
  show [byteOf (t.fdiv (2 ^ (8 * 0)))] = [byteOf t]
  simp
theorem rNone_w {w : World} : Calls Tryd.prog 49 [].toArray w (Ret fun r w' => r = eE .nil ∧ Ext w w') := by
  have hS := St.begin NB w
  refine enter Tryd.func49 rfl rfl rfl ?_
  intro a H
  dsimp only [enumL, Nat.zero_add, Nat.reduceAdd] at H
  refine wp_seq ?_
  refine wp_region_lit ?_
  refine n_alloc H ze29 rfl ?_
  clear H; intro b0 w1 hN hE2 hs_b0; clear a; intro a H
  replace hS := hS.newBlk hN hE2 hs_b0; clear hN hE2
  refine n_nil ?_
  refine then_normal ?_
  refine wp_seq ?_
  refine wp_region_lit ?_
  refine n_q H (q_build (cs := [.int .i64 0, .int .i64 (-1)]) ze29 bd29 pl29 rfl (by kernel_rfl)) rfl ?_
  clear H a; intro a H
  refine n_storeAll H rfl rfl rfl sz29 (hS.blk 0 rfl) rfl (by simp) ?_
  clear H; intro w3 hN hC4 hz; clear a; intro a H
  replace hS := hS.setBlk hN hC4; clear hN hz
  refine n_nil ?_
  refine then_normal ?_
  refine wp_ret ?_
  refine retL H (.inr rfl) rfl (vs := _) (resCell rfl ((hS.blk 0 rfl).ldAll ag29 sz29) resNil) ?_
  exact ⟨rfl, hS.x⟩

theorem rNew_w {w : World} : Calls Tryd.prog 43 [].toArray w (Ret fun r w' => ∃ p, r = .pointer (some ⟨p, 0, none⟩) ∧ St NB w w' [rrR p ⟨[], .nil⟩]) := by
  have hS := St.begin NB w
  refine enter Tryd.func43 rfl rfl rfl ?_
  intro a H
  dsimp only [enumL, Nat.zero_add, Nat.reduceAdd] at H
  refine wp_seq ?_
  refine wp_region_lit ?_
  refine n_q H (q_assign rfl) rfl ?_
  clear H a; intro a H
  refine n_nil ?_
  refine then_normal ?_
  refine wp_seq ?_
  refine wp_region_lit ?_
  refine n_call H rfl en49 (rNone_w) rfl ?_
  clear H a; intro v3 w1 hv a H
  obtain ⟨rfl, hE2⟩ := hv
  replace hS := hS.ext hE2
  refine n_q H (q_build (cs := [.slice none 0 0, .int .i64 0, .int .i64 (-1)]) ze149 bd149 pl149 rfl (by kernel_rfl)) rfl ?_
  clear H a; intro a H
  refine n_box H rfl (cs := [.slice none 0 0, .int .i64 0, .int .i64 (-1)]) rfl rfl ?_
  clear H; intro b3 w4 hN hE5 hs_b3; clear a; intro a H
  replace hS := hS.newBlk hN hE5 hs_b3; clear hN hE5
  refine n_q H (q_assign rfl) rfl ?_
  clear H a; intro a H
  refine n_nil ?_
  refine then_normal ?_
  refine wp_ret ?_
  refine ret1 H (.inr rfl) rfl rfl ?_
  exact ⟨_, rfl, ((hS.nilOwn 5 1).pick 1 rfl).rrMk (x := ⟨[], .nil⟩) rfl rfl rfl rfl⟩

theorem rNumber_w {w : World} {n k : Int} (h0 : 0 ≤ n) (hn63 : n ≤ 9223372036854775807) (hk : k = 1 ∨ k = 2 ∨ k = 4) : Calls Tryd.prog 78 [.int .i64 n, .int .i64 k].toArray w (Ret fun r w' => ∃ m, m = (beDown n k.toNat).length ∧ St NB w w' [ownR 5 1 r m ((beDown n k.toNat).flatMap eB)]) := by
  have hS := St.begin NB w
  have hk0 : 1 ≤ k ∧ k ≤ 4 := by omega
  refine enter Tryd.func78 rfl rfl rfl ?_
  intro a H
  dsimp only [enumL, Nat.zero_add, Nat.reduceAdd] at H
  refine wp_seq ?_
  refine wp_region_lit ?_
  refine n_q H (q_assign rfl) rfl ?_
  clear H a; intro a H
  refine n_nil ?_
  refine then_normal ?_
  refine wp_seq ?_
  refine wp_region_lit ?_
  refine n_q H (q_move rfl) rfl ?_
  clear H a; intro a H
  refine n_make (L := k.toNat) (C := k.toNat) H Tryd.underlying23 el5 (congrArg (fun z => some (Value.int .i64 z)) (by omega)) (congrArg (fun z => some (Value.int .i64 z)) (by omega)) (by omega) (by omega) (by simp only [maxLen]; omega) rfl ?_
  clear H; intro b8 w1 hN hE2 hs_b8; clear a; intro a H
  replace hS := hS.newOwn hN hE2 (by simp [blks]; omega); clear hN hE2
  refine n_q H (q_assign rfl) rfl ?_
  clear H a; intro a H
  refine n_nil ?_
  refine then_normal ?_
  refine wp_seq ?_
  refine wp_seq ?_
  refine wp_region_lit ?_
  refine n_q H (q_move rfl) rfl ?_
  clear H a; intro a H
  refine n_q H (q_sub rfl rfl (by constructor <;> omega)) rfl ?_
  clear H a; intro a H
  refine n_q H (q_assign rfl) rfl ?_
  clear H a; intro a H
  refine n_nil ?_
  refine then_normal ?_
  refine wp_block ?_
  refine c_loop (σ := Int × Int × List UInt8) (fun (i, m, tl) => [(0, .int .i64 m), (5, .slice (some ⟨b8, 0, none⟩) k.toNat k.toNat), (6, .int .i64 i)]) (fun (i, m, tl) wl => -1 ≤ i ∧ i < k ∧ 0 ≤ m ∧ m ≤ 9223372036854775807 ∧ beDown m (i + 1).toNat ++ tl = beDown n k.toNat ∧ St NB w wl [ownR 5 1 (.slice (some ⟨b8, 0, none⟩) k.toNat k.toNat) k.toNat ((List.replicate (i + 1).toNat 0 ++ tl).flatMap eB)]) (fun (i, m, tl) => (i + 1).toNat) (k - 1, n, []) H ⟨rfl, rfl, rfl, trivial⟩ ⟨by omega, by omega, h0, hn63, by rw [show k - 1 + 1 = k by omega]; simp, by rw [show k - 1 + 1 = k by omega, List.append_nil, rep0]; exact hS⟩ ?_
  clear H hS; clear a; intro xx a w3 H hR
  obtain ⟨i, m, tl⟩ := xx
  simp only [ent, List.map_cons, List.map_nil] at H
  try dsimp only at hR
  obtain ⟨hi, hik, hm0, hm63, hp, hS⟩ := hR; try clear hR
  refine wp_seq ?_
  refine wp_seq ?_
  refine wp_region_lit ?_
  refine n_q H (q_move rfl) rfl ?_
  clear H a; intro a H
  refine n_q H (q_geq rfl rfl) rfl ?_
  clear H a; intro a H
  refine n_nil ?_
  refine then_normal ?_
  refine c_cond H rfl (fun hc12 => ?_) (fun hc12 => ?_)
  · skip
    have q12 : 0 ≤ i := by simpa using hc12
    refine wp_skip ?_
    refine then_normal ?_
    refine wp_seq ?_
    refine wp_block ?_
    refine wp_seq ?_
    refine wp_region_lit ?_
    refine n_q H (q_move rfl) rfl ?_
    clear H a; intro a H
    refine n_q H (q_move rfl) rfl ?_
    clear H a; intro a H
    refine n_q H (q_move rfl) rfl ?_
    clear H a; intro a H
    refine n_q H (q_rem rfl rfl (by omega) (by omega)) rfl ?_
    clear H a; intro a H
    refine n_q H (q_convI Tryd.underlying3 Tryd.underlying5 ⟨_, rfl⟩ rfl) rfl ?_
    clear H a; intro a H
    refine n_q H (q_indexAddr0 (b := b8) (n := k.toNat) (c := k.toNat) (i := i.toNat) Tryd.underlying23 sz5 rfl (congrArg (fun z => some (Value.int .i64 z)) (show i = ((i.toNat : Nat) : Int) by omega)) (by omega)) rfl ?_
    clear H a; intro a H
    refine n_storeE1 H rfl rfl sz5 rfl (hS.own 0 rfl) (by omega) ?_
    clear H; intro w4 hN hC5; clear a; intro a H
    replace hS := hS.setOwn hN hC5 (.inl rfl); clear hN
    refine n_nil ?_
    refine then_normal ?_
    refine wp_region_lit ?_
    refine n_q H (q_move rfl) rfl ?_
    clear H a; intro a H
    refine n_q H (q_quo rfl rfl (by omega) (by omega) (by omega)) rfl ?_
    clear H a; intro a H
    refine n_q H (q_assign rfl) rfl ?_
    clear H a; intro a H
    refine n_nil ?_
    refine block_normal ?_
    refine then_normal ?_
    refine wp_region_lit ?_
    refine n_q H (q_move rfl) rfl ?_
    clear H a; intro a H
    refine n_q H (q_sub rfl rfl (by constructor <;> omega)) rfl ?_
    clear H a; intro a H
    refine n_q H (q_assign rfl) rfl ?_
    clear H a; intro a H
    refine n_nil ?_
    refine then_normal ?_
    have hst : (((List.replicate (i + 1).toNat 0 ++ tl).flatMap eB).set (i.toNat * 1) (.int .u8 (IntKind.u8.wrap (m % 256)))) = (List.replicate i.toNat 0 ++ byteOf m :: tl).flatMap eB := rep_set (by omega) m tl
    rw [hst] at hS
    exact round (i - 1, m / 256, byteOf m :: tl) H ⟨rfl, rfl, rfl, trivial⟩ ⟨by omega, by omega, Int.ediv_nonneg hm0 (by omega), by omega, by rw [show i - 1 + 1 = i by omega, ← hp, show (i + 1).toNat = i.toNat + 1 by omega, be_snoc hm0, List.append_assoc]; rfl, by rw [show i - 1 + 1 = i by omega]; exact hS⟩ (by dsimp only; omega)
  · skip
    have q12 : ¬ 0 ≤ i := by simpa using hc12
    obtain rfl : i = -1 := by omega
    have hp2 : tl = beDown n k.toNat := by simpa [beDown] using hp
    have e0 : List.replicate (-1 + 1 : Int).toNat (0 : UInt8) ++ tl = beDown n k.toNat := by rw [hp2]; rfl
    rw [e0] at hS
    refine wp_exit ?_
    refine then_exit ?_
    refine then_exit ?_
    refine block_exit ?_
    refine then_normal ?_
    refine wp_seq ?_
    refine wp_region_lit ?_
    refine n_q H (q_move rfl) rfl ?_
    clear H a; intro a H
    refine n_q H (q_assign rfl) rfl ?_
    clear H a; intro a H
    refine n_nil ?_
    refine then_normal ?_
    refine wp_ret ?_
    refine ret1 H (.inr rfl) rfl rfl ?_
    exact ⟨_, by rw [beDown_len], hS⟩

theorem rput_w {w : World} {fp : Nat → Prop} {p : Nat} {x : WM} {vb : Value} {bs : List UInt8} (hv : ∀ w', ChgP fp w w' → Src w' 1 vb bs.length (bs.flatMap eB)) (hz : x.buf.length + bs.length ≤ 70368744177664) (hP0 : Sep w fp [rrR p x]) :
    Calls Tryd.prog 77 [.pointer (some ⟨p, 0, none⟩), vb, .int .i64 0].toArray w (Ret fun r w' => r = .tuple #[] ∧ St fp w w' [rrR p (x.put bs)]) := by
  have hS := St.init hP0
  obtain ⟨v0, hS⟩ := hS.rr
  refine enter Tryd.func77 rfl rfl rfl ?_
  intro a H
  dsimp only [enumL, Nat.zero_add, Nat.reduceAdd] at H
  refine wp_seq ?_
  refine wp_seq ?_
  refine wp_region_lit ?_
  refine n_q H (q_move rfl) rfl ?_
  clear H a; intro a H
  refine n_q H (q_nilCheck rfl) rfl ?_
  clear H a; intro a H
  refine n_q H (q_fieldAddr0 rfl fo149_1) rfl ?_
  clear H a; intro a H
  refine n_q H (q_fieldAddrO rfl fo29_0) rfl ?_
  clear H a; intro a H
  refine n_q H (q_load rfl ((hS.blk 0 rfl).ld ag3 rfl)) rfl ?_
  clear H a; intro a H
  refine n_q H (q_neq rfl rfl) rfl ?_
  clear H a; intro a H
  refine n_nil ?_
  refine then_normal ?_
  refine c_cond H rfl (fun hc11 => ?_) (fun hc11 => ?_)
  · skip
    have q11 : ¬ x.err = .nil := by rw [code_nil] at hc11; simpa using hc11
    refine wp_ret ?_
    refine then_ret ?_
    replace hS := hS.pick 1 rfl
    dsimp only [List.eraseIdx] at hS
    replace hS := hS.pick 1 rfl
    dsimp only [List.eraseIdx] at hS
    refine ret0 H (.inr rfl) rfl ?_
    exact ⟨rfl, hS.rrMk (by simp [WM.put, q11]) (by simp [WM.put, q11]) (by simp [WM.put, q11]) (by simp [WM.put, q11])⟩
  · skip
    have q11 : x.err = .nil := by rw [code_nil] at hc11; simpa using hc11
    refine wp_skip ?_
    refine then_normal ?_
    refine wp_seq ?_
    refine wp_seq ?_
    refine wp_region_lit ?_
    refine n_q H (q_move rfl) rfl ?_
    clear H a; intro a H
    refine n_q H (q_neq rfl rfl) rfl ?_
    clear H a; intro a H
    refine n_nil ?_
    refine then_normal ?_
    refine c_cond H rfl (fun hc13 => ?_) (fun hc13 => ?_)
    · skip
      exact absurd hc13 (by decide)
    · skip
      refine wp_skip ?_
      refine then_normal ?_
      refine wp_region_lit ?_
      refine n_q H (q_move rfl) rfl ?_
      clear H a; intro a H
      refine n_q H (q_move rfl) rfl ?_
      clear H a; intro a H
      refine n_q H (q_nilCheck rfl) rfl ?_
      clear H a; intro a H
      refine n_q H (q_fieldAddr0 rfl fo149_0) rfl ?_
      clear H a; intro a H
      refine n_q H (q_load rfl ((hS.blk 0 rfl).ld ag23 rfl)) rfl ?_
      clear H a; intro a H
      refine n_q H (q_move rfl) rfl ?_
      clear H a; intro a H
      replace hS := hS.pick 1 rfl
      dsimp only [List.eraseIdx] at hS
      refine n_append H rfl rfl Tryd.underlying23 Tryd.underlying23 (by simp) el5 (hS.own 0 rfl) (hv _ hS.chg) (flat_one eB_one bs) (by omega) (by simp only [maxLen]; omega) rfl ?_
      clear H; intro v30 w1 hN hC2 hb30 hnil30; clear a; intro a H
      replace hS := hS.setOwn hN hC2 hb30; clear hN
      refine n_q H (q_nilCheck rfl) rfl ?_
      clear H a; intro a H
      refine n_q H (q_fieldAddr0 rfl fo149_0) rfl ?_
      clear H a; intro a H
      replace hS := hS.pick 1 rfl
      dsimp only [List.eraseIdx] at hS
      refine n_store1 H rfl rfl sz23 (hS.blk 0 rfl) (by simp) ((hS.own 1 rfl).one) ?_
      clear H; intro w3 hN hC4 hz; clear a; intro a H
      replace hS := hS.setBlk hN hC4; clear hN hz
      try simp only [List.set_cons_succ, List.set_cons_zero] at hS
      refine n_nil ?_
      replace hS := hS.pick 1 rfl
      dsimp only [List.eraseIdx] at hS
      replace hS := hS.pick 1 rfl
      dsimp only [List.eraseIdx] at hS
      refine ret0 H (.inl rfl) rfl ?_
      exact ⟨rfl, hS.rrMk (by simp [WM.put, q11]) (by simp [WM.put, q11, List.flatMap_append]) (by simp [WM.put, q11]) (by simp [WM.put, q11])⟩

theorem rputE_w {w : World} {fp : Nat → Prop} {p : Nat} {x : WM} {vb : Value} (g : Nat) (hP0 : Sep w fp [rrR p x]) :
    Calls Tryd.prog 77 [.pointer (some ⟨p, 0, none⟩), vb, .int .i64 (codeG g)].toArray w (Ret fun r w' => r = .tuple #[] ∧ St fp w w' [rrR p (x.spoil g)]) := by
  have hS := St.init hP0
  obtain ⟨v0, hS⟩ := hS.rr
  refine enter Tryd.func77 rfl rfl rfl ?_
  intro a H
  dsimp only [enumL, Nat.zero_add, Nat.reduceAdd] at H
  refine wp_seq ?_
  refine wp_seq ?_
  refine wp_region_lit ?_
  refine n_q H (q_move rfl) rfl ?_
  clear H a; intro a H
  refine n_q H (q_nilCheck rfl) rfl ?_
  clear H a; intro a H
  refine n_q H (q_fieldAddr0 rfl fo149_1) rfl ?_
  clear H a; intro a H
  refine n_q H (q_fieldAddrO rfl fo29_0) rfl ?_
  clear H a; intro a H
  refine n_q H (q_load rfl ((hS.blk 0 rfl).ld ag3 rfl)) rfl ?_
  clear H a; intro a H
  refine n_q H (q_neq rfl rfl) rfl ?_
  clear H a; intro a H
  refine n_nil ?_
  refine then_normal ?_
  refine c_cond H rfl (fun hc11 => ?_) (fun hc11 => ?_)
  · skip
    have q11 : ¬ x.err = .nil := by rw [code_nil] at hc11; simpa using hc11
    refine wp_ret ?_
    refine then_ret ?_
    replace hS := hS.pick 1 rfl
    dsimp only [List.eraseIdx] at hS
    replace hS := hS.pick 1 rfl
    dsimp only [List.eraseIdx] at hS
    refine ret0 H (.inr rfl) rfl ?_
    exact ⟨rfl, hS.rrMk (by simp [WM.spoil, q11]) (by simp [WM.spoil, q11]) (by simp [WM.spoil, q11, ErrM.code, ErrM.g?]) (by simp [WM.spoil, q11, ErrM.place])⟩
  · skip
    have q11 : x.err = .nil := by rw [code_nil] at hc11; simpa using hc11
    refine wp_skip ?_
    refine then_normal ?_
    refine wp_seq ?_
    refine wp_seq ?_
    refine wp_region_lit ?_
    refine n_q H (q_move rfl) rfl ?_
    clear H a; intro a H
    refine n_q H (q_neq rfl rfl) rfl ?_
    clear H a; intro a H
    refine n_nil ?_
    refine then_normal ?_
    refine c_cond H rfl (fun hc13 => ?_) (fun hc13 => ?_)
    · skip
      refine wp_seq ?_
      refine wp_region_lit ?_
      refine n_q H (q_move rfl) rfl ?_
      clear H a; intro a H
      refine n_q H (q_move rfl) rfl ?_
      clear H a; intro a H
      refine n_q H (q_move rfl) rfl ?_
      clear H a; intro a H
      refine n_q H (q_nilCheck rfl) rfl ?_
      clear H a; intro a H
      refine n_q H (q_fieldAddr0 rfl fo149_0) rfl ?_
      clear H a; intro a H
      refine n_q H (q_load rfl ((hS.blk 0 rfl).ld ag23 rfl)) rfl ?_
      clear H a; intro a H
      obtain ⟨A0, c0, hv0, _⟩ := (hS.own 1 rfl).form
      refine n_q H (q_lenSl (A := A0) (n := x.buf.length) (c := c0) Tryd.underlying23 (congrArg some hv0)) rfl ?_
      clear H a; intro a H
      refine n_q H (q_build (cs := [.int .i64 (codeG g), .int .i64 (x.buf.length : Nat)]) ze29 bd29 pl29 rfl (by kernel_rfl)) rfl ?_
      clear H a; intro a H
      refine n_q H (q_nilCheck rfl) rfl ?_
      clear H a; intro a H
      refine n_q H (q_fieldAddr0 rfl fo149_1) rfl ?_
      clear H a; intro a H
      refine n_store H rfl rfl (vs := [.int .i64 (codeG g), .int .i64 (x.buf.length : Nat)]) rfl sz29 (hS.blk 0 rfl) (by simp) (by simp) ?_
      clear H; intro w1 hN hC2 hz; clear a; intro a H
      replace hS := hS.setBlk hN hC2; clear hN hz
      try simp only [List.take_zero, List.nil_append, List.take_succ_cons, List.drop_succ_cons, List.drop_zero, List.cons_append, List.length_cons, List.length_nil, Nat.zero_add, Nat.reduceAdd, List.drop_nil, List.append_nil] at hS
      refine n_nil ?_
      refine then_normal ?_
      refine wp_ret ?_
      refine then_ret ?_
      replace hS := hS.pick 1 rfl
      dsimp only [List.eraseIdx] at hS
      replace hS := hS.pick 1 rfl
      dsimp only [List.eraseIdx] at hS
      refine ret0 H (.inr rfl) rfl ?_
      exact ⟨rfl, hS.rrMk (by simp [WM.spoil, q11]) (by simp [WM.spoil, q11]) (by simp [WM.spoil, q11, ErrM.code, ErrM.g?]) (by simp [WM.spoil, q11, ErrM.place])⟩
    · skip
      exfalso; have := codeG_pos g; simp only [bne_eq_false_iff_eq] at hc13; omega

theorem rRecord_w {w : World} {fp : Nat → Prop} {p : Nat} {x : WM} {t : Int} {vb : Value} {bs : List UInt8} (hv : ∀ w', ChgP fp w w' → SlR w' 1 (Flat eB) vb bs) (hz : x.buf.length + bs.length ≤ 35184372088830) (hP0 : Sep w fp [rrR p x]) :
    Calls Tryd.prog 44 [.pointer (some ⟨p, 0, none⟩), .int .i64 t, vb].toArray w (Ret fun r w' => r = .tuple #[] ∧ St fp w w' [rrR p (x.record t bs)]) := by
  have hS := St.init hP0
  obtain ⟨Ab, cb, hvb, _⟩ := (hv _ (ChgP.refl _ _)).form
  subst hvb
  refine enter Tryd.func44 rfl rfl rfl ?_
  intro a H
  dsimp only [enumL, Nat.zero_add, Nat.reduceAdd] at H
  refine wp_seq ?_
  refine wp_seq ?_
  refine wp_region_lit ?_
  refine n_c H (fun HC => ?_); clear H
  refine nc_q HC (q_move rfl) rfl (by kernel_rfl) ?_
  clear HC a; intro a HC
  refine nc_q HC (q_lss rfl rfl) rfl (by kernel_rfl) ?_
  clear HC a; intro a HC
  refine nc_q HC (q_move rfl) rfl (by kernel_rfl) ?_
  clear HC a; intro a HC
  refine nc_g HC (q_move rfl) (by kernel_rfl) (by kernel_rfl) (by kernel_rfl) ?_
  clear HC a; intro a HC
  refine nc_g HC (q_gtr rfl rfl) (by kernel_rfl) (by kernel_rfl) (by kernel_rfl) ?_
  clear HC a; intro a HC
  refine nc_or (j := 2) HC rfl rfl rfl (by kernel_rfl) (by kernel_rfl) ?_
  clear HC a; intro a HC
  have H := HC.has; clear HC
  refine n_nil ?_
  refine then_normal ?_
  refine c_cond H rfl (fun hc12 => ?_) (fun hc12 => ?_)
  · skip
    have q12 : t < 1 ∨ 255 < t := by simpa [Bool.or_eq_true] using hc12
    refine wp_seq ?_
    refine wp_region_lit ?_
    refine n_q H (q_move rfl) rfl ?_
    clear H a; intro a H
    obtain ⟨fp14, hG14, hK14, hR14, hF14⟩ := hS.frame1
    refine n_call H rfl en77 (rputE_w (vb := .slice none 0 0) 5 hG14) rfl ?_
    clear H a; intro v3 w1 hv a H
    obtain ⟨rfl, hE2⟩ := hv
    replace hS := hF14 _ _ hE2
    simp only [List.cons_append, List.nil_append] at hS
    clear hG14 hK14 hR14 hF14
    refine n_nil ?_
    refine then_normal ?_
    refine wp_ret ?_
    refine then_ret ?_
    refine ret0 H (.inr rfl) rfl ?_
    exact ⟨rfl, by rw [WM.record, if_pos q12]; exact hS⟩
  · skip
    have q12 : ¬ (t < 1 ∨ 255 < t) := by simpa [Bool.or_eq_false_iff] using hc12
    refine wp_skip ?_
    refine then_normal ?_
    refine wp_seq ?_
    refine wp_seq ?_
    refine wp_region_lit ?_
    refine n_q H (q_move rfl) rfl ?_
    clear H a; intro a H
    refine n_q H (q_lenSl Tryd.underlying23 rfl) rfl ?_
    clear H a; intro a H
    refine n_q H (q_gtr rfl rfl) rfl ?_
    clear H a; intro a H
    refine n_nil ?_
    refine then_normal ?_
    refine c_cond H rfl (fun hc17 => ?_) (fun hc17 => ?_)
    · skip
      have q17 : 65535 < bs.length := by simp at hc17; omega
      refine wp_seq ?_
      refine wp_region_lit ?_
      refine n_q H (q_move rfl) rfl ?_
      clear H a; intro a H
      obtain ⟨fp19, hG19, hK19, hR19, hF19⟩ := hS.frame1
      refine n_call H rfl en77 (rputE_w (vb := .slice none 0 0) 7 hG19) rfl ?_
      clear H a; intro v6 w4 hv a H
      obtain ⟨rfl, hE5⟩ := hv
      replace hS := hF19 _ _ hE5
      simp only [List.cons_append, List.nil_append] at hS
      clear hG19 hK19 hR19 hF19
      refine n_nil ?_
      refine then_normal ?_
      refine wp_ret ?_
      refine then_ret ?_
      refine ret0 H (.inr rfl) rfl ?_
      exact ⟨rfl, by rw [WM.record, if_neg q12, if_pos q17]; exact hS⟩
    · skip
      have q17 : ¬ 65535 < bs.length := by simp at hc17; omega
      refine wp_skip ?_
      refine then_normal ?_
      refine wp_seq ?_
      refine wp_region_lit ?_
      refine n_q H (q_move rfl) rfl ?_
      clear H a; intro a H
      refine n_q H (q_convI Tryd.underlying3 Tryd.underlying5 ⟨_, rfl⟩ rfl) rfl ?_
      clear H a; intro a H
      refine n_buildSlice H Tryd.underlying23 sz5 ze5 rfl rfl rfl (cs := [.int .u8 (IntKind.u8.wrap t)]) (by kernel_rfl) rfl ?_
      clear H; intro b22 w7 hN hE8 hs_b22; clear a; intro a H
      replace hS := hS.newBlk hN hE8 hs_b22; clear hN hE8
      replace hS := hS.blkOwn 1 1 (by simp) (by simp [maxLen])
      refine n_q H (q_move rfl) rfl ?_
      clear H a; intro a H
      refine n_q H (q_lenSl Tryd.underlying23 rfl) rfl ?_
      clear H a; intro a H
      refine n_call H rfl en78 (rNumber_w (n := (bs.length : Int)) (k := 2) (by omega) (by omega) (by omega)) rfl ?_
      clear H a; intro v25 w9 hv a H
      obtain ⟨m25, hm25, hE10⟩ := hv
      replace hS := hS.new hE10
      simp only [List.cons_append, List.nil_append] at hS
      replace hS := hS.pick 1 rfl
      dsimp only [List.eraseIdx] at hS
      refine n_append H rfl rfl Tryd.underlying23 Tryd.underlying23 (by simp) el5 (hS.own 0 rfl) (((hS.own 1 rfl)).srcB hm25) (flat_one eB_one _) (by rw [beDown_len]; omega) (by rw [beDown_len]; simp only [maxLen]; omega) rfl ?_
      clear H; intro v26 w11 hN hC12 hb26 hnil26; clear a; intro a H
      replace hS := hS.setOwn hN hC12 hb26; clear hN
      rw [← eB_wrap, show eB (byteOf t) = [byteOf t].flatMap eB from by simp, ← List.flatMap_append] at hS
      refine n_q H (q_assign rfl) rfl ?_
      clear H a; intro a H
      refine n_nil ?_
      refine then_normal ?_
      refine wp_region_lit ?_
      refine n_q H (q_move rfl) rfl ?_
      clear H a; intro a H
      refine n_q H (q_move rfl) rfl ?_
      clear H a; intro a H
      refine n_q H (q_move rfl) rfl ?_
      clear H a; intro a H
      refine n_append H rfl rfl Tryd.underlying23 Tryd.underlying23 (by simp) el5 (hS.own 0 rfl) ((hv _ hS.chg).srcB) (flat_one eB_one bs) (by rw [beDown_len]; omega) (by rw [beDown_len]; simp only [maxLen]; omega) rfl ?_
      clear H; intro v30 w13 hN hC14 hb30 hnil30; clear a; intro a H
      replace hS := hS.setOwn hN hC14 hb30; clear hN
      rw [← List.flatMap_append] at hS
      have hm30 : 1 + (beDown (bs.length : Int) 2).length + bs.length = ([byteOf t] ++ beDown (bs.length : Int) 2 ++ bs).length := by simp; omega
      replace hS := hS.pick 2 rfl
      dsimp only [List.eraseIdx] at hS
      obtain ⟨fp31, hG31, hK31, hR31, hF31⟩ := hS.frame1
      refine n_call H rfl en77 (rput_w (bs := [byteOf t] ++ beDown (bs.length : Int) 2 ++ bs) (fun w' hw => (restOwn (hR31 0 _ rfl _ hw)).srcB hm30) (by rw [List.length_append, List.length_append, beDown_len]; simp only [List.length_cons, List.length_nil]; omega) hG31) rfl ?_
      clear H a; intro v17 w15 hv a H
      obtain ⟨rfl, hE16⟩ := hv
      replace hS := hF31 _ _ hE16
      simp only [List.cons_append, List.nil_append] at hS
      clear hG31 hK31 hR31 hF31
      refine n_nil ?_
      replace hS := hS.take 1
      simp only [List.take_succ_cons, List.take_zero] at hS
      refine ret0 H (.inl rfl) rfl ?_
      exact ⟨rfl, by rw [WM.record, if_neg q12, if_neg q17, WM.num, if_neg (by have : mostW 2 = 65535 := rfl; omega), WM.num, if_neg (by have : mostW 1 = 255 := rfl; omega), WM.put_put, WM.put_put, ← List.append_assoc]; exact (be1 t).symm ▸ hS⟩

theorem rDone_w {w : World} {fp : Nat → Prop} {p : Nat} {x : WM} (hz : x.buf.length ≤ 70368744177664) (hP0 : Sep w fp [rrR p x]) :
    Calls Tryd.prog 45 [.pointer (some ⟨p, 0, none⟩)].toArray w (Ret fun r w' => ∃ v, r = .tuple #[v, eE x.err] ∧ St fp w w' [rrR p x, ownR 5 1 v x.out.length (x.out.flatMap eB)]) := by
  have hS := St.init hP0
  obtain ⟨v0, hS⟩ := hS.rr
  refine enter Tryd.func45 rfl rfl rfl ?_
  intro a H
  dsimp only [enumL, Nat.zero_add, Nat.reduceAdd] at H
  refine wp_seq ?_
  refine wp_region_lit ?_
  refine n_q H (q_assign rfl) rfl ?_
  clear H a; intro a H
  refine n_alloc H ze29 rfl ?_
  clear H; intro b3 w1 hN hE2 hs_b3; clear a; intro a H
  replace hS := hS.newBlk hN hE2 hs_b3; clear hN hE2
  refine n_nil ?_
  refine then_normal ?_
  refine wp_seq ?_
  refine wp_seq ?_
  refine wp_region_lit ?_
  refine n_q H (q_move rfl) rfl ?_
  clear H a; intro a H
  refine n_q H (q_nilCheck rfl) rfl ?_
  clear H a; intro a H
  refine n_q H (q_fieldAddr0 rfl fo149_1) rfl ?_
  clear H a; intro a H
  refine n_q H (q_fieldAddrO rfl fo29_0) rfl ?_
  clear H a; intro a H
  refine n_q H (q_load rfl ((hS.blk 1 rfl).ld ag3 rfl)) rfl ?_
  clear H a; intro a H
  refine n_q H (q_neq rfl rfl) rfl ?_
  clear H a; intro a H
  refine n_nil ?_
  refine then_normal ?_
  refine c_cond H rfl (fun hc9 => ?_) (fun hc9 => ?_)
  · skip
    have q9 : ¬ x.err = .nil := by rw [code_nil] at hc9; simpa using hc9
    refine wp_seq ?_
    refine c_ord [] 5 (by kernel_rfl) ?_
    obtain ⟨w3, hw3⟩ : ∃ x, x = w1.drew := ⟨_, rfl⟩
    rw [← hw3]
    have hE4 : Ext w1 w3 := by rw [hw3]; exact Ext.drew' _
    clear hw3
    replace hS := hS.ext hE4
    refine k_take 0 H rfl (q_move rfl) rfl (by kernel_rfl) (by kernel_rfl) (by kernel_rfl) (by kernel_rfl) (fun _ _ _ h => h) ?_
    clear H a; intro a H
    refine k_take 1 H rfl (q_nilCheck rfl) rfl (by kernel_rfl) (by kernel_rfl) (by kernel_rfl) (by kernel_rfl) (fun _ _ _ h => h) ?_
    clear H a; intro a H
    refine k_take 2 H rfl (q_fieldAddr0 rfl fo149_1) rfl (by kernel_rfl) (by kernel_rfl) (by kernel_rfl) (by kernel_rfl) (fun _ _ _ h => h) ?_
    clear H a; intro a H
    refine k_take 3 H rfl (q_load rfl (LdC.k0 ((hS.blk 1 rfl).ldPart 1 2 ag29 sz29 (by simp)))) rfl (by kernel_rfl) (by kernel_rfl) (by kernel_rfl) (by kernel_rfl) (fun _ _ _ h => h) ?_
    clear H a; intro a H
    refine k_take 4 H rfl (q_assign rfl) rfl (by kernel_rfl) (by kernel_rfl) (by kernel_rfl) (by kernel_rfl) (fun _ _ _ h => h) ?_
    clear H a; intro a H
    refine k_storeAll 5 H rfl rfl rfl (vs := [.int .i64 x.err.code, .int .i64 x.err.place]) rfl sz29 (hS.blk 0 rfl) rfl (by simp) (by kernel_rfl) (.inr (by kernel_rfl)) ?_
    clear H; intro w5 hN hC6 hz; clear a; intro a H
    replace hS := hS.setBlk hN hC6; clear hN hz
    refine k_done (by kernel_rfl) ?_
    refine then_normal ?_
    refine wp_ret ?_
    refine then_ret ?_
    have hr3 := (hS.blk 0 rfl)
    replace hS := hS.nilOwn 5 1
    replace hS := hS.pick 3 rfl
    dsimp only [List.eraseIdx] at hS
    replace hS := hS.pick 3 rfl
    dsimp only [List.eraseIdx] at hS
    replace hS := hS.take 3
    simp only [List.take_succ_cons, List.take_zero] at hS
    refine retL H (.inr rfl) rfl (vs := _) (resTmp rfl (resCell rfl (hr3.ldAll ag29 sz29) resNil)) ?_
    exact ⟨_, rfl, by have e : x.out = [] := by { rw [WM.out, if_neg q9] }; rw [e]; exact hS.rrMk rfl rfl rfl rfl⟩
  · skip
    have q9 : x.err = .nil := by rw [code_nil] at hc9; simpa using hc9
    refine wp_skip ?_
    refine then_normal ?_
    refine wp_seq ?_
    refine wp_region_lit ?_
    refine n_buildSlice H Tryd.underlying23 sz5 ze5 rfl rfl rfl (cs := []) (by kernel_rfl) rfl ?_
    clear H; intro b14 w7 hN hE8 hs_b14; clear a; intro a H
    replace hS := hS.newBlk hN hE8 hs_b14; clear hN hE8
    replace hS := hS.blkOwn 0 1 (by simp) (by simp [maxLen])
    refine n_q H (q_move rfl) rfl ?_
    clear H a; intro a H
    refine n_q H (q_nilCheck rfl) rfl ?_
    clear H a; intro a H
    refine n_q H (q_fieldAddr0 rfl fo149_0) rfl ?_
    clear H a; intro a H
    refine n_q H (q_load rfl ((hS.blk 2 rfl).ld ag23 rfl)) rfl ?_
    clear H a; intro a H
    refine n_append H rfl rfl Tryd.underlying23 Tryd.underlying23 (by simp) el5 (hS.own 0 rfl) ((hS.own 3 rfl).srcB rfl) (flat_one eB_one _) (by omega) (by simp only [maxLen]; omega) rfl ?_
    clear H; intro v19 w9 hN hC10 hb19 hnil19; clear a; intro a H
    replace hS := hS.setOwn hN hC10 hb19; clear hN
    simp only [List.nil_append, Nat.zero_add] at hS
    refine n_call H rfl en49 (rNone_w) rfl ?_
    clear H a; intro v13 w11 hv a H
    obtain ⟨rfl, hE12⟩ := hv
    replace hS := hS.ext hE12
    refine n_q H (q_assign rfl) rfl ?_
    clear H a; intro a H
    replace hS := hS.pick 1 rfl
    dsimp only [List.eraseIdx] at hS
    refine n_storeAll H rfl rfl (vs := [.int .i64 0, .int .i64 (-1)]) rfl sz29 (hS.blk 0 rfl) rfl (by simp) ?_
    clear H; intro w14 hN hC15 hz; clear a; intro a H
    replace hS := hS.setBlk hN hC15; clear hN hz
    refine n_nil ?_
    refine then_normal ?_
    refine wp_ret ?_
    have hr3 := (hS.blk 0 rfl)
    replace hS := hS.pick 1 rfl
    dsimp only [List.eraseIdx] at hS
    replace hS := hS.pick 3 rfl
    dsimp only [List.eraseIdx] at hS
    replace hS := hS.pick 3 rfl
    dsimp only [List.eraseIdx] at hS
    replace hS := hS.take 3
    simp only [List.take_succ_cons, List.take_zero] at hS
    refine retL H (.inr rfl) rfl (vs := _) (resTmp rfl (resCell rfl (hr3.ldAll ag29 sz29) resNil)) ?_
    exact ⟨v19, by rw [q9]; rfl, by have e : x.out = x.buf := by { rw [WM.out, if_pos q9] }; rw [e]; exact hS.rrMk rfl rfl rfl rfl⟩

theorem rLeft_w {w : World} {p ca cd : Nat} {vb : Value} (h1 : ca ≤ cd) (h3 : cd ≤ 70368744177664) (hB : Blk w p [vb, .int .i64 (ca : Nat), .int .i64 (cd : Nat)] 109) :
    Calls Tryd.prog 47 [.pointer (some ⟨p, 0, none⟩)].toArray w (Ret fun r w' => r = .int .i64 ((cd : Int) - ca) ∧ Ext w w') := by
  have hS := St.begin NB w
  refine enter Tryd.func47 rfl rfl rfl ?_
  intro a H
  dsimp only [enumL, Nat.zero_add, Nat.reduceAdd] at H
  refine wp_seq ?_
  refine wp_region_lit ?_
  refine n_q H (q_assign rfl) rfl ?_
  clear H a; intro a H
  refine n_nil ?_
  refine then_normal ?_
  refine wp_seq ?_
  refine c_quiet (by kernel_rfl) (by kernel_rfl) ?_
  refine qq_q H (q_move rfl) rfl ?_
  clear H a; intro a H
  refine qq_q H (q_nilCheck rfl) rfl ?_
  clear H a; intro a H
  refine qq_q H (q_fieldAddr0 rfl fo109_2) rfl ?_
  clear H a; intro a H
  refine qq_q H (q_load rfl (LdX.ext ((hB.ld ag3 rfl)) hS.x)) rfl ?_
  clear H a; intro a H
  refine qq_q H (q_move rfl) rfl ?_
  clear H a; intro a H
  refine qq_q H (q_nilCheck rfl) rfl ?_
  clear H a; intro a H
  refine qq_q H (q_fieldAddr0 rfl fo109_1) rfl ?_
  clear H a; intro a H
  refine qq_q H (q_load rfl (LdX.ext ((hB.ld ag3 rfl)) hS.x)) rfl ?_
  clear H a; intro a H
  refine qq_q H (q_sub rfl rfl (by constructor <;> omega)) rfl ?_
  clear H a; intro a H
  refine qq_q H (q_assign rfl) rfl ?_
  clear H a; intro a H
  refine qq_nil ?_
  intro w1 hE2
  replace hS := hS.ext hE2
  refine then_normal ?_
  refine wp_ret ?_
  refine ret1 H (.inr rfl) rfl rfl ?_
  exact ⟨rfl, hS.x⟩

theorem rvalue_w {w : World} {p ca cd : Nat} {vb : Value} {bs : List UInt8} {o k : Int} {m kn : Nat} (hb : SlR w 1 (Flat eB) vb bs) (ho : 0 ≤ o) (hk : 0 ≤ k) (hk4 : k ≤ 4) (hm : o + k ≤ bs.length) (h3 : bs.length ≤ 70368744177664) (hm' : m = o.toNat) (hkn : kn = k.toNat) (hB : Blk w p [vb, .int .i64 (ca : Nat), .int .i64 (cd : Nat)] 109) :
    Calls Tryd.prog 93 [.pointer (some ⟨p, 0, none⟩), .int .i64 o, .int .i64 k].toArray w (Ret fun r w' => r = .int .i64 (peekN bs m kn) ∧ Ext w w') := by
  have hS := St.begin NB w
  subst hkn
  obtain ⟨A0, c0, rfl, hl0, hm0, hn0⟩ := hb.form
  have hzl : ((bs.drop m).take k.toNat).length = k.toNat := by simp; omega
  refine enter Tryd.func93 rfl rfl rfl ?_
  intro a H
  dsimp only [enumL, Nat.zero_add, Nat.reduceAdd] at H
  refine wp_seq ?_
  refine wp_region_lit ?_
  refine n_q H (q_assign rfl) rfl ?_
  clear H a; intro a H
  refine n_nil ?_
  refine then_normal ?_
  refine wp_seq ?_
  refine wp_region_lit ?_
  refine n_q H (q_assign rfl) rfl ?_
  clear H a; intro a H
  refine n_nil ?_
  refine then_normal ?_
  refine wp_seq ?_
  refine wp_seq ?_
  refine wp_region_lit ?_
  refine n_q H (q_move rfl) rfl ?_
  clear H a; intro a H
  refine n_q H (q_assign rfl) rfl ?_
  clear H a; intro a H
  refine n_nil ?_
  refine then_normal ?_
  refine wp_block ?_
  refine c_loop (σ := Nat × Int) (fun (i, nn) => [(0, .pointer (some ⟨p, 0, none⟩)), (1, .int .i64 o), (2, .int .i64 k), (7, .int .i64 nn), (8, .int .i64 (o + (i : Nat)))]) (fun (i, nn) wl => i ≤ k.toNat ∧ nn = beNat (((bs.drop m).take k.toNat).take i) ∧ St NB w wl []) (fun (i, nn) => k.toNat - i) (0, 0) H ⟨rfl, rfl, rfl, rfl, congrArg (fun z => some (Value.int .i64 z)) (by simp), trivial⟩ ⟨Nat.zero_le _, rfl, hS⟩ ?_
  clear H hS; clear a; intro xx a w1 H hR
  obtain ⟨i, nn⟩ := xx
  simp only [ent, List.map_cons, List.map_nil] at H
  try dsimp only at hR
  obtain ⟨hi, hnn0, hS⟩ := hR; try clear hR
  refine wp_seq ?_
  refine wp_seq ?_
  refine wp_region_lit ?_
  refine n_q H (q_move rfl) rfl ?_
  clear H a; intro a H
  refine n_q H (q_move rfl) rfl ?_
  clear H a; intro a H
  refine n_q H (q_move rfl) rfl ?_
  clear H a; intro a H
  refine n_q H (q_add rfl rfl (by constructor <;> omega)) rfl ?_
  clear H a; intro a H
  refine n_q H (q_lss rfl rfl) rfl ?_
  clear H a; intro a H
  refine n_nil ?_
  refine then_normal ?_
  refine c_cond H rfl (fun hc14 => ?_) (fun hc14 => ?_)
  · skip
    have hi1 : i < k.toNat := by simp at hc14; omega
    obtain ⟨x, hx⟩ := hb.at (i := m + i) (by omega)
    obtain ⟨ad0, rfl⟩ := hb.addr (i := m + i) (by omega)
    have hx2 : ((bs.drop m).take k.toNat)[i]? = some x := by rw [List.getElem?_take, if_pos hi1, List.getElem?_drop]; exact hx
    have hnn : 0 ≤ nn ∧ nn < 16777216 := by
      rw [hnn0]
      have h := beNat_lt i (((bs.drop m).take k.toNat).take i) (by rw [List.length_take, hzl]; omega)
      have h4 : (256 : Int) ^ i ≤ 16777216 := by
        rcases (show i = 0 ∨ i = 1 ∨ i = 2 ∨ i = 3 by omega) with h | h | h | h <;> subst h <;> decide
      exact ⟨h.1, by omega⟩
    refine wp_skip ?_
    refine then_normal ?_
    refine wp_seq ?_
    refine wp_block ?_
    refine wp_region_lit ?_
    refine n_q H (q_move rfl) rfl ?_
    clear H a; intro a H
    refine n_q H (q_mul rfl rfl (by constructor <;> omega)) rfl ?_
    clear H a; intro a H
    refine n_q H (q_move rfl) rfl ?_
    clear H a; intro a H
    refine n_q H (q_nilCheck rfl) rfl ?_
    clear H a; intro a H
    refine n_q H (q_fieldAddr0 rfl fo109_0) rfl ?_
    clear H a; intro a H
    refine n_q H (q_load rfl (LdX.ext ((hB.ld ag23 rfl)) hS.x)) rfl ?_
    clear H a; intro a H
    refine n_q H (q_move rfl) rfl ?_
    clear H a; intro a H
    refine n_q H (q_cast (q_indexAddr (ad := ad0) (n := bs.length) (c := c0) Tryd.underlying23 sz5 rfl rfl (by omega) (by omega)) (show _ = Value.pointer (some (ad0.add ((m + i) * 1))) by rw [show (o + (i : Int)).toNat = m + i by omega])) rfl ?_
    clear H a; intro a H
    refine n_q H (q_load rfl (LdX.ext ((hb.ldOne ag5 hx rfl)) hS.x)) rfl ?_
    clear H a; intro a H
    refine n_q H (q_cast (q_convI Tryd.underlying5 Tryd.underlying3 ⟨_, rfl⟩ rfl) (show _ = Value.int .i64 (x.toNat : Int) by rw [wrap64_eq (z := (x.toNat : Int)) (by have := x.toNat_lt; constructor <;> omega)])) rfl ?_
    clear H a; intro a H
    refine n_q H (q_add rfl rfl (by have := x.toNat_lt; constructor <;> omega)) rfl ?_
    clear H a; intro a H
    refine n_q H (q_assign rfl) rfl ?_
    clear H a; intro a H
    refine n_nil ?_
    refine block_normal ?_
    refine then_normal ?_
    refine wp_region_lit ?_
    refine n_q H (q_move rfl) rfl ?_
    clear H a; intro a H
    refine n_q H (q_add rfl rfl (by constructor <;> omega)) rfl ?_
    clear H a; intro a H
    refine n_q H (q_assign rfl) rfl ?_
    clear H a; intro a H
    refine n_nil ?_
    refine then_normal ?_
    exact round (i + 1, nn * 256 + (x.toNat : Int)) H ⟨rfl, rfl, rfl, rfl, congrArg (fun z => some (Value.int .i64 z)) (by omega), trivial⟩ ⟨by omega, by rw [take_snoc hx2, beNat_snoc, ← hnn0], hS⟩ (by first | omega | (dsimp only; omega))
  · skip
    have hi2 : i = k.toNat := by simp at hc14; omega
    subst hi2
    refine wp_exit ?_
    refine then_exit ?_
    refine then_exit ?_
    refine block_exit ?_
    refine then_normal ?_
    refine wp_seq ?_
    refine wp_region_lit ?_
    refine n_q H (q_move rfl) rfl ?_
    clear H a; intro a H
    refine n_q H (q_assign rfl) rfl ?_
    clear H a; intro a H
    refine n_nil ?_
    refine then_normal ?_
    refine wp_ret ?_
    refine ret1 H (.inr rfl) rfl rfl ?_
    exact ⟨by rw [hnn0, peekN, List.take_of_length_le (by omega)], hS.x⟩

def badTag (t want : Int) (any : Bool) : Bool := (any && t == 0) || (!any && ((t != want) || t == 0))
def recM (bs : List UInt8) (a d : Nat) (want : Int) (any : Bool) : Int × Option (Nat × Nat) × ErrM × Nat :=
  if (d : Int) - a < 3 then (0, none, .pl a 1, a) else if badTag (peekN bs a 1) want any = true then (0, none, .pl a 5, a) else
  if (d : Int) - a - 3 < peekN bs (a + 1) 2 then (0, none, .pl (a + 1 : Nat) 7, a) else (peekN bs a 1, some (a + 3, a + 3 + (peekN bs (a + 1) 2).toNat), .nil, a + 3 + (peekN bs (a + 1) 2).toNat)
theorem recM_next (bs : List UInt8) (a d : Nat) : recM bs a d 0 true = nextM bs a d := by
  simp [recM, nextM, badTag]
theorem recM_record (bs : List UInt8) (a d : Nat) (t : Int) : (recM bs a d t false).2 = recordM bs a d t := by
  have e : (badTag (peekN bs a 1) t false = true) ↔ (peekN bs a 1 ≠ t ∨ t = 0) := by
    simp only [badTag, Bool.false_and, Bool.not_false, Bool.true_and, Bool.false_or, Bool.or_eq_true, bne_iff_ne, beq_iff_eq]
    constructor
    · rintro (h | h)
      · exact .inl h
      · by_cases h2 : peekN bs a 1 = t
        · exact .inr (h2 ▸ h)
        · exact .inl h2
    · rintro (h | h)
      · exact .inl h
      · by_cases h2 : peekN bs a 1 = t
        · exact .inr (h2.trans h)
        · exact .inl h2
  unfold recM recordM
  by_cases h1 : (d : Int) - a < 3
  · rw [if_pos h1, if_pos h1]
  · rw [if_neg h1, if_neg h1]
    by_cases h2 : badTag (peekN bs a 1) t false = true
    · rw [if_pos h2, if_pos (e.1 h2)]
    · rw [if_neg h2, if_neg (fun h => h2 (e.2 h))]
      split <;> rfl
set_option maxHeartbeats 2000000 in
theorem rrec_w {w : World} {fp : Nat → Prop} {p ca cd : Nat} {vb : Value} {bs : List UInt8} {t : Int} {any : Bool} (hb : ∀ w', ChgP fp w w' → SlR w' 1 (Flat eB) vb bs) (h1 : ca ≤ cd) (h2 : cd ≤ bs.length) (h3 : bs.length ≤ 70368744177664) (hP0 : Sep w fp [rcR p vb ca cd]) :
    Calls Tryd.prog 79 [.pointer (some ⟨p, 0, none⟩), .int .i64 t, .bool any].toArray w (Ret fun r w' => ∃ q, r = .tuple #[.int .i64 (recM bs ca cd t any).1, .pointer q, eE (recM bs ca cd t any).2.2.1] ∧ St fp w w' [rcR p vb (recM bs ca cd t any).2.2.2 cd, rnR vb q (recM bs ca cd t any).2.1]) := by
  have hS := St.init hP0
  obtain ⟨A0, c0, hvb, hl0, hm0, hn0⟩ := (hb _ (ChgP.refl _ _)).form
  subst hvb
  refine enter Tryd.func79 rfl rfl rfl ?_
  intro a H
  dsimp only [enumL, Nat.zero_add, Nat.reduceAdd] at H
  refine wp_seq ?_
  refine wp_region_lit ?_
  refine n_q H (q_assign rfl) rfl ?_
  clear H a; intro a H
  refine n_q H (q_assign rfl) rfl ?_
  clear H a; intro a H
  refine n_alloc H ze29 rfl ?_
  clear H; intro b8 w1 hN hE2 hs_b8; clear a; intro a H
  replace hS := hS.newBlk hN hE2 hs_b8; clear hN hE2
  refine n_nil ?_
  refine then_normal ?_
  refine wp_seq ?_
  refine wp_seq ?_
  refine wp_region_lit ?_
  refine n_q H (q_move rfl) rfl ?_
  clear H a; intro a H
  refine n_call H rfl en47 (rLeft_w h1 (by omega) (hS.blk 1 rfl)) rfl ?_
  clear H a; intro v5 w3 hv a H
  obtain ⟨rfl, hE4⟩ := hv
  replace hS := hS.ext hE4
  refine n_q H (q_lss rfl rfl) rfl ?_
  clear H a; intro a H
  refine n_nil ?_
  refine then_normal ?_
  refine c_cond H rfl (fun hc14 => ?_) (fun hc14 => ?_)
  · skip
    have q7 : (cd : Int) - ca < 3 := by simpa using hc14
    refine wp_seq ?_
    refine c_ord [] 7 (by kernel_rfl) ?_
    obtain ⟨w6, hw6⟩ : ∃ x, x = w3.drew := ⟨_, rfl⟩
    rw [← hw6]
    have hE7 : Ext w3 w6 := by rw [hw6]; exact Ext.drew' _
    clear hw6
    replace hS := hS.ext hE7
    refine k_take 0 H rfl (q_move rfl) rfl (by kernel_rfl) (by kernel_rfl) (by kernel_rfl) (by kernel_rfl) (fun _ _ _ h => h) ?_
    clear H a; intro a H
    refine k_take 1 H rfl (q_nilCheck rfl) rfl (by kernel_rfl) (by kernel_rfl) (by kernel_rfl) (by kernel_rfl) (fun _ _ _ h => h) ?_
    clear H a; intro a H
    refine k_take 2 H rfl (q_fieldAddr0 rfl fo109_1) rfl (by kernel_rfl) (by kernel_rfl) (by kernel_rfl) (by kernel_rfl) (fun _ _ _ h => h) ?_
    clear H a; intro a H
    refine k_take 3 H rfl (q_load rfl (LdC.k0 ((hS.blk 1 rfl).ld ag3 rfl))) rfl (by kernel_rfl) (by kernel_rfl) (by kernel_rfl) (by kernel_rfl) (fun _ _ _ h => h) ?_
    clear H a; intro a H
    refine k_take 4 H rfl (q_build (cs := [.int .i64 1, .int .i64 (ca : Nat)]) ze29 bd29 pl29 rfl (by kernel_rfl)) rfl (by kernel_rfl) (by kernel_rfl) (by kernel_rfl) (by kernel_rfl) (fun _ _ _ h => h) ?_
    clear H a; intro a H
    refine k_take 5 H rfl (q_assign rfl) rfl (by kernel_rfl) (by kernel_rfl) (by kernel_rfl) (by kernel_rfl) (fun _ _ _ h => h) ?_
    clear H a; intro a H
    refine k_take 6 H rfl (q_assign rfl) rfl (by kernel_rfl) (by kernel_rfl) (by kernel_rfl) (by kernel_rfl) (fun _ _ _ h => h) ?_
    clear H a; intro a H
    refine k_storeAll 7 H rfl rfl rfl rfl sz29 (hS.blk 0 rfl) rfl (by simp) (by kernel_rfl) (.inr (by kernel_rfl)) ?_
    clear H; intro w8 hN hC9 hz; clear a; intro a H
    replace hS := hS.setBlk hN hC9; clear hN hz
    refine k_done (by kernel_rfl) ?_
    refine then_normal ?_
    refine wp_ret ?_
    refine then_ret ?_
    have hr8 := (hS.blk 0 rfl)
    replace hS := hS.rnNone (.slice A0 bs.length c0)
    replace hS := hS.pick 2 rfl
    dsimp only [List.eraseIdx] at hS
    replace hS := hS.take 2
    simp only [List.take_succ_cons, List.take_zero] at hS
    refine retL H (.inr rfl) rfl (vs := _) (resTmp rfl (resTmp rfl (resCell rfl (hr8.ldAll ag29 sz29) resNil))) ?_
    rw [show recM bs ca cd t any = (0, none, .pl ca 1, ca) from by rw [recM, if_pos q7]]; exact ⟨_, rfl, hS⟩
  · skip
    have q7 : ¬ (cd : Int) - ca < 3 := by simpa using hc14
    have hpk := peekN_lt (bs := bs) (a := ca + 1) (k := 2) (by omega)
    rw [show (256 : Int) ^ 2 = 65536 from rfl] at hpk
    refine wp_skip ?_
    refine then_normal ?_
    refine wp_seq ?_
    refine c_quiet (by kernel_rfl) (by kernel_rfl) ?_
    obtain ⟨x, hx⟩ := (hb _ hS.chg).at (i := ca) (by omega)
    obtain ⟨ad0, had⟩ := (hb _ hS.chg).addr (i := ca) (by omega)
    subst had
    refine qq_q H (q_move rfl) rfl ?_
    clear H a; intro a H
    refine qq_q H (q_nilCheck rfl) rfl ?_
    clear H a; intro a H
    refine qq_q H (q_fieldAddr0 rfl fo109_0) rfl ?_
    clear H a; intro a H
    refine qq_q H (q_load rfl ((hS.blk 1 rfl).ld ag23 rfl)) rfl ?_
    clear H a; intro a H
    refine qq_q H (q_move rfl) rfl ?_
    clear H a; intro a H
    refine qq_q H (q_nilCheck rfl) rfl ?_
    clear H a; intro a H
    refine qq_q H (q_fieldAddr0 rfl fo109_1) rfl ?_
    clear H a; intro a H
    refine qq_q H (q_load rfl ((hS.blk 1 rfl).ld ag3 rfl)) rfl ?_
    clear H a; intro a H
    refine qq_q H (q_cast (q_indexAddr (ad := ad0) (n := bs.length) (c := c0) Tryd.underlying23 sz5 rfl rfl (by omega) (by omega)) (show _ = Value.pointer (some (ad0.add (ca * 1))) by rw [show (ca : Int).toNat = ca by omega])) rfl ?_
    clear H a; intro a H
    refine qq_q H (q_load rfl ((hb _ hS.chg).ldOne ag5 hx rfl)) rfl ?_
    clear H a; intro a H
    refine qq_q H (q_cast (q_convI Tryd.underlying5 Tryd.underlying3 ⟨_, rfl⟩ rfl) (show _ = Value.int .i64 (peekN bs ca 1) by rw [wrap64_eq (z := (x.toNat : Int)) (by have := x.toNat_lt; constructor <;> omega), peek1 hx])) rfl ?_
    clear H a; intro a H
    refine qq_q H (q_assign rfl) rfl ?_
    clear H a; intro a H
    refine qq_nil ?_
    intro w10 hE11
    replace hS := hS.ext hE11
    refine then_normal ?_
    refine wp_seq ?_
    refine wp_seq ?_
    refine wp_region_lit ?_
    refine n_c H (fun HC => ?_); clear H
    refine nc_q HC (q_move rfl) rfl (by kernel_rfl) ?_
    clear HC a; intro a HC
    refine nc_q HC (q_move rfl) rfl (by kernel_rfl) ?_
    clear HC a; intro a HC
    refine nc_g HC (q_move rfl) (by kernel_rfl) (by kernel_rfl) (by kernel_rfl) ?_
    clear HC a; intro a HC
    refine nc_g HC (q_eql rfl rfl) (by kernel_rfl) (by kernel_rfl) (by kernel_rfl) ?_
    clear HC a; intro a HC
    refine nc_and (j := 1) HC rfl rfl rfl (by kernel_rfl) (by kernel_rfl) ?_
    clear HC a; intro a HC
    refine nc_q HC (q_move rfl) rfl (by kernel_rfl) ?_
    clear HC a; intro a HC
    refine nc_g HC (q_move rfl) (by kernel_rfl) (by kernel_rfl) (by kernel_rfl) ?_
    clear HC a; intro a HC
    refine nc_g HC (q_not rfl) (by kernel_rfl) (by kernel_rfl) (by kernel_rfl) ?_
    clear HC a; intro a HC
    refine nc_g HC (q_move rfl) (by kernel_rfl) (by kernel_rfl) (by kernel_rfl) ?_
    clear HC a; intro a HC
    refine nc_g HC (q_move rfl) (by kernel_rfl) (by kernel_rfl) (by kernel_rfl) ?_
    clear HC a; intro a HC
    refine nc_g HC (q_move rfl) (by kernel_rfl) (by kernel_rfl) (by kernel_rfl) ?_
    clear HC a; intro a HC
    refine nc_g HC (q_neq rfl rfl) (by kernel_rfl) (by kernel_rfl) (by kernel_rfl) ?_
    clear HC a; intro a HC
    refine nc_g HC (q_move rfl) (by kernel_rfl) (by kernel_rfl) (by kernel_rfl) ?_
    clear HC a; intro a HC
    refine nc_g HC (q_move rfl) (by kernel_rfl) (by kernel_rfl) (by kernel_rfl) ?_
    clear HC a; intro a HC
    refine nc_g HC (q_eql rfl rfl) (by kernel_rfl) (by kernel_rfl) (by kernel_rfl) ?_
    clear HC a; intro a HC
    refine nc_org (j := 12) HC rfl rfl rfl (by kernel_rfl) (by kernel_rfl) (by kernel_rfl) ?_
    clear HC a; intro a HC
    refine nc_andg (j := 8) HC rfl rfl rfl (by kernel_rfl) (by kernel_rfl) (by kernel_rfl) ?_
    clear HC a; intro a HC
    refine nc_or (j := 5) HC rfl rfl rfl (by kernel_rfl) (by kernel_rfl) ?_
    clear HC a; intro a HC
    have H := HC.has; clear HC
    refine n_nil ?_
    refine then_normal ?_
    refine c_cond H rfl (fun hc48 => ?_) (fun hc48 => ?_)
    · skip
      have q48 : badTag (peekN bs ca 1) t any = true := hc48
      refine wp_seq ?_
      refine c_ord [] 7 (by kernel_rfl) ?_
      obtain ⟨w12, hw12⟩ : ∃ x, x = w10.drew := ⟨_, rfl⟩
      rw [← hw12]
      have hE13 : Ext w10 w12 := by rw [hw12]; exact Ext.drew' _
      clear hw12
      replace hS := hS.ext hE13
      refine k_take 0 H rfl (q_move rfl) rfl (by kernel_rfl) (by kernel_rfl) (by kernel_rfl) (by kernel_rfl) (fun _ _ _ h => h) ?_
      clear H a; intro a H
      refine k_take 1 H rfl (q_nilCheck rfl) rfl (by kernel_rfl) (by kernel_rfl) (by kernel_rfl) (by kernel_rfl) (fun _ _ _ h => h) ?_
      clear H a; intro a H
      refine k_take 2 H rfl (q_fieldAddr0 rfl fo109_1) rfl (by kernel_rfl) (by kernel_rfl) (by kernel_rfl) (by kernel_rfl) (fun _ _ _ h => h) ?_
      clear H a; intro a H
      refine k_take 3 H rfl (q_load rfl (LdC.k0 ((hS.blk 1 rfl).ld ag3 rfl))) rfl (by kernel_rfl) (by kernel_rfl) (by kernel_rfl) (by kernel_rfl) (fun _ _ _ h => h) ?_
      clear H a; intro a H
      refine k_take 4 H rfl (q_build (cs := [.int .i64 3, .int .i64 (ca : Nat)]) ze29 bd29 pl29 rfl (by kernel_rfl)) rfl (by kernel_rfl) (by kernel_rfl) (by kernel_rfl) (by kernel_rfl) (fun _ _ _ h => h) ?_
      clear H a; intro a H
      refine k_take 5 H rfl (q_assign rfl) rfl (by kernel_rfl) (by kernel_rfl) (by kernel_rfl) (by kernel_rfl) (fun _ _ _ h => h) ?_
      clear H a; intro a H
      refine k_take 6 H rfl (q_assign rfl) rfl (by kernel_rfl) (by kernel_rfl) (by kernel_rfl) (by kernel_rfl) (fun _ _ _ h => h) ?_
      clear H a; intro a H
      refine k_storeAll 7 H rfl rfl rfl rfl sz29 (hS.blk 0 rfl) rfl (by simp) (by kernel_rfl) (.inr (by kernel_rfl)) ?_
      clear H; intro w14 hN hC15 hz; clear a; intro a H
      replace hS := hS.setBlk hN hC15; clear hN hz
      refine k_done (by kernel_rfl) ?_
      refine then_normal ?_
      refine wp_ret ?_
      refine then_ret ?_
      have hr8 := (hS.blk 0 rfl)
      replace hS := hS.rnNone (.slice (some ad0) bs.length c0)
      replace hS := hS.pick 2 rfl
      dsimp only [List.eraseIdx] at hS
      replace hS := hS.take 2
      simp only [List.take_succ_cons, List.take_zero] at hS
      refine retL H (.inr rfl) rfl (vs := _) (resTmp rfl (resTmp rfl (resCell rfl (hr8.ldAll ag29 sz29) resNil))) ?_
      rw [show recM bs ca cd t any = (0, none, .pl ca 5, ca) from by rw [recM, if_neg q7, if_pos q48]]; exact ⟨_, rfl, hS⟩
    · skip
      have q48 : ¬ badTag (peekN bs ca 1) t any = true := by rw [show badTag (peekN bs ca 1) t any = false from hc48]; simp
      refine wp_skip ?_
      refine then_normal ?_
      refine wp_seq ?_
      refine wp_region_lit ?_
      refine n_q H (q_move rfl) rfl ?_
      clear H a; intro a H
      refine n_q H (q_move rfl) rfl ?_
      clear H a; intro a H
      refine n_q H (q_nilCheck rfl) rfl ?_
      clear H a; intro a H
      refine n_q H (q_fieldAddr0 rfl fo109_1) rfl ?_
      clear H a; intro a H
      refine n_q H (q_load rfl ((hS.blk 1 rfl).ld ag3 rfl)) rfl ?_
      clear H a; intro a H
      refine n_q H (q_add rfl rfl (by constructor <;> omega)) rfl ?_
      clear H a; intro a H
      refine n_call H rfl en93 (rvalue_w (o := ((ca : Int) + 1)) (k := 2) (m := (ca + 1)) (hb _ hS.chg) (by omega) (by omega) (by omega) (by omega) h3 (by omega) (kn := 2) (by omega) (hS.blk 1 rfl)) rfl ?_
      clear H a; intro v18 w16 hv a H
      obtain ⟨rfl, hE17⟩ := hv
      replace hS := hS.ext hE17
      refine n_q H (q_assign rfl) rfl ?_
      clear H a; intro a H
      refine n_nil ?_
      refine then_normal ?_
      refine wp_seq ?_
      refine wp_seq ?_
      refine wp_region_lit ?_
      refine n_q H (q_move rfl) rfl ?_
      clear H a; intro a H
      refine n_q H (q_move rfl) rfl ?_
      clear H a; intro a H
      refine n_call H rfl en47 (rLeft_w h1 (by omega) (hS.blk 1 rfl)) rfl ?_
      clear H a; intro v21 w19 hv a H
      obtain ⟨rfl, hE20⟩ := hv
      replace hS := hS.ext hE20
      refine n_q H (q_sub rfl rfl (by constructor <;> omega)) rfl ?_
      clear H a; intro a H
      refine n_q H (q_gtr rfl rfl) rfl ?_
      clear H a; intro a H
      refine n_nil ?_
      refine then_normal ?_
      refine c_cond H rfl (fun hc65 => ?_) (fun hc65 => ?_)
      · skip
        have q65 : (cd : Int) - ca - 3 < peekN bs (ca + 1) 2 := by simpa using hc65
        refine wp_seq ?_
        refine c_ord [] 8 (by kernel_rfl) ?_
        obtain ⟨w22, hw22⟩ : ∃ x, x = w19.drew := ⟨_, rfl⟩
        rw [← hw22]
        have hE23 : Ext w19 w22 := by rw [hw22]; exact Ext.drew' _
        clear hw22
        replace hS := hS.ext hE23
        refine k_take 0 H rfl (q_move rfl) rfl (by kernel_rfl) (by kernel_rfl) (by kernel_rfl) (by kernel_rfl) (fun _ _ _ h => h) ?_
        clear H a; intro a H
        refine k_take 1 H rfl (q_nilCheck rfl) rfl (by kernel_rfl) (by kernel_rfl) (by kernel_rfl) (by kernel_rfl) (fun _ _ _ h => h) ?_
        clear H a; intro a H
        refine k_take 2 H rfl (q_fieldAddr0 rfl fo109_1) rfl (by kernel_rfl) (by kernel_rfl) (by kernel_rfl) (by kernel_rfl) (fun _ _ _ h => h) ?_
        clear H a; intro a H
        refine k_take 3 H rfl (q_load rfl (LdC.k0 ((hS.blk 1 rfl).ld ag3 rfl))) rfl (by kernel_rfl) (by kernel_rfl) (by kernel_rfl) (by kernel_rfl) (fun _ _ _ h => h) ?_
        clear H a; intro a H
        refine k_take 4 H rfl (q_add rfl rfl (by constructor <;> omega)) rfl (by kernel_rfl) (by kernel_rfl) (by kernel_rfl) (by kernel_rfl) (fun _ _ _ h => h) ?_
        clear H a; intro a H
        refine k_take 5 H rfl (q_build (cs := [.int .i64 5, .int .i64 ((ca : Int) + 1)]) ze29 bd29 pl29 rfl (by kernel_rfl)) rfl (by kernel_rfl) (by kernel_rfl) (by kernel_rfl) (by kernel_rfl) (fun _ _ _ h => h) ?_
        clear H a; intro a H
        refine k_take 6 H rfl (q_assign rfl) rfl (by kernel_rfl) (by kernel_rfl) (by kernel_rfl) (by kernel_rfl) (fun _ _ _ h => h) ?_
        clear H a; intro a H
        refine k_take 7 H rfl (q_assign rfl) rfl (by kernel_rfl) (by kernel_rfl) (by kernel_rfl) (by kernel_rfl) (fun _ _ _ h => h) ?_
        clear H a; intro a H
        refine k_storeAll 8 H rfl rfl rfl rfl sz29 (hS.blk 0 rfl) rfl (by simp) (by kernel_rfl) (.inr (by kernel_rfl)) ?_
        clear H; intro w24 hN hC25 hz; clear a; intro a H
        replace hS := hS.setBlk hN hC25; clear hN hz
        refine k_done (by kernel_rfl) ?_
        refine then_normal ?_
        refine wp_ret ?_
        refine then_ret ?_
        have hr8 := (hS.blk 0 rfl)
        replace hS := hS.rnNone (.slice (some ad0) bs.length c0)
        replace hS := hS.pick 2 rfl
        dsimp only [List.eraseIdx] at hS
        replace hS := hS.take 2
        simp only [List.take_succ_cons, List.take_zero] at hS
        refine retL H (.inr rfl) rfl (vs := _) (resTmp rfl (resTmp rfl (resCell rfl (hr8.ldAll ag29 sz29) resNil))) ?_
        rw [show recM bs ca cd t any = (0, none, .pl (ca + 1 : Nat) 7, ca) from by rw [recM, if_neg q7, if_neg q48, if_pos q65]]; exact ⟨_, rfl, hS⟩
      · skip
        have q65 : ¬ (cd : Int) - ca - 3 < peekN bs (ca + 1) 2 := by simpa using hc65
        refine wp_skip ?_
        refine then_normal ?_
        refine wp_seq ?_
        refine c_ord [] 19 (by kernel_rfl) ?_
        obtain ⟨w26, hw26⟩ : ∃ x, x = w19.drew := ⟨_, rfl⟩
        rw [← hw26]
        have hE27 : Ext w19 w26 := by rw [hw26]; exact Ext.drew' _
        clear hw26
        replace hS := hS.ext hE27
        refine k_take 0 H rfl (q_move rfl) rfl (by kernel_rfl) (by kernel_rfl) (by kernel_rfl) (by kernel_rfl) (fun _ _ _ h => h) ?_
        clear H a; intro a H
        refine k_take 1 H rfl (q_nilCheck rfl) rfl (by kernel_rfl) (by kernel_rfl) (by kernel_rfl) (by kernel_rfl) (fun _ _ _ h => h) ?_
        clear H a; intro a H
        refine k_take 2 H rfl (q_fieldAddr0 rfl fo109_0) rfl (by kernel_rfl) (by kernel_rfl) (by kernel_rfl) (by kernel_rfl) (fun _ _ _ h => h) ?_
        clear H a; intro a H
        refine k_take 3 H rfl (q_load rfl (LdC.k0 ((hS.blk 1 rfl).ld ag23 rfl))) rfl (by kernel_rfl) (by kernel_rfl) (by kernel_rfl) (by kernel_rfl) (fun _ _ _ h => h) ?_
        clear H a; intro a H
        refine k_take 4 H rfl (q_move rfl) rfl (by kernel_rfl) (by kernel_rfl) (by kernel_rfl) (by kernel_rfl) (fun _ _ _ h => h) ?_
        clear H a; intro a H
        refine k_take 5 H rfl (q_nilCheck rfl) rfl (by kernel_rfl) (by kernel_rfl) (by kernel_rfl) (by kernel_rfl) (fun _ _ _ h => h) ?_
        clear H a; intro a H
        refine k_take 6 H rfl (q_fieldAddr0 rfl fo109_1) rfl (by kernel_rfl) (by kernel_rfl) (by kernel_rfl) (by kernel_rfl) (fun _ _ _ h => h) ?_
        clear H a; intro a H
        refine k_take 7 H rfl (q_load rfl (LdC.k0 ((hS.blk 1 rfl).ld ag3 rfl))) rfl (by kernel_rfl) (by kernel_rfl) (by kernel_rfl) (by kernel_rfl) (fun _ _ _ h => h) ?_
        clear H a; intro a H
        refine k_take 8 H rfl (q_add rfl rfl (by constructor <;> omega)) rfl (by kernel_rfl) (by kernel_rfl) (by kernel_rfl) (by kernel_rfl) (fun _ _ _ h => h) ?_
        clear H a; intro a H
        refine k_take 9 H rfl (q_move rfl) rfl (by kernel_rfl) (by kernel_rfl) (by kernel_rfl) (by kernel_rfl) (fun _ _ _ h => h) ?_
        clear H a; intro a H
        refine k_take 10 H rfl (q_nilCheck rfl) rfl (by kernel_rfl) (by kernel_rfl) (by kernel_rfl) (by kernel_rfl) (fun _ _ _ h => h) ?_
        clear H a; intro a H
        refine k_take 11 H rfl (q_fieldAddr0 rfl fo109_1) rfl (by kernel_rfl) (by kernel_rfl) (by kernel_rfl) (by kernel_rfl) (fun _ _ _ h => h) ?_
        clear H a; intro a H
        refine k_take 12 H rfl (q_load rfl (LdC.k0 ((hS.blk 1 rfl).ld ag3 rfl))) rfl (by kernel_rfl) (by kernel_rfl) (by kernel_rfl) (by kernel_rfl) (fun _ _ _ h => h) ?_
        clear H a; intro a H
        refine k_take 13 H rfl (q_add rfl rfl (by constructor <;> omega)) rfl (by kernel_rfl) (by kernel_rfl) (by kernel_rfl) (by kernel_rfl) (fun _ _ _ h => h) ?_
        clear H a; intro a H
        refine k_take 14 H rfl (q_move rfl) rfl (by kernel_rfl) (by kernel_rfl) (by kernel_rfl) (by kernel_rfl) (fun _ _ _ h => h) ?_
        clear H a; intro a H
        refine k_take 15 H rfl (q_add rfl rfl (by constructor <;> omega)) rfl (by kernel_rfl) (by kernel_rfl) (by kernel_rfl) (by kernel_rfl) (fun _ _ _ h => h) ?_
        clear H a; intro a H
        refine k_take 16 H rfl (q_build (cs := [.slice (some ad0) bs.length c0, .int .i64 ((ca : Int) + 3), .int .i64 ((ca : Int) + 3 + peekN bs (ca + 1) 2)]) ze109 bd109 pl109 rfl (by kernel_rfl)) rfl (by kernel_rfl) (by kernel_rfl) (by kernel_rfl) (by kernel_rfl) (fun _ _ _ h => h) ?_
        clear H a; intro a H
        refine k_box 17 H rfl rfl (cs := [.slice (some ad0) bs.length c0, .int .i64 ((ca : Int) + 3), .int .i64 ((ca : Int) + 3 + peekN bs (ca + 1) 2)]) rfl rfl (by kernel_rfl) ?_
        clear H; intro b89 w28 hN hE29 hs_b89; clear a; intro a H
        have hz_b89 := hE29.size
        replace hS := hS.newBlk hN hE29 hs_b89; clear hN hE29
        refine k_take 18 H rfl (q_assign rfl) rfl (by kernel_rfl) (by kernel_rfl) (by kernel_rfl) (by kernel_rfl) (fun _ _ _ h => h) ?_
        clear H a; intro a H
        refine k_done (by kernel_rfl) ?_
        refine then_normal ?_
        refine wp_seq ?_
        refine wp_region_lit ?_
        refine n_q H (q_move rfl) rfl ?_
        clear H a; intro a H
        refine n_q H (q_nilCheck rfl) rfl ?_
        clear H a; intro a H
        refine n_q H (q_fieldAddr0 rfl fo109_1) rfl ?_
        clear H a; intro a H
        refine n_q H (q_load rfl ((hS.blk 2 rfl).ld ag3 rfl)) rfl ?_
        clear H a; intro a H
        refine n_q H (q_move rfl) rfl ?_
        clear H a; intro a H
        refine n_q H (q_add rfl rfl (by constructor <;> omega)) rfl ?_
        clear H a; intro a H
        refine n_q H (q_add rfl rfl (by constructor <;> omega)) rfl ?_
        clear H a; intro a H
        refine n_q H (q_nilCheck rfl) rfl ?_
        clear H a; intro a H
        refine n_q H (q_fieldAddr0 rfl fo109_1) rfl ?_
        clear H a; intro a H
        replace hS := hS.pick 2 rfl
        dsimp only [List.eraseIdx] at hS
        refine n_store1 H rfl rfl sz3 (hS.blk 0 rfl) (by simp) (by first | rfl) ?_
        clear H; intro w30 hN hC31 hz; clear a; intro a H
        replace hS := hS.setBlk hN hC31; clear hN hz
        try simp only [List.set_cons_succ, List.set_cons_zero] at hS
        refine n_nil ?_
        refine then_normal ?_
        refine wp_seq ?_
        refine wp_region_lit ?_
        refine n_q H (q_move rfl) rfl ?_
        clear H a; intro a H
        refine n_q H (q_move rfl) rfl ?_
        clear H a; intro a H
        refine n_call H rfl en49 (rNone_w) rfl ?_
        clear H a; intro v34 w32 hv a H
        obtain ⟨rfl, hE33⟩ := hv
        replace hS := hS.ext hE33
        refine n_q H (q_assign rfl) rfl ?_
        clear H a; intro a H
        refine n_q H (q_assign rfl) rfl ?_
        clear H a; intro a H
        replace hS := hS.pick 2 rfl
        dsimp only [List.eraseIdx] at hS
        refine n_storeAll H rfl rfl (vs := [.int .i64 0, .int .i64 (-1)]) rfl sz29 (hS.blk 0 rfl) rfl (by simp) ?_
        clear H; intro w35 hN hC36 hz; clear a; intro a H
        replace hS := hS.setBlk hN hC36; clear hN hz
        refine n_nil ?_
        refine then_normal ?_
        refine wp_ret ?_
        have hr8 := (hS.blk 0 rfl)
        have hat : (ca : Int) + (3 + peekN bs (ca + 1) 2) = ((ca + 3 + (peekN bs (ca + 1) 2).toNat : Nat) : Int) := by omega
        have hat2 : (ca : Int) + 3 + peekN bs (ca + 1) 2 = ((ca + 3 + (peekN bs (ca + 1) 2).toNat : Nat) : Int) := by omega
        have ha3 : (ca : Int) + 3 = ((ca + 3 : Nat) : Int) := by omega
        rw [hat, hat2, ha3] at hS
        replace hS := hS.pick 2 rfl
        dsimp only [List.eraseIdx] at hS
        replace hS := hS.rnSome
        replace hS := hS.pick 2 rfl
        dsimp only [List.eraseIdx] at hS
        replace hS := hS.take 2
        simp only [List.take_succ_cons, List.take_zero] at hS
        refine retL H (.inr rfl) rfl (vs := _) (resTmp rfl (resTmp rfl (resCell rfl (hr8.ldAll ag29 sz29) resNil))) ?_
        rw [show recM bs ca cd t any = (peekN bs ca 1, some (ca + 3, ca + 3 + (peekN bs (ca + 1) 2).toNat), .nil, ca + 3 + (peekN bs (ca + 1) 2).toNat) from by rw [recM, if_neg q7, if_neg q48, if_neg q65]]; exact ⟨_, rfl, hS⟩

theorem rNext_w {w : World} {fp : Nat → Prop} {p ca cd : Nat} {vb : Value} {bs : List UInt8}  (hb : ∀ w', ChgP fp w w' → SlR w' 1 (Flat eB) vb bs) (h1 : ca ≤ cd) (h2 : cd ≤ bs.length) (h3 : bs.length ≤ 70368744177664) (hP0 : Sep w fp [rcR p vb ca cd]) :
    Calls Tryd.prog 48 [.pointer (some ⟨p, 0, none⟩)].toArray w (Ret fun r w' => ∃ q, r = .tuple #[.int .i64 (nextM bs ca cd).1, .pointer q, eE (nextM bs ca cd).2.2.1] ∧ St fp w w' [rcR p vb (nextM bs ca cd).2.2.2 cd, rnR vb q (nextM bs ca cd).2.1]) := by
  have hS := St.init hP0
  refine enter Tryd.func48 rfl rfl rfl ?_
  intro a H
  dsimp only [enumL, Nat.zero_add, Nat.reduceAdd] at H
  refine wp_seq ?_
  refine wp_region_lit ?_
  refine n_q H (q_assign rfl) rfl ?_
  clear H a; intro a H
  refine n_q H (q_assign rfl) rfl ?_
  clear H a; intro a H
  refine n_alloc H ze29 rfl ?_
  clear H; intro b4 w1 hN hE2 hs_b4; clear a; intro a H
  replace hS := hS.newBlk hN hE2 hs_b4; clear hN hE2
  refine n_nil ?_
  refine then_normal ?_
  refine wp_seq ?_
  refine wp_region_lit ?_
  refine n_q H (q_move rfl) rfl ?_
  clear H a; intro a H
  replace hS := hS.pick 1 rfl
  dsimp only [List.eraseIdx] at hS
  obtain ⟨fp6, hG6, hK6, hR6, hF6⟩ := hS.frame1
  refine n_call H rfl en79 (rrec_w (t := 0) (any := true) (fun w' hw => hb _ (hK6 _ hw)) h1 h2 h3 hG6) rfl ?_
  clear H a; intro v5 w3 hv a H
  obtain ⟨q6, rfl, hE4⟩ := hv
  replace hS := hF6 _ _ hE4
  simp only [List.cons_append, List.nil_append] at hS
  clear hG6 hK6 hR6 hF6
  refine n_q H (q_extract rfl rfl) rfl ?_
  clear H a; intro a H
  refine n_q H (q_extract rfl rfl) rfl ?_
  clear H a; intro a H
  refine n_q H (q_extract rfl rfl) rfl ?_
  clear H a; intro a H
  refine n_q H (q_assign rfl) rfl ?_
  clear H a; intro a H
  refine n_q H (q_assign rfl) rfl ?_
  clear H a; intro a H
  replace hS := hS.pick 2 rfl
  dsimp only [List.eraseIdx] at hS
  refine n_storeAll H rfl rfl (vs := [.int .i64 (recM bs ca cd 0 true).2.2.1.code, .int .i64 (recM bs ca cd 0 true).2.2.1.place]) rfl sz29 (hS.blk 0 rfl) rfl (by simp) ?_
  clear H; intro w6 hN hC7 hz; clear a; intro a H
  replace hS := hS.setBlk hN hC7; clear hN hz
  refine n_nil ?_
  refine then_normal ?_
  refine wp_ret ?_
  have hr4 := (hS.blk 0 rfl)
  replace hS := hS.pick 2 rfl
  dsimp only [List.eraseIdx] at hS
  replace hS := hS.pick 2 rfl
  dsimp only [List.eraseIdx] at hS
  replace hS := hS.take 2
  simp only [List.take_succ_cons, List.take_zero] at hS
  refine retL H (.inr rfl) rfl (vs := _) (resTmp rfl (resTmp rfl (resCell rfl (hr4.ldAll ag29 sz29) resNil))) ?_
  rw [← recM_next]; exact ⟨_, rfl, hS⟩

theorem rRecordC_w {w : World} {fp : Nat → Prop} {p ca cd : Nat} {vb : Value} {bs : List UInt8} {t : Int} (hb : ∀ w', ChgP fp w w' → SlR w' 1 (Flat eB) vb bs) (h1 : ca ≤ cd) (h2 : cd ≤ bs.length) (h3 : bs.length ≤ 70368744177664) (hP0 : Sep w fp [rcR p vb ca cd]) :
    Calls Tryd.prog 52 [.pointer (some ⟨p, 0, none⟩), .int .i64 t].toArray w (Ret fun r w' => ∃ q, r = .tuple #[.pointer q, eE (recordM bs ca cd t).2.1] ∧ St fp w w' [rcR p vb (recordM bs ca cd t).2.2 cd, rnR vb q (recordM bs ca cd t).1]) := by
  have hS := St.init hP0
  refine enter Tryd.func52 rfl rfl rfl ?_
  intro a H
  dsimp only [enumL, Nat.zero_add, Nat.reduceAdd] at H
  refine wp_seq ?_
  refine wp_region_lit ?_
  refine n_q H (q_assign rfl) rfl ?_
  clear H a; intro a H
  refine n_alloc H ze29 rfl ?_
  clear H; intro b5 w1 hN hE2 hs_b5; clear a; intro a H
  replace hS := hS.newBlk hN hE2 hs_b5; clear hN hE2
  refine n_nil ?_
  refine then_normal ?_
  refine wp_seq ?_
  refine wp_region_lit ?_
  refine n_q H (q_move rfl) rfl ?_
  clear H a; intro a H
  refine n_q H (q_move rfl) rfl ?_
  clear H a; intro a H
  replace hS := hS.pick 1 rfl
  dsimp only [List.eraseIdx] at hS
  obtain ⟨fp12, hG12, hK12, hR12, hF12⟩ := hS.frame1
  refine n_call H rfl en79 (rrec_w (t := t) (any := false) (fun w' hw => hb _ (hK12 _ hw)) h1 h2 h3 hG12) rfl ?_
  clear H a; intro v5 w3 hv a H
  obtain ⟨q6, rfl, hE4⟩ := hv
  replace hS := hF12 _ _ hE4
  simp only [List.cons_append, List.nil_append] at hS
  clear hG12 hK12 hR12 hF12
  refine n_q H (q_move rfl) rfl ?_
  clear H a; intro a H
  refine n_q H (q_extract rfl rfl) rfl ?_
  clear H a; intro a H
  refine n_q H (q_extract rfl rfl) rfl ?_
  clear H a; intro a H
  refine n_q H (q_extract rfl rfl) rfl ?_
  clear H a; intro a H
  refine n_alloc H ze29 rfl ?_
  clear H; intro b8 w6 hN hE7 hs_b8; clear a; intro a H
  replace hS := hS.newBlk hN hE7 hs_b8; clear hN hE7
  refine n_q H (q_assign rfl) rfl ?_
  clear H a; intro a H
  refine n_q H (q_assign rfl) rfl ?_
  clear H a; intro a H
  refine n_storeAll H rfl rfl (vs := [.int .i64 (recM bs ca cd t false).2.2.1.code, .int .i64 (recM bs ca cd t false).2.2.1.place]) rfl sz29 (hS.blk 0 rfl) rfl (by simp) ?_
  clear H; intro w8 hN hC9 hz; clear a; intro a H
  replace hS := hS.setBlk hN hC9; clear hN hz
  refine n_nil ?_
  refine then_normal ?_
  refine wp_seq ?_
  refine c_ord [] 3 (by kernel_rfl) ?_
  obtain ⟨w10, hw10⟩ : ∃ x, x = w8.drew := ⟨_, rfl⟩
  rw [← hw10]
  have hE11 : Ext w8 w10 := by rw [hw10]; exact Ext.drew' _
  clear hw10
  replace hS := hS.ext hE11
  refine k_take 0 H rfl (q_move rfl) rfl (by kernel_rfl) (by kernel_rfl) (by kernel_rfl) (by kernel_rfl) (fun _ _ _ h => h) ?_
  clear H a; intro a H
  refine k_take 1 H rfl (q_load rfl (LdC.k0 ((hS.blk 0 rfl).ldAll ag29 sz29))) rfl (by kernel_rfl) (by kernel_rfl) (by kernel_rfl) (by kernel_rfl) (fun _ _ _ h => h) ?_
  clear H a; intro a H
  refine k_take 2 H rfl (q_assign rfl) rfl (by kernel_rfl) (by kernel_rfl) (by kernel_rfl) (by kernel_rfl) (fun _ _ _ h => h) ?_
  clear H a; intro a H
  replace hS := hS.pick 3 rfl
  dsimp only [List.eraseIdx] at hS
  refine k_storeAll 3 H rfl rfl rfl (vs := [.int .i64 (recM bs ca cd t false).2.2.1.code, .int .i64 (recM bs ca cd t false).2.2.1.place]) rfl sz29 (hS.blk 0 rfl) rfl (by simp) (by kernel_rfl) (.inr (by kernel_rfl)) ?_
  clear H; intro w12 hN hC13 hz; clear a; intro a H
  replace hS := hS.setBlk hN hC13; clear hN hz
  refine k_done (by kernel_rfl) ?_
  refine then_normal ?_
  refine wp_ret ?_
  have hr5 := (hS.blk 0 rfl)
  replace hS := hS.pick 3 rfl
  dsimp only [List.eraseIdx] at hS
  replace hS := hS.pick 3 rfl
  dsimp only [List.eraseIdx] at hS
  replace hS := hS.take 2
  simp only [List.take_succ_cons, List.take_zero] at hS
  refine retL H (.inr rfl) rfl (vs := _) (resTmp rfl (resCell rfl (hr5.ldAll ag29 sz29) resNil)) ?_
  rw [← recM_record]; exact ⟨_, rfl, hS⟩

theorem rEnded_w {w : World} {fp : Nat → Prop} {p ca cd : Nat} {vb : Value} {bs : List UInt8}  (hb : ∀ w', ChgP fp w w' → SlR w' 1 (Flat eB) vb bs) (h1 : ca ≤ cd) (h2 : cd ≤ bs.length) (h3 : bs.length ≤ 70368744177664) (hP0 : Sep w fp [rcR p vb ca cd]) :
    Calls Tryd.prog 53 [.pointer (some ⟨p, 0, none⟩)].toArray w (Ret fun r w' => r = eE (endM ca cd) ∧ St fp w w' [rcR p vb ca cd]) := by
  have hS := St.init hP0
  refine enter Tryd.func53 rfl rfl rfl ?_
  intro a H
  dsimp only [enumL, Nat.zero_add, Nat.reduceAdd] at H
  refine wp_seq ?_
  refine wp_region_lit ?_
  refine n_alloc H ze29 rfl ?_
  clear H; intro b2 w1 hN hE2 hs_b2; clear a; intro a H
  replace hS := hS.newBlk hN hE2 hs_b2; clear hN hE2
  refine n_nil ?_
  refine then_normal ?_
  refine wp_seq ?_
  refine wp_seq ?_
  refine wp_region_lit ?_
  refine n_q H (q_move rfl) rfl ?_
  clear H a; intro a H
  refine n_call H rfl en47 (rLeft_w h1 (by omega) (hS.blk 1 rfl)) rfl ?_
  clear H a; intro v5 w3 hv a H
  obtain ⟨rfl, hE4⟩ := hv
  replace hS := hS.ext hE4
  refine n_q H (q_gtr rfl rfl) rfl ?_
  clear H a; intro a H
  refine n_nil ?_
  refine then_normal ?_
  refine c_cond H rfl (fun hc5 => ?_) (fun hc5 => ?_)
  · skip
    have q5 : ca < cd := by simp at hc5; omega
    refine wp_seq ?_
    refine wp_region_lit ?_
    refine n_q H (q_move rfl) rfl ?_
    clear H a; intro a H
    refine n_q H (q_nilCheck rfl) rfl ?_
    clear H a; intro a H
    refine n_q H (q_fieldAddr0 rfl fo109_1) rfl ?_
    clear H a; intro a H
    refine n_q H (q_load rfl ((hS.blk 1 rfl).ld ag3 rfl)) rfl ?_
    clear H a; intro a H
    refine n_q H (q_build (cs := [.int .i64 2, .int .i64 (ca : Nat)]) ze29 bd29 pl29 rfl (by kernel_rfl)) rfl ?_
    clear H a; intro a H
    refine n_storeAll H rfl rfl rfl sz29 (hS.blk 0 rfl) rfl (by simp) ?_
    clear H; intro w6 hN hC7 hz; clear a; intro a H
    replace hS := hS.setBlk hN hC7; clear hN hz
    refine n_nil ?_
    refine then_normal ?_
    refine wp_ret ?_
    refine then_ret ?_
    have hr2 := (hS.blk 0 rfl)
    replace hS := hS.pick 1 rfl
    dsimp only [List.eraseIdx] at hS
    replace hS := hS.take 1
    simp only [List.take_succ_cons, List.take_zero] at hS
    refine retL H (.inr rfl) rfl (vs := _) (resCell rfl (hr2.ldAll ag29 sz29) resNil) ?_
    rw [show endM ca cd = .pl ca 4 from by rw [endM, if_pos q5]]; exact ⟨rfl, hS⟩
  · skip
    have q5 : ¬ ca < cd := by simp at hc5; omega
    refine wp_skip ?_
    refine then_normal ?_
    refine wp_seq ?_
    refine wp_region_lit ?_
    refine n_call H rfl en49 (rNone_w) rfl ?_
    clear H a; intro v10 w8 hv a H
    obtain ⟨rfl, hE9⟩ := hv
    replace hS := hS.ext hE9
    refine n_storeAll H rfl rfl (vs := [.int .i64 0, .int .i64 (-1)]) rfl sz29 (hS.blk 0 rfl) rfl (by simp) ?_
    clear H; intro w11 hN hC12 hz; clear a; intro a H
    replace hS := hS.setBlk hN hC12; clear hN hz
    refine n_nil ?_
    refine then_normal ?_
    refine wp_ret ?_
    have hr2 := (hS.blk 0 rfl)
    replace hS := hS.pick 1 rfl
    dsimp only [List.eraseIdx] at hS
    replace hS := hS.take 1
    simp only [List.take_succ_cons, List.take_zero] at hS
    refine retL H (.inr rfl) rfl (vs := _) (resCell rfl (hr2.ldAll ag29 sz29) resNil) ?_
    rw [show endM ca cd = .nil from by rw [endM, if_neg q5]]; exact ⟨rfl, hS⟩

theorem rOpen_w {w : World} {v : Value} {bs : List UInt8} (h : ∀ w', Ext w w' → SlR w' 1 (Flat eB) v bs) (hz : bs.length ≤ 70368744177664) :
    Calls Tryd.prog 46 [v].toArray w (Ret fun r w' => ∃ p v2 n, r = .pointer (some ⟨p, 0, none⟩) ∧ n = bs.length ∧ St NB w w' [rcR p v2 0 bs.length, ownR 5 1 v2 n (bs.flatMap eB)]) := by
  have hS := St.begin NB w
  obtain ⟨A0, c0, rfl, hl0, hm0, hn0⟩ := (h w Ext.rfl').form
  refine enter Tryd.func46 rfl rfl rfl ?_
  intro a H
  dsimp only [enumL, Nat.zero_add, Nat.reduceAdd] at H
  refine wp_seq ?_
  refine wp_region_lit ?_
  refine n_q H (q_assign rfl) rfl ?_
  clear H a; intro a H
  refine n_nil ?_
  refine then_normal ?_
  refine wp_seq ?_
  refine wp_region_lit ?_
  refine n_buildSlice H Tryd.underlying23 sz5 ze5 rfl rfl rfl (cs := []) (by kernel_rfl) rfl ?_
  clear H; intro b3 w1 hN hE2 hs_b3; clear a; intro a H
  replace hS := hS.newBlk hN hE2 hs_b3; clear hN hE2
  replace hS := hS.blkOwn 0 1 (by simp) (by simp [maxLen])
  refine n_q H (q_move rfl) rfl ?_
  clear H a; intro a H
  refine n_append H rfl rfl Tryd.underlying23 Tryd.underlying23 (by simp) el5 (hS.own 0 rfl) ((h _ hS.x).srcB) (flat_one eB_one _) (by omega) (by simp only [maxLen]; omega) rfl ?_
  clear H; intro v5 w3 hN hC4 hb5 hnil5; clear a; intro a H
  replace hS := hS.setOwn hN hC4 hb5; clear hN
  simp only [List.nil_append, Nat.zero_add] at hS
  obtain ⟨A4, c4, hv4, _⟩ := (hS.own 0 rfl).form
  subst hv4
  refine n_q H (q_move rfl) rfl ?_
  clear H a; intro a H
  refine n_q H (q_lenSl Tryd.underlying23 rfl) rfl ?_
  clear H a; intro a H
  refine n_q H (q_build (cs := [.slice A4 bs.length c4, .int .i64 0, .int .i64 (bs.length : Nat)]) ze109 bd109 pl109 rfl (by kernel_rfl)) rfl ?_
  clear H a; intro a H
  refine n_box H rfl (cs := _) rfl rfl ?_
  clear H; intro b9 w5 hN hE6 hs_b9; clear a; intro a H
  replace hS := hS.newBlk hN hE6 hs_b9; clear hN hE6
  refine n_q H (q_assign rfl) rfl ?_
  clear H a; intro a H
  refine n_nil ?_
  refine then_normal ?_
  refine wp_ret ?_
  replace hS := hS.pick 1 rfl
  dsimp only [List.eraseIdx] at hS
  replace hS := hS.pick 1 rfl
  dsimp only [List.eraseIdx] at hS
  refine ret1 H (.inr rfl) rfl rfl ?_
  exact ⟨_, _, _, rfl, rfl, hS⟩

end Go.Proofs.YtnhjohcgnmogaaaDoor
