/- Helpers of the laws on wires (written by wip/tools) -/
import Derived.Test.YtdglaodhmlocdaaDoorHexW
set_option linter.unusedVariables false
set_option linter.unusedSimpArgs false
set_option maxRecDepth 10000
namespace Go.Proofs.YtdglaodhmlocdaaDoor
open Go Go.RowKit
theorem ag29 : aggB Tryd.prog 29 = some true := by kernel_rfl
theorem ag4 : aggB Tryd.prog 4 = some false := by kernel_rfl
theorem en11 : entersB Tryd.prog 11 = true := by kernel_rfl
theorem en12 : entersB Tryd.prog 12 = true := by kernel_rfl
theorem en13 : entersB Tryd.prog 13 = true := by kernel_rfl
theorem en14 : entersB Tryd.prog 14 = true := by kernel_rfl
theorem en15 : entersB Tryd.prog 15 = true := by kernel_rfl
theorem en17 : entersB Tryd.prog 17 = true := by kernel_rfl
theorem en20 : entersB Tryd.prog 20 = true := by kernel_rfl
theorem en23 : entersB Tryd.prog 23 = true := by kernel_rfl
theorem en28 : entersB Tryd.prog 28 = true := by kernel_rfl
theorem en39 : entersB Tryd.prog 39 = true := by kernel_rfl
theorem en48 : entersB Tryd.prog 48 = true := by kernel_rfl
theorem en49 : entersB Tryd.prog 49 = true := by kernel_rfl
theorem en50 : entersB Tryd.prog 50 = true := by kernel_rfl
theorem en51 : entersB Tryd.prog 51 = true := by kernel_rfl
theorem en52 : entersB Tryd.prog 52 = true := by kernel_rfl
theorem en53 : entersB Tryd.prog 53 = true := by kernel_rfl
theorem en55 : entersB Tryd.prog 55 = true := by kernel_rfl
theorem en56 : entersB Tryd.prog 56 = true := by kernel_rfl
theorem en57 : entersB Tryd.prog 57 = true := by kernel_rfl
theorem en58 : entersB Tryd.prog 58 = true := by kernel_rfl
theorem en59 : entersB Tryd.prog 59 = true := by kernel_rfl
theorem en60 : entersB Tryd.prog 60 = true := by kernel_rfl
theorem en61 : entersB Tryd.prog 61 = true := by kernel_rfl
theorem en62 : entersB Tryd.prog 62 = true := by kernel_rfl
theorem en63 : entersB Tryd.prog 63 = true := by kernel_rfl
theorem en64 : entersB Tryd.prog 64 = true := by kernel_rfl
theorem en65 : entersB Tryd.prog 65 = true := by kernel_rfl
theorem fo29_0 : fOff Tryd.prog 29 0 = some 0 := by kernel_rfl
theorem fo29_1 : fOff Tryd.prog 29 1 = some 1 := by kernel_rfl
theorem fo29_3 : fOff Tryd.prog 29 3 = some 3 := by kernel_rfl
theorem fo29_6 : fOff Tryd.prog 29 6 = some 6 := by kernel_rfl
theorem fo55_1 : fOff Tryd.prog 55 1 = some 1 := by kernel_rfl
theorem sz29 : sizeB Tryd.prog 29 = some 7 := by kernel_rfl

structure OpM where
  kind : Int
  second : Bool
  cur : Int
  n : Int
  lo : Int
  hi : Int
  s : ByteArray
def eOp (o : OpM) : List Value := [.int .i64 o.kind, .bool o.second, .int .i64 o.cur, .int .i64 o.n, .int .i64 o.lo, .int .i64 o.hi, .string o.s]
def opV (o : OpM) : Value := .agg #[.int .i64 o.kind, .bool o.second, .int .i64 o.cur, .int .i64 o.n, .int .i64 o.lo, .int .i64 o.hi, .string o.s]
/-- 'n & 1'. -/
def and1 (n : Int) : Int := IntKind.i64.wrap ((BitVec.ofInt IntKind.i64.bits n &&& BitVec.ofInt IntKind.i64.bits 1).toNat : Int)
theorem and1_in (n : Int) : and1 n = 0 ∨ and1 n = 1 := by
  have hb : IntKind.i64.bits = 64 := rfl
  have h : (BitVec.ofInt 64 n &&& BitVec.ofInt 64 1).toNat ≤ 1 := by
    rw [BitVec.toNat_and]
    have h2 : (BitVec.ofInt 64 (1 : Int)).toNat = 1 := by decide
    rw [h2]
    exact Nat.and_le_right
  unfold and1
  rw [hb, wrap64_eq (by constructor <;> omega)]
  omega
theorem WM.flag_num (x : WM) (n : Int) : x.flag (and1 n == 1) = x.num (and1 n) 1 := by
  rcases and1_in n with h | h
  · rw [h, WM.num, if_neg (by have : mostW 1 = 255 := rfl; omega)]; rfl
  · rw [h, WM.num, if_neg (by have : mostW 1 = 255 := rfl; omega)]; rfl
/-- A put into a writer. -/
def WM.app (x : WM) (o : OpM) : WM :=
  if o.kind = 1 then x.num o.n 1 else if o.kind = 2 then x.num o.n 2 else if o.kind = 3 then x.num o.n 4 else if o.kind = 4 then x.num (and1 o.n) 1 else
  if o.kind = 5 then x.put o.s.data.toList else if o.kind = 6 then x.text o.s else if o.kind = 7 then x.record o.n o.s.data.toList else x
theorem WM.app_len (x : WM) (o : OpM) : (x.app o).buf.length ≤ x.buf.length + o.s.size + 7 := by
  have hl : o.s.data.toList.length = o.s.size := rfl
  have sp : ∀ g, (x.spoil g).buf.length = x.buf.length := fun g => by unfold WM.spoil; split <;> rfl
  unfold WM.app
  split
  · have := WM.num_len x o.n 1; omega
  split
  · have := WM.num_len x o.n 2; omega
  split
  · have := WM.num_len x o.n 4; omega
  split
  · have := WM.num_len x (and1 o.n) 1; omega
  split
  · have := WM.put_len x o.s.data.toList; omega
  split
  · unfold WM.text
    split
    · rw [sp]; omega
    · have h1 := WM.num_len x o.s.size 2
      have h2 := WM.put_len (x.num o.s.size 2) o.s.data.toList
      omega
  split
  · unfold WM.record
    split
    · rw [sp]; omega
    split
    · rw [sp]; omega
    · have h1 := WM.num_len x o.n 1
      have h2 := WM.num_len (x.num o.n 1) o.s.data.toList.length 2
      have h3 := WM.put_len ((x.num o.n 1).num o.s.data.toList.length 2) o.s.data.toList
      omega
  · omega
theorem out_len (x : WM) : x.out.length ≤ x.buf.length := by unfold WM.out; split <;> simp
theorem strB_inj {a b : List UInt8} : (strB a = strB b) ↔ a = b := by
  constructor
  · intro h
    have : a.toArray = b.toArray := congrArg ByteArray.data h
    simpa using this
  · rintro rfl; rfl
theorem same_w {w : World} {A : Nat → Addr} {u : Value} {e e' : ErrM} (hG : EV A w) (hH : HE w) (h : IsE A w u e) : Calls Tryd.prog 23 [u, eE e'].toArray w (Ret fun r w' => r = .bool (e.code == e'.code && e.place == e'.place) ∧ Ext w w') := by
  have hS := St.begin NB w
  refine enter Tryd.func23 rfl rfl rfl ?_
  intro a H
  dsimp only [enumL, Nat.zero_add, Nat.reduceAdd] at H
  refine wp_seq ?_
  refine wp_region_lit ?_
  refine n_box H rfl (cs := [.int .i64 e'.code, .int .i64 e'.place]) rfl rfl ?_
  clear H; intro b3 w1 hN hE2 hs_b3; clear a; intro a H
  replace hS := hS.newBlk hN hE2 hs_b3; clear hN hE2
  refine n_q H (q_assign rfl) rfl ?_
  clear H a; intro a H
  refine n_nil ?_
  refine then_normal ?_
  refine wp_seq ?_
  refine c_quiet (by kernel_rfl) (by kernel_rfl) ?_
  refine qq_c H (fun HC => ?_); clear H
  refine qc_q HC (q_move rfl) rfl (by kernel_rfl) ?_
  clear HC a; intro a HC
  refine qc_call HC rfl en28 ((fun w' hw => code_w (hG.ext (hS.x.trans' hw)) (h.ext (hS.x.trans' hw)))) rfl (by kernel_rfl) ?_
  clear HC a; intro a HC
  refine qc_q HC (q_fieldAddr0 rfl fo55_0) rfl (by kernel_rfl) ?_
  clear HC a; intro a HC
  refine qc_q HC (q_load rfl ((hS.blk 0 rfl).ld ag3 rfl)) rfl (by kernel_rfl) ?_
  clear HC a; intro a HC
  refine qc_q HC (q_eql rfl rfl) rfl (by kernel_rfl) ?_
  clear HC a; intro a HC
  refine qc_q HC (q_move rfl) rfl (by kernel_rfl) ?_
  clear HC a; intro a HC
  refine qc_g HC (q_move rfl) (by kernel_rfl) (by kernel_rfl) (by kernel_rfl) ?_
  clear HC a; intro a HC
  refine qc_gcall0 HC rfl en20 ((fun w' hw => place_w (hH.ext (hS.x.trans' hw)) (h.ext (hS.x.trans' hw)))) (by kernel_rfl) (by kernel_rfl) (by kernel_rfl) ?_
  clear HC a; intro a HC
  refine qc_g HC (q_fieldAddr0 rfl fo55_1) (by kernel_rfl) (by kernel_rfl) (by kernel_rfl) ?_
  clear HC a; intro a HC
  refine qc_g HC (q_load rfl ((hS.blk 0 rfl).ld ag3 rfl)) (by kernel_rfl) (by kernel_rfl) (by kernel_rfl) ?_
  clear HC a; intro a HC
  refine qc_g HC (q_eql rfl rfl) (by kernel_rfl) (by kernel_rfl) (by kernel_rfl) ?_
  clear HC a; intro a HC
  refine qc_and (j := 5) HC rfl rfl rfl (by kernel_rfl) (by kernel_rfl) ?_
  clear HC a; intro a HC
  refine qc_q HC (q_assign rfl) rfl (by kernel_rfl) ?_
  clear HC a; intro a HC
  have H := HC.has; clear HC
  refine qq_nil ?_
  intro w3 hE4
  replace hS := hS.ext hE4
  refine then_normal ?_
  refine wp_ret ?_
  refine ret1 H (.inr rfl) rfl rfl ?_
  exact ⟨rfl, hS.x⟩

theorem same_self {w : World} {A : Nat → Addr} {u : Value} {e : ErrM} (hG : EV A w) (hH : HE w) (h : IsE A w u e) : Calls Tryd.prog 23 [u, eE e].toArray w (Ret fun r w' => r = .bool true ∧ Ext w w') :=
  (same_w (e' := e) hG hH h).mono fun _ _ ⟨v, he, hv, hx⟩ => ⟨v, he, by rw [hv]; simp, hx⟩
theorem wSizeR {w : World} {p n : Nat} {v u : Value} {xs : List Value} (hB : Blk w p [v, u] 111) (hO : Own w 5 1 v n xs) : Calls Tryd.prog 65 [.pointer (some ⟨p, 0, none⟩)].toArray w (Ret fun r w' => r = .int .i64 (n : Nat) ∧ Ext w w') := by
  have hS := St.begin NB w
  obtain ⟨A0, c0, rfl, _⟩ := hO.form
  refine enter Tryd.func65 rfl rfl rfl ?_
  intro a H
  dsimp only [enumL, Nat.zero_add, Nat.reduceAdd] at H
  refine wp_seq ?_
  refine wp_region_lit ?_
  refine n_q H (q_assign rfl) rfl ?_
  clear H a; intro a H
  refine n_nil ?_
  refine then_normal ?_
  refine wp_seq ?_
  refine wp_region_lit ?_
  refine n_q H (q_move rfl) rfl ?_
  clear H a; intro a H
  refine n_q H (q_nilCheck rfl) rfl ?_
  clear H a; intro a H
  refine n_q H (q_fieldAddr0 rfl fo111_0) rfl ?_
  clear H a; intro a H
  refine n_q H (q_load rfl (LdX.ext ((hB.ld ag48 rfl)) hS.x)) rfl ?_
  clear H a; intro a H
  refine n_q H (q_lenSl Tryd.underlying48 rfl) rfl ?_
  clear H a; intro a H
  refine n_q H (q_assign rfl) rfl ?_
  clear H a; intro a H
  refine n_nil ?_
  refine then_normal ?_
  refine wp_ret ?_
  refine ret1 H (.inr rfl) rfl rfl ?_
  exact ⟨rfl, hS.x⟩

set_option maxHeartbeats 2000000 in
theorem done_w {w : World} {fp : Nat → Prop} {A : Nat → Addr} {p q : Nat} {u0 : Value} {x : WM} (hG : ∀ w', ChgP fp w w' → EV A w') (hH : ∀ w', ChgP fp w w' → HE w') (hz : x.buf.length ≤ 35184372088832) (hP0 : Sep w fp [wrR A p u0 x, rrR q x]) :
    Calls Tryd.prog 15 [.pointer (some ⟨p, 0, none⟩), .pointer (some ⟨q, 0, none⟩)].toArray w (Ret fun r w' => r = .bool true ∧ St fp w w' [wrR A p u0 x, rrR q x]) := by
  have hS := St.init hP0
  have hol := out_len x
  refine enter Tryd.func15 rfl rfl rfl ?_
  intro a H
  dsimp only [enumL, Nat.zero_add, Nat.reduceAdd] at H
  refine wp_seq ?_
  refine wp_region_lit ?_
  refine n_q H (q_assign rfl) rfl ?_
  clear H a; intro a H
  refine n_nil ?_
  refine then_normal ?_
  refine wp_seq ?_
  refine wp_seq ?_
  refine wp_region_lit ?_
  refine n_q H (q_assign rfl) rfl ?_
  clear H a; intro a H
  refine n_nil ?_
  refine then_normal ?_
  refine wp_block ?_
  replace hS := hS.pick 1 rfl
  dsimp only [List.eraseIdx] at hS
  replace hS := hS.pick 1 rfl
  dsimp only [List.eraseIdx] at hS
  refine c_loop (σ := Nat) (fun k => [(0, .pointer (some ⟨p, 0, none⟩)), (1, .pointer (some ⟨q, 0, none⟩)), (5, .int .i64 (k : Nat))]) (fun k wl => k ≤ 2 ∧ St fp w wl [wrR A p u0 x, rrR q x]) (fun k => 2 - k) 0 H ⟨rfl, rfl, rfl, trivial⟩ ⟨by omega, hS⟩ ?_
  clear H hS; clear a; intro k a w1 H hR
  simp only [ent, List.map_cons, List.map_nil] at H
  try dsimp only at hR
  obtain ⟨hk, hS⟩ := hR; try clear hR
  refine wp_seq ?_
  refine wp_seq ?_
  refine wp_region_lit ?_
  refine n_q H (q_move rfl) rfl ?_
  clear H a; intro a H
  refine n_q H (q_lss rfl rfl) rfl ?_
  clear H a; intro a H
  refine n_nil ?_
  refine then_normal ?_
  refine c_cond H rfl (fun hc13 => ?_) (fun hc13 => ?_)
  · skip
    have hk1 : k < 2 := by simp at hc13; omega
    refine wp_skip ?_
    refine then_normal ?_
    refine wp_seq ?_
    refine wp_block ?_
    refine wp_seq ?_
    refine wp_region_lit ?_
    refine n_q H (q_move rfl) rfl ?_
    clear H a; intro a H
    obtain ⟨fp18, hG18, hK18, hR18, hF18⟩ := hS.frame1
    refine n_call H rfl en50 (wDone_w (by omega) hG18) rfl ?_
    clear H a; intro v4 w2 hv a H
    obtain ⟨v18, rfl, hE3⟩ := hv
    replace hS := hF18 _ _ hE3
    simp only [List.cons_append, List.nil_append] at hS
    clear hG18 hK18 hR18 hF18
    obtain ⟨A18, c18, hv18, hl18, hm18, hn18, _⟩ := (hS.own 1 rfl).form
    subst hv18
    simp only [maxLen] at hm18
    refine n_q H (q_move rfl) rfl ?_
    clear H a; intro a H
    refine n_q H (q_extract rfl rfl) rfl ?_
    clear H a; intro a H
    refine n_q H (q_extract rfl rfl) rfl ?_
    clear H a; intro a H
    refine n_q H (q_assign rfl) rfl ?_
    clear H a; intro a H
    refine n_q H (q_assign rfl) rfl ?_
    clear H a; intro a H
    refine n_nil ?_
    refine then_normal ?_
    refine wp_seq ?_
    refine wp_region_lit ?_
    refine n_q H (q_move rfl) rfl ?_
    clear H a; intro a H
    replace hS := hS.pick 2 rfl
    dsimp only [List.eraseIdx] at hS
    obtain ⟨fp23, hG23, hK23, hR23, hF23⟩ := hS.frame1
    refine n_call H rfl en64 (rDone_w (by omega) hG23) rfl ?_
    clear H a; intro v7 w5 hv a H
    obtain ⟨v23, rfl, hE6⟩ := hv
    replace hS := hF23 _ _ hE6
    simp only [List.cons_append, List.nil_append] at hS
    clear hG23 hK23 hR23 hF23
    refine n_q H (q_move rfl) rfl ?_
    clear H a; intro a H
    refine n_q H (q_extract rfl rfl) rfl ?_
    clear H a; intro a H
    refine n_q H (q_extract rfl rfl) rfl ?_
    clear H a; intro a H
    refine n_alloc H ze55 rfl ?_
    clear H; intro b9 w8 hN hE9 hs_b9; clear a; intro a H
    replace hS := hS.newBlk hN hE9 hs_b9; clear hN hE9
    refine n_q H (q_assign rfl) rfl ?_
    clear H a; intro a H
    refine n_storeAll H rfl rfl rfl sz55 (hS.blk 0 rfl) rfl (by simp) ?_
    clear H; intro w10 hN hC11 hz; clear a; intro a H
    replace hS := hS.setBlk hN hC11; clear hN hz
    refine n_nil ?_
    refine then_normal ?_
    refine wp_seq ?_
    refine wp_seq ?_
    refine c_quiet (by kernel_rfl) (by kernel_rfl) ?_
    refine qq_c H (fun HC => ?_); clear H
    obtain ⟨vp, hS1⟩ := (hS.pick 3 rfl).wr
    have hBp := hS1.blk 0 rfl
    have hOp := hS1.own 1 rfl
    have hEp := hS1.any 2 rfl
    clear hS1
    obtain ⟨vq, hS2⟩ := (hS.pick 1 rfl).rr
    have hBq := hS2.blk 0 rfl
    have hOq := hS2.own 1 rfl
    clear hS2
    obtain ⟨Aq, cq, hvq, _⟩ := hOq.form
    subst hvq
    refine qc_q HC (q_move rfl) rfl (by kernel_rfl) ?_
    clear HC a; intro a HC
    refine qc_call HC rfl en65 ((fun w' hw => wSizeR (hBp.ext hw) (hOp.ext hw))) rfl (by kernel_rfl) ?_
    clear HC a; intro a HC
    refine qc_q HC (q_move rfl) rfl (by kernel_rfl) ?_
    clear HC a; intro a HC
    refine qc_q HC (q_nilCheck rfl) rfl (by kernel_rfl) ?_
    clear HC a; intro a HC
    refine qc_q HC (q_fieldAddr0 rfl fo113_0) rfl (by kernel_rfl) ?_
    clear HC a; intro a HC
    refine qc_q HC (q_load rfl (hBq.ld ag48 rfl)) rfl (by kernel_rfl) ?_
    clear HC a; intro a HC
    refine qc_q HC (q_lenSl Tryd.underlying48 rfl) rfl (by kernel_rfl) ?_
    clear HC a; intro a HC
    refine qc_q HC (q_neq rfl rfl) rfl (by kernel_rfl) ?_
    clear HC a; intro a HC
    refine qc_q HC (q_move rfl) rfl (by kernel_rfl) ?_
    clear HC a; intro a HC
    refine qc_g HC (q_move rfl) (by kernel_rfl) (by kernel_rfl) (by kernel_rfl) ?_
    clear HC a; intro a HC
    refine qc_g HC (q_load rfl ((hS.blk 0 rfl).ldAll ag55 sz55)) (by kernel_rfl) (by kernel_rfl) (by kernel_rfl) ?_
    clear HC a; intro a HC
    refine qc_gcall0 HC rfl en23 ((fun w' hw => same_self ((hG _ hS.chg).ext hw) ((hH _ hS.chg).ext hw) (hEp.ext hw))) (by kernel_rfl) (by kernel_rfl) (by kernel_rfl) ?_
    clear HC a; intro a HC
    refine qc_g HC (q_not rfl) (by kernel_rfl) (by kernel_rfl) (by kernel_rfl) ?_
    clear HC a; intro a HC
    refine qc_or (j := 8) HC rfl rfl rfl (by kernel_rfl) (by kernel_rfl) ?_
    clear HC a; intro a HC
    refine qc_q HC (q_move rfl) rfl (by kernel_rfl) ?_
    clear HC a; intro a HC
    refine qc_g HC (q_move rfl) (by kernel_rfl) (by kernel_rfl) (by kernel_rfl) ?_
    clear HC a; intro a HC
    refine qc_g HC (q_str Tryd.underlying48 Tryd.underlying5 Tryd.underlying9 rfl (fun w' e => ((hS.own 4 rfl).ext e).slB rfl)) (by kernel_rfl) (by kernel_rfl) (by kernel_rfl) ?_
    clear HC a; intro a HC
    refine qc_g HC (q_move rfl) (by kernel_rfl) (by kernel_rfl) (by kernel_rfl) ?_
    clear HC a; intro a HC
    refine qc_g HC (q_str Tryd.underlying48 Tryd.underlying5 Tryd.underlying9 rfl (fun w' e => ((hS.own 2 rfl).ext e).slB rfl)) (by kernel_rfl) (by kernel_rfl) (by kernel_rfl) ?_
    clear HC a; intro a HC
    refine qc_g HC (q_neqS rfl rfl) (by kernel_rfl) (by kernel_rfl) (by kernel_rfl) ?_
    clear HC a; intro a HC
    refine qc_or (j := 14) HC rfl rfl rfl (by kernel_rfl) (by kernel_rfl) ?_
    clear HC a; intro a HC
    have H := HC.has; clear HC
    refine qq_nil ?_
    intro w12 hE13
    replace hS := hS.ext hE13
    refine then_normal ?_
    refine c_cond H rfl (fun hc46 => ?_) (fun hc46 => ?_)
    · skip
      simp at hc46
    · skip
      refine wp_skip ?_
      refine then_normal ?_
      refine wp_seq ?_
      refine wp_seq ?_
      refine wp_region_lit ?_
      refine n_q H (q_assign rfl) rfl ?_
      clear H a; intro a H
      refine n_nil ?_
      refine then_normal ?_
      refine wp_block ?_
      replace hS := hS.pick 1 rfl
      dsimp only [List.eraseIdx] at hS
      replace hS := hS.pick 3 rfl
      dsimp only [List.eraseIdx] at hS
      replace hS := hS.pick 4 rfl
      dsimp only [List.eraseIdx] at hS
      replace hS := hS.take 3
      simp only [List.take_succ_cons, List.take_zero] at hS
      refine c_loop (σ := Nat × List Value) (fun (j, xs) => [(0, .pointer (some ⟨p, 0, none⟩)), (1, .pointer (some ⟨q, 0, none⟩)), (5, .int .i64 (k : Nat)), (6, .slice A18 x.out.length c18), (10, .int .i64 (j : Nat))]) (fun (j, xs) wl => j ≤ x.out.length ∧ St fp w wl [ownR 5 1 (.slice A18 x.out.length c18) x.out.length xs, wrR A p u0 x, rrR q x]) (fun (j, xs) => x.out.length - j) (0, x.out.flatMap eB) H ⟨rfl, rfl, rfl, rfl, rfl, trivial⟩ ⟨Nat.zero_le _, hS⟩ ?_
      clear H hS; clear a; intro xx a w14 H hR
      obtain ⟨j, xs⟩ := xx
      simp only [ent, List.map_cons, List.map_nil] at H
      try dsimp only at hR
      obtain ⟨hj, hS⟩ := hR; try clear hR
      refine wp_seq ?_
      refine wp_seq ?_
      refine wp_region_lit ?_
      refine n_q H (q_move rfl) rfl ?_
      clear H a; intro a H
      refine n_q H (q_move rfl) rfl ?_
      clear H a; intro a H
      refine n_q H (q_lenSl (A := A18) (n := x.out.length) (c := c18) Tryd.underlying48 rfl) rfl ?_
      clear H a; intro a H
      refine n_q H (q_lss rfl rfl) rfl ?_
      clear H a; intro a H
      refine n_nil ?_
      refine then_normal ?_
      refine c_cond H rfl (fun hc50 => ?_) (fun hc50 => ?_)
      · skip
        have hj1 : j < x.out.length := by simp at hc50; omega
        obtain ⟨bq, cj, hq⟩ := (hS.own 0 rfl).sm (by omega)
        cases hq
        refine wp_skip ?_
        refine then_normal ?_
        refine wp_seq ?_
        refine wp_block ?_
        refine wp_region_lit ?_
        refine n_q H (q_move rfl) rfl ?_
        clear H a; intro a H
        refine n_q H (q_move rfl) rfl ?_
        clear H a; intro a H
        refine n_q H (q_indexAddr0 (b := bq) (n := x.out.length) (c := c18) (i := j) Tryd.underlying48 sz5 rfl rfl (by omega)) rfl ?_
        clear H a; intro a H
        refine n_storeE1 H rfl rfl sz5 rfl (hS.own 0 rfl) (by omega) ?_
        clear H; intro w15 hN hC16; clear a; intro a H
        replace hS := hS.setOwn hN hC16 (.inl rfl); clear hN
        refine n_nil ?_
        refine block_normal ?_
        refine then_normal ?_
        refine wp_region_lit ?_
        refine n_q H (q_move rfl) rfl ?_
        clear H a; intro a H
        refine n_q H (q_add rfl rfl (by constructor <;> omega)) rfl ?_
        clear H a; intro a H
        refine n_q H (q_assign rfl) rfl ?_
        clear H a; intro a H
        refine n_nil ?_
        refine then_normal ?_
        replace hS := hS.pick 2 rfl
        dsimp only [List.eraseIdx] at hS
        replace hS := hS.pick 2 rfl
        dsimp only [List.eraseIdx] at hS
        replace hS := hS.pick 2 rfl
        dsimp only [List.eraseIdx] at hS
        exact round (j + 1, xs.set (j * 1) (.int .u8 77)) H ⟨rfl, rfl, rfl, rfl, rfl, trivial⟩ ⟨by omega, hS⟩ (by first | omega | (dsimp only; omega))
      · skip
        refine wp_exit ?_
        refine then_exit ?_
        refine then_exit ?_
        refine block_exit ?_
        refine then_normal ?_
        refine wp_seq ?_
        refine wp_region_lit ?_
        refine n_q H (q_assign rfl) rfl ?_
        clear H a; intro a H
        refine n_nil ?_
        refine then_normal ?_
        refine wp_block ?_
        replace hS := hS.pick 2 rfl
        dsimp only [List.eraseIdx] at hS
        replace hS := hS.pick 2 rfl
        dsimp only [List.eraseIdx] at hS
        replace hS := hS.pick 2 rfl
        dsimp only [List.eraseIdx] at hS
        refine c_loop (σ := Nat × Value × List Value) (fun (m, vb, ys) => [(0, .pointer (some ⟨p, 0, none⟩)), (1, .pointer (some ⟨q, 0, none⟩)), (5, .int .i64 (k : Nat)), (6, vb), (11, .int .i64 (m : Nat))]) (fun (m, vb, ys) wl => m ≤ 8 ∧ St fp w wl [ownR 5 1 vb (x.out.length + m) ys, wrR A p u0 x, rrR q x]) (fun (m, vb, ys) => 8 - m) (0, .slice A18 x.out.length c18, xs) H ⟨rfl, rfl, rfl, rfl, rfl, trivial⟩ ⟨Nat.zero_le _, hS⟩ ?_
        clear H hS; clear a; intro xx a w17 H hR
        obtain ⟨m, vb, ys⟩ := xx
        simp only [ent, List.map_cons, List.map_nil] at H
        try dsimp only at hR
        obtain ⟨hm, hS⟩ := hR; try clear hR
        refine wp_seq ?_
        refine wp_seq ?_
        refine wp_region_lit ?_
        refine n_q H (q_move rfl) rfl ?_
        clear H a; intro a H
        refine n_q H (q_lss rfl rfl) rfl ?_
        clear H a; intro a H
        refine n_nil ?_
        refine then_normal ?_
        refine c_cond H rfl (fun hc57 => ?_) (fun hc57 => ?_)
        · skip
          have hm1 : m < 8 := by simp at hc57; omega
          refine wp_skip ?_
          refine then_normal ?_
          refine wp_seq ?_
          refine wp_block ?_
          refine wp_region_lit ?_
          refine n_q H (q_move rfl) rfl ?_
          clear H a; intro a H
          refine n_buildSlice H Tryd.underlying48 sz5 ze5 rfl rfl rfl (cs := [.int .u8 78]) (by kernel_rfl) rfl ?_
          clear H; intro b61 w18 hN hE19 hs_b61; clear a; intro a H
          replace hS := hS.newBlk hN hE19 hs_b61; clear hN hE19
          replace hS := hS.pick 1 rfl
          dsimp only [List.eraseIdx] at hS
          refine n_append H rfl rfl Tryd.underlying48 Tryd.underlying48 (by simp) el5 (hS.own 0 rfl) (Own.ofBlk (n := 1) (k := 1) (hS.blk 1 rfl) rfl (by simp [maxLen])).src (by simp) (by omega) (by simp only [maxLen]; omega) rfl ?_
          clear H; intro v62 w20 hN hC21 hb62 hnil62; clear a; intro a H
          replace hS := hS.setOwn hN hC21 hb62; clear hN
          refine n_q H (q_assign rfl) rfl ?_
          clear H a; intro a H
          refine n_nil ?_
          refine block_normal ?_
          refine then_normal ?_
          refine wp_region_lit ?_
          refine n_q H (q_move rfl) rfl ?_
          clear H a; intro a H
          refine n_q H (q_add rfl rfl (by constructor <;> omega)) rfl ?_
          clear H a; intro a H
          refine n_q H (q_assign rfl) rfl ?_
          clear H a; intro a H
          refine n_nil ?_
          refine then_normal ?_
          replace hS := hS.pick 3 rfl
          dsimp only [List.eraseIdx] at hS
          replace hS := hS.pick 3 rfl
          dsimp only [List.eraseIdx] at hS
          replace hS := hS.pick 2 rfl
          dsimp only [List.eraseIdx] at hS
          replace hS := hS.take 3
          simp only [List.take_succ_cons, List.take_zero] at hS
          exact round (m + 1, v62, _) H ⟨rfl, rfl, rfl, rfl, rfl, trivial⟩ ⟨by omega, hS⟩ (by first | omega | (dsimp only; omega))
        · skip
          refine wp_exit ?_
          refine then_exit ?_
          refine then_exit ?_
          refine block_exit ?_
          refine block_normal ?_
          refine then_normal ?_
          refine wp_region_lit ?_
          refine n_q H (q_move rfl) rfl ?_
          clear H a; intro a H
          refine n_q H (q_add rfl rfl (by constructor <;> omega)) rfl ?_
          clear H a; intro a H
          refine n_q H (q_assign rfl) rfl ?_
          clear H a; intro a H
          refine n_nil ?_
          refine then_normal ?_
          replace hS := hS.pick 2 rfl
          dsimp only [List.eraseIdx] at hS
          replace hS := hS.pick 2 rfl
          dsimp only [List.eraseIdx] at hS
          replace hS := hS.take 2
          simp only [List.take_succ_cons, List.take_zero] at hS
          exact round (k + 1) H ⟨rfl, rfl, rfl, trivial⟩ ⟨by omega, hS⟩ (by first | omega | (dsimp only; omega))
  · skip
    have hk1 : k = 2 := by simp at hc13; omega
    refine wp_exit ?_
    refine then_exit ?_
    refine then_exit ?_
    refine block_exit ?_
    refine then_normal ?_
    refine wp_seq ?_
    refine wp_region_lit ?_
    refine n_q H (q_assign rfl) rfl ?_
    clear H a; intro a H
    refine n_nil ?_
    refine then_normal ?_
    refine wp_ret ?_
    replace hS := hS.pick 1 rfl
    dsimp only [List.eraseIdx] at hS
    replace hS := hS.pick 1 rfl
    dsimp only [List.eraseIdx] at hS
    refine ret1 H (.inr rfl) rfl rfl ?_
    exact ⟨rfl, hS⟩

theorem fixed_rec : recordM [5, 0, 1, 65] 0 4 5 = (some (3, 4), .nil, 4) := by decide
theorem fixed_u8 : rangedM [5, 0, 1, 65] 4 4 1 0 255 = (0, .pl 4 1, 4) := by decide
theorem fixed_wm : ((⟨[], .nil⟩ : WM).num 258 2).record 5 [65] = ⟨[1, 2, 5, 0, 1, 65], .nil⟩ := by decide
theorem fixed_hex : strB (hexM [15, 160]) = ⟨#[48, 102, 97, 48]⟩ := by decide
set_option maxHeartbeats 4000000 in
theorem fixed_w {w : World} {A : Nat → Addr} (hG : EV A w) (hH : HE w) : Calls Tryd.prog 11 [].toArray w (Ret fun r w' => r = .bool true ∧ Ext w w') := by
  have hS := St.begin NB w
  refine enter Tryd.func11 rfl rfl rfl ?_
  intro a H
  dsimp only [enumL, Nat.zero_add, Nat.reduceAdd] at H
  refine wp_seq ?_
  refine wp_region_lit ?_
  refine n_q H (q_assign rfl) rfl ?_
  clear H a; intro a H
  refine n_nil ?_
  refine then_normal ?_
  refine wp_seq ?_
  refine wp_region_lit ?_
  refine n_call H rfl en12 (newWriter_w (A := A)) rfl ?_
  clear H a; intro v3 w1 hv a H
  obtain ⟨p1, rfl, hE2⟩ := hv
  replace hS := hS.new hE2
  simp only [List.cons_append, List.nil_append] at hS
  refine n_q H (q_assign rfl) rfl ?_
  clear H a; intro a H
  refine n_nil ?_
  refine then_normal ?_
  refine wp_seq ?_
  refine wp_seq ?_
  refine wp_region_lit ?_
  refine n_q H (q_move rfl) rfl ?_
  clear H a; intro a H
  refine n_q H (q_nilP Tryd.underlying24 rfl rfl) rfl ?_
  clear H a; intro a H
  refine n_nil ?_
  refine then_normal ?_
  refine c_cond H rfl (fun hc8 => ?_) (fun hc8 => ?_)
  · skip
    cases hc8
  · skip
    refine wp_skip ?_
    refine then_normal ?_
    refine wp_seq ?_
    refine wp_region_lit ?_
    refine n_q H (q_move rfl) rfl ?_
    clear H a; intro a H
    obtain ⟨fp10, hG10, hK10, hR10, hF10⟩ := hS.frame1
    refine n_call H rfl en48 (wU16_w (n := 258) (fun w' hw => hG.ext (hK10 _ hw).ext) (by decide) hG10) rfl ?_
    clear H a; intro v6 w4 hv a H
    obtain ⟨rfl, u1, hE5⟩ := hv
    replace hS := hF10 _ _ hE5
    simp only [List.cons_append, List.nil_append] at hS
    clear hG10 hK10 hR10 hF10
    refine n_nil ?_
    refine then_normal ?_
    refine wp_seq ?_
    refine wp_region_lit ?_
    refine n_q H (q_move rfl) rfl ?_
    clear H a; intro a H
    refine n_bytesConst H Tryd.underlying48 Tryd.underlying5 sz5 ze5 rfl rfl rfl (cs := [.int .u8 65]) (by kernel_rfl) rfl rfl ?_
    clear H; intro b12 w7 hN hE8 hs_b12; clear a; intro a H
    replace hS := hS.newBlk hN hE8 hs_b12; clear hN hE8
    replace hS := hS.blkOwn 1 1 (by simp) (by simp [maxLen])
    replace hS := hS.pick 1 rfl
    dsimp only [List.eraseIdx] at hS
    obtain ⟨fp14, hG14, hK14, hR14, hF14⟩ := hS.frame1
    refine n_call H rfl en49 (wRecord_w (t := 5) (bs := [65]) (fun w' hw => hG.ext (hK14 _ hw).ext) (fun w' hw => (restOwn (hR14 0 _ rfl _ hw) : Own w' _ 1 _ 1 ([65].flatMap eB)).slB rfl) (by decide) hG14) rfl ?_
    clear H a; intro v11 w9 hv a H
    obtain ⟨rfl, u2, hE10⟩ := hv
    replace hS := hF14 _ _ hE10
    simp only [List.cons_append, List.nil_append] at hS
    clear hG14 hK14 hR14 hF14
    rw [fixed_wm] at hS
    refine n_nil ?_
    refine then_normal ?_
    refine wp_seq ?_
    refine wp_region_lit ?_
    refine n_q H (q_move rfl) rfl ?_
    clear H a; intro a H
    obtain ⟨fp17, hG17, hK17, hR17, hF17⟩ := hS.frame1
    refine n_call H rfl en50 (wDone_w (by decide) hG17) rfl ?_
    clear H a; intro v14 w12 hv a H
    obtain ⟨v18, rfl, hE13⟩ := hv
    replace hS := hF17 _ _ hE13
    simp only [List.cons_append, List.nil_append] at hS
    clear hG17 hK17 hR17 hF17
    have hu2 : u2 = .nilIface := hS.wrErr 0 rfl
    subst hu2
    refine n_q H (q_move rfl) rfl ?_
    clear H a; intro a H
    refine n_q H (q_extract rfl rfl) rfl ?_
    clear H a; intro a H
    refine n_q H (q_extract rfl rfl) rfl ?_
    clear H a; intro a H
    refine n_q H (q_assign rfl) rfl ?_
    clear H a; intro a H
    refine n_q H (q_assign rfl) rfl ?_
    clear H a; intro a H
    refine n_nil ?_
    refine then_normal ?_
    refine wp_seq ?_
    refine wp_region_lit ?_
    refine n_bytesConst H Tryd.underlying48 Tryd.underlying5 sz5 ze5 rfl rfl rfl (cs := [.int .u8 5, .int .u8 0, .int .u8 1, .int .u8 65]) (by kernel_rfl) rfl rfl ?_
    clear H; intro b20 w15 hN hE16 hs_b20; clear a; intro a H
    replace hS := hS.newBlk hN hE16 hs_b20; clear hN hE16
    replace hS := hS.blkOwn 4 1 (by simp) (by simp [maxLen])
    refine n_call H rfl en51 (open_w (bs := ([5, 0, 1, 65] : List UInt8)) (fun w' e => (((hS.own 0 rfl) : Own _ _ 1 _ 4 (([5, 0, 1, 65] : List UInt8).flatMap eB)).ext e).slB rfl) (by decide)) rfl ?_
    clear H a; intro v19 w17 hv a H
    obtain ⟨pc, v2, n2, rfl, hn2, hE18⟩ := hv
    replace hS := hS.new hE18
    simp only [List.cons_append, List.nil_append] at hS
    refine n_q H (q_assign rfl) rfl ?_
    clear H a; intro a H
    refine n_nil ?_
    refine then_normal ?_
    refine wp_seq ?_
    refine wp_seq ?_
    refine wp_region_lit ?_
    refine n_c H (fun HC => ?_); clear H
    refine nc_q HC (q_move rfl) rfl (by kernel_rfl) ?_
    clear HC a; intro a HC
    refine nc_q HC (q_cast (q_nnilI Tryd.underlying43 rfl rfl (.inl rfl)) (show _ = Value.bool false from rfl)) rfl (by kernel_rfl) ?_
    clear HC a; intro a HC
    refine nc_q HC (q_move rfl) rfl (by kernel_rfl) ?_
    clear HC a; intro a HC
    refine nc_g HC (q_move rfl) (by kernel_rfl) (by kernel_rfl) (by kernel_rfl) ?_
    clear HC a; intro a HC
    refine nc_g HC (q_str Tryd.underlying48 Tryd.underlying5 Tryd.underlying9 rfl (fun w' e => ((hS.own 4 rfl).ext e).slB rfl)) (by kernel_rfl) (by kernel_rfl) (by kernel_rfl) ?_
    clear HC a; intro a HC
    refine nc_g HC (q_neqS rfl rfl) (by kernel_rfl) (by kernel_rfl) (by kernel_rfl) ?_
    clear HC a; intro a HC
    refine nc_or (j := 2) HC rfl rfl rfl (by kernel_rfl) (by kernel_rfl) ?_
    clear HC a; intro a HC
    refine nc_q HC (q_move rfl) rfl (by kernel_rfl) ?_
    clear HC a; intro a HC
    refine nc_g HC (q_move rfl) (by kernel_rfl) (by kernel_rfl) (by kernel_rfl) ?_
    clear HC a; intro a HC
    refine nc_g HC (q_nilP Tryd.underlying39 rfl rfl) (by kernel_rfl) (by kernel_rfl) (by kernel_rfl) ?_
    clear HC a; intro a HC
    refine nc_or (j := 7) HC rfl rfl rfl (by kernel_rfl) (by kernel_rfl) ?_
    clear HC a; intro a HC
    have H := HC.has; clear HC
    refine n_nil ?_
    refine then_normal ?_
    refine c_cond H rfl (fun hc33 => ?_) (fun hc33 => ?_)
    · skip
      exact absurd hc33 (by rw [show (some (⟨pc, 0, none⟩ : Addr)).isNone = false from rfl]; decide)
    · skip
      refine wp_skip ?_
      refine then_normal ?_
      refine wp_seq ?_
      refine wp_region_lit ?_
      refine n_q H (q_move rfl) rfl ?_
      clear H a; intro a H
      obtain ⟨fp36, hG36, hK36, hR36, hF36⟩ := hS.frame1
      refine n_call H rfl en52 (cRecord_w (t := 5) (fun w' hw => hG.ext (hK36 _ hw).ext) (fun w' hw => (restOwn (hR36 0 _ rfl _ hw)).slB hn2) (by decide) (by decide) (by decide) hG36) rfl ?_
      clear H a; intro v22 w20 hv a H
      obtain ⟨q36, u36, rfl, hE21⟩ := hv
      replace hS := hF36 _ _ hE21
      simp only [List.cons_append, List.nil_append] at hS
      clear hG36 hK36 hR36 hF36
      rw [show recordM ([5, 0, 1, 65] : List UInt8) 0 (([5, 0, 1, 65] : List UInt8)).length 5 = (some (3, 4), .nil, 4) from fixed_rec] at hS
      have hu36 : u36 = .nilIface := (hS.any 1 rfl)
      subst hu36
      replace hS := hS.pick 2 rfl
      dsimp only [List.eraseIdx] at hS
      obtain ⟨pi, hq36, hS3⟩ := hS.ncGet
      replace hS := hS3
      clear hS3
      subst hq36
      refine n_q H (q_move rfl) rfl ?_
      clear H a; intro a H
      refine n_q H (q_extract rfl rfl) rfl ?_
      clear H a; intro a H
      refine n_q H (q_extract rfl rfl) rfl ?_
      clear H a; intro a H
      refine n_q H (q_assign rfl) rfl ?_
      clear H a; intro a H
      refine n_q H (q_assign rfl) rfl ?_
      clear H a; intro a H
      refine n_nil ?_
      refine then_normal ?_
      refine wp_seq ?_
      refine wp_seq ?_
      refine wp_region_lit ?_
      refine n_c H (fun HC => ?_); clear H
      refine nc_q HC (q_move rfl) rfl (by kernel_rfl) ?_
      clear HC a; intro a HC
      refine nc_q HC (q_nnilI Tryd.underlying43 rfl rfl (by simp)) rfl (by kernel_rfl) ?_
      clear HC a; intro a HC
      refine nc_q HC (q_move rfl) rfl (by kernel_rfl) ?_
      clear HC a; intro a HC
      refine nc_g HC (q_move rfl) (by kernel_rfl) (by kernel_rfl) (by kernel_rfl) ?_
      clear HC a; intro a HC
      refine nc_g HC (q_nilP Tryd.underlying39 rfl rfl) (by kernel_rfl) (by kernel_rfl) (by kernel_rfl) ?_
      clear HC a; intro a HC
      refine nc_or (j := 2) HC rfl rfl rfl (by kernel_rfl) (by kernel_rfl) ?_
      clear HC a; intro a HC
      refine nc_q HC (q_move rfl) rfl (by kernel_rfl) ?_
      clear HC a; intro a HC
      refine nc_g HC (q_move rfl) (by kernel_rfl) (by kernel_rfl) (by kernel_rfl) ?_
      clear HC a; intro a HC
      refine nc_gcall0 HC rfl en17 (cAt_w (hS.blk 0 rfl)) (by kernel_rfl) (by kernel_rfl) (by kernel_rfl) ?_
      clear HC a; intro w23 hE24 a HC
      replace hS := hS.ext hE24
      refine nc_g HC (q_neq rfl rfl) (by kernel_rfl) (by kernel_rfl) (by kernel_rfl) ?_
      clear HC a; intro a HC
      refine nc_or (j := 6) HC rfl rfl rfl (by kernel_rfl) (by kernel_rfl) ?_
      clear HC a; intro a HC
      refine nc_q HC (q_move rfl) rfl (by kernel_rfl) ?_
      clear HC a; intro a HC
      refine nc_g HC (q_move rfl) (by kernel_rfl) (by kernel_rfl) (by kernel_rfl) ?_
      clear HC a; intro a HC
      refine nc_gcall0 HC rfl en18 (cLeft_w (by decide) (by decide) (hS.blk 0 rfl)) (by kernel_rfl) (by kernel_rfl) (by kernel_rfl) ?_
      clear HC a; intro w25 hE26 a HC
      replace hS := hS.ext hE26
      refine nc_g HC (q_neq rfl rfl) (by kernel_rfl) (by kernel_rfl) (by kernel_rfl) ?_
      clear HC a; intro a HC
      refine nc_or (j := 11) HC rfl rfl rfl (by kernel_rfl) (by kernel_rfl) ?_
      clear HC a; intro a HC
      have H := HC.has; clear HC
      refine n_nil ?_
      refine then_normal ?_
      refine c_cond H rfl (fun hc54 => ?_) (fun hc54 => ?_)
      · skip
        exact absurd hc54 (by rw [show (some (⟨pi, 0, none⟩ : Addr)).isNone = false from rfl]; decide)
      · skip
        refine wp_skip ?_
        refine then_normal ?_
        refine wp_seq ?_
        refine wp_region_lit ?_
        refine n_q H (q_move rfl) rfl ?_
        clear H a; intro a H
        replace hS := hS.pick 1 rfl
        dsimp only [List.eraseIdx] at hS
        obtain ⟨fp57, hG57, hK57, hR57, hF57⟩ := hS.frame1
        refine n_call H rfl en53 (cU8_w (fun w' hw => hG.ext (hK57 _ hw).ext) (fun w' hw => (restOwn (hR57 2 _ rfl _ hw)).slB hn2) (by decide) (by decide) (by decide) hG57) rfl ?_
        clear H a; intro v29 w27 hv a H
        obtain ⟨u57, rfl, hE28⟩ := hv
        replace hS := hF57 _ _ hE28
        simp only [List.cons_append, List.nil_append] at hS
        clear hG57 hK57 hR57 hF57
        rw [show rangedM ([5, 0, 1, 65] : List UInt8) 4 (([5, 0, 1, 65] : List UInt8)).length 1 0 255 = (0, .pl 4 1, 4) from fixed_u8] at hS
        refine n_q H (q_move rfl) rfl ?_
        clear H a; intro a H
        refine n_q H (q_extract rfl rfl) rfl ?_
        clear H a; intro a H
        refine n_q H (q_extract rfl rfl) rfl ?_
        clear H a; intro a H
        refine n_q H (q_assign rfl) rfl ?_
        clear H a; intro a H
        refine n_nil ?_
        refine then_normal ?_
        refine wp_seq ?_
        refine wp_region_lit ?_
        refine n_c H (fun HC => ?_); clear H
        refine nc_q HC (q_move rfl) rfl (by kernel_rfl) ?_
        clear HC a; intro a HC
        refine nc_call HC rfl en28 (code_w (hG.ext hS.x) (hS.any 1 rfl)) rfl (by kernel_rfl) ?_
        clear HC a; intro v32 w30 hv a HC
        obtain ⟨rfl, hE31⟩ := hv
        replace hS := hS.ext hE31
        refine nc_q HC (q_eql rfl rfl) rfl (by kernel_rfl) ?_
        clear HC a; intro a HC
        refine nc_q HC (q_move rfl) rfl (by kernel_rfl) ?_
        clear HC a; intro a HC
        refine nc_g HC (q_move rfl) (by kernel_rfl) (by kernel_rfl) (by kernel_rfl) ?_
        clear HC a; intro a HC
        refine nc_gcall0 HC rfl en20 (place_w (hH.ext hS.x) (hS.any 1 rfl)) (by kernel_rfl) (by kernel_rfl) (by kernel_rfl) ?_
        clear HC a; intro w33 hE34 a HC
        replace hS := hS.ext hE34
        refine nc_g HC (q_eql rfl rfl) (by kernel_rfl) (by kernel_rfl) (by kernel_rfl) ?_
        clear HC a; intro a HC
        refine nc_and (j := 3) HC rfl rfl rfl (by kernel_rfl) (by kernel_rfl) ?_
        clear HC a; intro a HC
        refine nc_q HC (q_move rfl) rfl (by kernel_rfl) ?_
        clear HC a; intro a HC
        refine nc_yes HC rfl rfl ?_
        have H := HC.has; clear HC
        refine n_buildSlice H Tryd.underlying48 sz5 ze5 rfl rfl rfl (cs := [.int .u8 15, .int .u8 160]) (by kernel_rfl) rfl ?_
        clear H; intro b69 w35 hN hE36 hs_b69; clear a; intro a H
        replace hS := hS.newBlk hN hE36 hs_b69; clear hN hE36
        replace hS := hS.blkOwn 2 1 (by simp) (by simp [maxLen])
        refine n_c H (fun HC => ?_); clear H
        refine nc_yes HC rfl rfl ?_
        refine nc_call HC rfl en39 (hex_w (bs := [15, 160]) (fun w' e => (((hS.own 0 rfl) : Own _ _ 1 _ 2 (([15, 160] : List UInt8).flatMap eB)).ext e).slB rfl) (by decide)) rfl (by kernel_rfl) ?_
        clear HC a; intro v39 w37 hv a HC
        obtain ⟨rfl, hE38⟩ := hv
        replace hS := hS.ext hE38
        refine nc_g HC (q_eqlS rfl rfl) (by kernel_rfl) (by kernel_rfl) (by kernel_rfl) ?_
        clear HC a; intro a HC
        refine nc_and (j := 8) HC rfl rfl rfl (by kernel_rfl) (by kernel_rfl) ?_
        clear HC a; intro a HC
        refine nc_q HC (q_assign rfl) rfl (by kernel_rfl) ?_
        clear HC a; intro a HC
        have H := HC.has; clear HC
        refine n_nil ?_
        refine then_normal ?_
        refine wp_ret ?_
        refine ret1 H (.inr rfl) rfl rfl ?_
        exact ⟨congrArg Value.bool (by decide), hS.x⟩

theorem strB_toList (s : ByteArray) : strB s.data.toList = s := by cases s; rfl
theorem take_marks (s : ByteArray) (l : List UInt8) : (s.data.toList ++ l).take s.size = s.data.toList := by
  have hl : s.data.toList.length = s.size := rfl
  rw [← hl, List.take_left]
theorem at_marks (s : ByteArray) (a b : UInt8) : (s.data.toList ++ [a, b])[s.size]? = some a ∧ (s.data.toList ++ [a, b])[s.size + 1]? = some b := by
  have hl : s.data.toList.length = s.size := rfl
  constructor
  · rw [List.getElem?_append_right (by omega), hl]; simp
  · rw [List.getElem?_append_right (by omega), hl, show s.size + 1 - s.size = 1 by omega]; rfl
set_option maxHeartbeats 6000000 in
theorem puts_w {w : World} {fp : Nat → Prop} {A : Nat → Addr} {p q : Nat} {u0 : Value} {x : WM} {o : OpM} (hG : ∀ w', ChgP fp w w' → EV A w') (hH : ∀ w', ChgP fp w w' → HE w') (hz : x.buf.length + o.s.size ≤ 17592186044416) (hn63 : o.n ≤ 9223372036854775807) (hP0 : Sep w fp [wrR A p u0 x, rrR q x]) :
    Calls Tryd.prog 14 [.pointer (some ⟨p, 0, none⟩), .pointer (some ⟨q, 0, none⟩), opV o].toArray w (Ret fun r w' => r = .bool true ∧ ∃ u, St fp w w' [wrR A p u (x.app o), rrR q (x.app o)]) := by
  have hS := St.init hP0
  have hlen2 : o.s.size + 2 = (o.s.data.toList ++ [201, 202]).length := by rw [List.length_append]; rfl
  have hla := WM.app_len x o
  have hl8 : o.s.data.toList.length = o.s.size := rfl
  have h1in := and1_in o.n
  refine enter Tryd.func14 rfl rfl rfl ?_
  intro a H
  dsimp only [enumL, Nat.zero_add, Nat.reduceAdd] at H
  refine wp_seq ?_
  refine wp_region_lit ?_
  refine n_box H rfl (cs := (eOp o)) rfl rfl ?_
  clear H; intro b5 w1 hN hE2 hs_b5; clear a; intro a H
  replace hS := hS.newBlk hN hE2 hs_b5; clear hN hE2
  refine n_q H (q_assign rfl) rfl ?_
  clear H a; intro a H
  refine n_nil ?_
  refine then_normal ?_
  refine c_join (σ := Value × Nat) H (fun (vb, b5) => [(0, .pointer (some ⟨p, 0, none⟩)), (1, .pointer (some ⟨q, 0, none⟩)), (5, .pointer (some ⟨b5, 0, none⟩)), (7, vb)]) (fun (vb, b5) wl => St fp w wl [ownR 5 1 vb (o.s.size + 2) ((o.s.data.toList ++ [201, 202]).flatMap eB), blkR b5 (eOp o) 29, wrR A p u0 x, rrR q x]) ?_ ?_
  · skip
    refine c_ord [] 10 (by kernel_rfl) ?_
    obtain ⟨w3, hw3⟩ : ∃ x, x = w1.drew := ⟨_, rfl⟩
    rw [← hw3]
    have hE4 : Ext w1 w3 := by rw [hw3]; exact Ext.drew' _
    clear hw3
    replace hS := hS.ext hE4
    refine k_take 0 H rfl (q_fieldAddr0 rfl fo29_6) rfl (by kernel_rfl) (by kernel_rfl) (by kernel_rfl) (by kernel_rfl) (fun _ _ _ h => h) ?_
    clear H a; intro a H
    refine k_take 1 H rfl (q_load rfl (LdC.k0 ((hS.blk 0 rfl).ld ag9 rfl))) rfl (by kernel_rfl) (by kernel_rfl) (by kernel_rfl) (by kernel_rfl) (fun _ _ _ h => h) ?_
    clear H a; intro a H
    refine k_take 2 H rfl (q_lenS Tryd.underlying9 rfl) rfl (by kernel_rfl) (by kernel_rfl) (by kernel_rfl) (by kernel_rfl) (fun _ _ _ h => h) ?_
    clear H a; intro a H
    refine k_take 3 H rfl (q_add rfl rfl (by constructor <;> omega)) rfl (by kernel_rfl) (by kernel_rfl) (by kernel_rfl) (by kernel_rfl) (fun _ _ _ h => h) ?_
    clear H a; intro a H
    refine k_take 5 H rfl (q_fieldAddr0 rfl fo29_6) rfl (by kernel_rfl) (by kernel_rfl) (by kernel_rfl) (by kernel_rfl) (fun _ _ _ h => h) ?_
    clear H a; intro a H
    refine k_take 6 H rfl (q_load rfl (LdC.k0 ((hS.blk 0 rfl).ld ag9 rfl))) rfl (by kernel_rfl) (by kernel_rfl) (by kernel_rfl) (by kernel_rfl) (fun _ _ _ h => h) ?_
    clear H a; intro a H
    refine k_two 4 8 (by kernel_rfl) ?_ ?_
    · skip
      refine kk_make 4 (L := 0) (C := (o.s.size + 2)) H rfl Tryd.underlying48 el5 rfl (congrArg (fun z => some (Value.int .i64 z)) (show (o.s.size : Int) + 2 = ((o.s.size + 2 : Nat) : Int) by omega)) (by omega) (by omega) (by simp only [maxLen]; omega) rfl ?_
      clear H; intro b14 w5 hN hE6 hs_b14; clear a; intro a H
      have hz_b14 := hE6.size
      replace hS := hS.newOwn hN hE6 (by simp [blks]; omega); clear hN hE6
      simp only [List.replicate_zero, List.flatten_nil] at hS
      refine k_two 7 8 (by kernel_rfl) ?_ ?_
      · skip
        refine kk_append 7 H rfl rfl rfl Tryd.underlying48 Tryd.underlying9 (by simp) el5 (hS.own 0 rfl) (show Src _ 1 (.string o.s) o.s.size (o.s.data.toList.flatMap eB) from .inr (.inr ⟨o.s, rfl, rfl, rfl, eB_map _⟩)) (flat_one eB_one _) (by omega) (by simp only [maxLen]; omega) rfl (.inl (by simp [blks]; omega)) ?_
        clear H; intro v17 w7 hN hC8 hb17 hnil17; clear a; intro a H
        have hz17 := hC8.size
        replace hS := hS.setOwn hN hC8 hb17; clear hN
        simp only [Nat.zero_add, List.nil_append] at hS
        refine k_buildSlice 8 H rfl Tryd.underlying48 sz5 ze5 rfl rfl rfl (cs := [.int .u8 201, .int .u8 202]) (by kernel_rfl) rfl (by kernel_rfl) ?_
        clear H; intro b18 w9 hN hE10 hs_b18; clear a; intro a H
        have hz_b18 := hE10.size
        replace hS := hS.newBlk hN hE10 hs_b18; clear hN hE10
        replace hS := hS.pick 1 rfl
        dsimp only [List.eraseIdx] at hS
        refine k_append 9 H rfl rfl rfl Tryd.underlying48 Tryd.underlying48 (by simp) el5 (hS.own 0 rfl) (show Src _ 1 _ 2 (([201, 202] : List UInt8).flatMap eB) from (Own.ofBlk (n := 2) (k := 1) (hS.blk 1 rfl) rfl (by simp [maxLen])).src) (flat_one eB_one _) (by omega) (by simp only [maxLen]; omega) rfl (by kernel_rfl) (.inl (by intro c hc hl; rcases hb17 with e | ⟨bb, e, hl2⟩ <;> rw [e] at hc <;> simp [blks] at hc <;> omega)) ?_
        clear H; intro v19 w11 hN hC12 hb19 hnil19; clear a; intro a H
        have hz19 := hC12.size
        replace hS := hS.setOwn hN hC12 hb19; clear hN
        rw [← List.flatMap_append] at hS
        refine k_q 10 H rfl (q_assign rfl) rfl (by kernel_rfl) ?_
        clear H a; intro a H
        refine k_done (by kernel_rfl) ?_
        refine then_normal ?_
        replace hS := hS.pick 4 rfl
        dsimp only [List.eraseIdx] at hS
        replace hS := hS.pick 4 rfl
        dsimp only [List.eraseIdx] at hS
        replace hS := hS.pick 4 rfl
        dsimp only [List.eraseIdx] at hS
        replace hS := hS.pick 3 rfl
        dsimp only [List.eraseIdx] at hS
        replace hS := hS.take 4
        simp only [List.take_succ_cons, List.take_zero] at hS
        exact join (v19, b5) H ⟨rfl, rfl, rfl, rfl, trivial⟩ hS
      · skip
        refine kk_buildSlice 8 H rfl Tryd.underlying48 sz5 ze5 rfl rfl rfl (cs := [.int .u8 201, .int .u8 202]) (by kernel_rfl) rfl ?_
        clear H; intro b18 w13 hN hE14 hs_b18; clear a; intro a H
        have hz_b18 := hE14.size
        replace hS := hS.newBlk hN hE14 hs_b18; clear hN hE14
        replace hS := hS.pick 1 rfl
        dsimp only [List.eraseIdx] at hS
        refine k_append 7 H rfl rfl rfl Tryd.underlying48 Tryd.underlying9 (by simp) el5 (hS.own 0 rfl) (show Src _ 1 (.string o.s) o.s.size (o.s.data.toList.flatMap eB) from .inr (.inr ⟨o.s, rfl, rfl, rfl, eB_map _⟩)) (flat_one eB_one _) (by omega) (by simp only [maxLen]; omega) rfl (by kernel_rfl) (.inl (by simp [blks]; omega)) ?_
        clear H; intro v17 w15 hN hC16 hb17 hnil17; clear a; intro a H
        have hz17 := hC16.size
        replace hS := hS.setOwn hN hC16 hb17; clear hN
        simp only [Nat.zero_add, List.nil_append] at hS
        refine k_append 9 H rfl rfl rfl Tryd.underlying48 Tryd.underlying48 (by simp) el5 (hS.own 0 rfl) (show Src _ 1 _ 2 (([201, 202] : List UInt8).flatMap eB) from (Own.ofBlk (n := 2) (k := 1) (hS.blk 1 rfl) rfl (by simp [maxLen])).src) (flat_one eB_one _) (by omega) (by simp only [maxLen]; omega) rfl (by kernel_rfl) (.inl (by intro c hc hl; rcases hb17 with e | ⟨bb, e, hl2⟩ <;> rw [e] at hc <;> simp [blks] at hc <;> omega)) ?_
        clear H; intro v19 w17 hN hC18 hb19 hnil19; clear a; intro a H
        have hz19 := hC18.size
        replace hS := hS.setOwn hN hC18 hb19; clear hN
        rw [← List.flatMap_append] at hS
        refine k_q 10 H rfl (q_assign rfl) rfl (by kernel_rfl) ?_
        clear H a; intro a H
        refine k_done (by kernel_rfl) ?_
        refine then_normal ?_
        replace hS := hS.pick 4 rfl
        dsimp only [List.eraseIdx] at hS
        replace hS := hS.pick 4 rfl
        dsimp only [List.eraseIdx] at hS
        replace hS := hS.pick 4 rfl
        dsimp only [List.eraseIdx] at hS
        replace hS := hS.pick 3 rfl
        dsimp only [List.eraseIdx] at hS
        replace hS := hS.take 4
        simp only [List.take_succ_cons, List.take_zero] at hS
        exact join (v19, b5) H ⟨rfl, rfl, rfl, rfl, trivial⟩ hS
    · skip
      refine kk_buildSlice 8 H rfl Tryd.underlying48 sz5 ze5 rfl rfl rfl (cs := [.int .u8 201, .int .u8 202]) (by kernel_rfl) rfl ?_
      clear H; intro b18 w19 hN hE20 hs_b18; clear a; intro a H
      have hz_b18 := hE20.size
      replace hS := hS.newBlk hN hE20 hs_b18; clear hN hE20
      refine k_make 4 (L := 0) (C := (o.s.size + 2)) H rfl Tryd.underlying48 el5 rfl (congrArg (fun z => some (Value.int .i64 z)) (show (o.s.size : Int) + 2 = ((o.s.size + 2 : Nat) : Int) by omega)) (by omega) (by omega) (by simp only [maxLen]; omega) rfl (by kernel_rfl) ?_
      clear H; intro b14 w21 hN hE22 hs_b14; clear a; intro a H
      have hz_b14 := hE22.size
      replace hS := hS.newOwn hN hE22 (by simp [blks]; omega); clear hN hE22
      simp only [List.replicate_zero, List.flatten_nil] at hS
      refine k_append 7 H rfl rfl rfl Tryd.underlying48 Tryd.underlying9 (by simp) el5 (hS.own 0 rfl) (show Src _ 1 (.string o.s) o.s.size (o.s.data.toList.flatMap eB) from .inr (.inr ⟨o.s, rfl, rfl, rfl, eB_map _⟩)) (flat_one eB_one _) (by omega) (by simp only [maxLen]; omega) rfl (by kernel_rfl) (.inl (by simp [blks]; omega)) ?_
      clear H; intro v17 w23 hN hC24 hb17 hnil17; clear a; intro a H
      have hz17 := hC24.size
      replace hS := hS.setOwn hN hC24 hb17; clear hN
      simp only [Nat.zero_add, List.nil_append] at hS
      refine k_append 9 H rfl rfl rfl Tryd.underlying48 Tryd.underlying48 (by simp) el5 (hS.own 0 rfl) (show Src _ 1 _ 2 (([201, 202] : List UInt8).flatMap eB) from (Own.ofBlk (n := 2) (k := 1) (hS.blk 1 rfl) rfl (by simp [maxLen])).src) (flat_one eB_one _) (by omega) (by simp only [maxLen]; omega) rfl (by kernel_rfl) (.inl (by intro c hc hl; rcases hb17 with e | ⟨bb, e, hl2⟩ <;> rw [e] at hc <;> simp [blks] at hc <;> omega)) ?_
      clear H; intro v19 w25 hN hC26 hb19 hnil19; clear a; intro a H
      have hz19 := hC26.size
      replace hS := hS.setOwn hN hC26 hb19; clear hN
      rw [← List.flatMap_append] at hS
      refine k_q 10 H rfl (q_assign rfl) rfl (by kernel_rfl) ?_
      clear H a; intro a H
      refine k_done (by kernel_rfl) ?_
      refine then_normal ?_
      replace hS := hS.pick 4 rfl
      dsimp only [List.eraseIdx] at hS
      replace hS := hS.pick 4 rfl
      dsimp only [List.eraseIdx] at hS
      replace hS := hS.pick 4 rfl
      dsimp only [List.eraseIdx] at hS
      replace hS := hS.pick 3 rfl
      dsimp only [List.eraseIdx] at hS
      replace hS := hS.take 4
      simp only [List.take_succ_cons, List.take_zero] at hS
      exact join (v19, b5) H ⟨rfl, rfl, rfl, rfl, trivial⟩ hS
  · clear H hS; clear a
    intro xx a w27 H hR
    obtain ⟨vb, b5⟩ := xx
    simp only [ent, List.map_cons, List.map_nil] at H
    try dsimp only at hR
    have hS := hR; try clear hR
    obtain ⟨b7, c7, hv7⟩ := (hS.own 0 rfl).sm (by omega)
    subst hv7
    refine wp_seq ?_
    refine wp_region_lit ?_
    refine n_q H (q_move rfl) rfl ?_
    clear H a; intro a H
    refine n_q H (q_fieldAddr0 rfl fo29_6) rfl ?_
    clear H a; intro a H
    refine n_q H (q_load rfl ((hS.blk 1 rfl).ld ag9 rfl)) rfl ?_
    clear H a; intro a H
    refine n_q H (q_lenS Tryd.underlying9 rfl) rfl ?_
    clear H a; intro a H
    have hl7 : o.s.size + 2 ≤ c7 := by obtain ⟨_, _, hq, h, _⟩ := (hS.own 0 rfl).form; cases hq; exact h
    refine n_q H (q_cast (q_sliceTo (A := some ⟨b7, 0, none⟩) (n := o.s.size + 2) (c := c7) Tryd.underlying48 sz5 rfl rfl (by omega) (by have := hl7; omega)) (show _ = Value.slice (some ⟨b7, 0, none⟩) o.s.size c7 by simp)) rfl ?_
    clear H a; intro a H
    refine n_q H (q_assign rfl) rfl ?_
    clear H a; intro a H
    refine n_nil ?_
    refine then_normal ?_
    refine c_join (σ := Value) H (fun u1 => [(0, .pointer (some ⟨p, 0, none⟩)), (1, .pointer (some ⟨q, 0, none⟩)), (5, .pointer (some ⟨b5, 0, none⟩)), (7, .slice (some ⟨b7, 0, none⟩) (o.s.size + 2) c7), (8, .slice (some ⟨b7, 0, none⟩) o.s.size c7)]) (fun u1 wl => St fp w wl [wrR A p u1 (x.app o), rrR q (x.app o), ownR 5 1 (.slice (some ⟨b7, 0, none⟩) (o.s.size + 2) c7) (o.s.size + 2) ((o.s.data.toList ++ [201, 202]).flatMap eB), blkR b5 (eOp o) 29]) ?_ ?_
    · skip
      refine wp_seq ?_
      refine wp_region_lit ?_
      refine n_q H (q_fieldAddr0 rfl fo29_0) rfl ?_
      clear H a; intro a H
      refine n_q H (q_load rfl ((hS.blk 1 rfl).ld ag3 rfl)) rfl ?_
      clear H a; intro a H
      refine n_nil ?_
      refine then_normal ?_
      refine wp_block ?_
      refine wp_seq ?_
      refine wp_region_lit ?_
      refine n_q H (q_eql rfl rfl) rfl ?_
      clear H a; intro a H
      refine n_q H (q_assign rfl) rfl ?_
      clear H a; intro a H
      refine n_nil ?_
      refine then_normal ?_
      refine c_cond H rfl (fun hc27 => ?_) (fun hc27 => ?_)
      · (try simp only [decide_eq_true_eq, decide_eq_false_iff_not, Bool.and_eq_true, Bool.or_eq_true, Bool.and_eq_false_iff, Bool.or_eq_false_iff, beq_iff_eq, bne_iff_ne, beq_eq_false_iff_ne, bne_eq_false_iff_eq, ne_eq, Bool.not_eq_true', Bool.not_eq_false', Int.not_lt, Int.not_le, Bool.not_eq_true, Bool.not_eq_false] at hc27)
        refine wp_seq ?_
        refine wp_region_lit ?_
        refine n_q H (q_move rfl) rfl ?_
        clear H a; intro a H
        refine n_q H (q_fieldAddr0 rfl fo29_3) rfl ?_
        clear H a; intro a H
        refine n_q H (q_load rfl ((hS.blk 1 rfl).ld ag3 rfl)) rfl ?_
        clear H a; intro a H
        replace hS := hS.pick 2 rfl
        dsimp only [List.eraseIdx] at hS
        obtain ⟨fp32, hG32, hK32, hR32, hF32⟩ := hS.frame1
        refine n_call H rfl en55 (wU8_w (n := o.n) (fun w' hw => hG _ (hK32 _ hw)) (by omega) hG32) rfl ?_
        clear H a; intro v30 w28 hv a H
        obtain ⟨rfl, u1, hE29⟩ := hv
        replace hS := hF32 _ _ hE29
        simp only [List.cons_append, List.nil_append] at hS
        clear hG32 hK32 hR32 hF32
        refine n_nil ?_
        refine then_normal ?_
        refine wp_region_lit ?_
        refine n_q H (q_move rfl) rfl ?_
        clear H a; intro a H
        refine n_q H (q_fieldAddr0 rfl fo29_3) rfl ?_
        clear H a; intro a H
        refine n_q H (q_load rfl ((hS.blk 2 rfl).ld ag3 rfl)) rfl ?_
        clear H a; intro a H
        replace hS := hS.pick 3 rfl
        dsimp only [List.eraseIdx] at hS
        obtain ⟨fp36, hG36, hK36, hR36, hF36⟩ := hS.frame1
        refine n_call H rfl en56 (rNum_w (n := o.n) (k := 1) (by omega) (by omega) (by omega) hG36) rfl ?_
        clear H a; intro v33 w31 hv a H
        obtain ⟨rfl, hE32⟩ := hv
        replace hS := hF36 _ _ hE32
        simp only [List.cons_append, List.nil_append] at hS
        clear hG36 hK36 hR36 hF36
        refine n_nil ?_
        refine block_normal ?_
        refine then_normal ?_
        have ha : x.app o = x.num o.n 1 := by simp [WM.app, hc27]
        rw [← ha] at hS
        replace hS := hS.pick 3 rfl
        dsimp only [List.eraseIdx] at hS
        replace hS := hS.pick 3 rfl
        dsimp only [List.eraseIdx] at hS
        replace hS := hS.pick 2 rfl
        dsimp only [List.eraseIdx] at hS
        replace hS := hS.pick 3 rfl
        dsimp only [List.eraseIdx] at hS
        exact join u1 H ⟨rfl, rfl, rfl, rfl, rfl, trivial⟩ hS
      · (try simp only [decide_eq_true_eq, decide_eq_false_iff_not, Bool.and_eq_true, Bool.or_eq_true, Bool.and_eq_false_iff, Bool.or_eq_false_iff, beq_iff_eq, bne_iff_ne, beq_eq_false_iff_ne, bne_eq_false_iff_eq, ne_eq, Bool.not_eq_true', Bool.not_eq_false', Int.not_lt, Int.not_le, Bool.not_eq_true, Bool.not_eq_false] at hc27)
        refine wp_seq ?_
        refine wp_region_lit ?_
        refine n_q H (q_eql rfl rfl) rfl ?_
        clear H a; intro a H
        refine n_q H (q_assign rfl) rfl ?_
        clear H a; intro a H
        refine n_nil ?_
        refine then_normal ?_
        refine c_cond H rfl (fun hc37 => ?_) (fun hc37 => ?_)
        · (try simp only [decide_eq_true_eq, decide_eq_false_iff_not, Bool.and_eq_true, Bool.or_eq_true, Bool.and_eq_false_iff, Bool.or_eq_false_iff, beq_iff_eq, bne_iff_ne, beq_eq_false_iff_ne, bne_eq_false_iff_eq, ne_eq, Bool.not_eq_true', Bool.not_eq_false', Int.not_lt, Int.not_le, Bool.not_eq_true, Bool.not_eq_false] at hc37)
          refine wp_seq ?_
          refine wp_region_lit ?_
          refine n_q H (q_move rfl) rfl ?_
          clear H a; intro a H
          refine n_q H (q_fieldAddr0 rfl fo29_3) rfl ?_
          clear H a; intro a H
          refine n_q H (q_load rfl ((hS.blk 1 rfl).ld ag3 rfl)) rfl ?_
          clear H a; intro a H
          replace hS := hS.pick 2 rfl
          dsimp only [List.eraseIdx] at hS
          obtain ⟨fp42, hG42, hK42, hR42, hF42⟩ := hS.frame1
          refine n_call H rfl en48 (wU16_w (n := o.n) (fun w' hw => hG _ (hK42 _ hw)) (by omega) hG42) rfl ?_
          clear H a; intro v36 w34 hv a H
          obtain ⟨rfl, u1, hE35⟩ := hv
          replace hS := hF42 _ _ hE35
          simp only [List.cons_append, List.nil_append] at hS
          clear hG42 hK42 hR42 hF42
          refine n_nil ?_
          refine then_normal ?_
          refine wp_region_lit ?_
          refine n_q H (q_move rfl) rfl ?_
          clear H a; intro a H
          refine n_q H (q_fieldAddr0 rfl fo29_3) rfl ?_
          clear H a; intro a H
          refine n_q H (q_load rfl ((hS.blk 2 rfl).ld ag3 rfl)) rfl ?_
          clear H a; intro a H
          replace hS := hS.pick 3 rfl
          dsimp only [List.eraseIdx] at hS
          obtain ⟨fp46, hG46, hK46, hR46, hF46⟩ := hS.frame1
          refine n_call H rfl en56 (rNum_w (n := o.n) (k := 2) (by omega) (by omega) (by omega) hG46) rfl ?_
          clear H a; intro v39 w37 hv a H
          obtain ⟨rfl, hE38⟩ := hv
          replace hS := hF46 _ _ hE38
          simp only [List.cons_append, List.nil_append] at hS
          clear hG46 hK46 hR46 hF46
          refine n_nil ?_
          refine block_normal ?_
          refine then_normal ?_
          have ha : x.app o = x.num o.n 2 := by simp [WM.app, hc37]
          rw [← ha] at hS
          replace hS := hS.pick 3 rfl
          dsimp only [List.eraseIdx] at hS
          replace hS := hS.pick 3 rfl
          dsimp only [List.eraseIdx] at hS
          replace hS := hS.pick 2 rfl
          dsimp only [List.eraseIdx] at hS
          replace hS := hS.pick 3 rfl
          dsimp only [List.eraseIdx] at hS
          exact join u1 H ⟨rfl, rfl, rfl, rfl, rfl, trivial⟩ hS
        · (try simp only [decide_eq_true_eq, decide_eq_false_iff_not, Bool.and_eq_true, Bool.or_eq_true, Bool.and_eq_false_iff, Bool.or_eq_false_iff, beq_iff_eq, bne_iff_ne, beq_eq_false_iff_ne, bne_eq_false_iff_eq, ne_eq, Bool.not_eq_true', Bool.not_eq_false', Int.not_lt, Int.not_le, Bool.not_eq_true, Bool.not_eq_false] at hc37)
          refine wp_seq ?_
          refine wp_region_lit ?_
          refine n_q H (q_eql rfl rfl) rfl ?_
          clear H a; intro a H
          refine n_q H (q_assign rfl) rfl ?_
          clear H a; intro a H
          refine n_nil ?_
          refine then_normal ?_
          refine c_cond H rfl (fun hc47 => ?_) (fun hc47 => ?_)
          · (try simp only [decide_eq_true_eq, decide_eq_false_iff_not, Bool.and_eq_true, Bool.or_eq_true, Bool.and_eq_false_iff, Bool.or_eq_false_iff, beq_iff_eq, bne_iff_ne, beq_eq_false_iff_ne, bne_eq_false_iff_eq, ne_eq, Bool.not_eq_true', Bool.not_eq_false', Int.not_lt, Int.not_le, Bool.not_eq_true, Bool.not_eq_false] at hc47)
            refine wp_seq ?_
            refine wp_region_lit ?_
            refine n_q H (q_move rfl) rfl ?_
            clear H a; intro a H
            refine n_q H (q_fieldAddr0 rfl fo29_3) rfl ?_
            clear H a; intro a H
            refine n_q H (q_load rfl ((hS.blk 1 rfl).ld ag3 rfl)) rfl ?_
            clear H a; intro a H
            replace hS := hS.pick 2 rfl
            dsimp only [List.eraseIdx] at hS
            obtain ⟨fp52, hG52, hK52, hR52, hF52⟩ := hS.frame1
            refine n_call H rfl en57 (wU32_w (n := o.n) (fun w' hw => hG _ (hK52 _ hw)) (by omega) hG52) rfl ?_
            clear H a; intro v42 w40 hv a H
            obtain ⟨rfl, u1, hE41⟩ := hv
            replace hS := hF52 _ _ hE41
            simp only [List.cons_append, List.nil_append] at hS
            clear hG52 hK52 hR52 hF52
            refine n_nil ?_
            refine then_normal ?_
            refine wp_region_lit ?_
            refine n_q H (q_move rfl) rfl ?_
            clear H a; intro a H
            refine n_q H (q_fieldAddr0 rfl fo29_3) rfl ?_
            clear H a; intro a H
            refine n_q H (q_load rfl ((hS.blk 2 rfl).ld ag3 rfl)) rfl ?_
            clear H a; intro a H
            replace hS := hS.pick 3 rfl
            dsimp only [List.eraseIdx] at hS
            obtain ⟨fp56, hG56, hK56, hR56, hF56⟩ := hS.frame1
            refine n_call H rfl en56 (rNum_w (n := o.n) (k := 4) (by omega) (by omega) (by omega) hG56) rfl ?_
            clear H a; intro v45 w43 hv a H
            obtain ⟨rfl, hE44⟩ := hv
            replace hS := hF56 _ _ hE44
            simp only [List.cons_append, List.nil_append] at hS
            clear hG56 hK56 hR56 hF56
            refine n_nil ?_
            refine block_normal ?_
            refine then_normal ?_
            have ha : x.app o = x.num o.n 4 := by simp [WM.app, hc47]
            rw [← ha] at hS
            replace hS := hS.pick 3 rfl
            dsimp only [List.eraseIdx] at hS
            replace hS := hS.pick 3 rfl
            dsimp only [List.eraseIdx] at hS
            replace hS := hS.pick 2 rfl
            dsimp only [List.eraseIdx] at hS
            replace hS := hS.pick 3 rfl
            dsimp only [List.eraseIdx] at hS
            exact join u1 H ⟨rfl, rfl, rfl, rfl, rfl, trivial⟩ hS
          · (try simp only [decide_eq_true_eq, decide_eq_false_iff_not, Bool.and_eq_true, Bool.or_eq_true, Bool.and_eq_false_iff, Bool.or_eq_false_iff, beq_iff_eq, bne_iff_ne, beq_eq_false_iff_ne, bne_eq_false_iff_eq, ne_eq, Bool.not_eq_true', Bool.not_eq_false', Int.not_lt, Int.not_le, Bool.not_eq_true, Bool.not_eq_false] at hc47)
            refine wp_seq ?_
            refine wp_region_lit ?_
            refine n_q H (q_eql rfl rfl) rfl ?_
            clear H a; intro a H
            refine n_q H (q_assign rfl) rfl ?_
            clear H a; intro a H
            refine n_nil ?_
            refine then_normal ?_
            refine c_cond H rfl (fun hc57 => ?_) (fun hc57 => ?_)
            · (try simp only [decide_eq_true_eq, decide_eq_false_iff_not, Bool.and_eq_true, Bool.or_eq_true, Bool.and_eq_false_iff, Bool.or_eq_false_iff, beq_iff_eq, bne_iff_ne, beq_eq_false_iff_ne, bne_eq_false_iff_eq, ne_eq, Bool.not_eq_true', Bool.not_eq_false', Int.not_lt, Int.not_le, Bool.not_eq_true, Bool.not_eq_false] at hc57)
              refine wp_seq ?_
              refine wp_region_lit ?_
              refine n_q H (q_move rfl) rfl ?_
              clear H a; intro a H
              refine n_q H (q_fieldAddr0 rfl fo29_3) rfl ?_
              clear H a; intro a H
              refine n_q H (q_load rfl ((hS.blk 1 rfl).ld ag3 rfl)) rfl ?_
              clear H a; intro a H
              refine n_q H (q_cast (q_and rfl rfl) (show _ = Value.int .i64 (and1 o.n) from rfl)) rfl ?_
              clear H a; intro a H
              refine n_q H (q_eql rfl rfl) rfl ?_
              clear H a; intro a H
              replace hS := hS.pick 2 rfl
              dsimp only [List.eraseIdx] at hS
              obtain ⟨fp64, hG64, hK64, hR64, hF64⟩ := hS.frame1
              refine n_call H rfl en58 (wFlag_w (by omega) hG64) rfl ?_
              clear H a; intro v48 w46 hv a H
              obtain ⟨rfl, hE47⟩ := hv
              replace hS := hF64 _ _ hE47
              simp only [List.cons_append, List.nil_append] at hS
              clear hG64 hK64 hR64 hF64
              rw [WM.flag_num] at hS
              refine n_nil ?_
              refine then_normal ?_
              refine wp_region_lit ?_
              refine n_q H (q_move rfl) rfl ?_
              clear H a; intro a H
              refine n_q H (q_fieldAddr0 rfl fo29_3) rfl ?_
              clear H a; intro a H
              refine n_q H (q_load rfl ((hS.blk 2 rfl).ld ag3 rfl)) rfl ?_
              clear H a; intro a H
              refine n_q H (q_cast (q_and rfl rfl) (show _ = Value.int .i64 (and1 o.n) from rfl)) rfl ?_
              clear H a; intro a H
              replace hS := hS.pick 3 rfl
              dsimp only [List.eraseIdx] at hS
              obtain ⟨fp69, hG69, hK69, hR69, hF69⟩ := hS.frame1
              refine n_call H rfl en56 (rNum_w (n := and1 o.n) (k := 1) (by omega) (by omega) (by omega) hG69) rfl ?_
              clear H a; intro v51 w49 hv a H
              obtain ⟨rfl, hE50⟩ := hv
              replace hS := hF69 _ _ hE50
              simp only [List.cons_append, List.nil_append] at hS
              clear hG69 hK69 hR69 hF69
              refine n_nil ?_
              refine block_normal ?_
              refine then_normal ?_
              have ha : x.app o = x.num (and1 o.n) 1 := by simp [WM.app, hc57]
              rw [← ha] at hS
              replace hS := hS.pick 3 rfl
              dsimp only [List.eraseIdx] at hS
              replace hS := hS.pick 3 rfl
              dsimp only [List.eraseIdx] at hS
              replace hS := hS.pick 2 rfl
              dsimp only [List.eraseIdx] at hS
              replace hS := hS.pick 3 rfl
              dsimp only [List.eraseIdx] at hS
              exact join u0 H ⟨rfl, rfl, rfl, rfl, rfl, trivial⟩ hS
            · (try simp only [decide_eq_true_eq, decide_eq_false_iff_not, Bool.and_eq_true, Bool.or_eq_true, Bool.and_eq_false_iff, Bool.or_eq_false_iff, beq_iff_eq, bne_iff_ne, beq_eq_false_iff_ne, bne_eq_false_iff_eq, ne_eq, Bool.not_eq_true', Bool.not_eq_false', Int.not_lt, Int.not_le, Bool.not_eq_true, Bool.not_eq_false] at hc57)
              refine wp_seq ?_
              refine wp_region_lit ?_
              refine n_q H (q_eql rfl rfl) rfl ?_
              clear H a; intro a H
              refine n_q H (q_assign rfl) rfl ?_
              clear H a; intro a H
              refine n_nil ?_
              refine then_normal ?_
              refine c_cond H rfl (fun hc70 => ?_) (fun hc70 => ?_)
              · (try simp only [decide_eq_true_eq, decide_eq_false_iff_not, Bool.and_eq_true, Bool.or_eq_true, Bool.and_eq_false_iff, Bool.or_eq_false_iff, beq_iff_eq, bne_iff_ne, beq_eq_false_iff_ne, bne_eq_false_iff_eq, ne_eq, Bool.not_eq_true', Bool.not_eq_false', Int.not_lt, Int.not_le, Bool.not_eq_true, Bool.not_eq_false] at hc70)
                refine wp_seq ?_
                refine wp_region_lit ?_
                refine n_q H (q_move rfl) rfl ?_
                clear H a; intro a H
                refine n_q H (q_move rfl) rfl ?_
                clear H a; intro a H
                replace hS := hS.pick 2 rfl
                dsimp only [List.eraseIdx] at hS
                obtain ⟨fp74, hG74, hK74, hR74, hF74⟩ := hS.frame1
                refine n_call H rfl en59 (wRaw_w (bs := o.s.data.toList) (fun w' hw => ((show SlR _ 1 (Flat eB) (.slice (some ⟨b7, 0, none⟩) o.s.size c7) o.s.data.toList from take_marks o.s [201, 202] ▸ ((restOwn (hR74 0 _ rfl _ hw)).slB (xs := o.s.data.toList ++ [201, 202]) hlen2).take o.s.size (by omega))).srcB) (by omega) hG74) rfl ?_
                clear H a; intro v54 w52 hv a H
                obtain ⟨rfl, hE53⟩ := hv
                replace hS := hF74 _ _ hE53
                simp only [List.cons_append, List.nil_append] at hS
                clear hG74 hK74 hR74 hF74
                refine n_nil ?_
                refine then_normal ?_
                refine wp_region_lit ?_
                refine n_q H (q_move rfl) rfl ?_
                clear H a; intro a H
                refine n_q H (q_fieldAddr0 rfl fo29_6) rfl ?_
                clear H a; intro a H
                refine n_q H (q_load rfl ((hS.blk 2 rfl).ld ag9 rfl)) rfl ?_
                clear H a; intro a H
                refine n_bytes H Tryd.underlying9 Tryd.underlying48 Tryd.underlying5 rfl (by simp only [maxLen]; omega) rfl ?_
                clear H; intro v78 w55 hN hE56 hs_v78; clear a; intro a H
                replace hS := hS.newOwn hN hE56 (by rw [hs_v78]; intro c hc; rw [List.mem_singleton.1 hc]; exact Nat.le_refl _); clear hN hE56
                replace hS := hS.pick 4 rfl
                dsimp only [List.eraseIdx] at hS
                obtain ⟨fp79, hG79, hK79, hR79, hF79⟩ := hS.frame1
                refine n_call H rfl en60 (rRaw_w (bs := o.s.data.toList) (fun w' hw => (restOwn (hR79 0 _ rfl _ hw)).srcB rfl) (by omega) hG79) rfl ?_
                clear H a; intro v59 w57 hv a H
                obtain ⟨rfl, hE58⟩ := hv
                replace hS := hF79 _ _ hE58
                simp only [List.cons_append, List.nil_append] at hS
                clear hG79 hK79 hR79 hF79
                refine n_nil ?_
                refine block_normal ?_
                refine then_normal ?_
                have ha : x.app o = x.put o.s.data.toList := by simp [WM.app, hc70]
                rw [← ha] at hS
                replace hS := hS.pick 4 rfl
                dsimp only [List.eraseIdx] at hS
                replace hS := hS.pick 4 rfl
                dsimp only [List.eraseIdx] at hS
                replace hS := hS.pick 2 rfl
                dsimp only [List.eraseIdx] at hS
                replace hS := hS.pick 4 rfl
                dsimp only [List.eraseIdx] at hS
                replace hS := hS.take 4
                simp only [List.take_succ_cons, List.take_zero] at hS
                exact join u0 H ⟨rfl, rfl, rfl, rfl, rfl, trivial⟩ hS
              · (try simp only [decide_eq_true_eq, decide_eq_false_iff_not, Bool.and_eq_true, Bool.or_eq_true, Bool.and_eq_false_iff, Bool.or_eq_false_iff, beq_iff_eq, bne_iff_ne, beq_eq_false_iff_ne, bne_eq_false_iff_eq, ne_eq, Bool.not_eq_true', Bool.not_eq_false', Int.not_lt, Int.not_le, Bool.not_eq_true, Bool.not_eq_false] at hc70)
                refine wp_seq ?_
                refine wp_region_lit ?_
                refine n_q H (q_eql rfl rfl) rfl ?_
                clear H a; intro a H
                refine n_q H (q_assign rfl) rfl ?_
                clear H a; intro a H
                refine n_nil ?_
                refine then_normal ?_
                refine c_cond H rfl (fun hc80 => ?_) (fun hc80 => ?_)
                · (try simp only [decide_eq_true_eq, decide_eq_false_iff_not, Bool.and_eq_true, Bool.or_eq_true, Bool.and_eq_false_iff, Bool.or_eq_false_iff, beq_iff_eq, bne_iff_ne, beq_eq_false_iff_ne, bne_eq_false_iff_eq, ne_eq, Bool.not_eq_true', Bool.not_eq_false', Int.not_lt, Int.not_le, Bool.not_eq_true, Bool.not_eq_false] at hc80)
                  refine wp_seq ?_
                  refine wp_region_lit ?_
                  refine n_q H (q_move rfl) rfl ?_
                  clear H a; intro a H
                  refine n_q H (q_fieldAddr0 rfl fo29_6) rfl ?_
                  clear H a; intro a H
                  refine n_q H (q_load rfl ((hS.blk 1 rfl).ld ag9 rfl)) rfl ?_
                  clear H a; intro a H
                  replace hS := hS.pick 2 rfl
                  dsimp only [List.eraseIdx] at hS
                  obtain ⟨fp85, hG85, hK85, hR85, hF85⟩ := hS.frame1
                  refine n_call H rfl en61 (wText_w (s := o.s) (fun w' hw => hG _ (hK85 _ hw)) (by omega) hG85) rfl ?_
                  clear H a; intro v62 w60 hv a H
                  obtain ⟨rfl, u1, hE61⟩ := hv
                  replace hS := hF85 _ _ hE61
                  simp only [List.cons_append, List.nil_append] at hS
                  clear hG85 hK85 hR85 hF85
                  refine n_nil ?_
                  refine then_normal ?_
                  refine wp_region_lit ?_
                  refine n_q H (q_move rfl) rfl ?_
                  clear H a; intro a H
                  refine n_q H (q_fieldAddr0 rfl fo29_6) rfl ?_
                  clear H a; intro a H
                  refine n_q H (q_load rfl ((hS.blk 2 rfl).ld ag9 rfl)) rfl ?_
                  clear H a; intro a H
                  replace hS := hS.pick 3 rfl
                  dsimp only [List.eraseIdx] at hS
                  obtain ⟨fp89, hG89, hK89, hR89, hF89⟩ := hS.frame1
                  refine n_call H rfl en62 (rText_w (s := o.s) (by omega) hG89) rfl ?_
                  clear H a; intro v65 w63 hv a H
                  obtain ⟨rfl, hE64⟩ := hv
                  replace hS := hF89 _ _ hE64
                  simp only [List.cons_append, List.nil_append] at hS
                  clear hG89 hK89 hR89 hF89
                  refine n_nil ?_
                  refine block_normal ?_
                  refine then_normal ?_
                  have ha : x.app o = x.text o.s := by simp [WM.app, hc80]
                  rw [← ha] at hS
                  replace hS := hS.pick 3 rfl
                  dsimp only [List.eraseIdx] at hS
                  replace hS := hS.pick 3 rfl
                  dsimp only [List.eraseIdx] at hS
                  replace hS := hS.pick 2 rfl
                  dsimp only [List.eraseIdx] at hS
                  replace hS := hS.pick 3 rfl
                  dsimp only [List.eraseIdx] at hS
                  exact join u1 H ⟨rfl, rfl, rfl, rfl, rfl, trivial⟩ hS
                · (try simp only [decide_eq_true_eq, decide_eq_false_iff_not, Bool.and_eq_true, Bool.or_eq_true, Bool.and_eq_false_iff, Bool.or_eq_false_iff, beq_iff_eq, bne_iff_ne, beq_eq_false_iff_ne, bne_eq_false_iff_eq, ne_eq, Bool.not_eq_true', Bool.not_eq_false', Int.not_lt, Int.not_le, Bool.not_eq_true, Bool.not_eq_false] at hc80)
                  refine wp_seq ?_
                  refine wp_region_lit ?_
                  refine n_q H (q_eql rfl rfl) rfl ?_
                  clear H a; intro a H
                  refine n_q H (q_assign rfl) rfl ?_
                  clear H a; intro a H
                  refine n_nil ?_
                  refine then_normal ?_
                  refine c_cond H rfl (fun hc90 => ?_) (fun hc90 => ?_)
                  · (try simp only [decide_eq_true_eq, decide_eq_false_iff_not, Bool.and_eq_true, Bool.or_eq_true, Bool.and_eq_false_iff, Bool.or_eq_false_iff, beq_iff_eq, bne_iff_ne, beq_eq_false_iff_ne, bne_eq_false_iff_eq, ne_eq, Bool.not_eq_true', Bool.not_eq_false', Int.not_lt, Int.not_le, Bool.not_eq_true, Bool.not_eq_false] at hc90)
                    refine wp_seq ?_
                    refine wp_region_lit ?_
                    refine n_q H (q_move rfl) rfl ?_
                    clear H a; intro a H
                    refine n_q H (q_fieldAddr0 rfl fo29_3) rfl ?_
                    clear H a; intro a H
                    refine n_q H (q_load rfl ((hS.blk 1 rfl).ld ag3 rfl)) rfl ?_
                    clear H a; intro a H
                    refine n_q H (q_move rfl) rfl ?_
                    clear H a; intro a H
                    replace hS := hS.pick 2 rfl
                    dsimp only [List.eraseIdx] at hS
                    obtain ⟨fp96, hG96, hK96, hR96, hF96⟩ := hS.frame1
                    refine n_call H rfl en49 (wRecord_w (t := o.n) (bs := o.s.data.toList) (fun w' hw => hG _ (hK96 _ hw)) (fun w' hw => ((show SlR _ 1 (Flat eB) (.slice (some ⟨b7, 0, none⟩) o.s.size c7) o.s.data.toList from take_marks o.s [201, 202] ▸ ((restOwn (hR96 0 _ rfl _ hw)).slB (xs := o.s.data.toList ++ [201, 202]) hlen2).take o.s.size (by omega)))) (by omega) hG96) rfl ?_
                    clear H a; intro v68 w66 hv a H
                    obtain ⟨rfl, u1, hE67⟩ := hv
                    replace hS := hF96 _ _ hE67
                    simp only [List.cons_append, List.nil_append] at hS
                    clear hG96 hK96 hR96 hF96
                    refine n_nil ?_
                    refine then_normal ?_
                    refine wp_region_lit ?_
                    refine n_q H (q_move rfl) rfl ?_
                    clear H a; intro a H
                    refine n_q H (q_fieldAddr0 rfl fo29_3) rfl ?_
                    clear H a; intro a H
                    refine n_q H (q_load rfl ((hS.blk 2 rfl).ld ag3 rfl)) rfl ?_
                    clear H a; intro a H
                    refine n_q H (q_fieldAddr0 rfl fo29_6) rfl ?_
                    clear H a; intro a H
                    refine n_q H (q_load rfl ((hS.blk 2 rfl).ld ag9 rfl)) rfl ?_
                    clear H a; intro a H
                    refine n_bytes H Tryd.underlying9 Tryd.underlying48 Tryd.underlying5 rfl (by simp only [maxLen]; omega) rfl ?_
                    clear H; intro v102 w69 hN hE70 hs_v102; clear a; intro a H
                    replace hS := hS.newOwn hN hE70 (by rw [hs_v102]; intro c hc; rw [List.mem_singleton.1 hc]; exact Nat.le_refl _); clear hN hE70
                    replace hS := hS.pick 4 rfl
                    dsimp only [List.eraseIdx] at hS
                    obtain ⟨fp103, hG103, hK103, hR103, hF103⟩ := hS.frame1
                    refine n_call H rfl en63 (rRecord_w (t := o.n) (bs := o.s.data.toList) (fun w' hw => (restOwn (hR103 0 _ rfl _ hw)).slB rfl) (by omega) hG103) rfl ?_
                    clear H a; intro v73 w71 hv a H
                    obtain ⟨rfl, hE72⟩ := hv
                    replace hS := hF103 _ _ hE72
                    simp only [List.cons_append, List.nil_append] at hS
                    clear hG103 hK103 hR103 hF103
                    refine n_nil ?_
                    refine block_normal ?_
                    refine then_normal ?_
                    have ha : x.app o = x.record o.n o.s.data.toList := by simp [WM.app, hc90]
                    rw [← ha] at hS
                    replace hS := hS.pick 4 rfl
                    dsimp only [List.eraseIdx] at hS
                    replace hS := hS.pick 4 rfl
                    dsimp only [List.eraseIdx] at hS
                    replace hS := hS.pick 2 rfl
                    dsimp only [List.eraseIdx] at hS
                    replace hS := hS.pick 4 rfl
                    dsimp only [List.eraseIdx] at hS
                    replace hS := hS.take 4
                    simp only [List.take_succ_cons, List.take_zero] at hS
                    exact join u1 H ⟨rfl, rfl, rfl, rfl, rfl, trivial⟩ hS
                  · (try simp only [decide_eq_true_eq, decide_eq_false_iff_not, Bool.and_eq_true, Bool.or_eq_true, Bool.and_eq_false_iff, Bool.or_eq_false_iff, beq_iff_eq, bne_iff_ne, beq_eq_false_iff_ne, bne_eq_false_iff_eq, ne_eq, Bool.not_eq_true', Bool.not_eq_false', Int.not_lt, Int.not_le, Bool.not_eq_true, Bool.not_eq_false] at hc90)
                    refine wp_skip ?_
                    refine block_normal ?_
                    refine then_normal ?_
                    have ha : x.app o = x := by simp [WM.app, hc27, hc37, hc47, hc57, hc70, hc80, hc90]
                    rw [← ha] at hS
                    replace hS := hS.pick 1 rfl
                    dsimp only [List.eraseIdx] at hS
                    replace hS := hS.pick 1 rfl
                    dsimp only [List.eraseIdx] at hS
                    replace hS := hS.pick 3 rfl
                    dsimp only [List.eraseIdx] at hS
                    replace hS := hS.pick 3 rfl
                    dsimp only [List.eraseIdx] at hS
                    exact join u0 H ⟨rfl, rfl, rfl, rfl, rfl, trivial⟩ hS
    · clear H hS; clear a
      intro u1 a w74 H hR
      simp only [ent, List.map_cons, List.map_nil] at H
      try dsimp only at hR
      have hS := hR; try clear hR
      refine wp_seq ?_
      refine wp_seq ?_
      refine wp_region_lit ?_
      refine n_c H (fun HC => ?_); clear H
      refine nc_q HC (q_move rfl) rfl (by kernel_rfl) ?_
      clear HC a; intro a HC
      refine nc_q HC (q_str Tryd.underlying48 Tryd.underlying5 Tryd.underlying9 rfl (fun w' e => take_marks o.s [201, 202] ▸ (((hS.own 2 rfl).ext e).slB (xs := o.s.data.toList ++ [201, 202]) hlen2).take o.s.size (by omega))) rfl (by kernel_rfl) ?_
      clear HC a; intro a HC
      refine nc_q HC (q_fieldAddr0 rfl fo29_6) rfl (by kernel_rfl) ?_
      clear HC a; intro a HC
      refine nc_q HC (q_load rfl ((hS.blk 3 rfl).ld ag9 rfl)) rfl (by kernel_rfl) ?_
      clear HC a; intro a HC
      refine nc_q HC (q_neqS rfl rfl) rfl (by kernel_rfl) ?_
      clear HC a; intro a HC
      refine nc_q HC (q_move rfl) rfl (by kernel_rfl) ?_
      clear HC a; intro a HC
      refine nc_g HC (q_move rfl) (by kernel_rfl) (by kernel_rfl) (by kernel_rfl) ?_
      clear HC a; intro a HC
      refine nc_g HC (q_fieldAddr0 rfl fo29_6) (by kernel_rfl) (by kernel_rfl) (by kernel_rfl) ?_
      clear HC a; intro a HC
      refine nc_g HC (q_load rfl ((hS.blk 3 rfl).ld ag9 rfl)) (by kernel_rfl) (by kernel_rfl) (by kernel_rfl) ?_
      clear HC a; intro a HC
      refine nc_g HC (q_lenS Tryd.underlying9 rfl) (by kernel_rfl) (by kernel_rfl) (by kernel_rfl) ?_
      clear HC a; intro a HC
      refine nc_g HC (q_cast (q_indexAddr (ad := ⟨b7, 0, none⟩) (n := o.s.size + 2) (c := c7) Tryd.underlying48 sz5 rfl rfl (by omega) (by omega)) (show _ = Value.pointer (some ((⟨b7, 0, none⟩ : Addr).add (o.s.size * 1))) by rw [show (o.s.size : Int).toNat = o.s.size by omega])) (by kernel_rfl) (by kernel_rfl) (by kernel_rfl) ?_
      clear HC a; intro a HC
      refine nc_g HC (q_load rfl (((hS.own 2 rfl).slB (xs := o.s.data.toList ++ [201, 202]) hlen2).ldOne ag5 (at_marks o.s 201 202).1 rfl)) (by kernel_rfl) (by kernel_rfl) (by kernel_rfl) ?_
      clear HC a; intro a HC
      refine nc_g HC (q_neq rfl rfl) (by kernel_rfl) (by kernel_rfl) (by kernel_rfl) ?_
      clear HC a; intro a HC
      refine nc_or (j := 5) HC rfl rfl rfl (by kernel_rfl) (by kernel_rfl) ?_
      clear HC a; intro a HC
      refine nc_q HC (q_move rfl) rfl (by kernel_rfl) ?_
      clear HC a; intro a HC
      refine nc_g HC (q_move rfl) (by kernel_rfl) (by kernel_rfl) (by kernel_rfl) ?_
      clear HC a; intro a HC
      refine nc_g HC (q_fieldAddr0 rfl fo29_6) (by kernel_rfl) (by kernel_rfl) (by kernel_rfl) ?_
      clear HC a; intro a HC
      refine nc_g HC (q_load rfl ((hS.blk 3 rfl).ld ag9 rfl)) (by kernel_rfl) (by kernel_rfl) (by kernel_rfl) ?_
      clear HC a; intro a HC
      refine nc_g HC (q_lenS Tryd.underlying9 rfl) (by kernel_rfl) (by kernel_rfl) (by kernel_rfl) ?_
      clear HC a; intro a HC
      refine nc_g HC (q_add rfl rfl (by constructor <;> omega)) (by kernel_rfl) (by kernel_rfl) (by kernel_rfl) ?_
      clear HC a; intro a HC
      refine nc_g HC (q_cast (q_indexAddr (ad := ⟨b7, 0, none⟩) (n := o.s.size + 2) (c := c7) Tryd.underlying48 sz5 rfl rfl (by omega) (by omega)) (show _ = Value.pointer (some ((⟨b7, 0, none⟩ : Addr).add ((o.s.size + 1) * 1))) by rw [show ((o.s.size : Int) + 1).toNat = o.s.size + 1 by omega])) (by kernel_rfl) (by kernel_rfl) (by kernel_rfl) ?_
      clear HC a; intro a HC
      refine nc_g HC (q_load rfl (((hS.own 2 rfl).slB (xs := o.s.data.toList ++ [201, 202]) hlen2).ldOne ag5 (at_marks o.s 201 202).2 rfl)) (by kernel_rfl) (by kernel_rfl) (by kernel_rfl) ?_
      clear HC a; intro a HC
      refine nc_g HC (q_neq rfl rfl) (by kernel_rfl) (by kernel_rfl) (by kernel_rfl) ?_
      clear HC a; intro a HC
      refine nc_or (j := 14) HC rfl rfl rfl (by kernel_rfl) (by kernel_rfl) ?_
      clear HC a; intro a HC
      have H := HC.has; clear HC
      refine n_nil ?_
      refine then_normal ?_
      refine c_cond H rfl (fun hc127 => ?_) (fun hc127 => ?_)
      · skip
        simp [strB_toList] at hc127
      · (try simp only [decide_eq_true_eq, decide_eq_false_iff_not, Bool.and_eq_true, Bool.or_eq_true, Bool.and_eq_false_iff, Bool.or_eq_false_iff, beq_iff_eq, bne_iff_ne, beq_eq_false_iff_ne, bne_eq_false_iff_eq, ne_eq, Bool.not_eq_true', Bool.not_eq_false', Int.not_lt, Int.not_le, Bool.not_eq_true, Bool.not_eq_false] at hc127)
        refine wp_skip ?_
        refine then_normal ?_
        refine wp_seq ?_
        refine wp_seq ?_
        refine wp_region_lit ?_
        refine n_q H (q_assign rfl) rfl ?_
        clear H a; intro a H
        refine n_nil ?_
        refine then_normal ?_
        refine wp_block ?_
        replace hS := hS.pick 3 rfl
        dsimp only [List.eraseIdx] at hS
        replace hS := hS.pick 2 rfl
        dsimp only [List.eraseIdx] at hS
        replace hS := hS.pick 2 rfl
        dsimp only [List.eraseIdx] at hS
        replace hS := hS.pick 3 rfl
        dsimp only [List.eraseIdx] at hS
        refine c_loop (σ := Nat × List Value) (fun (j, xs) => [(0, .pointer (some ⟨p, 0, none⟩)), (1, .pointer (some ⟨q, 0, none⟩)), (5, .pointer (some ⟨b5, 0, none⟩)), (7, .slice (some ⟨b7, 0, none⟩) (o.s.size + 2) c7), (9, .int .i64 (j : Nat))]) (fun (j, xs) wl => j ≤ o.s.size + 2 ∧ St fp w wl [ownR 5 1 (.slice (some ⟨b7, 0, none⟩) (o.s.size + 2) c7) (o.s.size + 2) xs, wrR A p u1 (x.app o), rrR q (x.app o), blkR b5 (eOp o) 29]) (fun (j, xs) => o.s.size + 2 - j) (0, (o.s.data.toList ++ [201, 202]).flatMap eB) H ⟨rfl, rfl, rfl, rfl, rfl, trivial⟩ ⟨Nat.zero_le _, hS⟩ ?_
        clear H hS; clear a; intro xx a w75 H hR
        obtain ⟨j, xs⟩ := xx
        simp only [ent, List.map_cons, List.map_nil] at H
        try dsimp only at hR
        obtain ⟨hj, hS⟩ := hR; try clear hR
        refine wp_seq ?_
        refine wp_seq ?_
        refine wp_region_lit ?_
        refine n_q H (q_move rfl) rfl ?_
        clear H a; intro a H
        refine n_q H (q_move rfl) rfl ?_
        clear H a; intro a H
        refine n_q H (q_lenSl Tryd.underlying48 rfl) rfl ?_
        clear H a; intro a H
        refine n_q H (q_lss rfl rfl) rfl ?_
        clear H a; intro a H
        refine n_nil ?_
        refine then_normal ?_
        refine c_cond H rfl (fun hc131 => ?_) (fun hc131 => ?_)
        · (try simp only [decide_eq_true_eq, decide_eq_false_iff_not, Bool.and_eq_true, Bool.or_eq_true, Bool.and_eq_false_iff, Bool.or_eq_false_iff, beq_iff_eq, bne_iff_ne, beq_eq_false_iff_ne, bne_eq_false_iff_eq, ne_eq, Bool.not_eq_true', Bool.not_eq_false', Int.not_lt, Int.not_le, Bool.not_eq_true, Bool.not_eq_false] at hc131)
          have hj1 : j < o.s.size + 2 := by omega
          refine wp_skip ?_
          refine then_normal ?_
          refine wp_seq ?_
          refine wp_block ?_
          refine wp_region_lit ?_
          refine n_q H (q_move rfl) rfl ?_
          clear H a; intro a H
          refine n_q H (q_move rfl) rfl ?_
          clear H a; intro a H
          refine n_q H (q_indexAddr0 (b := b7) (n := o.s.size + 2) (c := c7) (i := j) Tryd.underlying48 sz5 rfl rfl (by omega)) rfl ?_
          clear H a; intro a H
          refine n_storeE1 H rfl rfl sz5 rfl (hS.own 0 rfl) (by omega) ?_
          clear H; intro w76 hN hC77; clear a; intro a H
          replace hS := hS.setOwn hN hC77 (.inl rfl); clear hN
          refine n_nil ?_
          refine block_normal ?_
          refine then_normal ?_
          refine wp_region_lit ?_
          refine n_q H (q_move rfl) rfl ?_
          clear H a; intro a H
          refine n_q H (q_add rfl rfl (by constructor <;> omega)) rfl ?_
          clear H a; intro a H
          refine n_q H (q_assign rfl) rfl ?_
          clear H a; intro a H
          refine n_nil ?_
          refine then_normal ?_
          replace hS := hS.pick 3 rfl
          dsimp only [List.eraseIdx] at hS
          replace hS := hS.pick 3 rfl
          dsimp only [List.eraseIdx] at hS
          replace hS := hS.pick 3 rfl
          dsimp only [List.eraseIdx] at hS
          replace hS := hS.pick 3 rfl
          dsimp only [List.eraseIdx] at hS
          exact round (j + 1, xs.set (j * 1) (.int .u8 99)) H ⟨rfl, rfl, rfl, rfl, rfl, trivial⟩ ⟨by omega, hS⟩ (by first | omega | (dsimp only; omega))
        · (try simp only [decide_eq_true_eq, decide_eq_false_iff_not, Bool.and_eq_true, Bool.or_eq_true, Bool.and_eq_false_iff, Bool.or_eq_false_iff, beq_iff_eq, bne_iff_ne, beq_eq_false_iff_ne, bne_eq_false_iff_eq, ne_eq, Bool.not_eq_true', Bool.not_eq_false', Int.not_lt, Int.not_le, Bool.not_eq_true, Bool.not_eq_false] at hc131)
          refine wp_exit ?_
          refine then_exit ?_
          refine then_exit ?_
          refine block_exit ?_
          refine then_normal ?_
          refine wp_seq ?_
          refine wp_region_lit ?_
          refine n_c H (fun HC => ?_); clear H
          refine nc_q HC (q_fieldAddr0 rfl fo29_0) rfl (by kernel_rfl) ?_
          clear HC a; intro a HC
          refine nc_q HC (q_load rfl ((hS.blk 3 rfl).ld ag3 rfl)) rfl (by kernel_rfl) ?_
          clear HC a; intro a HC
          refine nc_q HC (q_neq rfl rfl) rfl (by kernel_rfl) ?_
          clear HC a; intro a HC
          refine nc_q HC (q_move rfl) rfl (by kernel_rfl) ?_
          clear HC a; intro a HC
          rcases Bool.eq_false_or_eq_true ((o.kind != 8)) with hg141 | hg141
          · rw [hg141] at HC
            refine nc_no HC rfl rfl (by decide) (by kernel_rfl) (by kernel_rfl) (by kernel_rfl) ?_
            clear HC a; intro a HC
            refine nc_no HC rfl rfl (by decide) (by kernel_rfl) (by kernel_rfl) (by kernel_rfl) ?_
            clear HC a; intro a HC
            refine nc_no HC rfl rfl (by decide) (by kernel_rfl) (by kernel_rfl) (by kernel_rfl) ?_
            clear HC a; intro a HC
            refine nc_q HC (q_pickT rfl rfl) rfl (by kernel_rfl) ?_
            clear HC a; intro a HC
            refine nc_q HC (q_assign rfl) rfl (by kernel_rfl) ?_
            clear HC a; intro a HC
            have H := HC.has; clear HC
            refine n_nil ?_
            refine then_normal ?_
            refine wp_ret ?_
            replace hS := hS.pick 2 rfl
            dsimp only [List.eraseIdx] at hS
            replace hS := hS.pick 2 rfl
            dsimp only [List.eraseIdx] at hS
            replace hS := hS.take 2
            simp only [List.take_succ_cons, List.take_zero] at hS
            refine ret1 H (.inr rfl) rfl rfl ?_
            exact ⟨rfl, u1, hS⟩
          · rw [hg141] at HC
            refine nc_yes HC rfl rfl ?_
            refine nc_q HC (q_move rfl) rfl (by kernel_rfl) ?_
            clear HC a; intro a HC
            refine nc_yes HC rfl rfl ?_
            refine nc_q HC (q_move rfl) rfl (by kernel_rfl) ?_
            clear HC a; intro a HC
            refine nc_yes HC rfl rfl ?_
            replace hS := hS.pick 2 rfl
            dsimp only [List.eraseIdx] at hS
            replace hS := hS.pick 2 rfl
            dsimp only [List.eraseIdx] at hS
            obtain ⟨fp143, hG143, hK143, hR143, hF143⟩ := hS.frame2
            refine nc_call HC rfl en15 (done_w (x := x.app o) (fun w' hw => hG _ (hK143 _ hw)) (fun w' hw => hH _ (hK143 _ hw)) (by omega) hG143) rfl (by kernel_rfl) ?_
            clear HC a; intro v80 w78 hv a HC
            obtain ⟨rfl, hE79⟩ := hv
            replace hS := hF143 _ _ hE79
            simp only [List.cons_append, List.nil_append] at hS
            clear hG143 hK143 hR143 hF143
            refine nc_q HC (q_pickF rfl rfl) rfl (by kernel_rfl) ?_
            clear HC a; intro a HC
            refine nc_q HC (q_assign rfl) rfl (by kernel_rfl) ?_
            clear HC a; intro a HC
            have H := HC.has; clear HC
            refine n_nil ?_
            refine then_normal ?_
            refine wp_ret ?_
            replace hS := hS.pick 1 rfl
            dsimp only [List.eraseIdx] at hS
            replace hS := hS.pick 1 rfl
            dsimp only [List.eraseIdx] at hS
            replace hS := hS.take 2
            simp only [List.take_succ_cons, List.take_zero] at hS
            refine ret1 H (.inr rfl) rfl rfl ?_
            exact ⟨rfl, u1, hS⟩

/-- What the puts of a script come to, at the most. -/
def bulkO (l : List OpM) : Nat := (l.map fun o => o.s.size + 7).sum
theorem bulkO_snoc {l : List OpM} {i : Nat} {o : OpM} (h : l[i]? = some o) : bulkO (l.take (i + 1)) = bulkO (l.take i) + (o.s.size + 7) := by
  rw [take_snoc h]; simp [bulkO]
theorem bulkO_le (l : List OpM) (i : Nat) : bulkO (l.take i) ≤ bulkO l := by
  have e : bulkO l = bulkO (l.take i) + bulkO (l.drop i) := by
    have h : l = l.take i ++ l.drop i := (List.take_append_drop i l).symm
    have h2 : ∀ a b : List OpM, bulkO (a ++ b) = bulkO a + bulkO b := fun a b => by simp [bulkO]
    rw [← h2, ← h]
  omega
set_option maxHeartbeats 2000000 in
theorem wireWrites_w {w : World} {A : Nat → Addr} {v : Value} {script : List OpM} (hG : EV A w) (hH : HE w) (h : SlR w 7 (Flat eOp) v script) (hok : ∀ o ∈ script, o.n ≤ 9223372036854775807) (hbk : bulkO script ≤ 16777216) :
    Calls Tryd.prog 3 [v].toArray w (Ret fun r w' => r = .bool true ∧ Ext w w') := by
  have hS := St.begin NB w
  obtain ⟨A0, c0, rfl, hl0, hm0, hn0⟩ := h.form
  refine enter Tryd.func3 rfl rfl rfl ?_
  intro a H
  dsimp only [enumL, Nat.zero_add, Nat.reduceAdd] at H
  refine wp_seq ?_
  refine wp_region_lit ?_
  refine n_q H (q_assign rfl) rfl ?_
  clear H a; intro a H
  refine n_nil ?_
  refine then_normal ?_
  refine wp_seq ?_
  refine wp_seq ?_
  refine wp_region_lit ?_
  refine n_call H rfl en11 (fixed_w (hG.ext hS.x) (hH.ext hS.x)) rfl ?_
  clear H a; intro v3 w1 hv a H
  obtain ⟨rfl, hE2⟩ := hv
  replace hS := hS.ext hE2
  refine n_q H (q_not rfl) rfl ?_
  clear H a; intro a H
  refine n_nil ?_
  refine then_normal ?_
  refine c_cond H rfl (fun hc10 => ?_) (fun hc10 => ?_)
  · skip
    cases hc10
  · skip
    refine wp_skip ?_
    refine then_normal ?_
    refine wp_seq ?_
    refine wp_region_lit ?_
    refine n_call H rfl en12 (newWriter_w (A := A)) rfl ?_
    clear H a; intro v6 w4 hv a H
    obtain ⟨p1, rfl, hE5⟩ := hv
    replace hS := hS.new hE5
    simp only [List.cons_append, List.nil_append] at hS
    refine n_call H rfl en12 (newWriter_w (A := A)) rfl ?_
    clear H a; intro v9 w7 hv a H
    obtain ⟨p2, rfl, hE8⟩ := hv
    replace hS := hS.new hE8
    simp only [List.cons_append, List.nil_append] at hS
    refine n_q H (q_assign rfl) rfl ?_
    clear H a; intro a H
    refine n_q H (q_assign rfl) rfl ?_
    clear H a; intro a H
    refine n_nil ?_
    refine then_normal ?_
    refine wp_seq ?_
    refine wp_region_lit ?_
    refine n_call H rfl en13 (rNew_w) rfl ?_
    clear H a; intro v12 w10 hv a H
    obtain ⟨q1, rfl, hE11⟩ := hv
    replace hS := hS.new hE11
    simp only [List.cons_append, List.nil_append] at hS
    refine n_call H rfl en13 (rNew_w) rfl ?_
    clear H a; intro v15 w13 hv a H
    obtain ⟨q2, rfl, hE14⟩ := hv
    replace hS := hS.new hE14
    simp only [List.cons_append, List.nil_append] at hS
    refine n_q H (q_assign rfl) rfl ?_
    clear H a; intro a H
    refine n_q H (q_assign rfl) rfl ?_
    clear H a; intro a H
    refine n_nil ?_
    refine then_normal ?_
    refine wp_seq ?_
    refine wp_seq ?_
    refine wp_region_lit ?_
    refine n_c H (fun HC => ?_); clear H
    refine nc_q HC (q_move rfl) rfl (by kernel_rfl) ?_
    clear HC a; intro a HC
    refine nc_q HC (q_nilP Tryd.underlying24 rfl rfl) rfl (by kernel_rfl) ?_
    clear HC a; intro a HC
    refine nc_q HC (q_move rfl) rfl (by kernel_rfl) ?_
    clear HC a; intro a HC
    refine nc_g HC (q_move rfl) (by kernel_rfl) (by kernel_rfl) (by kernel_rfl) ?_
    clear HC a; intro a HC
    refine nc_g HC (q_nilP Tryd.underlying24 rfl rfl) (by kernel_rfl) (by kernel_rfl) (by kernel_rfl) ?_
    clear HC a; intro a HC
    refine nc_or (j := 2) HC rfl rfl rfl (by kernel_rfl) (by kernel_rfl) ?_
    clear HC a; intro a HC
    have H := HC.has; clear HC
    refine n_nil ?_
    refine then_normal ?_
    refine c_cond H rfl (fun hc20 => ?_) (fun hc20 => ?_)
    · skip
      cases hc20
    · skip
      refine wp_skip ?_
      refine then_normal ?_
      refine wp_seq ?_
      refine wp_seq ?_
      refine wp_region_lit ?_
      refine n_q H (q_assign rfl) rfl ?_
      clear H a; intro a H
      refine n_nil ?_
      refine then_normal ?_
      refine wp_block ?_
      replace hS := hS.pick 2 rfl
      dsimp only [List.eraseIdx] at hS
      replace hS := hS.pick 2 rfl
      dsimp only [List.eraseIdx] at hS
      replace hS := hS.pick 3 rfl
      dsimp only [List.eraseIdx] at hS
      refine c_loop (σ := Nat × WM × WM) (fun (i, x, y) => [(0, .slice A0 script.length c0), (3, .pointer (some ⟨p1, 0, none⟩)), (4, .pointer (some ⟨p2, 0, none⟩)), (5, .pointer (some ⟨q1, 0, none⟩)), (6, .pointer (some ⟨q2, 0, none⟩)), (7, .int .i64 (i : Nat))]) (fun (i, x, y) wl => i ≤ script.length ∧ x.buf.length + y.buf.length ≤ bulkO (script.take i) ∧ ∃ u1 u2, St NB w wl [wrR A p1 u1 x, rrR q1 x, wrR A p2 u2 y, rrR q2 y]) (fun (i, x, y) => script.length - i) (0, ⟨[], .nil⟩, ⟨[], .nil⟩) H ⟨rfl, rfl, rfl, rfl, rfl, rfl, trivial⟩ ⟨Nat.zero_le _, by simp [bulkO], _, _, hS⟩ ?_
      clear H hS; clear a; intro xx a w16 H hR
      obtain ⟨i, x, y⟩ := xx
      simp only [ent, List.map_cons, List.map_nil] at H
      try dsimp only at hR
      obtain ⟨hi, hxy, u3, u4, hS⟩ := hR; try clear hR
      refine wp_seq ?_
      refine wp_seq ?_
      refine wp_region_lit ?_
      refine n_q H (q_move rfl) rfl ?_
      clear H a; intro a H
      refine n_q H (q_move rfl) rfl ?_
      clear H a; intro a H
      refine n_q H (q_lenSl Tryd.underlying22 rfl) rfl ?_
      clear H a; intro a H
      refine n_q H (q_lss rfl rfl) rfl ?_
      clear H a; intro a H
      refine n_nil ?_
      refine then_normal ?_
      refine c_cond H rfl (fun hc24 => ?_) (fun hc24 => ?_)
      · skip
        have hi1 : i < script.length := by simp at hc24; omega
        obtain ⟨o, hx⟩ := h.at hi1
        obtain ⟨ad0, had⟩ := h.addr hi1
        subst had
        have hb1 := bulkO_snoc hx
        have hb2 := bulkO_le script (i + 1)
        have hb3 := WM.app_len x o
        have hb4 := WM.app_len y o
        refine wp_skip ?_
        refine then_normal ?_
        refine wp_seq ?_
        refine wp_block ?_
        refine wp_seq ?_
        refine wp_region_lit ?_
        refine n_q H (q_assign rfl) rfl ?_
        clear H a; intro a H
        refine n_nil ?_
        refine then_normal ?_
        refine wp_seq ?_
        refine wp_seq ?_
        refine wp_region_lit ?_
        refine n_q H (q_move rfl) rfl ?_
        clear H a; intro a H
        refine n_q H (q_move rfl) rfl ?_
        clear H a; intro a H
        refine n_q H (q_indexAddr Tryd.underlying22 sz29 rfl rfl (by omega) (by omega)) rfl ?_
        clear H a; intro a H
        refine n_q H (q_fieldAddr rfl fo29_1) rfl ?_
        clear H a; intro a H
        refine n_q H (q_load rfl (LdX.ext ((h.ldCell ag4 hx (j := 1) rfl)) hS.x)) rfl ?_
        clear H a; intro a H
        refine n_nil ?_
        refine then_normal ?_
        refine c_cond H rfl (fun hc31 => ?_) (fun hc31 => ?_)
        · skip
          refine wp_region_lit ?_
          refine n_q H (q_move rfl) rfl ?_
          clear H a; intro a H
          refine n_q H (q_move rfl) rfl ?_
          clear H a; intro a H
          refine n_q H (q_move rfl) rfl ?_
          clear H a; intro a H
          refine n_q H (q_move rfl) rfl ?_
          clear H a; intro a H
          refine n_q H (q_indexAddr Tryd.underlying22 sz29 rfl rfl (by omega) (by omega)) rfl ?_
          clear H a; intro a H
          refine n_q H (q_load rfl (LdX.ext ((h.ldAgg ag29 sz29 hx)) hS.x)) rfl ?_
          clear H a; intro a H
          replace hS := hS.pick 3 rfl
          dsimp only [List.eraseIdx] at hS
          replace hS := hS.pick 3 rfl
          dsimp only [List.eraseIdx] at hS
          obtain ⟨fp38, hG38, hK38, hR38, hF38⟩ := hS.frame2
          refine n_call H rfl en14 (puts_w (x := y) (o := o) (fun w' hw => hG.ext (hK38 _ hw).ext) (fun w' hw => hH.ext (hK38 _ hw).ext) (by omega) (hok o (List.mem_of_getElem? hx)) hG38) rfl ?_
          clear H a; intro v19 w17 hv a H
          obtain ⟨rfl, u1, hE18⟩ := hv
          replace hS := hF38 _ _ hE18
          simp only [List.cons_append, List.nil_append] at hS
          clear hG38 hK38 hR38 hF38
          refine n_q H (q_assign rfl) rfl ?_
          clear H a; intro a H
          refine n_nil ?_
          refine then_normal ?_
          refine wp_seq ?_
          refine wp_region_lit ?_
          refine n_q H (q_move rfl) rfl ?_
          clear H a; intro a H
          refine n_q H (q_not rfl) rfl ?_
          clear H a; intro a H
          refine n_nil ?_
          refine then_normal ?_
          refine c_cond H rfl (fun hc47 => ?_) (fun hc47 => ?_)
          · skip
            cases hc47
          · skip
            refine wp_skip ?_
            refine block_normal ?_
            refine then_normal ?_
            refine wp_region_lit ?_
            refine n_q H (q_move rfl) rfl ?_
            clear H a; intro a H
            refine n_q H (q_add rfl rfl (by constructor <;> omega)) rfl ?_
            clear H a; intro a H
            refine n_q H (q_assign rfl) rfl ?_
            clear H a; intro a H
            refine n_nil ?_
            refine then_normal ?_
            replace hS := hS.pick 1 rfl
            dsimp only [List.eraseIdx] at hS
            replace hS := hS.pick 1 rfl
            dsimp only [List.eraseIdx] at hS
            replace hS := hS.pick 3 rfl
            dsimp only [List.eraseIdx] at hS
            replace hS := hS.pick 3 rfl
            dsimp only [List.eraseIdx] at hS
            exact round (i + 1, x, y.app o) H ⟨rfl, rfl, rfl, rfl, rfl, rfl, trivial⟩ ⟨by omega, by omega, _, _, hS⟩ (by first | omega | (dsimp only; omega))
        · skip
          refine wp_region_lit ?_
          refine n_q H (q_move rfl) rfl ?_
          clear H a; intro a H
          refine n_q H (q_move rfl) rfl ?_
          clear H a; intro a H
          refine n_q H (q_move rfl) rfl ?_
          clear H a; intro a H
          refine n_q H (q_move rfl) rfl ?_
          clear H a; intro a H
          refine n_q H (q_indexAddr Tryd.underlying22 sz29 rfl rfl (by omega) (by omega)) rfl ?_
          clear H a; intro a H
          refine n_q H (q_load rfl (LdX.ext ((h.ldAgg ag29 sz29 hx)) hS.x)) rfl ?_
          clear H a; intro a H
          replace hS := hS.pick 1 rfl
          dsimp only [List.eraseIdx] at hS
          replace hS := hS.pick 1 rfl
          dsimp only [List.eraseIdx] at hS
          obtain ⟨fp45, hG45, hK45, hR45, hF45⟩ := hS.frame2
          refine n_call H rfl en14 (puts_w (x := x) (o := o) (fun w' hw => hG.ext (hK45 _ hw).ext) (fun w' hw => hH.ext (hK45 _ hw).ext) (by omega) (hok o (List.mem_of_getElem? hx)) hG45) rfl ?_
          clear H a; intro v22 w20 hv a H
          obtain ⟨rfl, u1, hE21⟩ := hv
          replace hS := hF45 _ _ hE21
          simp only [List.cons_append, List.nil_append] at hS
          clear hG45 hK45 hR45 hF45
          refine n_q H (q_assign rfl) rfl ?_
          clear H a; intro a H
          refine n_nil ?_
          refine then_normal ?_
          refine wp_seq ?_
          refine wp_region_lit ?_
          refine n_q H (q_move rfl) rfl ?_
          clear H a; intro a H
          refine n_q H (q_not rfl) rfl ?_
          clear H a; intro a H
          refine n_nil ?_
          refine then_normal ?_
          refine c_cond H rfl (fun hc47 => ?_) (fun hc47 => ?_)
          · skip
            cases hc47
          · skip
            refine wp_skip ?_
            refine block_normal ?_
            refine then_normal ?_
            refine wp_region_lit ?_
            refine n_q H (q_move rfl) rfl ?_
            clear H a; intro a H
            refine n_q H (q_add rfl rfl (by constructor <;> omega)) rfl ?_
            clear H a; intro a H
            refine n_q H (q_assign rfl) rfl ?_
            clear H a; intro a H
            refine n_nil ?_
            refine then_normal ?_
            replace hS := hS.pick 3 rfl
            dsimp only [List.eraseIdx] at hS
            replace hS := hS.pick 3 rfl
            dsimp only [List.eraseIdx] at hS
            replace hS := hS.pick 3 rfl
            dsimp only [List.eraseIdx] at hS
            replace hS := hS.pick 3 rfl
            dsimp only [List.eraseIdx] at hS
            exact round (i + 1, x.app o, y) H ⟨rfl, rfl, rfl, rfl, rfl, rfl, trivial⟩ ⟨by omega, by omega, _, _, hS⟩ (by first | omega | (dsimp only; omega))
      · skip
        have hb2 := bulkO_le script i
        refine wp_exit ?_
        refine then_exit ?_
        refine then_exit ?_
        refine block_exit ?_
        refine then_normal ?_
        refine wp_seq ?_
        refine wp_region_lit ?_
        refine n_c H (fun HC => ?_); clear H
        refine nc_q HC (q_move rfl) rfl (by kernel_rfl) ?_
        clear HC a; intro a HC
        refine nc_q HC (q_move rfl) rfl (by kernel_rfl) ?_
        clear HC a; intro a HC
        replace hS := hS.pick 1 rfl
        dsimp only [List.eraseIdx] at hS
        replace hS := hS.pick 1 rfl
        dsimp only [List.eraseIdx] at hS
        obtain ⟨fp50, hG50, hK50, hR50, hF50⟩ := hS.frame2
        refine nc_call HC rfl en15 (done_w (x := x) (fun w' hw => hG.ext (hK50 _ hw).ext) (fun w' hw => hH.ext (hK50 _ hw).ext) (by omega) hG50) rfl (by kernel_rfl) ?_
        clear HC a; intro v25 w23 hv a HC
        obtain ⟨rfl, hE24⟩ := hv
        replace hS := hF50 _ _ hE24
        simp only [List.cons_append, List.nil_append] at hS
        clear hG50 hK50 hR50 hF50
        refine nc_q HC (q_move rfl) rfl (by kernel_rfl) ?_
        clear HC a; intro a HC
        refine nc_yes HC rfl rfl ?_
        refine nc_q HC (q_move rfl) rfl (by kernel_rfl) ?_
        clear HC a; intro a HC
        refine nc_yes HC rfl rfl ?_
        refine nc_q HC (q_move rfl) rfl (by kernel_rfl) ?_
        clear HC a; intro a HC
        refine nc_yes HC rfl rfl ?_
        replace hS := hS.pick 3 rfl
        dsimp only [List.eraseIdx] at hS
        replace hS := hS.pick 3 rfl
        dsimp only [List.eraseIdx] at hS
        obtain ⟨fp54, hG54, hK54, hR54, hF54⟩ := hS.frame2
        refine nc_call HC rfl en15 (done_w (x := y) (fun w' hw => hG.ext (hK54 _ hw).ext) (fun w' hw => hH.ext (hK54 _ hw).ext) (by omega) hG54) rfl (by kernel_rfl) ?_
        clear HC a; intro v28 w26 hv a HC
        obtain ⟨rfl, hE27⟩ := hv
        replace hS := hF54 _ _ hE27
        simp only [List.cons_append, List.nil_append] at hS
        clear hG54 hK54 hR54 hF54
        refine nc_and (j := 3) HC rfl rfl rfl (by kernel_rfl) (by kernel_rfl) ?_
        clear HC a; intro a HC
        refine nc_q HC (q_assign rfl) rfl (by kernel_rfl) ?_
        clear HC a; intro a HC
        have H := HC.has; clear HC
        refine n_nil ?_
        refine then_normal ?_
        refine wp_ret ?_
        refine ret1 H (.inr rfl) rfl rfl ?_
        exact ⟨rfl, hS.x⟩

end Go.Proofs.YtdglaodhmlocdaaDoor
