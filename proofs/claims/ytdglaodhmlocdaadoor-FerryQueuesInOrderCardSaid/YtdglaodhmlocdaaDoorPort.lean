/- The package port, step by step (written by wip/tools) -/
import Derived.Test.YtdglaodhmlocdaaDoorGlob
import Derived.Test.YtdglaodhmlocdaaDoorChecked
set_option linter.unusedVariables false
set_option linter.unusedSimpArgs false
set_option maxRecDepth 10000
namespace Go.Proofs.YtdglaodhmlocdaaDoor
open Go Go.RowKit
theorem ag3 : aggB Tryd.prog 3 = some false := by kernel_rfl
theorem ag43 : aggB Tryd.prog 43 = some false := by kernel_rfl
theorem ag87 : aggB Tryd.prog 87 = some false := by kernel_rfl
theorem ag9 : aggB Tryd.prog 9 = some false := by kernel_rfl
theorem ag90 : aggB Tryd.prog 90 = some true := by kernel_rfl
theorem ag93 : aggB Tryd.prog 93 = some true := by kernel_rfl
theorem bd93 : bdB Tryd.prog 93 = true := by kernel_rfl
theorem pl93 : placesB Tryd.prog 93 = some #[(0, 1), (1, 1)] := by kernel_rfl
theorem el9 : ElemOk Tryd.prog 9 1 16 [.string ⟨#[]⟩] := ⟨by kernel_rfl, by kernel_rfl, by kernel_rfl, rfl, by decide⟩
theorem en116 : entersB Tryd.prog 116 = true := by kernel_rfl
theorem en117 : entersB Tryd.prog 117 = true := by kernel_rfl
theorem en118 : entersB Tryd.prog 118 = true := by kernel_rfl
theorem en121 : entersB Tryd.prog 121 = true := by kernel_rfl
theorem en42 : entersB Tryd.prog 42 = true := by kernel_rfl
theorem en46 : entersB Tryd.prog 46 = true := by kernel_rfl
theorem en88 : entersB Tryd.prog 88 = true := by kernel_rfl
theorem en89 : entersB Tryd.prog 89 = true := by kernel_rfl
theorem en90 : entersB Tryd.prog 90 = true := by kernel_rfl
theorem en91 : entersB Tryd.prog 91 = true := by kernel_rfl
theorem en92 : entersB Tryd.prog 92 = true := by kernel_rfl
theorem en93 : entersB Tryd.prog 93 = true := by kernel_rfl
theorem en94 : entersB Tryd.prog 94 = true := by kernel_rfl
theorem fo90_0 : fOff Tryd.prog 90 0 = some 0 := by kernel_rfl
theorem fo90_1 : fOff Tryd.prog 90 1 = some 1 := by kernel_rfl
theorem fo90_2 : fOff Tryd.prog 90 2 = some 2 := by kernel_rfl
theorem fo90_3 : fOff Tryd.prog 90 3 = some 3 := by kernel_rfl
theorem fo93_0 : fOff Tryd.prog 93 0 = some 0 := by kernel_rfl
theorem fo93_1 : fOff Tryd.prog 93 1 = some 1 := by kernel_rfl
theorem sz9 : sizeB Tryd.prog 9 = some 1 := by kernel_rfl
theorem sz90 : sizeB Tryd.prog 90 = some 4 := by kernel_rfl
theorem sz93 : sizeB Tryd.prog 93 = some 2 := by kernel_rfl
theorem ze9 : zeroB Tryd.prog 9 = some [.string ⟨#[]⟩] := by kernel_rfl
theorem ze93 : zeroB Tryd.prog 93 = some [.slice none 0 0, .int .i64 0] := by kernel_rfl

structure PPlanM where
  kind : Int
  size : Int
  depth : Int
  refresh : Int
  deriving DecidableEq
def isInM (p : PPlanM) : Bool := p.kind == 1 || p.kind == 3
def isOutM (p : PPlanM) : Bool := p.kind == 2 || p.kind == 4
def isQueueM (p : PPlanM) : Bool := p.kind == 3 || p.kind == 4
theorem isIn_w {w : World} {p : PPlanM} : Calls Tryd.prog 89 [.agg #[.int .i64 p.kind, .int .i64 p.size, .int .i64 p.depth, .int .i64 p.refresh]].toArray w (Ret fun u w' => u = .bool (isInM p) ∧ Ext w w') := by
  refine enter Tryd.func89 rfl rfl rfl ?_
  intro a H
  dsimp only [enumL, Nat.zero_add, Nat.reduceAdd] at H
  refine wp_seq ?_
  refine wp_region_lit ?_
  refine n_box H rfl (cs := _) rfl rfl ?_
  clear H; intro b1 w1 hB1 hE2 hs_b1; clear a; intro a H
  have hw_b1 : w.heap.size ≤ b1 := by omega
  have hX := hE2
  refine n_q H (q_assign rfl) rfl ?_
  clear H a; intro a H
  refine n_nil ?_
  refine then_normal ?_
  refine wp_seq ?_
  refine wp_region_lit ?_
  refine n_c H (fun HC => ?_); clear H
  refine nc_q HC (q_fieldAddr0 rfl fo90_0) rfl (by kernel_rfl) ?_
  clear HC a; intro a HC
  refine nc_q HC (q_load rfl (hB1.ld ag3 rfl)) rfl (by kernel_rfl) ?_
  clear HC a; intro a HC
  refine nc_q HC (q_eql rfl rfl) rfl (by kernel_rfl) ?_
  clear HC a; intro a HC
  refine nc_q HC (q_move rfl) rfl (by kernel_rfl) ?_
  clear HC a; intro a HC
  refine nc_g HC (q_fieldAddr0 rfl fo90_0) (by kernel_rfl) (by kernel_rfl) (by kernel_rfl) ?_
  clear HC a; intro a HC
  refine nc_g HC (q_load rfl (hB1.ld ag3 rfl)) (by kernel_rfl) (by kernel_rfl) (by kernel_rfl) ?_
  clear HC a; intro a HC
  refine nc_g HC (q_eql rfl rfl) (by kernel_rfl) (by kernel_rfl) (by kernel_rfl) ?_
  clear HC a; intro a HC
  refine nc_or (j := 3) HC rfl rfl rfl (by kernel_rfl) (by kernel_rfl) ?_
  clear HC a; intro a HC
  refine nc_q HC (q_assign rfl) rfl (by kernel_rfl) ?_
  clear HC a; intro a HC
  have H := HC.has; clear HC
  refine n_nil ?_
  refine then_normal ?_
  refine wp_ret ?_
  refine ret1 H (.inr rfl) rfl rfl ?_
  exact ⟨rfl, hX⟩

theorem isOut_w {w : World} {p : PPlanM} : Calls Tryd.prog 90 [.agg #[.int .i64 p.kind, .int .i64 p.size, .int .i64 p.depth, .int .i64 p.refresh]].toArray w (Ret fun u w' => u = .bool (isOutM p) ∧ Ext w w') := by
  refine enter Tryd.func90 rfl rfl rfl ?_
  intro a H
  dsimp only [enumL, Nat.zero_add, Nat.reduceAdd] at H
  refine wp_seq ?_
  refine wp_region_lit ?_
  refine n_box H rfl (cs := _) rfl rfl ?_
  clear H; intro b1 w1 hB1 hE2 hs_b1; clear a; intro a H
  have hw_b1 : w.heap.size ≤ b1 := by omega
  have hX := hE2
  refine n_q H (q_assign rfl) rfl ?_
  clear H a; intro a H
  refine n_nil ?_
  refine then_normal ?_
  refine wp_seq ?_
  refine wp_region_lit ?_
  refine n_c H (fun HC => ?_); clear H
  refine nc_q HC (q_fieldAddr0 rfl fo90_0) rfl (by kernel_rfl) ?_
  clear HC a; intro a HC
  refine nc_q HC (q_load rfl (hB1.ld ag3 rfl)) rfl (by kernel_rfl) ?_
  clear HC a; intro a HC
  refine nc_q HC (q_eql rfl rfl) rfl (by kernel_rfl) ?_
  clear HC a; intro a HC
  refine nc_q HC (q_move rfl) rfl (by kernel_rfl) ?_
  clear HC a; intro a HC
  refine nc_g HC (q_fieldAddr0 rfl fo90_0) (by kernel_rfl) (by kernel_rfl) (by kernel_rfl) ?_
  clear HC a; intro a HC
  refine nc_g HC (q_load rfl (hB1.ld ag3 rfl)) (by kernel_rfl) (by kernel_rfl) (by kernel_rfl) ?_
  clear HC a; intro a HC
  refine nc_g HC (q_eql rfl rfl) (by kernel_rfl) (by kernel_rfl) (by kernel_rfl) ?_
  clear HC a; intro a HC
  refine nc_or (j := 3) HC rfl rfl rfl (by kernel_rfl) (by kernel_rfl) ?_
  clear HC a; intro a HC
  refine nc_q HC (q_assign rfl) rfl (by kernel_rfl) ?_
  clear HC a; intro a HC
  have H := HC.has; clear HC
  refine n_nil ?_
  refine then_normal ?_
  refine wp_ret ?_
  refine ret1 H (.inr rfl) rfl rfl ?_
  exact ⟨rfl, hX⟩

theorem isQueue_w {w : World} {p : PPlanM} : Calls Tryd.prog 88 [.agg #[.int .i64 p.kind, .int .i64 p.size, .int .i64 p.depth, .int .i64 p.refresh]].toArray w (Ret fun u w' => u = .bool (isQueueM p) ∧ Ext w w') := by
  refine enter Tryd.func88 rfl rfl rfl ?_
  intro a H
  dsimp only [enumL, Nat.zero_add, Nat.reduceAdd] at H
  refine wp_seq ?_
  refine wp_region_lit ?_
  refine n_box H rfl (cs := _) rfl rfl ?_
  clear H; intro b1 w1 hB1 hE2 hs_b1; clear a; intro a H
  have hw_b1 : w.heap.size ≤ b1 := by omega
  have hX := hE2
  refine n_q H (q_assign rfl) rfl ?_
  clear H a; intro a H
  refine n_nil ?_
  refine then_normal ?_
  refine wp_seq ?_
  refine wp_region_lit ?_
  refine n_c H (fun HC => ?_); clear H
  refine nc_q HC (q_fieldAddr0 rfl fo90_0) rfl (by kernel_rfl) ?_
  clear HC a; intro a HC
  refine nc_q HC (q_load rfl (hB1.ld ag3 rfl)) rfl (by kernel_rfl) ?_
  clear HC a; intro a HC
  refine nc_q HC (q_eql rfl rfl) rfl (by kernel_rfl) ?_
  clear HC a; intro a HC
  refine nc_q HC (q_move rfl) rfl (by kernel_rfl) ?_
  clear HC a; intro a HC
  refine nc_g HC (q_fieldAddr0 rfl fo90_0) (by kernel_rfl) (by kernel_rfl) (by kernel_rfl) ?_
  clear HC a; intro a HC
  refine nc_g HC (q_load rfl (hB1.ld ag3 rfl)) (by kernel_rfl) (by kernel_rfl) (by kernel_rfl) ?_
  clear HC a; intro a HC
  refine nc_g HC (q_eql rfl rfl) (by kernel_rfl) (by kernel_rfl) (by kernel_rfl) ?_
  clear HC a; intro a HC
  refine nc_or (j := 3) HC rfl rfl rfl (by kernel_rfl) (by kernel_rfl) ?_
  clear HC a; intro a HC
  refine nc_q HC (q_assign rfl) rfl (by kernel_rfl) ?_
  clear HC a; intro a HC
  have H := HC.has; clear HC
  refine n_nil ?_
  refine then_normal ?_
  refine wp_ret ?_
  refine ret1 H (.inr rfl) rfl rfl ?_
  exact ⟨rfl, hX⟩

abbrev gPlan : List Nat := [6, 11, 3]
def badKind (p : PPlanM) : Bool := !isInM p && !isOutM p
def badSize (p : PPlanM) : Bool := decide (p.size < 1) || decide (32 < p.size)
def mostDepth (p : PPlanM) : Int := if isQueueM p = true then 8 else 1
def mostFresh (p : PPlanM) : Int := if (p.kind == 1) = true then 255 else 0
def badRange (p : PPlanM) : Bool := ((decide (p.depth < 1) || decide (mostDepth p < p.depth)) || decide (p.refresh < 0)) || decide (mostFresh p < p.refresh)
/-- port.CheckPlan. -/
def checkPlanM (p : PPlanM) : Option Nat := if badKind p = true then some 6 else if badSize p = true then some 11 else if badRange p = true then some 3 else none
theorem checkPlan_w {w : World} {A : Nat → Addr} {p : PPlanM} (hG : GV 198 gPlan A w) :
    Calls Tryd.prog 42 [.agg #[.int .i64 p.kind, .int .i64 p.size, .int .i64 p.depth, .int .i64 p.refresh]].toArray w (Ret fun u w' => u = eV 198 A (checkPlanM p) ∧ Ext w w') := by
  refine enter Tryd.func42 rfl rfl rfl ?_
  intro a H
  dsimp only [enumL, Nat.zero_add, Nat.reduceAdd] at H
  refine wp_seq ?_
  refine wp_region_lit ?_
  refine n_box H rfl (cs := _) rfl rfl ?_
  clear H; intro b1 w1 hB1 hE2 hs_b1; clear a; intro a H
  have hw_b1 : w.heap.size ≤ b1 := by omega
  have hX := hE2
  refine n_q H (q_assign rfl) rfl ?_
  clear H a; intro a H
  refine n_nil ?_
  refine then_normal ?_
  refine wp_seq ?_
  refine wp_region_lit ?_
  refine n_q H (q_assign rfl) rfl ?_
  clear H a; intro a H
  refine n_q H (q_assign rfl) rfl ?_
  clear H a; intro a H
  refine n_nil ?_
  refine then_normal ?_
  refine c_join (σ := Int) H (fun x => [(1, .pointer (some ⟨b1, 0, none⟩)), (2, .nilIface), (3, .int .i64 x), (4, .int .i64 0)]) (fun x wl => x = mostDepth p ∧ Ext w1 wl) ?_ ?_
  · skip
    have hJ3 := Ext.rfl' (w := w1)
    refine wp_seq ?_
    refine wp_region_lit ?_
    refine n_q H (q_load rfl (hB1.ldAll ag90 sz90)) rfl ?_
    clear H a; intro a H
    refine n_call H rfl en88 (isQueue_w) rfl ?_
    clear H a; intro v6 w4 hv a H
    obtain ⟨rfl, hE5⟩ := hv
    replace hB1 := hB1.ext hE5
    replace hX := Ext.trans' hX hE5
    replace hJ3 := Ext.trans' hJ3 hE5
    refine n_nil ?_
    refine then_normal ?_
    refine c_cond H rfl (fun hc6 => ?_) (fun hc6 => ?_)
    · skip
      refine wp_region_lit ?_
      refine n_q H (q_assign rfl) rfl ?_
      clear H a; intro a H
      refine n_nil ?_
      refine then_normal ?_
      exact join 8 H ⟨rfl, rfl, rfl, rfl, trivial⟩ ⟨by simp [mostDepth, hc6], hJ3⟩
    · skip
      refine wp_skip ?_
      refine then_normal ?_
      exact join 1 H ⟨rfl, rfl, rfl, rfl, trivial⟩ ⟨by simp [mostDepth, hc6], hJ3⟩
  · clear H; clear a
    intro x a w7 H hR
    simp only [ent, List.map_cons, List.map_nil] at H
    try dsimp only at hR
    obtain ⟨rfl, hE8⟩ := hR
    replace hB1 := hB1.ext hE8
    replace hX := Ext.trans' hX hE8
    refine c_join (σ := Int) H (fun x => [(1, .pointer (some ⟨b1, 0, none⟩)), (2, .nilIface), (3, .int .i64 (mostDepth p)), (4, .int .i64 x)]) (fun x wl => x = mostFresh p ∧ Ext w7 wl) ?_ ?_
    · skip
      have hJ9 := Ext.rfl' (w := w7)
      refine wp_seq ?_
      refine wp_region_lit ?_
      refine n_q H (q_fieldAddr0 rfl fo90_0) rfl ?_
      clear H a; intro a H
      refine n_q H (q_load rfl (hB1.ld ag3 rfl)) rfl ?_
      clear H a; intro a H
      refine n_q H (q_eql rfl rfl) rfl ?_
      clear H a; intro a H
      refine n_nil ?_
      refine then_normal ?_
      refine c_cond H rfl (fun hc9 => ?_) (fun hc9 => ?_)
      · skip
        refine wp_region_lit ?_
        refine n_q H (q_assign rfl) rfl ?_
        clear H a; intro a H
        refine n_nil ?_
        refine then_normal ?_
        exact join 255 H ⟨rfl, rfl, rfl, rfl, trivial⟩ ⟨by simp only [mostFresh, hc9, if_true], hJ9⟩
      · skip
        refine wp_skip ?_
        refine then_normal ?_
        exact join 0 H ⟨rfl, rfl, rfl, rfl, trivial⟩ ⟨by simp only [mostFresh, hc9, Bool.false_eq_true, if_false], hJ9⟩
    · clear H; clear a
      intro x a w10 H hR
      simp only [ent, List.map_cons, List.map_nil] at H
      try dsimp only at hR
      obtain ⟨rfl, hE11⟩ := hR
      replace hB1 := hB1.ext hE11
      replace hX := Ext.trans' hX hE11
      refine wp_seq ?_
      refine wp_block ?_
      refine wp_seq ?_
      refine wp_region_lit ?_
      refine n_c H (fun HC => ?_); clear H
      refine nc_q HC (q_load rfl (hB1.ldAll ag90 sz90)) rfl (by kernel_rfl) ?_
      clear HC a; intro a HC
      refine nc_call HC rfl en89 (isIn_w) rfl (by kernel_rfl) ?_
      clear HC a; intro v14 w12 hv a HC
      obtain ⟨rfl, hE13⟩ := hv
      replace hB1 := hB1.ext hE13
      replace hX := Ext.trans' hX hE13
      refine nc_q HC (q_not rfl) rfl (by kernel_rfl) ?_
      clear HC a; intro a HC
      refine nc_q HC (q_move rfl) rfl (by kernel_rfl) ?_
      clear HC a; intro a HC
      refine nc_g HC (q_load rfl (hB1.ldAll ag90 sz90)) (by kernel_rfl) (by kernel_rfl) (by kernel_rfl) ?_
      clear HC a; intro a HC
      refine nc_gcall0 HC rfl en90 (isOut_w) (by kernel_rfl) (by kernel_rfl) (by kernel_rfl) ?_
      clear HC a; intro w15 hE16 a HC
      replace hB1 := hB1.ext hE16
      replace hX := Ext.trans' hX hE16
      refine nc_g HC (q_not rfl) (by kernel_rfl) (by kernel_rfl) (by kernel_rfl) ?_
      clear HC a; intro a HC
      refine nc_and (j := 3) HC rfl rfl rfl (by kernel_rfl) (by kernel_rfl) ?_
      clear HC a; intro a HC
      refine nc_q HC (q_assign rfl) rfl (by kernel_rfl) ?_
      clear HC a; intro a HC
      have H := HC.has; clear HC
      refine n_nil ?_
      refine then_normal ?_
      refine c_cond H rfl (fun hc10 => ?_) (fun hc10 => ?_)
      · skip
        have q10 : badKind p = true := hc10
        refine wp_seq ?_
        refine wp_region_lit ?_
        refine n_q H (q_load rfl (LdX.ext (hG.ld 6 (by simp) ag43) hX)) rfl ?_
        clear H a; intro a H
        refine n_q H (q_assign rfl) rfl ?_
        clear H a; intro a H
        refine n_nil ?_
        refine then_normal ?_
        refine wp_ret ?_
        refine block_ret ?_
        refine then_ret ?_
        refine ret1 H (.inr rfl) rfl rfl ?_
        exact ⟨by simp [checkPlanM, q10, eV], hX⟩
      · skip
        have q10 : badKind p = false := hc10
        refine wp_seq ?_
        refine wp_region_lit ?_
        refine n_c H (fun HC => ?_); clear H
        refine nc_q HC (q_fieldAddr0 rfl fo90_1) rfl (by kernel_rfl) ?_
        clear HC a; intro a HC
        refine nc_q HC (q_load rfl (hB1.ld ag3 rfl)) rfl (by kernel_rfl) ?_
        clear HC a; intro a HC
        refine nc_q HC (q_lss rfl rfl) rfl (by kernel_rfl) ?_
        clear HC a; intro a HC
        refine nc_q HC (q_move rfl) rfl (by kernel_rfl) ?_
        clear HC a; intro a HC
        refine nc_g HC (q_fieldAddr0 rfl fo90_1) (by kernel_rfl) (by kernel_rfl) (by kernel_rfl) ?_
        clear HC a; intro a HC
        refine nc_g HC (q_load rfl (hB1.ld ag3 rfl)) (by kernel_rfl) (by kernel_rfl) (by kernel_rfl) ?_
        clear HC a; intro a HC
        refine nc_g HC (q_gtr rfl rfl) (by kernel_rfl) (by kernel_rfl) (by kernel_rfl) ?_
        clear HC a; intro a HC
        refine nc_or (j := 3) HC rfl rfl rfl (by kernel_rfl) (by kernel_rfl) ?_
        clear HC a; intro a HC
        refine nc_q HC (q_assign rfl) rfl (by kernel_rfl) ?_
        clear HC a; intro a HC
        have H := HC.has; clear HC
        refine n_nil ?_
        refine then_normal ?_
        refine c_cond H rfl (fun hc20 => ?_) (fun hc20 => ?_)
        · skip
          have q20 : badSize p = true := hc20
          refine wp_seq ?_
          refine wp_region_lit ?_
          refine n_q H (q_load rfl (LdX.ext (hG.ld 11 (by simp) ag43) hX)) rfl ?_
          clear H a; intro a H
          refine n_q H (q_assign rfl) rfl ?_
          clear H a; intro a H
          refine n_nil ?_
          refine then_normal ?_
          refine wp_ret ?_
          refine block_ret ?_
          refine then_ret ?_
          refine ret1 H (.inr rfl) rfl rfl ?_
          exact ⟨by simp [checkPlanM, q10, q20, eV], hX⟩
        · skip
          have q20 : badSize p = false := hc20
          refine wp_seq ?_
          refine wp_region_lit ?_
          refine n_c H (fun HC => ?_); clear H
          refine nc_q HC (q_fieldAddr0 rfl fo90_2) rfl (by kernel_rfl) ?_
          clear HC a; intro a HC
          refine nc_q HC (q_load rfl (hB1.ld ag3 rfl)) rfl (by kernel_rfl) ?_
          clear HC a; intro a HC
          refine nc_q HC (q_lss rfl rfl) rfl (by kernel_rfl) ?_
          clear HC a; intro a HC
          refine nc_q HC (q_move rfl) rfl (by kernel_rfl) ?_
          clear HC a; intro a HC
          refine nc_g HC (q_fieldAddr0 rfl fo90_2) (by kernel_rfl) (by kernel_rfl) (by kernel_rfl) ?_
          clear HC a; intro a HC
          refine nc_g HC (q_load rfl (hB1.ld ag3 rfl)) (by kernel_rfl) (by kernel_rfl) (by kernel_rfl) ?_
          clear HC a; intro a HC
          refine nc_g HC (q_move rfl) (by kernel_rfl) (by kernel_rfl) (by kernel_rfl) ?_
          clear HC a; intro a HC
          refine nc_g HC (q_gtr rfl rfl) (by kernel_rfl) (by kernel_rfl) (by kernel_rfl) ?_
          clear HC a; intro a HC
          refine nc_or (j := 3) HC rfl rfl rfl (by kernel_rfl) (by kernel_rfl) ?_
          clear HC a; intro a HC
          refine nc_q HC (q_move rfl) rfl (by kernel_rfl) ?_
          clear HC a; intro a HC
          refine nc_g HC (q_fieldAddr0 rfl fo90_3) (by kernel_rfl) (by kernel_rfl) (by kernel_rfl) ?_
          clear HC a; intro a HC
          refine nc_g HC (q_load rfl (hB1.ld ag3 rfl)) (by kernel_rfl) (by kernel_rfl) (by kernel_rfl) ?_
          clear HC a; intro a HC
          refine nc_g HC (q_lss rfl rfl) (by kernel_rfl) (by kernel_rfl) (by kernel_rfl) ?_
          clear HC a; intro a HC
          refine nc_or (j := 9) HC rfl rfl rfl (by kernel_rfl) (by kernel_rfl) ?_
          clear HC a; intro a HC
          refine nc_q HC (q_move rfl) rfl (by kernel_rfl) ?_
          clear HC a; intro a HC
          refine nc_g HC (q_fieldAddr0 rfl fo90_3) (by kernel_rfl) (by kernel_rfl) (by kernel_rfl) ?_
          clear HC a; intro a HC
          refine nc_g HC (q_load rfl (hB1.ld ag3 rfl)) (by kernel_rfl) (by kernel_rfl) (by kernel_rfl) ?_
          clear HC a; intro a HC
          refine nc_g HC (q_move rfl) (by kernel_rfl) (by kernel_rfl) (by kernel_rfl) ?_
          clear HC a; intro a HC
          refine nc_g HC (q_gtr rfl rfl) (by kernel_rfl) (by kernel_rfl) (by kernel_rfl) ?_
          clear HC a; intro a HC
          refine nc_or (j := 14) HC rfl rfl rfl (by kernel_rfl) (by kernel_rfl) ?_
          clear HC a; intro a HC
          refine nc_q HC (q_assign rfl) rfl (by kernel_rfl) ?_
          clear HC a; intro a HC
          have H := HC.has; clear HC
          refine n_nil ?_
          refine then_normal ?_
          refine c_cond H rfl (fun hc30 => ?_) (fun hc30 => ?_)
          · skip
            have q30 : badRange p = true := hc30
            refine wp_seq ?_
            refine wp_region_lit ?_
            refine n_q H (q_load rfl (LdX.ext (hG.ld 3 (by simp) ag43) hX)) rfl ?_
            clear H a; intro a H
            refine n_q H (q_assign rfl) rfl ?_
            clear H a; intro a H
            refine n_nil ?_
            refine then_normal ?_
            refine wp_ret ?_
            refine block_ret ?_
            refine then_ret ?_
            refine ret1 H (.inr rfl) rfl rfl ?_
            exact ⟨by simp [checkPlanM, q10, q20, q30, eV], hX⟩
          · skip
            have q30 : badRange p = false := hc30
            refine wp_skip ?_
            refine block_normal ?_
            refine then_normal ?_
            refine wp_seq ?_
            refine wp_region_lit ?_
            refine n_q H (q_assign rfl) rfl ?_
            clear H a; intro a H
            refine n_nil ?_
            refine then_normal ?_
            refine wp_ret ?_
            refine ret1 H (.inr rfl) rfl rfl ?_
            exact ⟨by simp [checkPlanM, q10, q20, q30, eV], hX⟩

/-- slices.IndexFunc. -/
def idxM {α : Type} (q : α → Bool) (xs : List α) : Int := ((xs.findIdx? q).map Int.ofNat).getD (-1)
theorem idx_at {α : Type} {q : α → Bool} : ∀ {xs : List α} {i : Nat} {x : α}, (∀ y ∈ xs.take i, q y = false) → xs[i]? = some x → q x = true → idxM q xs = i
  | [], i, x, _, h, _ => by simp at h
  | y :: ys, 0, x, _, h, hq => by
    simp only [List.getElem?_cons_zero, Option.some.injEq] at h
    subst h
    simp [idxM, List.findIdx?_cons, hq]
  | y :: ys, i + 1, x, hn, h, hq => by
    simp only [List.getElem?_cons_succ] at h
    have h1 := hn y (by simp)
    have ih := idx_at (xs := ys) (i := i) (fun z hz => hn z (by simp [hz])) h hq
    simp only [idxM, List.findIdx?_cons, h1, Bool.false_eq_true, if_false] at ih ⊢
    cases hf : ys.findIdx? q with
    | none => (exfalso; simp [hf] at ih <;> omega)
    | some j => (simp [hf] at ih ⊢ <;> omega)
theorem idx_none {α : Type} {q : α → Bool} {xs : List α} (h : ∀ y ∈ xs, q y = false) : idxM q xs = -1 := by
  have : xs.findIdx? q = none := List.findIdx?_eq_none_iff.2 h
  simp [idxM, this]
theorem idx_any {α : Type} {q : α → Bool} {xs : List α} : decide (0 ≤ idxM q xs) = xs.any q := by
  cases h : xs.findIdx? q with
  | none =>
    have := List.findIdx?_eq_none_iff.1 h
    have e : xs.any q = false := by simpa using this
    rw [e]; simp [idxM, h]
  | some j =>
    obtain ⟨hj, hq, _⟩ := List.findIdx?_eq_some_iff_getElem.1 h
    have e : xs.any q = true := List.any_eq_true.2 ⟨_, List.getElem_mem hj, hq⟩
    rw [e]; simp [idxM, h]
theorem indexFunc_string {w : World} {v : Value} {xs : List ByteArray} {f : Nat} {cap : List Value} {q : ByteArray → Bool} (h : SlR w 1 (Flat eS) v xs) (hen : entersB Tryd.prog f = true) (hf : ∀ w' s, Ext w w' → Calls Tryd.prog f ([] ++ [Value.string s] ++ cap).toArray w' (Ret fun u w'' => u = .bool (q s) ∧ Ext w' w'')) :
    Calls Tryd.prog 121 [v, .func (.func f) #[] cap.toArray].toArray w (Ret fun u w' => u = .int .i64 (idxM q xs) ∧ Ext w w') := by
  obtain ⟨A1, c1, rfl, hl1, hm1, hn1⟩ := h.form
  refine enter Tryd.func121 rfl rfl rfl ?_
  intro a H
  dsimp only [enumL, Nat.zero_add, Nat.reduceAdd] at H
  refine wp_seq ?_
  refine wp_region_lit ?_
  refine n_q H (q_assign rfl) rfl ?_
  clear H a; intro a H
  refine n_nil ?_
  refine then_normal ?_
  refine wp_seq ?_
  refine wp_seq ?_
  refine wp_region_lit ?_
  refine n_q H (q_move rfl) rfl ?_
  clear H a; intro a H
  refine n_q H (q_lenSl Tryd.underlying87 rfl) rfl ?_
  clear H a; intro a H
  refine n_q H (q_move rfl) rfl ?_
  clear H a; intro a H
  refine n_nil ?_
  refine then_normal ?_
  refine wp_block ?_
  refine c_loop (σ := Nat) (fun i => [(0, .slice A1 xs.length c1), (1, .func (.func f) #[] cap.toArray), (7, .int .i64 (xs.length : Nat)), (8, .int .i64 (i : Nat))]) (fun i wl => i ≤ xs.length ∧ (∀ y ∈ xs.take i, q y = false) ∧ Ext w wl) (fun i => xs.length - i) 0 H ⟨rfl, rfl, rfl, rfl, trivial⟩ ⟨Nat.zero_le _, by simp, Ext.rfl'⟩ ?_
  clear H; clear a; intro i a w1 H hR
  simp only [ent, List.map_cons, List.map_nil] at H
  try dsimp only at hR
  obtain ⟨hi, hno, hE2⟩ := hR
  have hX := hE2
  have hY3 := hE2
  refine wp_seq ?_
  refine wp_region_lit ?_
  refine n_q H (q_lss rfl rfl) rfl ?_
  clear H a; intro a H
  refine n_nil ?_
  refine then_normal ?_
  refine wp_seq ?_
  refine c_cond H rfl (fun hc9 => ?_) (fun hc9 => ?_)
  · (try simp only [decide_eq_true_eq, decide_eq_false_iff_not, Bool.and_eq_true, Bool.or_eq_true, Bool.and_eq_false_iff, Bool.or_eq_false_iff, beq_iff_eq, bne_iff_ne, beq_eq_false_iff_ne, bne_eq_false_iff_eq, ne_eq, Bool.not_eq_true', Bool.not_eq_false', Int.not_lt, Int.not_le, Bool.not_eq_true, Bool.not_eq_false] at hc9)
    have hi1 : i < xs.length := by omega
    obtain ⟨x, hx⟩ := h.at hi1
    obtain ⟨ad, rfl⟩ := h.addr hi1
    refine wp_skip ?_
    refine then_normal ?_
    refine wp_seq ?_
    refine wp_block ?_
    refine wp_seq ?_
    refine wp_region_lit ?_
    refine n_q H (q_move rfl) rfl ?_
    clear H a; intro a H
    refine n_q H (q_assign rfl) rfl ?_
    clear H a; intro a H
    refine n_nil ?_
    refine then_normal ?_
    refine wp_seq ?_
    refine wp_region_lit ?_
    refine n_q H (q_move rfl) rfl ?_
    clear H a; intro a H
    refine n_q H (q_move rfl) rfl ?_
    clear H a; intro a H
    refine n_q H (q_move rfl) rfl ?_
    clear H a; intro a H
    refine n_q H (q_indexAddr Tryd.underlying87 sz9 rfl rfl (by omega) (by omega)) rfl ?_
    clear H a; intro a H
    refine n_q H (q_load rfl (LdX.ext (h.ldOne ag9 hx rfl) hX)) rfl ?_
    clear H a; intro a H
    refine n_callv H rfl rfl hen (hf _ _ hX) rfl ?_
    clear H a; intro v6 w4 hv a H
    obtain ⟨rfl, hE5⟩ := hv
    replace hX := Ext.trans' hX hE5
    replace hY3 := Ext.trans' hY3 hE5
    refine n_nil ?_
    refine then_normal ?_
    refine c_cond H rfl (fun hc16 => ?_) (fun hc16 => ?_)
    · (try simp only [decide_eq_true_eq, decide_eq_false_iff_not, Bool.and_eq_true, Bool.or_eq_true, Bool.and_eq_false_iff, Bool.or_eq_false_iff, beq_iff_eq, bne_iff_ne, beq_eq_false_iff_ne, bne_eq_false_iff_eq, ne_eq, Bool.not_eq_true', Bool.not_eq_false', Int.not_lt, Int.not_le, Bool.not_eq_true, Bool.not_eq_false] at hc16)
      refine wp_seq ?_
      refine wp_region_lit ?_
      refine n_q H (q_move rfl) rfl ?_
      clear H a; intro a H
      refine n_q H (q_assign rfl) rfl ?_
      clear H a; intro a H
      refine n_nil ?_
      refine then_normal ?_
      refine wp_ret ?_
      refine block_ret ?_
      refine then_ret ?_
      refine then_ret ?_
      refine block_ret ?_
      refine then_ret ?_
      refine ret1 H (.inr rfl) rfl rfl ?_
      exact ⟨congrArg (Value.int .i64) (idx_at hno hx hc16).symm, hX⟩
    · (try simp only [decide_eq_true_eq, decide_eq_false_iff_not, Bool.and_eq_true, Bool.or_eq_true, Bool.and_eq_false_iff, Bool.or_eq_false_iff, beq_iff_eq, bne_iff_ne, beq_eq_false_iff_ne, bne_eq_false_iff_eq, ne_eq, Bool.not_eq_true', Bool.not_eq_false', Int.not_lt, Int.not_le, Bool.not_eq_true, Bool.not_eq_false] at hc16)
      refine wp_skip ?_
      refine block_normal ?_
      refine then_normal ?_
      refine wp_region_lit ?_
      refine n_q H (q_add rfl rfl (by constructor <;> omega)) rfl ?_
      clear H a; intro a H
      refine n_q H (q_move rfl) rfl ?_
      clear H a; intro a H
      refine n_nil ?_
      refine then_normal ?_
      exact round (i + 1) H ⟨rfl, rfl, rfl, rfl, trivial⟩ ⟨by omega, by rw [take_snoc hx]; intro y hy; rcases List.mem_append.1 hy with hy | hy; exact hno y hy; rw [List.mem_singleton.1 hy]; exact hc16, hY3⟩ (by first | omega | (dsimp only; omega))
  · (try simp only [decide_eq_true_eq, decide_eq_false_iff_not, Bool.and_eq_true, Bool.or_eq_true, Bool.and_eq_false_iff, Bool.or_eq_false_iff, beq_iff_eq, bne_iff_ne, beq_eq_false_iff_ne, bne_eq_false_iff_eq, ne_eq, Bool.not_eq_true', Bool.not_eq_false', Int.not_lt, Int.not_le, Bool.not_eq_true, Bool.not_eq_false] at hc9)
    rw [List.take_of_length_le (by omega)] at hno
    refine wp_exit ?_
    refine then_exit ?_
    refine then_exit ?_
    refine block_exit ?_
    refine then_normal ?_
    refine wp_seq ?_
    refine wp_region_lit ?_
    refine n_q H (q_assign rfl) rfl ?_
    clear H a; intro a H
    refine n_nil ?_
    refine then_normal ?_
    refine wp_ret ?_
    refine ret1 H (.inr rfl) rfl rfl ?_
    exact ⟨congrArg (Value.int .i64) (idx_none hno).symm, hX⟩

theorem containsFunc_string {w : World} {v : Value} {xs : List ByteArray} {f : Nat} {cap : List Value} {q : ByteArray → Bool} (h : SlR w 1 (Flat eS) v xs) (hen : entersB Tryd.prog f = true) (hf : ∀ w' s, Ext w w' → Calls Tryd.prog f ([] ++ [Value.string s] ++ cap).toArray w' (Ret fun u w'' => u = .bool (q s) ∧ Ext w' w'')) :
    Calls Tryd.prog 117 [v, .func (.func f) #[] cap.toArray].toArray w (Ret fun u w' => u = .bool (xs.any q) ∧ Ext w w') := by
  refine enter Tryd.func117 rfl rfl rfl ?_
  intro a H
  dsimp only [enumL, Nat.zero_add, Nat.reduceAdd] at H
  refine wp_seq ?_
  refine wp_region_lit ?_
  refine n_q H (q_assign rfl) rfl ?_
  clear H a; intro a H
  refine n_nil ?_
  refine then_normal ?_
  refine wp_seq ?_
  refine wp_region_lit ?_
  refine n_q H (q_move rfl) rfl ?_
  clear H a; intro a H
  refine n_q H (q_move rfl) rfl ?_
  clear H a; intro a H
  refine n_call H rfl en121 (indexFunc_string (h.ext (Flat.mono _) Ext.rfl') hen (fun w' s hw => hf w' s (Ext.trans' Ext.rfl' hw))) rfl ?_
  clear H a; intro v3 w1 hv a H
  obtain ⟨rfl, hE2⟩ := hv
  have hX := hE2
  refine n_q H (q_geq rfl rfl) rfl ?_
  clear H a; intro a H
  refine n_q H (q_assign rfl) rfl ?_
  clear H a; intro a H
  refine n_nil ?_
  refine then_normal ?_
  refine wp_ret ?_
  refine ret1 H (.inr rfl) rfl rfl ?_
  exact ⟨congrArg Value.bool idx_any, hX⟩

theorem fits1_w {w : World} {b T : Nat} {s : ByteArray} {p : PPlanM} (hB : Blk w b [.int .i64 p.kind, .int .i64 p.size, .int .i64 p.depth, .int .i64 p.refresh] T) :
    Calls Tryd.prog 118 [.string s, .pointer (some ⟨b, 0, none⟩)].toArray w (Ret fun u w' => u = .bool (decide (p.size < s.size)) ∧ Ext w w') := by
  refine enter Tryd.func118 rfl rfl rfl ?_
  intro a H
  dsimp only [enumL, Nat.zero_add, Nat.reduceAdd] at H
  refine wp_seq ?_
  refine wp_region_lit ?_
  refine n_q H (q_assign rfl) rfl ?_
  clear H a; intro a H
  refine n_nil ?_
  refine then_normal ?_
  refine wp_seq ?_
  refine wp_region_lit ?_
  refine n_q H (q_move rfl) rfl ?_
  clear H a; intro a H
  refine n_q H (q_lenS Tryd.underlying9 rfl) rfl ?_
  clear H a; intro a H
  refine n_q H (q_fieldAddr0 rfl fo90_1) rfl ?_
  clear H a; intro a H
  refine n_q H (q_load rfl (hB.ld ag3 rfl)) rfl ?_
  clear H a; intro a H
  refine n_q H (q_gtr rfl rfl) rfl ?_
  clear H a; intro a H
  refine n_q H (q_assign rfl) rfl ?_
  clear H a; intro a H
  refine n_nil ?_
  refine then_normal ?_
  refine wp_ret ?_
  refine ret1 H (.inr rfl) rfl rfl ?_
  exact ⟨rfl, Ext.rfl'⟩

def badFill (p : PPlanM) (q : PortM) : Bool := (decide (p.depth < (q.msgs.length : Int)) || decide (q.age < 0)) || decide (255 < q.age)
def badAge (p : PPlanM) (q : PortM) : Bool := q.age != 0 && (p.kind != 1 || ((q.msgs.length : Int) == 0))
/-- port.fits. -/
def fitsM (p : PPlanM) (q : PortM) : Bool := !badFill p q && !badAge p q && !(q.msgs.any fun m => decide (p.size < m.size))
set_option maxHeartbeats 2000000 in
theorem fits_w {w : World} {m : Value} {p : PPlanM} {q : PortM} (h : SlR w 1 (Flat eS) m q.msgs) :
    Calls Tryd.prog 94 [.agg #[.int .i64 p.kind, .int .i64 p.size, .int .i64 p.depth, .int .i64 p.refresh], .agg #[m, .int .i64 q.age]].toArray w (Ret fun u w' => u = .bool (fitsM p q) ∧ Ext w w') := by
  obtain ⟨A1, c1, rfl, hl1, hm1, hn1⟩ := h.form
  refine enter Tryd.func94 rfl rfl rfl ?_
  intro a H
  dsimp only [enumL, Nat.zero_add, Nat.reduceAdd] at H
  refine wp_seq ?_
  refine wp_region_lit ?_
  refine n_box H rfl (cs := _) rfl rfl ?_
  clear H; intro b2 w1 hB2 hE2 hs_b2; clear a; intro a H
  have hw_b2 : w.heap.size ≤ b2 := by omega
  have hX := hE2
  refine n_box H rfl (cs := _) rfl rfl ?_
  clear H; intro b3 w3 hB3 hE4 hs_b3; clear a; intro a H
  have hn_b2_b3 : b2 ≠ b3 := by have := hB2.lt; omega
  have hn_b3_b2 := hn_b2_b3.symm
  have hlt_b2_b3 : b2 < b3 := by have := hB2.lt; omega
  have hw_b3 : w.heap.size ≤ b3 := by have := hX.size; omega
  replace hB2 := hB2.ext hE4
  replace hX := Ext.trans' hX hE4
  refine n_q H (q_assign rfl) rfl ?_
  clear H a; intro a H
  refine n_nil ?_
  refine then_normal ?_
  refine wp_seq ?_
  refine wp_seq ?_
  refine wp_region_lit ?_
  refine n_c H (fun HC => ?_); clear H
  refine nc_q HC (q_fieldAddr0 rfl fo93_0) rfl (by kernel_rfl) ?_
  clear HC a; intro a HC
  refine nc_q HC (q_load rfl (hB3.ld ag87 rfl)) rfl (by kernel_rfl) ?_
  clear HC a; intro a HC
  refine nc_q HC (q_lenSl Tryd.underlying87 rfl) rfl (by kernel_rfl) ?_
  clear HC a; intro a HC
  refine nc_q HC (q_fieldAddr0 rfl fo90_2) rfl (by kernel_rfl) ?_
  clear HC a; intro a HC
  refine nc_q HC (q_load rfl (hB2.ld ag3 rfl)) rfl (by kernel_rfl) ?_
  clear HC a; intro a HC
  refine nc_q HC (q_gtr rfl rfl) rfl (by kernel_rfl) ?_
  clear HC a; intro a HC
  refine nc_q HC (q_move rfl) rfl (by kernel_rfl) ?_
  clear HC a; intro a HC
  refine nc_g HC (q_fieldAddr0 rfl fo93_1) (by kernel_rfl) (by kernel_rfl) (by kernel_rfl) ?_
  clear HC a; intro a HC
  refine nc_g HC (q_load rfl (hB3.ld ag3 rfl)) (by kernel_rfl) (by kernel_rfl) (by kernel_rfl) ?_
  clear HC a; intro a HC
  refine nc_g HC (q_lss rfl rfl) (by kernel_rfl) (by kernel_rfl) (by kernel_rfl) ?_
  clear HC a; intro a HC
  refine nc_or (j := 6) HC rfl rfl rfl (by kernel_rfl) (by kernel_rfl) ?_
  clear HC a; intro a HC
  refine nc_q HC (q_move rfl) rfl (by kernel_rfl) ?_
  clear HC a; intro a HC
  refine nc_g HC (q_fieldAddr0 rfl fo93_1) (by kernel_rfl) (by kernel_rfl) (by kernel_rfl) ?_
  clear HC a; intro a HC
  refine nc_g HC (q_load rfl (hB3.ld ag3 rfl)) (by kernel_rfl) (by kernel_rfl) (by kernel_rfl) ?_
  clear HC a; intro a HC
  refine nc_g HC (q_gtr rfl rfl) (by kernel_rfl) (by kernel_rfl) (by kernel_rfl) ?_
  clear HC a; intro a HC
  refine nc_or (j := 11) HC rfl rfl rfl (by kernel_rfl) (by kernel_rfl) ?_
  clear HC a; intro a HC
  have H := HC.has; clear HC
  refine n_nil ?_
  refine then_normal ?_
  refine c_cond H rfl (fun hc20 => ?_) (fun hc20 => ?_)
  · skip
    have q20 : badFill p q = true := hc20
    refine wp_seq ?_
    refine wp_region_lit ?_
    refine n_q H (q_assign rfl) rfl ?_
    clear H a; intro a H
    refine n_nil ?_
    refine then_normal ?_
    refine wp_ret ?_
    refine then_ret ?_
    refine ret1 H (.inr rfl) rfl rfl ?_
    exact ⟨by simp [fitsM, q20], hX⟩
  · skip
    have q20 : badFill p q = false := hc20
    refine wp_skip ?_
    refine then_normal ?_
    refine wp_seq ?_
    refine wp_seq ?_
    refine wp_region_lit ?_
    refine n_c H (fun HC => ?_); clear H
    refine nc_q HC (q_fieldAddr0 rfl fo93_1) rfl (by kernel_rfl) ?_
    clear HC a; intro a HC
    refine nc_q HC (q_load rfl (hB3.ld ag3 rfl)) rfl (by kernel_rfl) ?_
    clear HC a; intro a HC
    refine nc_q HC (q_neq rfl rfl) rfl (by kernel_rfl) ?_
    clear HC a; intro a HC
    refine nc_q HC (q_move rfl) rfl (by kernel_rfl) ?_
    clear HC a; intro a HC
    refine nc_g HC (q_fieldAddr0 rfl fo90_0) (by kernel_rfl) (by kernel_rfl) (by kernel_rfl) ?_
    clear HC a; intro a HC
    refine nc_g HC (q_load rfl (hB2.ld ag3 rfl)) (by kernel_rfl) (by kernel_rfl) (by kernel_rfl) ?_
    clear HC a; intro a HC
    refine nc_g HC (q_neq rfl rfl) (by kernel_rfl) (by kernel_rfl) (by kernel_rfl) ?_
    clear HC a; intro a HC
    refine nc_g HC (q_move rfl) (by kernel_rfl) (by kernel_rfl) (by kernel_rfl) ?_
    clear HC a; intro a HC
    refine nc_g HC (q_fieldAddr0 rfl fo93_0) (by kernel_rfl) (by kernel_rfl) (by kernel_rfl) ?_
    clear HC a; intro a HC
    refine nc_g HC (q_load rfl (hB3.ld ag87 rfl)) (by kernel_rfl) (by kernel_rfl) (by kernel_rfl) ?_
    clear HC a; intro a HC
    refine nc_g HC (q_lenSl Tryd.underlying87 rfl) (by kernel_rfl) (by kernel_rfl) (by kernel_rfl) ?_
    clear HC a; intro a HC
    refine nc_g HC (q_eql rfl rfl) (by kernel_rfl) (by kernel_rfl) (by kernel_rfl) ?_
    clear HC a; intro a HC
    refine nc_org (j := 7) HC rfl rfl rfl (by kernel_rfl) (by kernel_rfl) (by kernel_rfl) ?_
    clear HC a; intro a HC
    refine nc_and (j := 3) HC rfl rfl rfl (by kernel_rfl) (by kernel_rfl) ?_
    clear HC a; intro a HC
    have H := HC.has; clear HC
    refine n_nil ?_
    refine then_normal ?_
    refine c_cond H rfl (fun hc34 => ?_) (fun hc34 => ?_)
    · skip
      have q34 : badAge p q = true := hc34
      refine wp_seq ?_
      refine wp_region_lit ?_
      refine n_q H (q_assign rfl) rfl ?_
      clear H a; intro a H
      refine n_nil ?_
      refine then_normal ?_
      refine wp_ret ?_
      refine then_ret ?_
      refine ret1 H (.inr rfl) rfl rfl ?_
      exact ⟨by simp [fitsM, q20, q34], hX⟩
    · skip
      have q34 : badAge p q = false := hc34
      refine wp_skip ?_
      refine then_normal ?_
      refine wp_seq ?_
      refine wp_region_lit ?_
      refine n_q H (q_fieldAddr0 rfl fo93_0) rfl ?_
      clear H a; intro a H
      refine n_q H (q_load rfl (hB3.ld ag87 rfl)) rfl ?_
      clear H a; intro a H
      refine n_q H (q_makeFunc (f := []) (c := [.pointer (some ⟨b2, 0, none⟩)]) rfl rfl) rfl ?_
      clear H a; intro a H
      refine n_call H rfl en117 (containsFunc_string (q := fun m => decide (p.size < m.size)) (h.ext (Flat.mono _) hX) en118 (fun w' s hw => fits1_w (hB2.ext hw))) rfl ?_
      clear H a; intro v7 w5 hv a H
      obtain ⟨rfl, hE6⟩ := hv
      replace hB2 := hB2.ext hE6
      replace hB3 := hB3.ext hE6
      replace hX := Ext.trans' hX hE6
      refine n_q H (q_not rfl) rfl ?_
      clear H a; intro a H
      refine n_q H (q_assign rfl) rfl ?_
      clear H a; intro a H
      refine n_nil ?_
      refine then_normal ?_
      refine wp_ret ?_
      refine ret1 H (.inr rfl) rfl rfl ?_
      exact ⟨by simp [fitsM, q20, q34], hX⟩

abbrev gPort : List Nat := gPlan ++ [7, 8, 16, 12]
/-- port.Check. -/
def checkM (p : PPlanM) (q : PortM) : Option Nat := if (checkPlanM p).isSome = true then some 7 else if fitsM p q = true then none else some 8
theorem check_w {w : World} {A : Nat → Addr} {m : Value} {p : PPlanM} {q : PortM} (hG : GV 198 gPort A w) (h : SlR w 1 (Flat eS) m q.msgs) :
    Calls Tryd.prog 46 [.agg #[.int .i64 p.kind, .int .i64 p.size, .int .i64 p.depth, .int .i64 p.refresh], .agg #[m, .int .i64 q.age]].toArray w (Ret fun u w' => u = eV 198 A (checkM p q) ∧ Ext w w') := by
  refine enter Tryd.func46 rfl rfl rfl ?_
  intro a H
  dsimp only [enumL, Nat.zero_add, Nat.reduceAdd] at H
  refine wp_seq ?_
  refine wp_region_lit ?_
  refine n_box H rfl (cs := _) rfl rfl ?_
  clear H; intro b2 w1 hB2 hE2 hs_b2; clear a; intro a H
  have hw_b2 : w.heap.size ≤ b2 := by omega
  have hX := hE2
  refine n_box H rfl (cs := _) rfl rfl ?_
  clear H; intro b3 w3 hB3 hE4 hs_b3; clear a; intro a H
  have hn_b2_b3 : b2 ≠ b3 := by have := hB2.lt; omega
  have hn_b3_b2 := hn_b2_b3.symm
  have hlt_b2_b3 : b2 < b3 := by have := hB2.lt; omega
  have hw_b3 : w.heap.size ≤ b3 := by have := hX.size; omega
  replace hB2 := hB2.ext hE4
  replace hX := Ext.trans' hX hE4
  refine n_q H (q_assign rfl) rfl ?_
  clear H a; intro a H
  refine n_nil ?_
  refine then_normal ?_
  refine wp_seq ?_
  refine wp_seq ?_
  refine wp_region_lit ?_
  refine n_q H (q_load rfl (hB2.ldAll ag90 sz90)) rfl ?_
  clear H a; intro a H
  refine n_call H rfl en42 (checkPlan_w ((hG.ext hX).sub (by simp))) rfl ?_
  clear H a; intro v7 w5 hv a H
  obtain ⟨rfl, hE6⟩ := hv
  replace hB2 := hB2.ext hE6
  replace hB3 := hB3.ext hE6
  replace hX := Ext.trans' hX hE6
  refine n_q H (q_nnilI Tryd.underlying43 rfl rfl (eV_form _ _ _)) rfl ?_
  clear H a; intro a H
  refine n_nil ?_
  refine then_normal ?_
  refine c_cond H rfl (fun hc7 => ?_) (fun hc7 => ?_)
  · skip
    have q7 : (checkPlanM p).isSome = true := by rw [eV_nil] at hc7; revert hc7; cases checkPlanM p <;> simp
    refine wp_seq ?_
    refine wp_region_lit ?_
    refine n_q H (q_load rfl (LdX.ext (hG.ld 7 (by simp) ag43) hX)) rfl ?_
    clear H a; intro a H
    refine n_q H (q_assign rfl) rfl ?_
    clear H a; intro a H
    refine n_nil ?_
    refine then_normal ?_
    refine wp_ret ?_
    refine then_ret ?_
    refine ret1 H (.inr rfl) rfl rfl ?_
    exact ⟨by simp [checkM, q7, eV], hX⟩
  · skip
    have q7 : (checkPlanM p).isSome = false := by rw [eV_nil] at hc7; revert hc7; cases checkPlanM p <;> simp
    refine wp_skip ?_
    refine then_normal ?_
    refine wp_seq ?_
    refine wp_seq ?_
    refine wp_region_lit ?_
    refine n_q H (q_load rfl (hB2.ldAll ag90 sz90)) rfl ?_
    clear H a; intro a H
    refine n_q H (q_load rfl (hB3.ldAll ag93 sz93)) rfl ?_
    clear H a; intro a H
    refine n_call H rfl en94 (fits_w (h.ext (Flat.mono _) hX)) rfl ?_
    clear H a; intro v10 w8 hv a H
    obtain ⟨rfl, hE9⟩ := hv
    replace hB2 := hB2.ext hE9
    replace hB3 := hB3.ext hE9
    replace hX := Ext.trans' hX hE9
    refine n_q H (q_not rfl) rfl ?_
    clear H a; intro a H
    refine n_nil ?_
    refine then_normal ?_
    refine c_cond H rfl (fun hc12 => ?_) (fun hc12 => ?_)
    · skip
      have q12 : fitsM p q = false := by simpa using hc12
      refine wp_seq ?_
      refine wp_region_lit ?_
      refine n_q H (q_load rfl (LdX.ext (hG.ld 8 (by simp) ag43) hX)) rfl ?_
      clear H a; intro a H
      refine n_q H (q_assign rfl) rfl ?_
      clear H a; intro a H
      refine n_nil ?_
      refine then_normal ?_
      refine wp_ret ?_
      refine then_ret ?_
      refine ret1 H (.inr rfl) rfl rfl ?_
      exact ⟨by simp [checkM, q7, q12, eV], hX⟩
    · skip
      have q12 : fitsM p q = true := by simpa using hc12
      refine wp_skip ?_
      refine then_normal ?_
      refine wp_seq ?_
      refine wp_region_lit ?_
      refine n_q H (q_assign rfl) rfl ?_
      clear H a; intro a H
      refine n_nil ?_
      refine then_normal ?_
      refine wp_ret ?_
      refine ret1 H (.inr rfl) rfl rfl ?_
      exact ⟨by simp [checkM, q7, q12, eV], hX⟩

theorem clone_string {w : World} {v : Value} {xs : List ByteArray} (h : Sl w 1 16 (Flat eS) v xs) :
    Calls Tryd.prog 91 [v].toArray w (Ret fun u w' => Own w' 9 1 u xs.length (xs.flatMap eS) ∧ Ext w w' ∧ ∀ b ∈ blks u, w.heap.size ≤ b) := by
  obtain ⟨A1, c1, rfl, hl1, hm1, hn1⟩ := h.r.form
  have hbb := h.b
  simp only [lim] at hbb
  refine enter Tryd.func91 rfl rfl rfl ?_
  intro a H
  dsimp only [enumL, Nat.zero_add, Nat.reduceAdd] at H
  refine wp_seq ?_
  refine wp_region_lit ?_
  refine n_q H (q_assign rfl) rfl ?_
  clear H a; intro a H
  refine n_nil ?_
  refine then_normal ?_
  refine wp_seq ?_
  refine wp_seq ?_
  refine wp_region_lit ?_
  refine n_q H (q_move rfl) rfl ?_
  clear H a; intro a H
  refine n_q H (q_nilSl Tryd.underlying87 rfl rfl) rfl ?_
  clear H a; intro a H
  refine n_nil ?_
  refine then_normal ?_
  refine c_cond H rfl (fun hc4 => ?_) (fun hc4 => ?_)
  · (try simp only [decide_eq_true_eq, decide_eq_false_iff_not, Bool.and_eq_true, Bool.or_eq_true, Bool.and_eq_false_iff, Bool.or_eq_false_iff, beq_iff_eq, bne_iff_ne, beq_eq_false_iff_ne, bne_eq_false_iff_eq, ne_eq, Bool.not_eq_true', Bool.not_eq_false', Int.not_lt, Int.not_le, Bool.not_eq_true, Bool.not_eq_false] at hc4)
    refine wp_seq ?_
    refine wp_region_lit ?_
    refine n_q H (q_assign rfl) rfl ?_
    clear H a; intro a H
    refine n_nil ?_
    refine then_normal ?_
    refine wp_ret ?_
    refine then_ret ?_
    refine ret1 H (.inr rfl) rfl rfl ?_
    exact ⟨by cases A1 with | none => (obtain ⟨rfl, _⟩ := hn1 rfl; exact Own.nil _ _ _) | some ad => simp at hc4, Ext.rfl', by simp [blks]⟩
  · (try simp only [decide_eq_true_eq, decide_eq_false_iff_not, Bool.and_eq_true, Bool.or_eq_true, Bool.and_eq_false_iff, Bool.or_eq_false_iff, beq_iff_eq, bne_iff_ne, beq_eq_false_iff_ne, bne_eq_false_iff_eq, ne_eq, Bool.not_eq_true', Bool.not_eq_false', Int.not_lt, Int.not_le, Bool.not_eq_true, Bool.not_eq_false] at hc4)
    refine wp_skip ?_
    refine then_normal ?_
    refine wp_seq ?_
    refine wp_region_lit ?_
    refine n_buildSlice H Tryd.underlying87 sz9 ze9 rfl rfl rfl (cs := []) (by kernel_rfl) rfl ?_
    clear H; intro b5 w1 hB5 hE2 hs_b5; clear a; intro a H
    have hw_b5 : w.heap.size ≤ b5 := by omega
    have hX := hE2
    refine n_q H (q_move rfl) rfl ?_
    clear H a; intro a H
    refine n_append H rfl rfl Tryd.underlying87 Tryd.underlying87 (by simp) el9 (Own.ofBlk (n := 0) hB5 rfl (by simp [maxLen])) ((h.r.ext (Flat.mono _) hX).src h.r.lens) (flat_one eS_one xs) (by omega) (by simp only [maxLen]; omega) rfl ?_
    clear H; intro v7 w3 hO7 hC4 hb7 hnil7; clear a; intro a H
    have hX' := hX
    have hfr := fresh_of hb7 (by simp [blks]; omega) (by have := hX'.size; omega)
    simp only [List.nil_append, Nat.zero_add] at hO7
    replace hX := Chg.below hX hC4 (Nat.le_refl _) (by simp [blks] <;> omega)
    refine n_q H (q_assign rfl) rfl ?_
    clear H a; intro a H
    refine n_nil ?_
    refine then_normal ?_
    refine wp_ret ?_
    refine ret1 H (.inr rfl) rfl rfl ?_
    exact ⟨hO7, hX, hfr⟩

theorem clip_string {w : World} {A : Option Addr} {n c : Nat} (hn : n ≤ c) : Calls Tryd.prog 116 [.slice A n c].toArray w (Ret fun u w' => u = .slice A n n ∧ Ext w w') := by
  refine enter Tryd.func116 rfl rfl rfl ?_
  intro a H
  dsimp only [enumL, Nat.zero_add, Nat.reduceAdd] at H
  refine wp_seq ?_
  refine wp_region_lit ?_
  refine n_q H (q_assign rfl) rfl ?_
  clear H a; intro a H
  refine n_nil ?_
  refine then_normal ?_
  refine wp_seq ?_
  refine wp_region_lit ?_
  refine n_q H (q_move rfl) rfl ?_
  clear H a; intro a H
  refine n_q H (q_move rfl) rfl ?_
  clear H a; intro a H
  refine n_q H (q_lenSl Tryd.underlying87 rfl) rfl ?_
  clear H a; intro a H
  refine n_q H (q_move rfl) rfl ?_
  clear H a; intro a H
  refine n_q H (q_lenSl Tryd.underlying87 rfl) rfl ?_
  clear H a; intro a H
  refine n_q H (q_slice3 Tryd.underlying87 sz9 rfl rfl rfl (by omega) (by omega) (by omega)) rfl ?_
  clear H a; intro a H
  refine n_q H (q_assign rfl) rfl ?_
  clear H a; intro a H
  refine n_nil ?_
  refine then_normal ?_
  refine wp_ret ?_
  refine ret1 H (.inr rfl) rfl rfl ?_
  exact ⟨rfl, Ext.rfl'⟩

def clampM (z lo hi : Int) : Int := if z < lo then lo else if hi < z then hi else z
theorem clamp_w {w : World} {z lo hi : Int} : Calls Tryd.prog 41 [.int .i64 z, .int .i64 lo, .int .i64 hi].toArray w (Ret fun u w' => u = .int .i64 (clampM z lo hi) ∧ Ext w w') := by
  refine enter Tryd.func41 rfl rfl rfl ?_
  intro a H
  dsimp only [enumL, Nat.zero_add, Nat.reduceAdd] at H
  refine wp_seq ?_
  refine wp_region_lit ?_
  refine n_q H (q_assign rfl) rfl ?_
  clear H a; intro a H
  refine n_nil ?_
  refine then_normal ?_
  refine wp_seq ?_
  refine wp_seq ?_
  refine wp_region_lit ?_
  refine n_q H (q_move rfl) rfl ?_
  clear H a; intro a H
  refine n_q H (q_move rfl) rfl ?_
  clear H a; intro a H
  refine n_q H (q_lss rfl rfl) rfl ?_
  clear H a; intro a H
  refine n_nil ?_
  refine then_normal ?_
  refine c_cond H rfl (fun hc9 => ?_) (fun hc9 => ?_)
  · (try simp only [decide_eq_true_eq, decide_eq_false_iff_not, Bool.and_eq_true, Bool.or_eq_true, Bool.and_eq_false_iff, Bool.or_eq_false_iff, beq_iff_eq, bne_iff_ne, beq_eq_false_iff_ne, bne_eq_false_iff_eq, ne_eq, Bool.not_eq_true', Bool.not_eq_false', Int.not_lt, Int.not_le, Bool.not_eq_true, Bool.not_eq_false] at hc9)
    refine wp_seq ?_
    refine wp_region_lit ?_
    refine n_q H (q_move rfl) rfl ?_
    clear H a; intro a H
    refine n_q H (q_assign rfl) rfl ?_
    clear H a; intro a H
    refine n_nil ?_
    refine then_normal ?_
    refine wp_ret ?_
    refine then_ret ?_
    refine ret1 H (.inr rfl) rfl rfl ?_
    exact ⟨by rw [clampM, if_pos hc9], Ext.rfl'⟩
  · (try simp only [decide_eq_true_eq, decide_eq_false_iff_not, Bool.and_eq_true, Bool.or_eq_true, Bool.and_eq_false_iff, Bool.or_eq_false_iff, beq_iff_eq, bne_iff_ne, beq_eq_false_iff_ne, bne_eq_false_iff_eq, ne_eq, Bool.not_eq_true', Bool.not_eq_false', Int.not_lt, Int.not_le, Bool.not_eq_true, Bool.not_eq_false] at hc9)
    refine wp_skip ?_
    refine then_normal ?_
    refine wp_seq ?_
    refine wp_seq ?_
    refine wp_region_lit ?_
    refine n_q H (q_move rfl) rfl ?_
    clear H a; intro a H
    refine n_q H (q_move rfl) rfl ?_
    clear H a; intro a H
    refine n_q H (q_gtr rfl rfl) rfl ?_
    clear H a; intro a H
    refine n_nil ?_
    refine then_normal ?_
    refine c_cond H rfl (fun hc13 => ?_) (fun hc13 => ?_)
    · (try simp only [decide_eq_true_eq, decide_eq_false_iff_not, Bool.and_eq_true, Bool.or_eq_true, Bool.and_eq_false_iff, Bool.or_eq_false_iff, beq_iff_eq, bne_iff_ne, beq_eq_false_iff_ne, bne_eq_false_iff_eq, ne_eq, Bool.not_eq_true', Bool.not_eq_false', Int.not_lt, Int.not_le, Bool.not_eq_true, Bool.not_eq_false] at hc13)
      refine wp_seq ?_
      refine wp_region_lit ?_
      refine n_q H (q_move rfl) rfl ?_
      clear H a; intro a H
      refine n_q H (q_assign rfl) rfl ?_
      clear H a; intro a H
      refine n_nil ?_
      refine then_normal ?_
      refine wp_ret ?_
      refine then_ret ?_
      refine ret1 H (.inr rfl) rfl rfl ?_
      exact ⟨by rw [clampM, if_neg (by omega), if_pos hc13], Ext.rfl'⟩
    · (try simp only [decide_eq_true_eq, decide_eq_false_iff_not, Bool.and_eq_true, Bool.or_eq_true, Bool.and_eq_false_iff, Bool.or_eq_false_iff, beq_iff_eq, bne_iff_ne, beq_eq_false_iff_ne, bne_eq_false_iff_eq, ne_eq, Bool.not_eq_true', Bool.not_eq_false', Int.not_lt, Int.not_le, Bool.not_eq_true, Bool.not_eq_false] at hc13)
      refine wp_skip ?_
      refine then_normal ?_
      refine wp_seq ?_
      refine wp_region_lit ?_
      refine n_q H (q_move rfl) rfl ?_
      clear H a; intro a H
      refine n_q H (q_assign rfl) rfl ?_
      clear H a; intro a H
      refine n_nil ?_
      refine then_normal ?_
      refine wp_ret ?_
      refine ret1 H (.inr rfl) rfl rfl ?_
      exact ⟨by rw [clampM, if_neg (by omega), if_neg (by omega)], Ext.rfl'⟩

def addErr (p : PPlanM) (q : PortM) (s : ByteArray) (kind : Bool) : Option Nat :=
  if (checkM p q).isSome = true then checkM p q else if kind = false then some 6 else if p.size < (s.size : Int) then some 11 else if isQueueM p = false then none else if (q.msgs.length : Int) = p.depth then some 16 else none
def addMsgs (p : PPlanM) (q : PortM) (s : ByteArray) (kind : Bool) : List ByteArray :=
  if (addErr p q s kind).isSome = true then [] else if isQueueM p = false then [s] else q.msgs ++ [s]
theorem check_small {p : PPlanM} {q : PortM} (h : (checkM p q).isSome = false) : q.msgs.length ≤ 8 := by
  unfold checkM at h
  split at h
  · simp at h
  · rename_i h1
    split at h
    · rename_i h2
      have h3 : badRange p = false := by
        unfold checkPlanM at h1
        split at h1
        · simp at h1
        · split at h1
          · simp at h1
          · split at h1
            · simp at h1
            · rename_i h; simpa using h
      simp only [fitsM, badFill, Bool.and_eq_true, Bool.not_eq_true', Bool.or_eq_false_iff, decide_eq_false_iff_not] at h2
      simp only [badRange, Bool.or_eq_false_iff, decide_eq_false_iff_not] at h3
      have h4 : mostDepth p ≤ 8 := by unfold mostDepth; split <;> omega
      have := h2.1.1.1.1
      have := h3.1.1.2
      omega
    · simp at h
theorem Src.clip {w : World} {k : Nat} {A : Option Addr} {n c c' m : Nat} {xs : List Value} (h : Src w k (.slice A n c) m xs) : Src w k (.slice A n c') m xs := by
  rcases h with ⟨d, h1, h2, h3⟩ | ⟨ad, d, h1, h2, h3⟩ | ⟨s, h1, _⟩
  · cases h1; exact .inl ⟨c', rfl, h2, h3⟩
  · cases h1; exact .inr (.inl ⟨ad, c', rfl, h2, h3⟩)
  · cases h1
theorem build_port1 {v : Value} (h : v.oneCell' = true) : Instr.fill (fun i => (#[(0, 1), (1, 1)] : Array (Nat × Nat))[i]?) [.slice none 0 0, .int .i64 0].toArray [(0, v)] = some [v, .int .i64 0].toArray := by
  cases v <;> first | rfl | (simp [Value.oneCell'] at h)
theorem add_w {w : World} {A : Nat → Addr} {m : Value} {p : PPlanM} {q : PortM} {s : ByteArray} {kind : Bool} (hG : GV 198 gPort A w) (h : Sl w 1 16 (Flat eS) m q.msgs) :
    Calls Tryd.prog 93 [.agg #[.int .i64 p.kind, .int .i64 p.size, .int .i64 p.depth, .int .i64 p.refresh], .agg #[m, .int .i64 q.age], .string s, .bool kind].toArray w (Ret fun u w' => ∃ m', u = .tuple #[.agg #[m', .int .i64 0], eV 198 A (addErr p q s kind)] ∧ NewSl w w' m' (addMsgs p q s kind) ∧ Ext w w') := by
  obtain ⟨A1, c1, rfl, hl1, hm1, hn1⟩ := h.r.form
  refine enter Tryd.func93 rfl rfl rfl ?_
  intro a H
  dsimp only [enumL, Nat.zero_add, Nat.reduceAdd] at H
  refine wp_seq ?_
  refine wp_region_lit ?_
  refine n_box H rfl (cs := _) rfl rfl ?_
  clear H; intro b4 w1 hB4 hE2 hs_b4; clear a; intro a H
  have hw_b4 : w.heap.size ≤ b4 := by omega
  have hX := hE2
  refine n_box H rfl (cs := _) rfl rfl ?_
  clear H; intro b5 w3 hB5 hE4 hs_b5; clear a; intro a H
  have hn_b4_b5 : b4 ≠ b5 := by have := hB4.lt; omega
  have hn_b5_b4 := hn_b4_b5.symm
  have hlt_b4_b5 : b4 < b5 := by have := hB4.lt; omega
  have hw_b5 : w.heap.size ≤ b5 := by have := hX.size; omega
  replace hB4 := hB4.ext hE4
  replace hX := Ext.trans' hX hE4
  refine n_alloc H ze93 rfl ?_
  clear H; intro b8 w5 hB8 hE6 hs_b8; clear a; intro a H
  have hn_b4_b8 : b4 ≠ b8 := by have := hB4.lt; omega
  have hn_b8_b4 := hn_b4_b8.symm
  have hlt_b4_b8 : b4 < b8 := by have := hB4.lt; omega
  have hn_b5_b8 : b5 ≠ b8 := by have := hB5.lt; omega
  have hn_b8_b5 := hn_b5_b8.symm
  have hlt_b5_b8 : b5 < b8 := by have := hB5.lt; omega
  have hw_b8 : w.heap.size ≤ b8 := by have := hX.size; omega
  replace hB4 := hB4.ext hE6
  replace hB5 := hB5.ext hE6
  replace hX := Ext.trans' hX hE6
  refine n_q H (q_assign rfl) rfl ?_
  clear H a; intro a H
  refine n_nil ?_
  refine then_normal ?_
  refine wp_seq ?_
  refine wp_seq ?_
  refine wp_region_lit ?_
  refine n_q H (q_load rfl (hB4.ldAll ag90 sz90)) rfl ?_
  clear H a; intro a H
  refine n_q H (q_load rfl (hB5.ldAll ag93 sz93)) rfl ?_
  clear H a; intro a H
  refine n_call H rfl en46 (check_w (hG.ext hX) (h.r.ext (Flat.mono _) hX)) rfl ?_
  clear H a; intro v9 w7 hv a H
  obtain ⟨rfl, hE8⟩ := hv
  replace hB4 := hB4.ext hE8
  replace hB5 := hB5.ext hE8
  replace hB8 := hB8.ext hE8
  replace hX := Ext.trans' hX hE8
  refine n_q H (q_assign rfl) rfl ?_
  clear H a; intro a H
  refine n_nil ?_
  refine then_normal ?_
  refine wp_seq ?_
  refine wp_region_lit ?_
  refine n_q H (q_move rfl) rfl ?_
  clear H a; intro a H
  refine n_q H (q_nnilI Tryd.underlying43 rfl rfl (eV_form _ _ _)) rfl ?_
  clear H a; intro a H
  refine n_nil ?_
  refine then_normal ?_
  refine c_cond H rfl (fun hc15 => ?_) (fun hc15 => ?_)
  · skip
    have q15 : (checkM p q).isSome = true := by rw [eV_nil] at hc15; revert hc15; cases checkM p q <;> simp
    refine wp_seq ?_
    refine wp_region_lit ?_
    refine n_q H (q_build (cs := [.slice none 0 0, .int .i64 0]) ze93 bd93 pl93 rfl (by kernel_rfl)) rfl ?_
    clear H a; intro a H
    refine n_q H (q_move rfl) rfl ?_
    clear H a; intro a H
    refine n_storeAll H rfl rfl rfl sz93 hB8 rfl (by simp [(eV_one _ _ _)]) ?_
    clear H; intro w10 hB8N hC11 hz; clear a; intro a H
    replace hB8 := hB8N; clear hB8N
    clear hz
    replace hB4 := hC11.blk hB4 (by simp [blks] <;> omega)
    replace hB5 := hC11.blk hB5 (by simp [blks] <;> omega)
    replace hX := Chg.below hX hC11 (Nat.le_refl _) (by simp [blks] <;> omega)
    refine n_q H (q_assign rfl) rfl ?_
    clear H a; intro a H
    refine n_nil ?_
    refine then_normal ?_
    refine wp_ret ?_
    refine then_ret ?_
    refine retL H (.inr rfl) rfl (vs := [_, _]) (resCell rfl (hB8.ldAll ag93 sz93) (resTmp rfl resNil)) ?_
    exact ⟨_, by rw [show addErr p q s kind = checkM p q from by simp [addErr, q15]]; rfl, by rw [show addMsgs p q s kind = [] from by simp [addMsgs, addErr, q15]]; exact NewSl.nil, hX⟩
  · skip
    have q15 : (checkM p q).isSome = false := by rw [eV_nil] at hc15; revert hc15; cases checkM p q <;> simp
    refine wp_skip ?_
    refine then_normal ?_
    refine wp_seq ?_
    refine wp_block ?_
    refine wp_seq ?_
    refine wp_region_lit ?_
    refine n_q H (q_move rfl) rfl ?_
    clear H a; intro a H
    refine n_q H (q_not rfl) rfl ?_
    clear H a; intro a H
    refine n_q H (q_assign rfl) rfl ?_
    clear H a; intro a H
    refine n_nil ?_
    refine then_normal ?_
    refine c_cond H rfl (fun hc18 => ?_) (fun hc18 => ?_)
    · skip
      have q18 : kind = false := by simpa using hc18
      refine wp_seq ?_
      refine c_ord [b8] 4 (by kernel_rfl) ?_
      obtain ⟨w12, hw12⟩ : ∃ x, x = w7.drew := ⟨_, rfl⟩
      rw [← hw12]
      have hE13 : Ext w7 w12 := by rw [hw12]; exact Ext.drew' _
      clear hw12
      replace hB4 := hB4.ext hE13
      replace hB5 := hB5.ext hE13
      replace hB8 := hB8.ext hE13
      replace hX := Ext.trans' hX hE13
      have hh_b4 := hB4.lt
      have hh_b5 := hB5.lt
      have hh_b8 := hB8.lt
      have hh0 := hX.size
      refine k_take 0 H rfl (q_build (cs := [.slice none 0 0, .int .i64 0]) ze93 bd93 pl93 rfl (by kernel_rfl)) rfl (by kernel_rfl) (by kernel_rfl) (by kernel_rfl) (by kernel_rfl) (fun _ _ _ h => h) ?_
      clear H a; intro a H
      refine k_take 1 H rfl (q_load rfl (LdC.old (hG.ld 6 (by simp) ag43) hX hh0 (by simp <;> omega))) rfl (by kernel_rfl) (by kernel_rfl) (by kernel_rfl) (by kernel_rfl) (fun _ _ _ h => h) ?_
      clear H a; intro a H
      refine k_storeAll 2 H rfl rfl rfl rfl sz93 hB8 rfl (by simp [(eV_one _ _ _)]) (by kernel_rfl) (.inl (by simp)) ?_
      clear H; intro w14 hB8N hC15 hz; clear a; intro a H
      replace hB8 := hB8N; clear hB8N
      clear hz
      replace hB4 := hC15.blk hB4 (by simp [blks] <;> omega)
      replace hB5 := hC15.blk hB5 (by simp [blks] <;> omega)
      replace hX := Chg.below hX hC15 (Nat.le_refl _) (by simp [blks] <;> omega)
      refine k_take 3 H rfl (q_assign rfl) rfl (by kernel_rfl) (by kernel_rfl) (by kernel_rfl) (by kernel_rfl) (fun _ _ _ h => h) ?_
      clear H a; intro a H
      refine k_done (by kernel_rfl) ?_
      refine then_normal ?_
      refine wp_ret ?_
      refine block_ret ?_
      refine then_ret ?_
      refine retL H (.inr rfl) rfl (vs := [_, _]) (resCell rfl (hB8.ldAll ag93 sz93) (resTmp rfl resNil)) ?_
      exact ⟨_, by rw [show addErr p q s kind = some 6 from by simp [addErr, q15, q18]]; rfl, by rw [show addMsgs p q s kind = [] from by simp [addMsgs, show addErr p q s kind = some 6 from by simp [addErr, q15, q18]]]; exact NewSl.nil, hX⟩
    · skip
      have q18 : kind = true := by simpa using hc18
      refine wp_seq ?_
      refine wp_region_lit ?_
      refine n_q H (q_move rfl) rfl ?_
      clear H a; intro a H
      refine n_q H (q_lenS Tryd.underlying9 rfl) rfl ?_
      clear H a; intro a H
      refine n_q H (q_fieldAddr0 rfl fo90_1) rfl ?_
      clear H a; intro a H
      refine n_q H (q_load rfl (hB4.ld ag3 rfl)) rfl ?_
      clear H a; intro a H
      refine n_q H (q_gtr rfl rfl) rfl ?_
      clear H a; intro a H
      refine n_q H (q_assign rfl) rfl ?_
      clear H a; intro a H
      refine n_nil ?_
      refine then_normal ?_
      refine c_cond H rfl (fun hc23 => ?_) (fun hc23 => ?_)
      · skip
        have q23 : p.size < (s.size : Int) := by simpa using hc23
        refine wp_seq ?_
        refine c_ord [b8] 4 (by kernel_rfl) ?_
        obtain ⟨w16, hw16⟩ : ∃ x, x = w7.drew := ⟨_, rfl⟩
        rw [← hw16]
        have hE17 : Ext w7 w16 := by rw [hw16]; exact Ext.drew' _
        clear hw16
        replace hB4 := hB4.ext hE17
        replace hB5 := hB5.ext hE17
        replace hB8 := hB8.ext hE17
        replace hX := Ext.trans' hX hE17
        have hh_b4 := hB4.lt
        have hh_b5 := hB5.lt
        have hh_b8 := hB8.lt
        have hh0 := hX.size
        refine k_take 0 H rfl (q_build (cs := [.slice none 0 0, .int .i64 0]) ze93 bd93 pl93 rfl (by kernel_rfl)) rfl (by kernel_rfl) (by kernel_rfl) (by kernel_rfl) (by kernel_rfl) (fun _ _ _ h => h) ?_
        clear H a; intro a H
        refine k_take 1 H rfl (q_load rfl (LdC.old (hG.ld 11 (by simp) ag43) hX hh0 (by simp <;> omega))) rfl (by kernel_rfl) (by kernel_rfl) (by kernel_rfl) (by kernel_rfl) (fun _ _ _ h => h) ?_
        clear H a; intro a H
        refine k_storeAll 2 H rfl rfl rfl rfl sz93 hB8 rfl (by simp [(eV_one _ _ _)]) (by kernel_rfl) (.inl (by simp)) ?_
        clear H; intro w18 hB8N hC19 hz; clear a; intro a H
        replace hB8 := hB8N; clear hB8N
        clear hz
        replace hB4 := hC19.blk hB4 (by simp [blks] <;> omega)
        replace hB5 := hC19.blk hB5 (by simp [blks] <;> omega)
        replace hX := Chg.below hX hC19 (Nat.le_refl _) (by simp [blks] <;> omega)
        refine k_take 3 H rfl (q_assign rfl) rfl (by kernel_rfl) (by kernel_rfl) (by kernel_rfl) (by kernel_rfl) (fun _ _ _ h => h) ?_
        clear H a; intro a H
        refine k_done (by kernel_rfl) ?_
        refine then_normal ?_
        refine wp_ret ?_
        refine block_ret ?_
        refine then_ret ?_
        refine retL H (.inr rfl) rfl (vs := [_, _]) (resCell rfl (hB8.ldAll ag93 sz93) (resTmp rfl resNil)) ?_
        exact ⟨_, by rw [show addErr p q s kind = some 11 from by simp [addErr, q15, q18, q23]]; rfl, by rw [show addMsgs p q s kind = [] from by simp [addMsgs, show addErr p q s kind = some 11 from by simp [addErr, q15, q18, q23]]]; exact NewSl.nil, hX⟩
      · skip
        have q23 : ¬ p.size < (s.size : Int) := by simpa using hc23
        refine wp_seq ?_
        refine wp_region_lit ?_
        refine n_q H (q_load rfl (hB4.ldAll ag90 sz90)) rfl ?_
        clear H a; intro a H
        refine n_call H rfl en88 (isQueue_w) rfl ?_
        clear H a; intro v22 w20 hv a H
        obtain ⟨rfl, hE21⟩ := hv
        replace hB4 := hB4.ext hE21
        replace hB5 := hB5.ext hE21
        replace hB8 := hB8.ext hE21
        replace hX := Ext.trans' hX hE21
        refine n_q H (q_not rfl) rfl ?_
        clear H a; intro a H
        refine n_q H (q_assign rfl) rfl ?_
        clear H a; intro a H
        refine n_nil ?_
        refine then_normal ?_
        refine c_cond H rfl (fun hc31 => ?_) (fun hc31 => ?_)
        · skip
          have q31 : isQueueM p = false := by simpa using hc31
          refine wp_seq ?_
          refine wp_region_lit ?_
          refine n_q H (q_move rfl) rfl ?_
          clear H a; intro a H
          refine n_buildSlice H Tryd.underlying87 sz9 ze9 rfl rfl rfl (cs := [.string s]) (by kernel_rfl) rfl ?_
          clear H; intro b36 w23 hB36 hE24 hs_b36; clear a; intro a H
          have hn_b4_b36 : b4 ≠ b36 := by have := hB4.lt; omega
          have hn_b36_b4 := hn_b4_b36.symm
          have hlt_b4_b36 : b4 < b36 := by have := hB4.lt; omega
          have hn_b5_b36 : b5 ≠ b36 := by have := hB5.lt; omega
          have hn_b36_b5 := hn_b5_b36.symm
          have hlt_b5_b36 : b5 < b36 := by have := hB5.lt; omega
          have hn_b8_b36 : b8 ≠ b36 := by have := hB8.lt; omega
          have hn_b36_b8 := hn_b8_b36.symm
          have hlt_b8_b36 : b8 < b36 := by have := hB8.lt; omega
          have hw_b36 : w.heap.size ≤ b36 := by have := hX.size; omega
          replace hB4 := hB4.ext hE24
          replace hB5 := hB5.ext hE24
          replace hB8 := hB8.ext hE24
          replace hX := Ext.trans' hX hE24
          refine n_q H (q_build (cs := [.slice (some ⟨b36, 0, none⟩) 1 1, .int .i64 0]) ze93 bd93 pl93 rfl (by kernel_rfl)) rfl ?_
          clear H a; intro a H
          refine n_storeAll H rfl rfl rfl sz93 hB8 rfl (by simp [(eV_one _ _ _)]) ?_
          clear H; intro w25 hB8N hC26 hz; clear a; intro a H
          replace hB8 := hB8N; clear hB8N
          clear hz
          replace hB4 := hC26.blk hB4 (by simp [blks] <;> omega)
          replace hB5 := hC26.blk hB5 (by simp [blks] <;> omega)
          replace hB36 := hC26.blk hB36 (by simp [blks] <;> omega)
          replace hX := Chg.below hX hC26 (Nat.le_refl _) (by simp [blks] <;> omega)
          refine n_q H (q_assign rfl) rfl ?_
          clear H a; intro a H
          refine n_nil ?_
          refine then_normal ?_
          refine wp_ret ?_
          refine block_ret ?_
          refine then_ret ?_
          refine retL H (.inr rfl) rfl (vs := [_, _]) (resCell rfl (hB8.ldAll ag93 sz93) (resTmp rfl resNil)) ?_
          exact ⟨_, by rw [show addErr p q s kind = none from by simp [addErr, q15, q18, q23, q31]]; rfl, by rw [show addMsgs p q s kind = [s] from by simp [addMsgs, addErr, q15, q18, q23, q31]]; exact NewSl.own (xs := [s]) (Own.ofBlk (n := 1) (k := 1) hB36 rfl (by simp [maxLen])) rfl (by simp [blks]; omega) (by simp [lim]), hX⟩
        · skip
          have q31 : isQueueM p = true := by simpa using hc31
          refine wp_seq ?_
          refine wp_region_lit ?_
          refine n_q H (q_fieldAddr0 rfl fo93_0) rfl ?_
          clear H a; intro a H
          refine n_q H (q_load rfl (hB5.ld ag87 rfl)) rfl ?_
          clear H a; intro a H
          refine n_q H (q_lenSl Tryd.underlying87 rfl) rfl ?_
          clear H a; intro a H
          refine n_q H (q_fieldAddr0 rfl fo90_2) rfl ?_
          clear H a; intro a H
          refine n_q H (q_load rfl (hB4.ld ag3 rfl)) rfl ?_
          clear H a; intro a H
          refine n_q H (q_eql rfl rfl) rfl ?_
          clear H a; intro a H
          refine n_q H (q_assign rfl) rfl ?_
          clear H a; intro a H
          refine n_nil ?_
          refine then_normal ?_
          refine c_cond H rfl (fun hc38 => ?_) (fun hc38 => ?_)
          · skip
            have q38 : (q.msgs.length : Int) = p.depth := by simpa using hc38
            refine wp_seq ?_
            refine c_ord [b8] 4 (by kernel_rfl) ?_
            obtain ⟨w27, hw27⟩ : ∃ x, x = w20.drew := ⟨_, rfl⟩
            rw [← hw27]
            have hE28 : Ext w20 w27 := by rw [hw27]; exact Ext.drew' _
            clear hw27
            replace hB4 := hB4.ext hE28
            replace hB5 := hB5.ext hE28
            replace hB8 := hB8.ext hE28
            replace hX := Ext.trans' hX hE28
            have hh_b4 := hB4.lt
            have hh_b5 := hB5.lt
            have hh_b8 := hB8.lt
            have hh0 := hX.size
            refine k_take 0 H rfl (q_build (cs := [.slice none 0 0, .int .i64 0]) ze93 bd93 pl93 rfl (by kernel_rfl)) rfl (by kernel_rfl) (by kernel_rfl) (by kernel_rfl) (by kernel_rfl) (fun _ _ _ h => h) ?_
            clear H a; intro a H
            refine k_take 1 H rfl (q_load rfl (LdC.old (hG.ld 16 (by simp) ag43) hX hh0 (by simp <;> omega))) rfl (by kernel_rfl) (by kernel_rfl) (by kernel_rfl) (by kernel_rfl) (fun _ _ _ h => h) ?_
            clear H a; intro a H
            refine k_storeAll 2 H rfl rfl rfl rfl sz93 hB8 rfl (by simp [(eV_one _ _ _)]) (by kernel_rfl) (.inl (by simp)) ?_
            clear H; intro w29 hB8N hC30 hz; clear a; intro a H
            replace hB8 := hB8N; clear hB8N
            clear hz
            replace hB4 := hC30.blk hB4 (by simp [blks] <;> omega)
            replace hB5 := hC30.blk hB5 (by simp [blks] <;> omega)
            replace hX := Chg.below hX hC30 (Nat.le_refl _) (by simp [blks] <;> omega)
            refine k_take 3 H rfl (q_assign rfl) rfl (by kernel_rfl) (by kernel_rfl) (by kernel_rfl) (by kernel_rfl) (fun _ _ _ h => h) ?_
            clear H a; intro a H
            refine k_done (by kernel_rfl) ?_
            refine then_normal ?_
            refine wp_ret ?_
            refine block_ret ?_
            refine then_ret ?_
            refine retL H (.inr rfl) rfl (vs := [_, _]) (resCell rfl (hB8.ldAll ag93 sz93) (resTmp rfl resNil)) ?_
            exact ⟨_, by rw [show addErr p q s kind = some 16 from by simp [addErr, q15, q18, q23, q31, q38]]; rfl, by rw [show addMsgs p q s kind = [] from by simp [addMsgs, show addErr p q s kind = some 16 from by simp [addErr, q15, q18, q23, q31, q38]]]; exact NewSl.nil, hX⟩
          · skip
            have q38 : ¬ (q.msgs.length : Int) = p.depth := by simpa using hc38
            refine wp_skip ?_
            refine block_normal ?_
            refine then_normal ?_
            refine wp_seq ?_
            refine wp_region_lit ?_
            refine n_q H (q_fieldAddr0 rfl fo93_0) rfl ?_
            clear H a; intro a H
            refine n_q H (q_load rfl (hB5.ld ag87 rfl)) rfl ?_
            clear H a; intro a H
            refine n_call H rfl en91 (clone_string (h.ext (Flat.mono _) hX)) rfl ?_
            clear H a; intro v49 w31 hv a H
            obtain ⟨hO49, hE32, hf49⟩ := hv
            replace hB4 := hB4.ext hE32
            replace hB5 := hB5.ext hE32
            replace hB8 := hB8.ext hE32
            replace hX := Ext.trans' hX hE32
            obtain ⟨A49, c49, hv49, hn49, hc49, _, _⟩ := hO49.form
            subst hv49
            have hRv := Ext.rfl' (w := w31)
            refine n_call H rfl en116 (clip_string hn49) rfl ?_
            clear H a; intro v35 w33 hv a H
            obtain ⟨rfl, hE34⟩ := hv
            replace hB4 := hB4.ext hE34
            replace hB5 := hB5.ext hE34
            replace hB8 := hB8.ext hE34
            replace hX := Ext.trans' hX hE34
            replace hRv := Ext.trans' hRv hE34
            refine n_q H (q_move rfl) rfl ?_
            clear H a; intro a H
            refine n_buildSlice H Tryd.underlying87 sz9 ze9 rfl rfl rfl (cs := [.string s]) (by kernel_rfl) rfl ?_
            clear H; intro b52 w36 hB52 hE37 hs_b52; clear a; intro a H
            have hn_b4_b52 : b4 ≠ b52 := by have := hB4.lt; omega
            have hn_b52_b4 := hn_b4_b52.symm
            have hlt_b4_b52 : b4 < b52 := by have := hB4.lt; omega
            have hn_b5_b52 : b5 ≠ b52 := by have := hB5.lt; omega
            have hn_b52_b5 := hn_b5_b52.symm
            have hlt_b5_b52 : b5 < b52 := by have := hB5.lt; omega
            have hn_b8_b52 : b8 ≠ b52 := by have := hB8.lt; omega
            have hn_b52_b8 := hn_b8_b52.symm
            have hlt_b8_b52 : b8 < b52 := by have := hB8.lt; omega
            have hw_b52 : w.heap.size ≤ b52 := by have := hX.size; omega
            have hq_hRv_b52 : w31.heap.size ≤ b52 := by have := hRv.size; omega
            replace hB4 := hB4.ext hE37
            replace hB5 := hB5.ext hE37
            replace hB8 := hB8.ext hE37
            replace hX := Ext.trans' hX hE37
            replace hRv := Ext.trans' hRv hE37
            refine n_appendF H rfl rfl Tryd.underlying87 Tryd.underlying87 (by simp) el9 (Src.clip (hO49.src.ext hRv)) (Own.src (Own.ofBlk (n := 1) (k := 1) hB52 rfl (by simp [maxLen]))) (by omega) (by have := check_small q15; omega) (by have := check_small q15; simp only [maxLen]; omega) rfl ?_
            clear H; intro v53 w38 hO53 hC39 hf53; clear a; intro a H
            have hn_v53_b4 : ∀ c ∈ blks v53, c ≠ b4 := fun c hc => by have := hf53 c hc; have := hB4.lt; omega
            have hn_v53_b5 : ∀ c ∈ blks v53, c ≠ b5 := fun c hc => by have := hf53 c hc; have := hB5.lt; omega
            have hn_v53_b8 : ∀ c ∈ blks v53, c ≠ b8 := fun c hc => by have := hf53 c hc; have := hB8.lt; omega
            have hn_v53_b52 : ∀ c ∈ blks v53, c ≠ b52 := fun c hc => by have := hf53 c hc; have := hB52.lt; omega
            have hlo_v53 : ∀ c ∈ blks v53, w.heap.size ≤ c := fun c hc => by have := hf53 c hc; have := hX.size; omega
            replace hB4 := hB4.ext hC39
            replace hB5 := hB5.ext hC39
            replace hB8 := hB8.ext hC39
            replace hB52 := hB52.ext hC39
            replace hX := Ext.trans' hX hC39
            replace hRv := Ext.trans' hRv hC39
            refine n_q H (q_build ze93 bd93 pl93 rfl (build_port1 hO53.one)) rfl ?_
            clear H a; intro a H
            refine n_storeAll H rfl rfl rfl sz93 hB8 rfl (by simp [hO53.one]) ?_
            clear H; intro w40 hB8N hC41 hz; clear a; intro a H
            replace hB8 := hB8N; clear hB8N
            clear hz
            replace hB4 := hC41.blk hB4 (by simp [blks] <;> omega)
            replace hB5 := hC41.blk hB5 (by simp [blks] <;> omega)
            replace hB52 := hC41.blk hB52 (by simp [blks] <;> omega)
            replace hO53 := hO53.chg hC41 (fun c hc hd => by simp [blks] at hd; (try exact hn_v53_b8 c hc hd))
            replace hX := Chg.below hX hC41 (Nat.le_refl _) (by simp [blks] <;> omega)
            refine n_q H (q_assign rfl) rfl ?_
            clear H a; intro a H
            refine n_nil ?_
            refine then_normal ?_
            refine wp_ret ?_
            refine retL H (.inr rfl) rfl (vs := [_, _]) (resCell rfl (hB8.ldAll ag93 sz93) (resTmp rfl resNil)) ?_
            exact ⟨_, by rw [show addErr p q s kind = none from by simp [addErr, q15, q18, q23, q31, q38]]; rfl, by rw [show addMsgs p q s kind = q.msgs ++ [s] from by simp [addMsgs, addErr, q15, q18, q23, q31, q38]]; exact NewSl.own (xs := q.msgs ++ [s]) (by simpa [eS] using hO53) (by simp) hlo_v53 (by have := check_small q15; simp [lim]; omega), hX⟩

theorem put_w {w : World} {A : Nat → Addr} {m : Value} {p : PPlanM} {q : PortM} {s : ByteArray} (hG : GV 198 gPort A w) (h : Sl w 1 16 (Flat eS) m q.msgs) :
    Calls Tryd.prog 44 [.agg #[.int .i64 p.kind, .int .i64 p.size, .int .i64 p.depth, .int .i64 p.refresh], .agg #[m, .int .i64 q.age], .string s].toArray w (Ret fun u w' => ∃ m', u = .tuple #[.agg #[m', .int .i64 0], eV 198 A (addErr p q s (isInM p))] ∧ NewSl w w' m' (addMsgs p q s (isInM p)) ∧ Ext w w') := by
  refine enter Tryd.func44 rfl rfl rfl ?_
  intro a H
  dsimp only [enumL, Nat.zero_add, Nat.reduceAdd] at H
  refine wp_seq ?_
  refine wp_region_lit ?_
  refine n_box H rfl (cs := _) rfl rfl ?_
  clear H; intro b3 w1 hB3 hE2 hs_b3; clear a; intro a H
  have hw_b3 : w.heap.size ≤ b3 := by omega
  have hX := hE2
  refine n_box H rfl (cs := _) rfl rfl ?_
  clear H; intro b4 w3 hB4 hE4 hs_b4; clear a; intro a H
  have hn_b3_b4 : b3 ≠ b4 := by have := hB3.lt; omega
  have hn_b4_b3 := hn_b3_b4.symm
  have hlt_b3_b4 : b3 < b4 := by have := hB3.lt; omega
  have hw_b4 : w.heap.size ≤ b4 := by have := hX.size; omega
  replace hB3 := hB3.ext hE4
  replace hX := Ext.trans' hX hE4
  refine n_alloc H ze93 rfl ?_
  clear H; intro b6 w5 hB6 hE6 hs_b6; clear a; intro a H
  have hn_b3_b6 : b3 ≠ b6 := by have := hB3.lt; omega
  have hn_b6_b3 := hn_b3_b6.symm
  have hlt_b3_b6 : b3 < b6 := by have := hB3.lt; omega
  have hn_b4_b6 : b4 ≠ b6 := by have := hB4.lt; omega
  have hn_b6_b4 := hn_b4_b6.symm
  have hlt_b4_b6 : b4 < b6 := by have := hB4.lt; omega
  have hw_b6 : w.heap.size ≤ b6 := by have := hX.size; omega
  replace hB3 := hB3.ext hE6
  replace hB4 := hB4.ext hE6
  replace hX := Ext.trans' hX hE6
  refine n_q H (q_assign rfl) rfl ?_
  clear H a; intro a H
  refine n_nil ?_
  refine then_normal ?_
  refine wp_seq ?_
  refine c_ord [] 8 (by kernel_rfl) ?_
  obtain ⟨w7, hw7⟩ : ∃ x, x = w5.drew := ⟨_, rfl⟩
  rw [← hw7]
  have hE8 : Ext w5 w7 := by rw [hw7]; exact Ext.drew' _
  clear hw7
  replace hB3 := hB3.ext hE8
  replace hB4 := hB4.ext hE8
  replace hB6 := hB6.ext hE8
  replace hX := Ext.trans' hX hE8
  have hh_b3 := hB3.lt
  have hh_b4 := hB4.lt
  have hh_b6 := hB6.lt
  have hh0 := hX.size
  refine k_take 0 H rfl (q_load rfl (hB3.ldAllB hh_b3 (by simp <;> omega) ag90 sz90)) rfl (by kernel_rfl) (by kernel_rfl) (by kernel_rfl) (by kernel_rfl) (fun _ _ _ h => h) ?_
  clear H a; intro a H
  refine k_take 1 H rfl (q_load rfl (hB4.ldAllB hh_b4 (by simp <;> omega) ag93 sz93)) rfl (by kernel_rfl) (by kernel_rfl) (by kernel_rfl) (by kernel_rfl) (fun _ _ _ h => h) ?_
  clear H a; intro a H
  refine k_take 2 H rfl (q_move rfl) rfl (by kernel_rfl) (by kernel_rfl) (by kernel_rfl) (by kernel_rfl) (fun _ _ _ h => h) ?_
  clear H a; intro a H
  refine k_take 3 H rfl (q_load rfl (hB3.ldAllB hh_b3 (by simp <;> omega) ag90 sz90)) rfl (by kernel_rfl) (by kernel_rfl) (by kernel_rfl) (by kernel_rfl) (fun _ _ _ h => h) ?_
  clear H a; intro a H
  refine k_call 4 H rfl rfl en89 (isIn_w) rfl (by kernel_rfl) (fun v w hv => .inl (ChgF.of_ext hv.2)) ?_
  clear H a; intro v11 w9 hv a H
  obtain ⟨rfl, hE10⟩ := hv
  replace hB3 := hB3.ext hE10
  replace hB4 := hB4.ext hE10
  replace hB6 := hB6.ext hE10
  replace hX := Ext.trans' hX hE10
  refine k_call 5 H rfl rfl en93 (add_w (hG.ext hX) (h.ext (Flat.mono _) hX)) rfl (by kernel_rfl) (fun v w hv => by obtain ⟨_, _, _, hx⟩ := hv; exact .inl (ChgF.of_ext hx)) ?_
  clear H a; intro v14 w12 hv a H
  obtain ⟨m1, rfl, hm1, hE13⟩ := hv
  have ht_b6 := hB6.lt
  have htw := hX.size
  replace hB3 := hB3.ext hE13
  replace hB4 := hB4.ext hE13
  replace hB6 := hB6.ext hE13
  replace hX := Ext.trans' hX hE13
  have hR1 := Ext.rfl' (w := w12)
  refine k_take 6 H rfl (q_extract rfl rfl) rfl (by kernel_rfl) (by kernel_rfl) (by kernel_rfl) (by kernel_rfl) (fun _ _ _ h => h) ?_
  clear H a; intro a H
  refine k_take 7 H rfl (q_extract rfl rfl) rfl (by kernel_rfl) (by kernel_rfl) (by kernel_rfl) (by kernel_rfl) (fun _ _ _ h => h) ?_
  clear H a; intro a H
  refine k_storeAll 8 H rfl rfl rfl rfl sz93 hB6 rfl (by simp [hm1.sl.r.one]) (by kernel_rfl) (.inr (by kernel_rfl)) ?_
  clear H; intro w15 hB6N hC16 hz; clear a; intro a H
  replace hB6 := hB6N; clear hB6N
  clear hz
  replace hB3 := hC16.blk hB3 (by simp [blks] <;> omega)
  replace hB4 := hC16.blk hB4 (by simp [blks] <;> omega)
  replace hX := Chg.below hX hC16 (Nat.le_refl _) (by simp [blks] <;> omega)
  replace hm1 := (hm1.ext hR1).chg hC16 (by simp; exact ht_b6)
  refine k_q 9 H rfl (q_assign rfl) rfl (by kernel_rfl) ?_
  clear H a; intro a H
  refine k_done (by kernel_rfl) ?_
  refine then_normal ?_
  refine wp_ret ?_
  refine retL H (.inr rfl) rfl (vs := [_, _]) (resCell rfl (hB6.ldAll ag93 sz93) (resTmp rfl resNil)) ?_
  exact ⟨m1, rfl, hm1.old htw, hX⟩

theorem copied_w {w : World} {m : Value} {q : PortM} (h : Sl w 1 16 (Flat eS) m q.msgs) :
    Calls Tryd.prog 92 [.agg #[m, .int .i64 q.age]].toArray w (Ret fun u w' => ∃ m', u = .agg #[m', .int .i64 q.age] ∧ NewSl w w' m' q.msgs ∧ Ext w w') := by
  refine enter Tryd.func92 rfl rfl rfl ?_
  intro a H
  dsimp only [enumL, Nat.zero_add, Nat.reduceAdd] at H
  refine wp_seq ?_
  refine wp_region_lit ?_
  refine n_box H rfl (cs := _) rfl rfl ?_
  clear H; intro b1 w1 hB1 hE2 hs_b1; clear a; intro a H
  have hw_b1 : w.heap.size ≤ b1 := by omega
  have hX := hE2
  refine n_alloc H ze93 rfl ?_
  clear H; intro b2 w3 hB2 hE4 hs_b2; clear a; intro a H
  have hn_b1_b2 : b1 ≠ b2 := by have := hB1.lt; omega
  have hn_b2_b1 := hn_b1_b2.symm
  have hlt_b1_b2 : b1 < b2 := by have := hB1.lt; omega
  have hw_b2 : w.heap.size ≤ b2 := by have := hX.size; omega
  replace hB1 := hB1.ext hE4
  replace hX := Ext.trans' hX hE4
  refine n_nil ?_
  refine then_normal ?_
  refine wp_seq ?_
  refine c_ord [] 6 (by kernel_rfl) ?_
  obtain ⟨w5, hw5⟩ : ∃ x, x = w3.drew := ⟨_, rfl⟩
  rw [← hw5]
  have hE6 : Ext w3 w5 := by rw [hw5]; exact Ext.drew' _
  clear hw5
  replace hB1 := hB1.ext hE6
  replace hB2 := hB2.ext hE6
  replace hX := Ext.trans' hX hE6
  have hh_b1 := hB1.lt
  have hh_b2 := hB2.lt
  have hh0 := hX.size
  refine k_take 0 H rfl (q_fieldAddr0 rfl fo93_0) rfl (by kernel_rfl) (by kernel_rfl) (by kernel_rfl) (by kernel_rfl) (fun _ _ _ h => h) ?_
  clear H a; intro a H
  refine k_take 1 H rfl (q_load rfl (hB1.ldB hh_b1 (by simp <;> omega) ag87 rfl)) rfl (by kernel_rfl) (by kernel_rfl) (by kernel_rfl) (by kernel_rfl) (fun _ _ _ h => h) ?_
  clear H a; intro a H
  refine k_take 3 H rfl (q_fieldAddr0 rfl fo93_1) rfl (by kernel_rfl) (by kernel_rfl) (by kernel_rfl) (by kernel_rfl) (fun _ _ _ h => h) ?_
  clear H a; intro a H
  refine k_take 4 H rfl (q_load rfl (hB1.ldB hh_b1 (by simp <;> omega) ag3 rfl)) rfl (by kernel_rfl) (by kernel_rfl) (by kernel_rfl) (by kernel_rfl) (fun _ _ _ h => h) ?_
  clear H a; intro a H
  refine k_call 2 H rfl rfl en91 (clone_string (h.ext (Flat.mono _) hX)) rfl (by kernel_rfl) (fun v w hv => .inl (ChgF.of_ext hv.2.1)) ?_
  clear H a; intro v5 w7 hv a H
  obtain ⟨hO5, hE8, hf5⟩ := hv
  have hn_v5_b1 : ∀ c ∈ blks v5, c ≠ b1 := fun c hc => by have := hf5 c hc; have := hB1.lt; omega
  have hn_v5_b2 : ∀ c ∈ blks v5, c ≠ b2 := fun c hc => by have := hf5 c hc; have := hB2.lt; omega
  have hlo_v5 : ∀ c ∈ blks v5, w.heap.size ≤ c := fun c hc => by have := hf5 c hc; have := hX.size; omega
  replace hB1 := hB1.ext hE8
  replace hB2 := hB2.ext hE8
  replace hX := Ext.trans' hX hE8
  refine k_take 5 H rfl (q_build ze93 bd93 pl93 rfl (build_port hO5.one)) rfl (by kernel_rfl) (by kernel_rfl) (by kernel_rfl) (by kernel_rfl) (fun _ _ _ h => h) ?_
  clear H a; intro a H
  refine k_storeAll 6 H rfl rfl rfl rfl sz93 hB2 rfl (by simp [hO5.one]) (by kernel_rfl) (.inr (by kernel_rfl)) ?_
  clear H; intro w9 hB2N hC10 hz; clear a; intro a H
  replace hB2 := hB2N; clear hB2N
  clear hz
  replace hB1 := hC10.blk hB1 (by simp [blks] <;> omega)
  replace hO5 := hO5.chg hC10 (fun c hc hd => by simp [blks] at hd; (try exact hn_v5_b2 c hc hd))
  replace hX := Chg.below hX hC10 (Nat.le_refl _) (by simp [blks] <;> omega)
  refine k_done (by kernel_rfl) ?_
  refine then_normal ?_
  refine wp_ret ?_
  refine retL H (.inr rfl) rfl (vs := [_]) (resCell rfl (hB2.ldAll ag93 sz93) resNil) ?_
  exact ⟨v5, rfl, NewSl.own hO5 rfl hlo_v5 h.b, hX⟩

theorem sameStrings_w {w : World} {v1 v2 : Value} {xs ys : List ByteArray} (h1 : SlR w 1 (Flat eS) v1 xs) (h2 : SlR w 1 (Flat eS) v2 ys) :
    Calls Tryd.prog 45 [v1, v2].toArray w (Ret fun u w' => u = .bool (decide (xs = ys)) ∧ Ext w w') := by
  obtain ⟨A1, c1, rfl, hl1, hm1, hn1⟩ := h1.form
  obtain ⟨A2, c2, rfl, hl2, hm2, hn2⟩ := h2.form
  refine enter Tryd.func45 rfl rfl rfl ?_
  intro a H
  dsimp only [enumL, Nat.zero_add, Nat.reduceAdd] at H
  refine wp_seq ?_
  refine wp_region_lit ?_
  refine n_q H (q_assign rfl) rfl ?_
  clear H a; intro a H
  refine n_nil ?_
  refine then_normal ?_
  refine wp_seq ?_
  refine wp_seq ?_
  refine wp_region_lit ?_
  refine n_q H (q_move rfl) rfl ?_
  clear H a; intro a H
  refine n_q H (q_lenSl Tryd.underlying87 rfl) rfl ?_
  clear H a; intro a H
  refine n_q H (q_move rfl) rfl ?_
  clear H a; intro a H
  refine n_q H (q_lenSl Tryd.underlying87 rfl) rfl ?_
  clear H a; intro a H
  refine n_q H (q_neq rfl rfl) rfl ?_
  clear H a; intro a H
  refine n_nil ?_
  refine then_normal ?_
  refine c_cond H rfl (fun hc10 => ?_) (fun hc10 => ?_)
  · (try simp only [decide_eq_true_eq, decide_eq_false_iff_not, Bool.and_eq_true, Bool.or_eq_true, Bool.and_eq_false_iff, Bool.or_eq_false_iff, beq_iff_eq, bne_iff_ne, beq_eq_false_iff_ne, bne_eq_false_iff_eq, ne_eq, Bool.not_eq_true', Bool.not_eq_false', Int.not_lt, Int.not_le, Bool.not_eq_true, Bool.not_eq_false] at hc10)
    refine wp_seq ?_
    refine wp_region_lit ?_
    refine n_q H (q_assign rfl) rfl ?_
    clear H a; intro a H
    refine n_nil ?_
    refine then_normal ?_
    refine wp_ret ?_
    refine then_ret ?_
    refine ret1 H (.inr rfl) rfl rfl ?_
    exact ⟨by rw [decide_eq_false]; intro e; rw [e] at hc10; exact hc10 rfl, Ext.rfl'⟩
  · (try simp only [decide_eq_true_eq, decide_eq_false_iff_not, Bool.and_eq_true, Bool.or_eq_true, Bool.and_eq_false_iff, Bool.or_eq_false_iff, beq_iff_eq, bne_iff_ne, beq_eq_false_iff_ne, bne_eq_false_iff_eq, ne_eq, Bool.not_eq_true', Bool.not_eq_false', Int.not_lt, Int.not_le, Bool.not_eq_true, Bool.not_eq_false] at hc10)
    refine wp_skip ?_
    refine then_normal ?_
    refine wp_seq ?_
    refine wp_seq ?_
    refine wp_region_lit ?_
    refine n_q H (q_move rfl) rfl ?_
    clear H a; intro a H
    refine n_q H (q_lenSl Tryd.underlying87 rfl) rfl ?_
    clear H a; intro a H
    refine n_q H (q_move rfl) rfl ?_
    clear H a; intro a H
    refine n_nil ?_
    refine then_normal ?_
    refine wp_block ?_
    refine c_loop (σ := Nat) (fun i => [(0, .slice A1 xs.length c1), (1, .slice A2 ys.length c2), (12, .int .i64 (xs.length : Nat)), (13, .int .i64 (i : Nat))]) (fun i wl => i ≤ xs.length ∧ xs.take i = ys.take i ∧ Ext w wl) (fun i => xs.length - i) 0 H ⟨rfl, rfl, rfl, rfl, trivial⟩ ⟨Nat.zero_le _, by simp, Ext.rfl'⟩ ?_
    clear H; clear a; intro i a w1 H hR
    simp only [ent, List.map_cons, List.map_nil] at H
    try dsimp only at hR
    obtain ⟨hi, htk, hE2⟩ := hR
    have hX := hE2
    have hY3 := hE2
    refine wp_seq ?_
    refine wp_region_lit ?_
    refine n_q H (q_lss rfl rfl) rfl ?_
    clear H a; intro a H
    refine n_nil ?_
    refine then_normal ?_
    refine wp_seq ?_
    refine c_cond H rfl (fun hc14 => ?_) (fun hc14 => ?_)
    · (try simp only [decide_eq_true_eq, decide_eq_false_iff_not, Bool.and_eq_true, Bool.or_eq_true, Bool.and_eq_false_iff, Bool.or_eq_false_iff, beq_iff_eq, bne_iff_ne, beq_eq_false_iff_ne, bne_eq_false_iff_eq, ne_eq, Bool.not_eq_true', Bool.not_eq_false', Int.not_lt, Int.not_le, Bool.not_eq_true, Bool.not_eq_false] at hc14)
      have hi1 : i < xs.length := by omega
      have hi2 : i < ys.length := by omega
      obtain ⟨x, hx1⟩ := h1.at hi1
      obtain ⟨y, hx2⟩ := h2.at hi2
      obtain ⟨ad1, rfl⟩ := h1.addr hi1
      obtain ⟨ad2, rfl⟩ := h2.addr hi2
      refine wp_skip ?_
      refine then_normal ?_
      refine wp_seq ?_
      refine wp_block ?_
      refine wp_seq ?_
      refine wp_region_lit ?_
      refine n_q H (q_move rfl) rfl ?_
      clear H a; intro a H
      refine n_q H (q_assign rfl) rfl ?_
      clear H a; intro a H
      refine n_nil ?_
      refine then_normal ?_
      refine wp_seq ?_
      refine c_quiet (by kernel_rfl) (by kernel_rfl) ?_
      refine qq_q H (q_move rfl) rfl ?_
      clear H a; intro a H
      refine qq_q H (q_move rfl) rfl ?_
      clear H a; intro a H
      refine qq_q H (q_indexAddr Tryd.underlying87 sz9 rfl rfl (by omega) (by omega)) rfl ?_
      clear H a; intro a H
      refine qq_q H (q_load rfl (LdX.ext (h1.ldOne ag9 hx1 rfl) hX)) rfl ?_
      clear H a; intro a H
      refine qq_q H (q_move rfl) rfl ?_
      clear H a; intro a H
      refine qq_q H (q_move rfl) rfl ?_
      clear H a; intro a H
      refine qq_q H (q_indexAddr Tryd.underlying87 sz9 rfl rfl (by omega) (by omega)) rfl ?_
      clear H a; intro a H
      refine qq_q H (q_load rfl (LdX.ext (h2.ldOne ag9 hx2 rfl) hX)) rfl ?_
      clear H a; intro a H
      refine qq_q H (q_neqS rfl rfl) rfl ?_
      clear H a; intro a H
      refine qq_nil ?_
      intro w4 hE5
      replace hX := Ext.trans' hX hE5
      replace hY3 := Ext.trans' hY3 hE5
      refine then_normal ?_
      refine c_cond H rfl (fun hc24 => ?_) (fun hc24 => ?_)
      · (try simp only [decide_eq_true_eq, decide_eq_false_iff_not, Bool.and_eq_true, Bool.or_eq_true, Bool.and_eq_false_iff, Bool.or_eq_false_iff, beq_iff_eq, bne_iff_ne, beq_eq_false_iff_ne, bne_eq_false_iff_eq, ne_eq, Bool.not_eq_true', Bool.not_eq_false', Int.not_lt, Int.not_le, Bool.not_eq_true, Bool.not_eq_false] at hc24)
        have hxy : x ≠ y := by simpa using hc24
        refine wp_seq ?_
        refine wp_region_lit ?_
        refine n_q H (q_assign rfl) rfl ?_
        clear H a; intro a H
        refine n_nil ?_
        refine then_normal ?_
        refine wp_ret ?_
        refine block_ret ?_
        refine then_ret ?_
        refine then_ret ?_
        refine block_ret ?_
        refine then_ret ?_
        refine ret1 H (.inr rfl) rfl rfl ?_
        exact ⟨by rw [decide_eq_false]; intro e; rw [e, hx2] at hx1; exact hxy (Option.some.inj hx1).symm, hX⟩
      · (try simp only [decide_eq_true_eq, decide_eq_false_iff_not, Bool.and_eq_true, Bool.or_eq_true, Bool.and_eq_false_iff, Bool.or_eq_false_iff, beq_iff_eq, bne_iff_ne, beq_eq_false_iff_ne, bne_eq_false_iff_eq, ne_eq, Bool.not_eq_true', Bool.not_eq_false', Int.not_lt, Int.not_le, Bool.not_eq_true, Bool.not_eq_false] at hc24)
        have hxy : x = y := by simpa using hc24
        refine wp_skip ?_
        refine block_normal ?_
        refine then_normal ?_
        refine wp_region_lit ?_
        refine n_q H (q_add rfl rfl (by constructor <;> omega)) rfl ?_
        clear H a; intro a H
        refine n_q H (q_move rfl) rfl ?_
        clear H a; intro a H
        refine n_nil ?_
        refine then_normal ?_
        exact round (i + 1) H ⟨rfl, rfl, rfl, rfl, trivial⟩ ⟨by omega, by rw [take_snoc hx1, take_snoc hx2, htk, hxy], hX⟩ (by first | omega | (dsimp only; omega))
    · (try simp only [decide_eq_true_eq, decide_eq_false_iff_not, Bool.and_eq_true, Bool.or_eq_true, Bool.and_eq_false_iff, Bool.or_eq_false_iff, beq_iff_eq, bne_iff_ne, beq_eq_false_iff_ne, bne_eq_false_iff_eq, ne_eq, Bool.not_eq_true', Bool.not_eq_false', Int.not_lt, Int.not_le, Bool.not_eq_true, Bool.not_eq_false] at hc14)
      refine wp_exit ?_
      refine then_exit ?_
      refine then_exit ?_
      refine block_exit ?_
      refine then_normal ?_
      refine wp_seq ?_
      refine wp_region_lit ?_
      refine n_q H (q_assign rfl) rfl ?_
      clear H a; intro a H
      refine n_nil ?_
      refine then_normal ?_
      refine wp_ret ?_
      refine ret1 H (.inr rfl) rfl rfl ?_
      exact ⟨by rw [decide_eq_true]; exact eq_of_take htk (by omega) (by omega), hX⟩

def getErr (p : PPlanM) (q : PortM) : Option Nat := if (checkM p q).isSome = true then checkM p q else if isInM p = false then some 6 else if q.msgs.length = 0 then some 12 else none
theorem slDrop {w : World} {A : Option Addr} {n c : Nat} {xs : List ByteArray} (h : Sl w 1 16 (Flat eS) (.slice A n c) xs) (h1 : 1 ≤ n) : Sl w 1 16 (Flat eS) (.slice (if c = (1 : Int).toNat then A else A.map (·.add ((1 : Int).toNat * 1))) (n - (1 : Int).toNat) (c - (1 : Int).toNat)) (xs.drop 1) :=
  ⟨h.r.drop 1 h1, by have := h.b; rw [List.length_drop]; omega⟩
theorem get_w {w : World} {A : Nat → Addr} {m : Value} {p : PPlanM} {q : PortM} (hG : GV 198 gPort A w) (h : Sl w 1 16 (Flat eS) m q.msgs) :
    Calls Tryd.prog 43 [.agg #[.int .i64 p.kind, .int .i64 p.size, .int .i64 p.depth, .int .i64 p.refresh], .agg #[m, .int .i64 q.age]].toArray w (Ret fun u w' => Ext w w' ∧ ((∃ e, getErr p q = some e ∧ u = .tuple #[.agg #[.slice none 0 0, .int .i64 0], .string ⟨#[]⟩, .bool false, eV 198 A (some e)]) ∨
      (∃ s m', getErr p q = none ∧ q.msgs[0]? = some s ∧ isQueueM p = true ∧ u = .tuple #[.agg #[m', .int .i64 0], .string s, .bool true, .nilIface] ∧ NewSl w w' m' (q.msgs.drop 1)) ∨
      (∃ s m', getErr p q = none ∧ q.msgs[0]? = some s ∧ isQueueM p = false ∧ u = .tuple #[.agg #[m', .int .i64 q.age], .string s, .bool (decide (q.age < p.refresh)), .nilIface] ∧ NewSl w w' m' q.msgs))) := by
  obtain ⟨A1, c1, rfl, hl1, hm1, hn1⟩ := h.r.form
  refine enter Tryd.func43 rfl rfl rfl ?_
  intro a H
  dsimp only [enumL, Nat.zero_add, Nat.reduceAdd] at H
  refine wp_seq ?_
  refine wp_region_lit ?_
  refine n_box H rfl (cs := _) rfl rfl ?_
  clear H; intro b2 w1 hB2 hE2 hs_b2; clear a; intro a H
  have hw_b2 : w.heap.size ≤ b2 := by omega
  have hX := hE2
  refine n_box H rfl (cs := _) rfl rfl ?_
  clear H; intro b3 w3 hB3 hE4 hs_b3; clear a; intro a H
  have hn_b2_b3 : b2 ≠ b3 := by have := hB2.lt; omega
  have hn_b3_b2 := hn_b2_b3.symm
  have hlt_b2_b3 : b2 < b3 := by have := hB2.lt; omega
  have hw_b3 : w.heap.size ≤ b3 := by have := hX.size; omega
  replace hB2 := hB2.ext hE4
  replace hX := Ext.trans' hX hE4
  refine n_alloc H ze93 rfl ?_
  clear H; intro b4 w5 hB4 hE6 hs_b4; clear a; intro a H
  have hn_b2_b4 : b2 ≠ b4 := by have := hB2.lt; omega
  have hn_b4_b2 := hn_b2_b4.symm
  have hlt_b2_b4 : b2 < b4 := by have := hB2.lt; omega
  have hn_b3_b4 : b3 ≠ b4 := by have := hB3.lt; omega
  have hn_b4_b3 := hn_b3_b4.symm
  have hlt_b3_b4 : b3 < b4 := by have := hB3.lt; omega
  have hw_b4 : w.heap.size ≤ b4 := by have := hX.size; omega
  replace hB2 := hB2.ext hE6
  replace hB3 := hB3.ext hE6
  replace hX := Ext.trans' hX hE6
  refine n_q H (q_assign rfl) rfl ?_
  clear H a; intro a H
  refine n_q H (q_assign rfl) rfl ?_
  clear H a; intro a H
  refine n_q H (q_assign rfl) rfl ?_
  clear H a; intro a H
  refine n_nil ?_
  refine then_normal ?_
  refine wp_seq ?_
  refine wp_seq ?_
  refine wp_region_lit ?_
  refine n_q H (q_load rfl (hB2.ldAll ag90 sz90)) rfl ?_
  clear H a; intro a H
  refine n_q H (q_load rfl (hB3.ldAll ag93 sz93)) rfl ?_
  clear H a; intro a H
  refine n_call H rfl en46 (check_w (hG.ext hX) (h.r.ext (Flat.mono _) hX)) rfl ?_
  clear H a; intro v9 w7 hv a H
  obtain ⟨rfl, hE8⟩ := hv
  replace hB2 := hB2.ext hE8
  replace hB3 := hB3.ext hE8
  replace hB4 := hB4.ext hE8
  replace hX := Ext.trans' hX hE8
  refine n_q H (q_assign rfl) rfl ?_
  clear H a; intro a H
  refine n_nil ?_
  refine then_normal ?_
  refine wp_seq ?_
  refine wp_region_lit ?_
  refine n_q H (q_move rfl) rfl ?_
  clear H a; intro a H
  refine n_q H (q_nnilI Tryd.underlying43 rfl rfl (eV_form _ _ _)) rfl ?_
  clear H a; intro a H
  refine n_nil ?_
  refine then_normal ?_
  refine c_cond H rfl (fun hc13 => ?_) (fun hc13 => ?_)
  · skip
    have q13 : (checkM p q).isSome = true := by rw [eV_nil] at hc13; revert hc13; cases checkM p q <;> simp
    obtain ⟨e, he⟩ := Option.isSome_iff_exists.1 q13
    refine wp_seq ?_
    refine wp_region_lit ?_
    refine n_q H (q_build (cs := [.slice none 0 0, .int .i64 0]) ze93 bd93 pl93 rfl (by kernel_rfl)) rfl ?_
    clear H a; intro a H
    refine n_q H (q_move rfl) rfl ?_
    clear H a; intro a H
    refine n_storeAll H rfl rfl rfl sz93 hB4 rfl (by simp [(eV_one _ _ _)]) ?_
    clear H; intro w10 hB4N hC11 hz; clear a; intro a H
    replace hB4 := hB4N; clear hB4N
    clear hz
    replace hB2 := hC11.blk hB2 (by simp [blks] <;> omega)
    replace hB3 := hC11.blk hB3 (by simp [blks] <;> omega)
    replace hX := Chg.below hX hC11 (Nat.le_refl _) (by simp [blks] <;> omega)
    refine n_q H (q_assign rfl) rfl ?_
    clear H a; intro a H
    refine n_q H (q_assign rfl) rfl ?_
    clear H a; intro a H
    refine n_q H (q_assign rfl) rfl ?_
    clear H a; intro a H
    refine n_nil ?_
    refine then_normal ?_
    refine wp_ret ?_
    refine then_ret ?_
    refine retL H (.inr rfl) rfl (vs := [_, _, _, _]) (resCell rfl (hB4.ldAll ag93 sz93) (resTmp rfl (resTmp rfl (resTmp rfl resNil)))) ?_
    rw [he]; exact ⟨hX, .inl ⟨e, by simp [getErr, he], rfl⟩⟩
  · skip
    have q13 : (checkM p q).isSome = false := by rw [eV_nil] at hc13; revert hc13; cases checkM p q <;> simp
    refine wp_skip ?_
    refine then_normal ?_
    refine wp_seq ?_
    refine wp_block ?_
    refine wp_seq ?_
    refine wp_region_lit ?_
    refine n_q H (q_load rfl (hB2.ldAll ag90 sz90)) rfl ?_
    clear H a; intro a H
    refine n_call H rfl en89 (isIn_w) rfl ?_
    clear H a; intro v14 w12 hv a H
    obtain ⟨rfl, hE13⟩ := hv
    replace hB2 := hB2.ext hE13
    replace hB3 := hB3.ext hE13
    replace hB4 := hB4.ext hE13
    replace hX := Ext.trans' hX hE13
    refine n_q H (q_not rfl) rfl ?_
    clear H a; intro a H
    refine n_q H (q_assign rfl) rfl ?_
    clear H a; intro a H
    refine n_nil ?_
    refine then_normal ?_
    refine c_cond H rfl (fun hc16 => ?_) (fun hc16 => ?_)
    · skip
      have q16 : isInM p = false := by simpa using hc16
      refine wp_seq ?_
      refine c_ord [b4] 6 (by kernel_rfl) ?_
      obtain ⟨w15, hw15⟩ : ∃ x, x = w12.drew := ⟨_, rfl⟩
      rw [← hw15]
      have hE16 : Ext w12 w15 := by rw [hw15]; exact Ext.drew' _
      clear hw15
      replace hB2 := hB2.ext hE16
      replace hB3 := hB3.ext hE16
      replace hB4 := hB4.ext hE16
      replace hX := Ext.trans' hX hE16
      have hh_b2 := hB2.lt
      have hh_b3 := hB3.lt
      have hh_b4 := hB4.lt
      have hh0 := hX.size
      refine k_take 0 H rfl (q_build (cs := [.slice none 0 0, .int .i64 0]) ze93 bd93 pl93 rfl (by kernel_rfl)) rfl (by kernel_rfl) (by kernel_rfl) (by kernel_rfl) (by kernel_rfl) (fun _ _ _ h => h) ?_
      clear H a; intro a H
      refine k_take 1 H rfl (q_load rfl (LdC.old (hG.ld 6 (by simp) ag43) hX hh0 (by simp <;> omega))) rfl (by kernel_rfl) (by kernel_rfl) (by kernel_rfl) (by kernel_rfl) (fun _ _ _ h => h) ?_
      clear H a; intro a H
      refine k_storeAll 2 H rfl rfl rfl rfl sz93 hB4 rfl (by simp [(eV_one _ _ _)]) (by kernel_rfl) (.inl (by simp)) ?_
      clear H; intro w17 hB4N hC18 hz; clear a; intro a H
      replace hB4 := hB4N; clear hB4N
      clear hz
      replace hB2 := hC18.blk hB2 (by simp [blks] <;> omega)
      replace hB3 := hC18.blk hB3 (by simp [blks] <;> omega)
      replace hX := Chg.below hX hC18 (Nat.le_refl _) (by simp [blks] <;> omega)
      refine k_take 3 H rfl (q_assign rfl) rfl (by kernel_rfl) (by kernel_rfl) (by kernel_rfl) (by kernel_rfl) (fun _ _ _ h => h) ?_
      clear H a; intro a H
      refine k_take 4 H rfl (q_assign rfl) rfl (by kernel_rfl) (by kernel_rfl) (by kernel_rfl) (by kernel_rfl) (fun _ _ _ h => h) ?_
      clear H a; intro a H
      refine k_take 5 H rfl (q_assign rfl) rfl (by kernel_rfl) (by kernel_rfl) (by kernel_rfl) (by kernel_rfl) (fun _ _ _ h => h) ?_
      clear H a; intro a H
      refine k_done (by kernel_rfl) ?_
      refine then_normal ?_
      refine wp_ret ?_
      refine block_ret ?_
      refine then_ret ?_
      refine retL H (.inr rfl) rfl (vs := [_, _, _, _]) (resCell rfl (hB4.ldAll ag93 sz93) (resTmp rfl (resTmp rfl (resTmp rfl resNil)))) ?_
      exact ⟨hX, .inl ⟨6, by simp [getErr, q13, q16], rfl⟩⟩
    · skip
      have q16 : isInM p = true := by simpa using hc16
      refine wp_seq ?_
      refine wp_region_lit ?_
      refine n_q H (q_fieldAddr0 rfl fo93_0) rfl ?_
      clear H a; intro a H
      refine n_q H (q_load rfl (hB3.ld ag87 rfl)) rfl ?_
      clear H a; intro a H
      refine n_q H (q_lenSl Tryd.underlying87 rfl) rfl ?_
      clear H a; intro a H
      refine n_q H (q_eql rfl rfl) rfl ?_
      clear H a; intro a H
      refine n_q H (q_assign rfl) rfl ?_
      clear H a; intro a H
      refine n_nil ?_
      refine then_normal ?_
      refine c_cond H rfl (fun hc22 => ?_) (fun hc22 => ?_)
      · skip
        have q22 : q.msgs.length = 0 := by simpa using hc22
        refine wp_seq ?_
        refine c_ord [b4] 6 (by kernel_rfl) ?_
        obtain ⟨w19, hw19⟩ : ∃ x, x = w12.drew := ⟨_, rfl⟩
        rw [← hw19]
        have hE20 : Ext w12 w19 := by rw [hw19]; exact Ext.drew' _
        clear hw19
        replace hB2 := hB2.ext hE20
        replace hB3 := hB3.ext hE20
        replace hB4 := hB4.ext hE20
        replace hX := Ext.trans' hX hE20
        have hh_b2 := hB2.lt
        have hh_b3 := hB3.lt
        have hh_b4 := hB4.lt
        have hh0 := hX.size
        refine k_take 0 H rfl (q_build (cs := [.slice none 0 0, .int .i64 0]) ze93 bd93 pl93 rfl (by kernel_rfl)) rfl (by kernel_rfl) (by kernel_rfl) (by kernel_rfl) (by kernel_rfl) (fun _ _ _ h => h) ?_
        clear H a; intro a H
        refine k_take 1 H rfl (q_load rfl (LdC.old (hG.ld 12 (by simp) ag43) hX hh0 (by simp <;> omega))) rfl (by kernel_rfl) (by kernel_rfl) (by kernel_rfl) (by kernel_rfl) (fun _ _ _ h => h) ?_
        clear H a; intro a H
        refine k_storeAll 2 H rfl rfl rfl rfl sz93 hB4 rfl (by simp [(eV_one _ _ _)]) (by kernel_rfl) (.inl (by simp)) ?_
        clear H; intro w21 hB4N hC22 hz; clear a; intro a H
        replace hB4 := hB4N; clear hB4N
        clear hz
        replace hB2 := hC22.blk hB2 (by simp [blks] <;> omega)
        replace hB3 := hC22.blk hB3 (by simp [blks] <;> omega)
        replace hX := Chg.below hX hC22 (Nat.le_refl _) (by simp [blks] <;> omega)
        refine k_take 3 H rfl (q_assign rfl) rfl (by kernel_rfl) (by kernel_rfl) (by kernel_rfl) (by kernel_rfl) (fun _ _ _ h => h) ?_
        clear H a; intro a H
        refine k_take 4 H rfl (q_assign rfl) rfl (by kernel_rfl) (by kernel_rfl) (by kernel_rfl) (by kernel_rfl) (fun _ _ _ h => h) ?_
        clear H a; intro a H
        refine k_take 5 H rfl (q_assign rfl) rfl (by kernel_rfl) (by kernel_rfl) (by kernel_rfl) (by kernel_rfl) (fun _ _ _ h => h) ?_
        clear H a; intro a H
        refine k_done (by kernel_rfl) ?_
        refine then_normal ?_
        refine wp_ret ?_
        refine block_ret ?_
        refine then_ret ?_
        refine retL H (.inr rfl) rfl (vs := [_, _, _, _]) (resCell rfl (hB4.ldAll ag93 sz93) (resTmp rfl (resTmp rfl (resTmp rfl resNil)))) ?_
        exact ⟨hX, .inl ⟨12, by simp [getErr, q13, q16, q22], rfl⟩⟩
      · skip
        have q22 : ¬ q.msgs.length = 0 := by simpa using hc22
        have hi1 : 0 < q.msgs.length := by omega
        obtain ⟨s, hs⟩ := h.r.at hi1
        obtain ⟨ad, rfl⟩ := h.r.addr hi1
        have hge : getErr p q = none := by unfold getErr; rw [if_neg (by simp [q13]), if_neg (by simp [q16]), if_neg q22]
        refine wp_seq ?_
        refine wp_region_lit ?_
        refine n_q H (q_load rfl (hB2.ldAll ag90 sz90)) rfl ?_
        clear H a; intro a H
        refine n_call H rfl en88 (isQueue_w) rfl ?_
        clear H a; intro v25 w23 hv a H
        obtain ⟨rfl, hE24⟩ := hv
        replace hB2 := hB2.ext hE24
        replace hB3 := hB3.ext hE24
        replace hB4 := hB4.ext hE24
        replace hX := Ext.trans' hX hE24
        refine n_q H (q_assign rfl) rfl ?_
        clear H a; intro a H
        refine n_nil ?_
        refine then_normal ?_
        refine c_cond H rfl (fun hc29 => ?_) (fun hc29 => ?_)
        · skip
          refine wp_seq ?_
          refine c_ord [b4] 13 (by kernel_rfl) ?_
          obtain ⟨w26, hw26⟩ : ∃ x, x = w23.drew := ⟨_, rfl⟩
          rw [← hw26]
          have hE27 : Ext w23 w26 := by rw [hw26]; exact Ext.drew' _
          clear hw26
          replace hB2 := hB2.ext hE27
          replace hB3 := hB3.ext hE27
          replace hB4 := hB4.ext hE27
          replace hX := Ext.trans' hX hE27
          have hh_b2 := hB2.lt
          have hh_b3 := hB3.lt
          have hh_b4 := hB4.lt
          have hh0 := hX.size
          refine k_take 0 H rfl (q_fieldAddr0 rfl fo93_0) rfl (by kernel_rfl) (by kernel_rfl) (by kernel_rfl) (by kernel_rfl) (fun _ _ _ h => h) ?_
          clear H a; intro a H
          refine k_take 1 H rfl (q_load rfl (hB3.ldB hh_b3 (by simp <;> omega) ag87 rfl)) rfl (by kernel_rfl) (by kernel_rfl) (by kernel_rfl) (by kernel_rfl) (fun _ _ _ h => h) ?_
          clear H a; intro a H
          refine k_take 2 H rfl (q_sliceFrom Tryd.underlying87 sz9 rfl rfl (by omega) (by omega)) rfl (by kernel_rfl) (by kernel_rfl) (by kernel_rfl) (by kernel_rfl) (fun _ _ _ h => h) ?_
          clear H a; intro a H
          refine k_take 5 H rfl (q_fieldAddr0 rfl fo93_0) rfl (by kernel_rfl) (by kernel_rfl) (by kernel_rfl) (by kernel_rfl) (fun _ _ _ h => h) ?_
          clear H a; intro a H
          refine k_take 6 H rfl (q_load rfl (hB3.ldB hh_b3 (by simp <;> omega) ag87 rfl)) rfl (by kernel_rfl) (by kernel_rfl) (by kernel_rfl) (by kernel_rfl) (fun _ _ _ h => h) ?_
          clear H a; intro a H
          refine k_take 7 H rfl (q_indexAddr Tryd.underlying87 sz9 rfl rfl (by omega) (by omega)) rfl (by kernel_rfl) (by kernel_rfl) (by kernel_rfl) (by kernel_rfl) (fun _ _ _ h => h) ?_
          clear H a; intro a H
          refine k_take 8 H rfl (q_load rfl (LdC.old (h.r.ldOne (i := 0) ag9 hs rfl) hX hh0 (by simp <;> omega))) rfl (by kernel_rfl) (by kernel_rfl) (by kernel_rfl) (by kernel_rfl) (fun _ _ _ h => h) ?_
          clear H a; intro a H
          refine k_call 3 H rfl rfl en91 (clone_string (Sl.ext (Flat.mono _) (slDrop h (by omega)) hX)) rfl (by kernel_rfl) (fun v w hv => .inl (ChgF.of_ext hv.2.1)) ?_
          clear H a; intro v35 w28 hv a H
          obtain ⟨hO35, hE29, hf35⟩ := hv
          have hn_v35_b2 : ∀ c ∈ blks v35, c ≠ b2 := fun c hc => by have := hf35 c hc; have := hB2.lt; omega
          have hn_v35_b3 : ∀ c ∈ blks v35, c ≠ b3 := fun c hc => by have := hf35 c hc; have := hB3.lt; omega
          have hn_v35_b4 : ∀ c ∈ blks v35, c ≠ b4 := fun c hc => by have := hf35 c hc; have := hB4.lt; omega
          have hlo_v35 : ∀ c ∈ blks v35, w.heap.size ≤ c := fun c hc => by have := hf35 c hc; have := hX.size; omega
          replace hB2 := hB2.ext hE29
          replace hB3 := hB3.ext hE29
          replace hB4 := hB4.ext hE29
          replace hX := Ext.trans' hX hE29
          refine k_take 4 H rfl (q_build ze93 bd93 pl93 rfl (build_port1 hO35.one)) rfl (by kernel_rfl) (by kernel_rfl) (by kernel_rfl) (by kernel_rfl) (fun _ _ _ h => h) ?_
          clear H a; intro a H
          refine k_storeAll 9 H rfl rfl rfl rfl sz93 hB4 rfl (by simp [hO35.one]) (by kernel_rfl) (.inl (by simp)) ?_
          clear H; intro w30 hB4N hC31 hz; clear a; intro a H
          replace hB4 := hB4N; clear hB4N
          clear hz
          replace hB2 := hC31.blk hB2 (by simp [blks] <;> omega)
          replace hB3 := hC31.blk hB3 (by simp [blks] <;> omega)
          replace hO35 := hO35.chg hC31 (fun c hc hd => by simp [blks] at hd; (try exact hn_v35_b4 c hc hd))
          replace hX := Chg.below hX hC31 (Nat.le_refl _) (by simp [blks] <;> omega)
          refine k_take 10 H rfl (q_assign rfl) rfl (by kernel_rfl) (by kernel_rfl) (by kernel_rfl) (by kernel_rfl) (fun _ _ _ h => h) ?_
          clear H a; intro a H
          refine k_take 11 H rfl (q_assign rfl) rfl (by kernel_rfl) (by kernel_rfl) (by kernel_rfl) (by kernel_rfl) (fun _ _ _ h => h) ?_
          clear H a; intro a H
          refine k_take 12 H rfl (q_assign rfl) rfl (by kernel_rfl) (by kernel_rfl) (by kernel_rfl) (by kernel_rfl) (fun _ _ _ h => h) ?_
          clear H a; intro a H
          refine k_done (by kernel_rfl) ?_
          refine then_normal ?_
          refine wp_ret ?_
          refine block_ret ?_
          refine then_ret ?_
          refine retL H (.inr rfl) rfl (vs := [_, _, _, _]) (resCell rfl (hB4.ldAll ag93 sz93) (resTmp rfl (resTmp rfl (resTmp rfl resNil)))) ?_
          exact ⟨hX, .inr (.inl ⟨s, v35, hge, hs, hc29, rfl, NewSl.own hO35 rfl hlo_v35 (by have := h.b; rw [List.length_drop]; omega)⟩)⟩
        · skip
          refine wp_skip ?_
          refine block_normal ?_
          refine then_normal ?_
          refine wp_seq ?_
          refine c_ord [b4] 15 (by kernel_rfl) ?_
          obtain ⟨w32, hw32⟩ : ∃ x, x = w23.drew := ⟨_, rfl⟩
          rw [← hw32]
          have hE33 : Ext w23 w32 := by rw [hw32]; exact Ext.drew' _
          clear hw32
          replace hB2 := hB2.ext hE33
          replace hB3 := hB3.ext hE33
          replace hB4 := hB4.ext hE33
          replace hX := Ext.trans' hX hE33
          have hh_b2 := hB2.lt
          have hh_b3 := hB3.lt
          have hh_b4 := hB4.lt
          have hh0 := hX.size
          refine k_take 0 H rfl (q_load rfl (hB3.ldAllB hh_b3 (by simp <;> omega) ag93 sz93)) rfl (by kernel_rfl) (by kernel_rfl) (by kernel_rfl) (by kernel_rfl) (fun _ _ _ h => h) ?_
          clear H a; intro a H
          refine k_take 2 H rfl (q_fieldAddr0 rfl fo93_0) rfl (by kernel_rfl) (by kernel_rfl) (by kernel_rfl) (by kernel_rfl) (fun _ _ _ h => h) ?_
          clear H a; intro a H
          refine k_take 3 H rfl (q_load rfl (hB3.ldB hh_b3 (by simp <;> omega) ag87 rfl)) rfl (by kernel_rfl) (by kernel_rfl) (by kernel_rfl) (by kernel_rfl) (fun _ _ _ h => h) ?_
          clear H a; intro a H
          refine k_take 4 H rfl (q_indexAddr Tryd.underlying87 sz9 rfl rfl (by omega) (by omega)) rfl (by kernel_rfl) (by kernel_rfl) (by kernel_rfl) (by kernel_rfl) (fun _ _ _ h => h) ?_
          clear H a; intro a H
          refine k_take 5 H rfl (q_load rfl (LdC.old (h.r.ldOne (i := 0) ag9 hs rfl) hX hh0 (by simp <;> omega))) rfl (by kernel_rfl) (by kernel_rfl) (by kernel_rfl) (by kernel_rfl) (fun _ _ _ h => h) ?_
          clear H a; intro a H
          refine k_take 6 H rfl (q_fieldAddr0 rfl fo93_1) rfl (by kernel_rfl) (by kernel_rfl) (by kernel_rfl) (by kernel_rfl) (fun _ _ _ h => h) ?_
          clear H a; intro a H
          refine k_take 7 H rfl (q_load rfl (hB3.ldB hh_b3 (by simp <;> omega) ag3 rfl)) rfl (by kernel_rfl) (by kernel_rfl) (by kernel_rfl) (by kernel_rfl) (fun _ _ _ h => h) ?_
          clear H a; intro a H
          refine k_take 8 H rfl (q_fieldAddr0 rfl fo90_3) rfl (by kernel_rfl) (by kernel_rfl) (by kernel_rfl) (by kernel_rfl) (fun _ _ _ h => h) ?_
          clear H a; intro a H
          refine k_take 9 H rfl (q_load rfl (hB2.ldB hh_b2 (by simp <;> omega) ag3 rfl)) rfl (by kernel_rfl) (by kernel_rfl) (by kernel_rfl) (by kernel_rfl) (fun _ _ _ h => h) ?_
          clear H a; intro a H
          refine k_take 10 H rfl (q_lss rfl rfl) rfl (by kernel_rfl) (by kernel_rfl) (by kernel_rfl) (by kernel_rfl) (fun _ _ _ h => h) ?_
          clear H a; intro a H
          refine k_call 1 H rfl rfl en92 (copied_w (h.ext (Flat.mono _) hX)) rfl (by kernel_rfl) (fun v w hv => by obtain ⟨_, _, _, hx⟩ := hv; exact .inl (ChgF.of_ext hx)) ?_
          clear H a; intro v36 w34 hv a H
          obtain ⟨m1, rfl, hm2, hE35⟩ := hv
          have ht_b4 := hB4.lt
          have htw := hX.size
          replace hB2 := hB2.ext hE35
          replace hB3 := hB3.ext hE35
          replace hB4 := hB4.ext hE35
          replace hX := Ext.trans' hX hE35
          have hR1 := Ext.rfl' (w := w34)
          refine k_storeAll 11 H rfl rfl rfl rfl sz93 hB4 rfl (by simp [hm2.sl.r.one]) (by kernel_rfl) (.inl (by simp)) ?_
          clear H; intro w37 hB4N hC38 hz; clear a; intro a H
          replace hB4 := hB4N; clear hB4N
          clear hz
          replace hB2 := hC38.blk hB2 (by simp [blks] <;> omega)
          replace hB3 := hC38.blk hB3 (by simp [blks] <;> omega)
          replace hX := Chg.below hX hC38 (Nat.le_refl _) (by simp [blks] <;> omega)
          replace hm2 := (hm2.ext hR1).chg hC38 (by simp; exact ht_b4)
          refine k_take 12 H rfl (q_assign rfl) rfl (by kernel_rfl) (by kernel_rfl) (by kernel_rfl) (by kernel_rfl) (fun _ _ _ h => h) ?_
          clear H a; intro a H
          refine k_take 13 H rfl (q_assign rfl) rfl (by kernel_rfl) (by kernel_rfl) (by kernel_rfl) (by kernel_rfl) (fun _ _ _ h => h) ?_
          clear H a; intro a H
          refine k_take 14 H rfl (q_assign rfl) rfl (by kernel_rfl) (by kernel_rfl) (by kernel_rfl) (by kernel_rfl) (fun _ _ _ h => h) ?_
          clear H a; intro a H
          refine k_done (by kernel_rfl) ?_
          refine then_normal ?_
          refine wp_ret ?_
          refine retL H (.inr rfl) rfl (vs := [_, _, _, _]) (resCell rfl (hB4.ldAll ag93 sz93) (resTmp rfl (resTmp rfl (resTmp rfl resNil)))) ?_
          exact ⟨hX, .inr (.inr ⟨s, m1, hge, hs, hc29, rfl, hm2.old htw⟩)⟩

end Go.Proofs.YtdglaodhmlocdaaDoor
