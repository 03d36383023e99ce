/- ferrytop.FerryQueuesInOrder, step by step (written by wip/tools) -/
import Derived.Test.YtdglaodhmlocdaaDoorPort
set_option linter.unusedVariables false
set_option linter.unusedSimpArgs false
set_option maxRecDepth 10000
namespace Go.Proofs.YtdglaodhmlocdaaDoor
open Go Go.RowKit
theorem bd90 : bdB Tryd.prog 90 = true := by kernel_rfl
theorem pl90 : placesB Tryd.prog 90 = some #[(0, 1), (1, 1), (2, 1), (3, 1)] := by kernel_rfl
theorem en41 : entersB Tryd.prog 41 = true := by kernel_rfl
theorem en43 : entersB Tryd.prog 43 = true := by kernel_rfl
theorem en44 : entersB Tryd.prog 44 = true := by kernel_rfl
theorem en45 : entersB Tryd.prog 45 = true := by kernel_rfl
theorem ze90 : zeroB Tryd.prog 90 = some [.int .i64 0, .int .i64 0, .int .i64 0, .int .i64 0] := by kernel_rfl

def planM (size depth : Int) : PPlanM := ⟨3, clampM size 1 32, clampM depth 1 8, 0⟩
theorem clamp_in {z lo hi : Int} (h : lo ≤ hi) : lo ≤ clampM z lo hi ∧ clampM z lo hi ≤ hi := by
  unfold clampM
  split
  · omega
  · split <;> omega
theorem plan_ok (size depth : Int) : checkPlanM (planM size depth) = none := by
  obtain ⟨a1, a2⟩ := clamp_in (z := size) (lo := 1) (hi := 32) (by omega)
  obtain ⟨b1, b2⟩ := clamp_in (z := depth) (lo := 1) (hi := 8) (by omega)
  have h1 : badKind (planM size depth) = false := rfl
  have h2 : badSize (planM size depth) = false := by
    simp only [badSize, Bool.or_eq_false_iff, decide_eq_false_iff_not]
    have e : (planM size depth).size = clampM size 1 32 := rfl
    rw [e]
    constructor <;> omega
  have h3 : badRange (planM size depth) = false := by
    simp only [badRange, Bool.or_eq_false_iff, decide_eq_false_iff_not]
    have e1 : (planM size depth).depth = clampM depth 1 8 := rfl
    have e2 : (planM size depth).refresh = 0 := rfl
    have e3 : mostDepth (planM size depth) = 8 := rfl
    have e4 : mostFresh (planM size depth) = 0 := rfl
    rw [e1, e2, e3, e4]
    refine ⟨⟨⟨?_, ?_⟩, ?_⟩, ?_⟩ <;> omega
  simp [checkPlanM, h1, h2, h3]
/-- What the queue holds keeps its plan. -/
def QOk (p : PPlanM) (want : List ByteArray) : Prop := (want.length : Int) ≤ p.depth ∧ ∀ m ∈ want, (m.size : Int) ≤ p.size
theorem check_ok {size depth : Int} {want : List ByteArray} (h : QOk (planM size depth) want) : checkM (planM size depth) ⟨want, 0⟩ = none := by
  have h1 : badFill (planM size depth) ⟨want, 0⟩ = false := by
    have := h.1
    simp only [badFill, Bool.or_eq_false_iff, decide_eq_false_iff_not]
    omega
  have h2 : badAge (planM size depth) ⟨want, 0⟩ = false := by simp [badAge]
  have h3 : (want.any fun m => decide ((planM size depth).size < (m.size : Int))) = false := by
    rw [List.any_eq_false]
    intro m hm
    have := h.2 m hm
    simp only [decide_eq_true_eq]
    omega
  have h4 : fitsM (planM size depth) ⟨want, 0⟩ = true := by simp [fitsM, h1, h2, h3]
  simp [checkM, plan_ok, h4]
theorem get_ok {size depth : Int} {want : List ByteArray} (h : QOk (planM size depth) want) : getErr (planM size depth) ⟨want, 0⟩ = if want.length = 0 then some 12 else none := by
  have h1 : isInM (planM size depth) = true := rfl
  simp [getErr, check_ok h, h1]
theorem add_ok {size depth : Int} {want : List ByteArray} (s : ByteArray) (h : QOk (planM size depth) want) :
    addErr (planM size depth) ⟨want, 0⟩ s (isInM (planM size depth)) = if (planM size depth).size < (s.size : Int) then some 11 else if (want.length : Int) = (planM size depth).depth then some 16 else none := by
  have h1 : isInM (planM size depth) = true := rfl
  have h2 : isQueueM (planM size depth) = true := rfl
  simp [addErr, check_ok h, h1, h2]
theorem put_ok {size depth : Int} {want : List ByteArray} {s : ByteArray} (h : QOk (planM size depth) want) (h1 : ¬ (planM size depth).size < (s.size : Int)) (h2 : ¬ (want.length : Int) = (planM size depth).depth) :
    addErr (planM size depth) ⟨want, 0⟩ s (isInM (planM size depth)) = none ∧ addMsgs (planM size depth) ⟨want, 0⟩ s (isInM (planM size depth)) = want ++ [s] ∧ QOk (planM size depth) (want ++ [s]) := by
  have e := add_ok s h
  rw [if_neg h1, if_neg h2] at e
  have hq : isQueueM (planM size depth) = true := rfl
  refine ⟨e, by simp [addMsgs, e, hq], ?_, ?_⟩
  · have := h.1
    simp only [List.length_append, List.length_cons, List.length_nil]
    omega
  · intro m hm
    rcases List.mem_append.1 hm with hm | hm
    · exact h.2 m hm
    · rw [List.mem_singleton.1 hm]; omega
theorem get_uni {TE : TypeId} {A : Nat → Addr} {w w' : World} {size depth : Int} {want : List ByteArray} {u : Value} (hok : QOk (planM size depth) want)
    (hg : (∃ e, getErr (planM size depth) ⟨want, 0⟩ = some e ∧ u = .tuple #[.agg #[.slice none 0 0, .int .i64 0], .string ⟨#[]⟩, .bool false, eV TE A (some e)]) ∨
      (∃ s m', getErr (planM size depth) ⟨want, 0⟩ = none ∧ want[0]? = some s ∧ isQueueM (planM size depth) = true ∧ u = .tuple #[.agg #[m', .int .i64 0], .string s, .bool true, .nilIface] ∧ NewSl w w' m' (want.drop 1)) ∨
      (∃ s m', getErr (planM size depth) ⟨want, 0⟩ = none ∧ want[0]? = some s ∧ isQueueM (planM size depth) = false ∧ u = .tuple #[.agg #[m', .int .i64 0], .string s, .bool (decide ((0 : Int) < (planM size depth).refresh)), .nilIface] ∧ NewSl w w' m' want)) :
    ∃ pm s1 ok1 e1, u = .tuple #[.agg #[pm, .int .i64 0], .string s1, .bool ok1, eV TE A e1] ∧ pm.oneCell' = true ∧ (want.length = 0 → ok1 = false ∧ e1.isNone = false) ∧ (∀ s, want[0]? = some s → s1 = s ∧ ok1 = true ∧ e1 = none ∧ NewSl w w' pm (want.drop 1)) := by
  rcases hg with ⟨e, he, rfl⟩ | ⟨s, m', he, hs, _, rfl, hn⟩ | ⟨s, m', he, hs, hq, _⟩
  · refine ⟨_, _, _, some e, rfl, rfl, fun _ => ⟨rfl, rfl⟩, fun s hs => ?_⟩
    rw [get_ok hok] at he
    split at he
    · rename_i h0
      rw [List.eq_nil_of_length_eq_zero h0] at hs
      simp at hs
    · cases he
  · refine ⟨m', s, true, none, rfl, hn.sl.r.one, fun h0 => ?_, fun s' hs' => ?_⟩
    · rw [List.eq_nil_of_length_eq_zero h0] at hs
      simp at hs
    · rw [hs] at hs'
      cases hs'
      exact ⟨rfl, rfl, rfl, hn⟩
  · exact absurd hq (by simp [isQueueM, planM])
theorem tail_ok {p : PPlanM} {want : List ByteArray} (h : QOk p want) : QOk p (want.drop 1) := ⟨by have := h.1; rw [List.length_drop]; omega, fun m hm => h.2 m (List.mem_of_mem_drop hm)⟩
def sA : ByteArray := ⟨#[97]⟩
def sE : ByteArray := ⟨#[]⟩
def sGet : ByteArray := ⟨#[0, 103, 101, 116]⟩
def allS (steps : List ByteArray) : List ByteArray := sA :: sE :: sGet :: steps
set_option maxHeartbeats 4000000 in
theorem queues_w {w : World} {A : Nat → Addr} {v : Value} {size depth : Int} {steps : List ByteArray} (hG : GV 198 gPort A w) (h : Sl w 1 16 (Flat eS) v steps) :
    Calls Tryd.prog 9 [.int .i64 size, .int .i64 depth, v].toArray w (Ret fun u w' => u = .bool true ∧ Ext w w') := by
  obtain ⟨A0, c0, rfl, hl0, hm0, hn0⟩ := h.r.form
  have hb0 := h.b
  simp only [lim] at hb0
  refine enter Tryd.func9 rfl rfl rfl ?_
  intro a H
  dsimp only [enumL, Nat.zero_add, Nat.reduceAdd] at H
  refine wp_seq ?_
  refine wp_region_lit ?_
  refine n_q H (q_assign rfl) rfl ?_
  clear H a; intro a H
  refine n_nil ?_
  refine then_normal ?_
  refine wp_seq ?_
  refine wp_region_lit ?_
  refine n_q H (q_move rfl) rfl ?_
  clear H a; intro a H
  refine n_call H rfl en41 (clamp_w) rfl ?_
  clear H a; intro v3 w1 hv a H
  obtain ⟨rfl, hE2⟩ := hv
  have hX := hE2
  refine n_q H (q_move rfl) rfl ?_
  clear H a; intro a H
  refine n_call H rfl en41 (clamp_w) rfl ?_
  clear H a; intro v6 w4 hv a H
  obtain ⟨rfl, hE5⟩ := hv
  replace hX := Ext.trans' hX hE5
  refine n_q H (q_build (cs := [.int .i64 3, .int .i64 (clampM size 1 32), .int .i64 (clampM depth 1 8), .int .i64 0]) ze90 bd90 pl90 rfl (by kernel_rfl)) rfl ?_
  clear H a; intro a H
  refine n_alloc H ze90 rfl ?_
  clear H; intro b7 w7 hB7 hE8 hs_b7; clear a; intro a H
  have hw_b7 : w.heap.size ≤ b7 := by have := hX.size; omega
  replace hX := Ext.trans' hX hE8
  refine n_storeAll H rfl rfl rfl sz90 hB7 rfl (by simp [(eV_one _ _ _)]) ?_
  clear H; intro w9 hB7N hC10 hz; clear a; intro a H
  replace hB7 := hB7N; clear hB7N
  clear hz
  replace hX := Chg.below hX hC10 (Nat.le_refl _) (by simp [blks] <;> omega)
  refine n_nil ?_
  refine then_normal ?_
  refine wp_seq ?_
  refine wp_seq ?_
  refine wp_region_lit ?_
  refine n_q H (q_load rfl (hB7.ldAll ag90 sz90)) rfl ?_
  clear H a; intro a H
  refine n_call H rfl en42 (checkPlan_w (p := (planM size depth)) ((hG.ext hX).sub (by simp))) rfl ?_
  clear H a; intro v13 w11 hv a H
  obtain ⟨rfl, hE12⟩ := hv
  replace hB7 := hB7.ext hE12
  replace hX := Ext.trans' hX hE12
  refine n_q H (q_nnilI Tryd.underlying43 rfl rfl (eV_form _ _ _)) rfl ?_
  clear H a; intro a H
  refine n_nil ?_
  refine then_normal ?_
  refine c_cond H rfl (fun hc25 => ?_) (fun hc25 => ?_)
  · skip
    exfalso; rw [eV_nil, plan_ok] at hc25; simp at hc25
  · skip
    refine wp_skip ?_
    refine then_normal ?_
    refine wp_seq ?_
    refine wp_region_lit ?_
    refine n_q H (q_build (cs := [.slice none 0 0, .int .i64 0]) ze93 bd93 pl93 rfl (by kernel_rfl)) rfl ?_
    clear H a; intro a H
    refine n_alloc H ze93 rfl ?_
    clear H; intro b8 w14 hB8 hE15 hs_b8; clear a; intro a H
    have hn_b7_b8 : b7 ≠ b8 := by have := hB7.lt; omega
    have hn_b8_b7 := hn_b7_b8.symm
    have hlt_b7_b8 : b7 < b8 := by have := hB7.lt; omega
    have hw_b8 : w.heap.size ≤ b8 := by have := hX.size; omega
    replace hB7 := hB7.ext hE15
    replace hX := Ext.trans' hX hE15
    refine n_storeAll H rfl rfl rfl sz93 hB8 rfl (by simp [(eV_one _ _ _)]) ?_
    clear H; intro w16 hB8N hC17 hz; clear a; intro a H
    replace hB8 := hB8N; clear hB8N
    clear hz
    replace hB7 := hC17.blk hB7 (by simp [blks] <;> omega)
    replace hX := Chg.below hX hC17 (Nat.le_refl _) (by simp [blks] <;> omega)
    refine n_nil ?_
    refine then_normal ?_
    refine wp_seq ?_
    refine wp_region_lit ?_
    refine n_buildSlice H Tryd.underlying87 sz9 ze9 rfl rfl rfl (cs := []) (by kernel_rfl) rfl ?_
    clear H; intro b27 w18 hB27 hE19 hs_b27; clear a; intro a H
    have hn_b7_b27 : b7 ≠ b27 := by have := hB7.lt; omega
    have hn_b27_b7 := hn_b7_b27.symm
    have hlt_b7_b27 : b7 < b27 := by have := hB7.lt; omega
    have hn_b8_b27 : b8 ≠ b27 := by have := hB8.lt; omega
    have hn_b27_b8 := hn_b8_b27.symm
    have hlt_b8_b27 : b8 < b27 := by have := hB8.lt; omega
    have hw_b27 : w.heap.size ≤ b27 := by have := hX.size; omega
    replace hB7 := hB7.ext hE19
    replace hB8 := hB8.ext hE19
    replace hX := Ext.trans' hX hE19
    refine n_q H (q_assign rfl) rfl ?_
    clear H a; intro a H
    refine n_nil ?_
    refine then_normal ?_
    refine wp_seq ?_
    refine wp_seq ?_
    refine wp_region_lit ?_
    refine n_buildSlice H Tryd.underlying87 sz9 ze9 rfl rfl rfl (cs := [.string ⟨#[97]⟩, .string ⟨#[]⟩, .string ⟨#[0, 103, 101, 116]⟩]) (by kernel_rfl) rfl ?_
    clear H; intro b28 w20 hB28 hE21 hs_b28; clear a; intro a H
    have hn_b7_b28 : b7 ≠ b28 := by have := hB7.lt; omega
    have hn_b28_b7 := hn_b7_b28.symm
    have hlt_b7_b28 : b7 < b28 := by have := hB7.lt; omega
    have hn_b8_b28 : b8 ≠ b28 := by have := hB8.lt; omega
    have hn_b28_b8 := hn_b8_b28.symm
    have hlt_b8_b28 : b8 < b28 := by have := hB8.lt; omega
    have hn_b27_b28 : b27 ≠ b28 := by have := hB27.lt; omega
    have hn_b28_b27 := hn_b27_b28.symm
    have hlt_b27_b28 : b27 < b28 := by have := hB27.lt; omega
    have hw_b28 : w.heap.size ≤ b28 := by have := hX.size; omega
    replace hB7 := hB7.ext hE21
    replace hB8 := hB8.ext hE21
    replace hB27 := hB27.ext hE21
    replace hX := Ext.trans' hX hE21
    refine n_q H (q_move rfl) rfl ?_
    clear H a; intro a H
    refine n_append H rfl rfl Tryd.underlying87 Tryd.underlying87 (by simp) el9 (Own.ofBlk (n := 3) (k := 1) hB28 rfl (by simp [maxLen])) ((h.r.ext (Flat.mono _) hX).src h.r.lens) (flat_one eS_one steps) (by omega) (by have := h.r.len63; simp only [maxLen] at this ⊢; omega) rfl ?_
    clear H; intro v30 w22 hO30 hC23 hb30 hnil30; clear a; intro a H
    have hf_v30 : ∀ c ∈ blks v30, b28 ≤ c := fresh_of hb30 (by simp [blks]) (Nat.le_of_lt hB28.lt)
    have hn_v30_b7 : ∀ c ∈ blks v30, c ≠ b7 := fun c hc => by have := hf_v30 c hc; have := hlt_b7_b28; omega
    have hn_v30_b8 : ∀ c ∈ blks v30, c ≠ b8 := fun c hc => by have := hf_v30 c hc; have := hlt_b8_b28; omega
    have hn_v30_b27 : ∀ c ∈ blks v30, c ≠ b27 := fun c hc => by have := hf_v30 c hc; have := hlt_b27_b28; omega
    have hlo_v30 : ∀ c ∈ blks v30, w.heap.size ≤ c := fun c hc => by have := hf_v30 c hc; omega
    replace hB7 := hC23.blk hB7 (by simp [blks] <;> omega)
    replace hB8 := hC23.blk hB8 (by simp [blks] <;> omega)
    replace hB27 := hC23.blk hB27 (by simp [blks] <;> omega)
    replace hX := Chg.below hX hC23 (Nat.le_refl _) (by simp [blks] <;> omega)
    replace hO30 : Own w22 9 1 v30 (3 + steps.length) ((allS steps).flatMap eS) := hO30
    obtain ⟨A30, c30, hv30, hl30, hm30, hn30, hz30⟩ := hO30.form
    simp only [maxLen] at hm30
    obtain ⟨ad30, rfl⟩ : ∃ ad, A30 = some ad := by cases A30 with | none => (have := (hn30 rfl).1; omega) | some ad => exact ⟨ad, rfl⟩
    refine n_q H (q_lenSl (A := some ad30) (n := 3 + steps.length) (c := c30) Tryd.underlying87 (congrArg some hv30)) rfl ?_
    clear H a; intro a H
    refine n_q H (q_move rfl) rfl ?_
    clear H a; intro a H
    refine n_nil ?_
    refine then_normal ?_
    refine wp_block ?_
    have ht_b7 := hB7.lt
    have ht_b8 := hB8.lt
    have ht_v30 := hO30.lt
    have ht0 := hX.size
    refine c_loop (σ := Nat × Value) (fun (i, vw) => [(7, .pointer (some ⟨b7, 0, none⟩)), (8, .pointer (some ⟨b8, 0, none⟩)), (9, vw), (30, v30), (31, .int .i64 ((3 + steps.length : Nat) : Int)), (32, .int .i64 (i : Nat))]) (fun (i, vw) wl => i ≤ 3 + steps.length ∧ (∃ (want : List ByteArray) (mq : Value) (fp : Nat → Prop), Blk wl b8 [mq, .int .i64 0] 93 ∧ Foot (fun w' => Sl w' 1 16 (Flat eS) mq want) fp wl ∧ (∀ b, fp b → b ∉ blks vw ∧ b ≠ b7 ∧ b ≠ b8) ∧ Own wl 9 1 vw want.length (want.flatMap eS) ∧ (∀ c ∈ blks vw, c = b27 ∨ w22.heap.size ≤ c) ∧ QOk (planM size depth) want) ∧ Chg [b8, b27] w22 wl) (fun (i, vw) => 3 + steps.length - i) (0, .slice (some ⟨b27, 0, none⟩) 0 0) H ⟨rfl, rfl, rfl, rfl, rfl, rfl, trivial⟩ ⟨Nat.zero_le _, ⟨[], .slice none 0 0, fun _ => False, hB8, ⟨fun _ hf => hf.elim, fun w' _ => ⟨(Own.nil w' 0 1).slr rfl (by simp), by simp [lim]⟩⟩, fun _ hf => hf.elim, Own.ofBlk (n := 0) hB27 rfl (by simp [maxLen]), by simp [blks], ⟨by have := (clamp_in (z := depth) (lo := 1) (hi := 8) (by omega)).1; show ((0 : Nat) : Int) ≤ clampM depth 1 8; omega, by simp⟩⟩, Chg.refl _ _⟩ ?_
    clear H; clear a; intro xx a w24 H hR
    obtain ⟨i, vw⟩ := xx
    simp only [ent, List.map_cons, List.map_nil] at H
    try dsimp only at hR
    obtain ⟨hi, ⟨want, mq, fp, hB8, hF, hfp, hOw, hvlo, hok⟩, hE25⟩ := hR
    replace hB7 := hE25.blk hB7 (by simp [blks] <;> omega)
    replace hO30 := hO30.chg hE25 (fun c hc hd => by simp [blks] at hd; rcases hd with hd | hd <;> first | exact hn_v30_b8 c hc hd | exact hn_v30_b27 c hc hd)
    replace hX := Chg.below hX hE25 (Nat.le_refl _) (by simp [blks] <;> omega)
    have hY26 := hE25
    have hn_vw_b7 : ∀ c ∈ blks vw, c ≠ b7 := fun c hc => by rcases hvlo c hc with h | h <;> omega
    have hn_vw_b8 : ∀ c ∈ blks vw, c ≠ b8 := fun c hc => by rcases hvlo c hc with h | h <;> omega
    have hlo_vw : ∀ c ∈ blks vw, w.heap.size ≤ c := fun c hc => by rcases hvlo c hc with h | h <;> omega
    have hn_vw_v30 : ∀ c ∈ blks vw, c ∉ blks v30 := fun c hc hd => by rcases hvlo c hc with h2 | h2 <;> first | exact hn_v30_b27 c hd h2 | (have := ht_v30 c hd; omega)
    have hn_v30_vw : ∀ c ∈ blks v30, c ∉ blks vw := fun c hc hd => hn_vw_v30 c hd hc
    have hRr := Ext.rfl' (w := w24)
    obtain ⟨Aw, cw, hvw, hlw, hmw, hnw, hzw⟩ := hOw.form
    have hsl30 : SlR w24 1 (Flat eS) (.slice (some ad30) (3 + steps.length) c30) (allS steps) := hv30 ▸ hO30.slr (by simp [allS]; omega) (by simp [eS])
    refine wp_seq ?_
    refine wp_region_lit ?_
    refine n_q H (q_lss rfl rfl) rfl ?_
    clear H a; intro a H
    refine n_nil ?_
    refine then_normal ?_
    refine wp_seq ?_
    refine c_cond H rfl (fun hc33 => ?_) (fun hc33 => ?_)
    · skip
      have hi2 : i < 3 + steps.length := by simp at hc33; omega
      have hi1 : i < (allS steps).length := by simp at hc33; simp [allS]; omega
      obtain ⟨x, hx⟩ := hsl30.at hi1
      refine wp_skip ?_
      refine then_normal ?_
      refine wp_seq ?_
      refine wp_block ?_
      refine wp_seq ?_
      refine wp_region_lit ?_
      refine n_q H (q_indexAddr (ad := ad30) (n := 3 + steps.length) (c := c30) Tryd.underlying87 sz9 (congrArg some hv30) rfl (by omega) (by omega)) rfl ?_
      clear H a; intro a H
      refine n_q H (q_load rfl (hsl30.ldOne ag9 hx rfl)) rfl ?_
      clear H a; intro a H
      refine n_q H (q_assign rfl) rfl ?_
      clear H a; intro a H
      refine n_nil ?_
      refine then_normal ?_
      refine wp_seq ?_
      refine wp_seq ?_
      refine wp_region_lit ?_
      refine n_q H (q_move rfl) rfl ?_
      clear H a; intro a H
      refine n_q H (q_eqlS rfl rfl) rfl ?_
      clear H a; intro a H
      refine n_nil ?_
      refine then_normal ?_
      refine c_cond H rfl (fun hc37 => ?_) (fun hc37 => ?_)
      · skip
        refine wp_seq ?_
        refine wp_region_lit ?_
        refine n_q H (q_load rfl (hB7.ldAll ag90 sz90)) rfl ?_
        clear H a; intro a H
        refine n_q H (q_load rfl (hB8.ldAll ag93 sz93)) rfl ?_
        clear H a; intro a H
        refine n_call H rfl en43 (get_w (p := (planM size depth)) (q := ⟨want, 0⟩) (hG.ext hX) (hF.now.ext (Flat.mono _) hRr)) rfl ?_
        clear H a; intro gv w27 hv a H
        obtain ⟨hE28, hg⟩ := hv
        obtain ⟨pm, s1, ok1, e1, rfl, hpm, hge, hgn⟩ := get_uni hok hg
        have ht_g7 := hB7.lt
        have ht_g8 := hB8.lt
        replace hB7 := hB7.ext hE28
        replace hB8 := hB8.ext hE28
        replace hO30 := hO30.ext hE28
        replace hOw := hOw.ext hE28
        replace hX := Ext.trans' hX hE28
        replace hY26 := Chg.trans hY26 (Chg.of_ext hE28)
        replace hRr := Ext.trans' hRr hE28
        have hRg := Ext.rfl' (w := w27)
        refine n_q H (q_move rfl) rfl ?_
        clear H a; intro a H
        refine n_q H (q_extract rfl rfl) rfl ?_
        clear H a; intro a H
        refine n_q H (q_extract rfl rfl) rfl ?_
        clear H a; intro a H
        refine n_q H (q_extract rfl rfl) rfl ?_
        clear H a; intro a H
        refine n_q H (q_extract rfl rfl) rfl ?_
        clear H a; intro a H
        refine n_alloc H ze93 rfl ?_
        clear H; intro b12 w29 hB12 hE30 hs_b12; clear a; intro a H
        have hn_b7_b12 : b7 ≠ b12 := by have := hB7.lt; omega
        have hn_b12_b7 := hn_b7_b12.symm
        have hlt_b7_b12 : b7 < b12 := by have := hB7.lt; omega
        have hn_b8_b12 : b8 ≠ b12 := by have := hB8.lt; omega
        have hn_b12_b8 := hn_b8_b12.symm
        have hlt_b8_b12 : b8 < b12 := by have := hB8.lt; omega
        have hw_b12 : w.heap.size ≤ b12 := by have := hX.size; omega
        have hlt_v30_b12 : ∀ c ∈ blks v30, c < b12 := fun c hc => by have := hO30.lt c hc; omega
        have hn_v30_b12 : ∀ c ∈ blks v30, c ≠ b12 := fun c hc => by have := hlt_v30_b12 c hc; omega
        have hlt_vw_b12 : ∀ c ∈ blks vw, c < b12 := fun c hc => by have := hOw.lt c hc; omega
        have hn_vw_b12 : ∀ c ∈ blks vw, c ≠ b12 := fun c hc => by have := hlt_vw_b12 c hc; omega
        have hq_hY26_b12 : w22.heap.size ≤ b12 := by have := hY26.size; omega
        have hq_hRr_b12 : w24.heap.size ≤ b12 := by have := hRr.size; omega
        have hq_hRg_b12 : w27.heap.size ≤ b12 := by have := hRg.size; omega
        replace hB7 := hB7.ext hE30
        replace hB8 := hB8.ext hE30
        replace hO30 := hO30.ext hE30
        replace hOw := hOw.ext hE30
        replace hX := Ext.trans' hX hE30
        replace hY26 := Chg.trans hY26 (Chg.of_ext hE30)
        replace hRr := Ext.trans' hRr hE30
        replace hRg := Ext.trans' hRg hE30
        refine n_storeAll H rfl rfl rfl sz93 hB12 rfl (by simp [hpm]) ?_
        clear H; intro w31 hB12N hC32 hz; clear a; intro a H
        replace hB12 := hB12N; clear hB12N
        clear hz
        replace hB7 := hC32.blk hB7 (by simp [blks] <;> omega)
        replace hB8 := hC32.blk hB8 (by simp [blks] <;> omega)
        replace hO30 := hO30.chg hC32 (fun c hc hd => by simp [blks] at hd; (try exact hn_v30_b12 c hc hd))
        replace hOw := hOw.chg hC32 (fun c hc hd => by simp [blks] at hd; (try exact hn_vw_b12 c hc hd))
        replace hY26 := Chg.trans2 hY26 hC32 (by simp [blks] <;> omega)
        replace hRr := Chg.below hRr hC32 (Nat.le_refl _) (by simp [blks] <;> omega)
        replace hRg := Chg.below hRg hC32 (Nat.le_refl _) (by simp [blks] <;> omega)
        replace hX := Chg.below hX hC32 (Nat.le_refl _) (by simp [blks] <;> omega)
        refine n_q H (q_assign rfl) rfl ?_
        clear H a; intro a H
        refine n_q H (q_assign rfl) rfl ?_
        clear H a; intro a H
        refine n_q H (q_assign rfl) rfl ?_
        clear H a; intro a H
        refine n_nil ?_
        refine then_normal ?_
        refine wp_seq ?_
        refine wp_seq ?_
        refine wp_region_lit ?_
        refine n_q H (q_move rfl) rfl ?_
        clear H a; intro a H
        refine n_q H (q_lenSl (A := Aw) (n := want.length) (c := cw) Tryd.underlying87 (congrArg some hvw)) rfl ?_
        clear H a; intro a H
        refine n_q H (q_eql rfl rfl) rfl ?_
        clear H a; intro a H
        refine n_nil ?_
        refine then_normal ?_
        refine c_cond H rfl (fun hc48 => ?_) (fun hc48 => ?_)
        · skip
          have h0 : want.length = 0 := by simpa using hc48
          refine wp_seq ?_
          refine wp_seq ?_
          refine wp_region_lit ?_
          refine n_c H (fun HC => ?_); clear H
          refine nc_q HC (q_move rfl) rfl (by kernel_rfl) ?_
          clear HC a; intro a HC
          refine nc_q HC (q_nilI Tryd.underlying43 rfl rfl (eV_form _ _ _)) rfl (by kernel_rfl) ?_
          clear HC a; intro a HC
          refine nc_q HC (q_move rfl) rfl (by kernel_rfl) ?_
          clear HC a; intro a HC
          refine nc_g HC (q_move rfl) (by kernel_rfl) (by kernel_rfl) (by kernel_rfl) ?_
          clear HC a; intro a HC
          refine nc_and (j := 2) HC rfl rfl rfl (by kernel_rfl) (by kernel_rfl) ?_
          clear HC a; intro a HC
          have H := HC.has; clear HC
          refine n_nil ?_
          refine then_normal ?_
          refine c_cond H rfl (fun hc53 => ?_) (fun hc53 => ?_)
          · skip
            exfalso; obtain ⟨q1, q2⟩ := hge h0; subst q1; simp at hc53
          · skip
            refine wp_skip ?_
            refine then_normal ?_
            refine wp_exit ?_
            refine then_exit ?_
            refine then_exit ?_
            refine block_exit ?_
            refine then_normal ?_
            refine wp_region_lit ?_
            refine n_q H (q_add rfl rfl (by constructor <;> omega)) rfl ?_
            clear H a; intro a H
            refine n_q H (q_move rfl) rfl ?_
            clear H a; intro a H
            refine n_nil ?_
            refine then_normal ?_
            exact round (i + 1, vw) H ⟨rfl, rfl, rfl, rfl, rfl, rfl, trivial⟩ ⟨by omega, ⟨want, mq, fp, hB8, hF.ext hRr, hfp, hOw, hvlo, hok⟩, hY26⟩ (by first | omega | (dsimp only; omega))
        · skip
          have h0 : 0 < want.length := by simp at hc48; cases want with | nil => simp at hc48 | cons a b => simp
          obtain ⟨s0, hx0⟩ : ∃ s0, want[0]? = some s0 := ⟨_, List.getElem?_eq_getElem h0⟩
          obtain ⟨bw, cw2, hvw2⟩ := hOw.sm h0
          have hslw : SlR w31 1 (Flat eS) (.slice (some ⟨bw, 0, none⟩) want.length cw2) want := hvw2 ▸ hOw.slr rfl (by simp [eS])
          have hRs := Ext.rfl' (w := w31)
          refine wp_skip ?_
          refine then_normal ?_
          refine wp_seq ?_
          refine wp_seq ?_
          refine wp_region_lit ?_
          refine n_c H (fun HC => ?_); clear H
          refine nc_q HC (q_move rfl) rfl (by kernel_rfl) ?_
          clear HC a; intro a HC
          refine nc_q HC (q_nnilI Tryd.underlying43 rfl rfl (eV_form _ _ _)) rfl (by kernel_rfl) ?_
          clear HC a; intro a HC
          refine nc_q HC (q_move rfl) rfl (by kernel_rfl) ?_
          clear HC a; intro a HC
          refine nc_g HC (q_move rfl) (by kernel_rfl) (by kernel_rfl) (by kernel_rfl) ?_
          clear HC a; intro a HC
          refine nc_g HC (q_not rfl) (by kernel_rfl) (by kernel_rfl) (by kernel_rfl) ?_
          clear HC a; intro a HC
          refine nc_or (j := 2) HC rfl rfl rfl (by kernel_rfl) (by kernel_rfl) ?_
          clear HC a; intro a HC
          refine nc_q HC (q_move rfl) rfl (by kernel_rfl) ?_
          clear HC a; intro a HC
          refine nc_g HC (q_move rfl) (by kernel_rfl) (by kernel_rfl) (by kernel_rfl) ?_
          clear HC a; intro a HC
          refine nc_g HC (q_move rfl) (by kernel_rfl) (by kernel_rfl) (by kernel_rfl) ?_
          clear HC a; intro a HC
          refine nc_g HC (q_indexAddr (ad := ⟨bw, 0, none⟩) (n := want.length) (c := cw2) Tryd.underlying87 sz9 (congrArg some hvw2) rfl (by omega) (by omega)) (by kernel_rfl) (by kernel_rfl) (by kernel_rfl) ?_
          clear HC a; intro a HC
          refine nc_g HC (q_load rfl (LdX.ext (hslw.ldOne (i := 0) ag9 hx0 rfl) hRs)) (by kernel_rfl) (by kernel_rfl) (by kernel_rfl) ?_
          clear HC a; intro a HC
          refine nc_g HC (q_neqS rfl rfl) (by kernel_rfl) (by kernel_rfl) (by kernel_rfl) ?_
          clear HC a; intro a HC
          refine nc_or (j := 6) HC rfl rfl rfl (by kernel_rfl) (by kernel_rfl) ?_
          clear HC a; intro a HC
          have H := HC.has; clear HC
          refine n_nil ?_
          refine then_normal ?_
          refine c_cond H rfl (fun hc66 => ?_) (fun hc66 => ?_)
          · skip
            exfalso; obtain ⟨q1, q2, q3, _⟩ := hgn s0 hx0; subst q1; subst q2; subst q3; simp [eV_nil] at hc66
          · skip
            obtain ⟨q1, q2, q3, hN⟩ := hgn s0 hx0
            clear hge hgn
            replace hN := hN
            obtain ⟨fpn, hFn, hln⟩ := hN
            have hflt := hFn.lt
            refine wp_skip ?_
            refine then_normal ?_
            refine wp_seq ?_
            refine wp_region_lit ?_
            refine n_buildSlice H Tryd.underlying87 sz9 ze9 rfl rfl rfl (cs := []) (by kernel_rfl) rfl ?_
            clear H; intro b67 w33 hB67 hE34 hs_b67; clear a; intro a H
            have hn_b7_b67 : b7 ≠ b67 := by have := hB7.lt; omega
            have hn_b67_b7 := hn_b7_b67.symm
            have hlt_b7_b67 : b7 < b67 := by have := hB7.lt; omega
            have hn_b8_b67 : b8 ≠ b67 := by have := hB8.lt; omega
            have hn_b67_b8 := hn_b8_b67.symm
            have hlt_b8_b67 : b8 < b67 := by have := hB8.lt; omega
            have hn_b12_b67 : b12 ≠ b67 := by have := hB12.lt; omega
            have hn_b67_b12 := hn_b12_b67.symm
            have hlt_b12_b67 : b12 < b67 := by have := hB12.lt; omega
            have hw_b67 : w.heap.size ≤ b67 := by have := hX.size; omega
            have hlt_v30_b67 : ∀ c ∈ blks v30, c < b67 := fun c hc => by have := hO30.lt c hc; omega
            have hn_v30_b67 : ∀ c ∈ blks v30, c ≠ b67 := fun c hc => by have := hlt_v30_b67 c hc; omega
            have hlt_vw_b67 : ∀ c ∈ blks vw, c < b67 := fun c hc => by have := hOw.lt c hc; omega
            have hn_vw_b67 : ∀ c ∈ blks vw, c ≠ b67 := fun c hc => by have := hlt_vw_b67 c hc; omega
            have hq_hY26_b67 : w22.heap.size ≤ b67 := by have := hY26.size; omega
            have hq_hRr_b67 : w24.heap.size ≤ b67 := by have := hRr.size; omega
            have hq_hRg_b67 : w27.heap.size ≤ b67 := by have := hRg.size; omega
            have hq_hRs_b67 : w31.heap.size ≤ b67 := by have := hRs.size; omega
            replace hB7 := hB7.ext hE34
            replace hB8 := hB8.ext hE34
            replace hB12 := hB12.ext hE34
            replace hO30 := hO30.ext hE34
            replace hOw := hOw.ext hE34
            replace hX := Ext.trans' hX hE34
            replace hY26 := Chg.trans hY26 (Chg.of_ext hE34)
            replace hRr := Ext.trans' hRr hE34
            replace hRg := Ext.trans' hRg hE34
            replace hRs := Ext.trans' hRs hE34
            refine n_q H (q_move rfl) rfl ?_
            clear H a; intro a H
            refine n_q H (q_sliceFrom (A := some ⟨bw, 0, none⟩) (n := want.length) (c := cw2) Tryd.underlying87 sz9 (congrArg some hvw2) rfl (by omega) (by omega)) rfl ?_
            clear H a; intro a H
            refine n_append H rfl rfl Tryd.underlying87 Tryd.underlying87 (by simp) el9 (Own.ofBlk (n := 0) hB67 rfl (by simp [maxLen])) (((hslw.drop 1 (by omega)).src (by simp [eS])).ext hRs) (flat_one eS_one _) (by have := hok.1; have := (clamp_in (z := depth) (lo := 1) (hi := 8) (by omega)).2; have e : (planM size depth).depth = clampM depth 1 8 := rfl; rw [List.length_drop]; omega) (by have := hslw.len63; rw [List.length_drop]; omega) rfl ?_
            clear H; intro v70 w35 hO70 hC36 hb70 hnil70; clear a; intro a H
            simp only [List.nil_append, Nat.zero_add] at hO70
            have hf_v70 : ∀ c ∈ blks v70, b67 ≤ c := fresh_of hb70 (by simp [blks]) (Nat.le_of_lt hB67.lt)
            have hn_v70_b7 : ∀ c ∈ blks v70, c ≠ b7 := fun c hc => by have := hf_v70 c hc; have := hlt_b7_b67; omega
            have hn_v70_b8 : ∀ c ∈ blks v70, c ≠ b8 := fun c hc => by have := hf_v70 c hc; have := hlt_b8_b67; omega
            have hn_v70_b12 : ∀ c ∈ blks v70, c ≠ b12 := fun c hc => by have := hf_v70 c hc; have := hlt_b12_b67; omega
            have hn_v70_v30 : ∀ c ∈ blks v70, c ∉ blks v30 := fun c hc hd => by have := hf_v70 c hc; have := hlt_v30_b67 c hd; omega
            have hn_v30_v70 : ∀ c ∈ blks v30, c ∉ blks v70 := fun c hc hd => hn_v70_v30 c hd hc
            have hn_v70_vw : ∀ c ∈ blks v70, c ∉ blks vw := fun c hc hd => by have := hf_v70 c hc; have := hlt_vw_b67 c hd; omega
            have hn_vw_v70 : ∀ c ∈ blks vw, c ∉ blks v70 := fun c hc hd => hn_v70_vw c hd hc
            have hlo_v70 : ∀ c ∈ blks v70, w.heap.size ≤ c := fun c hc => by have := hf_v70 c hc; omega
            replace hB7 := hC36.blk hB7 (by simp [blks] <;> omega)
            replace hB8 := hC36.blk hB8 (by simp [blks] <;> omega)
            replace hB12 := hC36.blk hB12 (by simp [blks] <;> omega)
            replace hO30 := hO30.chg hC36 (fun c hc hd => by simp [blks] at hd; (try exact hn_v30_b67 c hc hd))
            replace hOw := hOw.chg hC36 (fun c hc hd => by simp [blks] at hd; (try exact hn_vw_b67 c hc hd))
            replace hY26 := Chg.trans2 hY26 hC36 (by simp [blks] <;> omega)
            replace hRr := Chg.below hRr hC36 (Nat.le_refl _) (by simp [blks] <;> omega)
            replace hRg := Chg.below hRg hC36 (Nat.le_refl _) (by simp [blks] <;> omega)
            replace hRs := Chg.below hRs hC36 (Nat.le_refl _) (by simp [blks] <;> omega)
            replace hX := Chg.below hX hC36 (Nat.le_refl _) (by simp [blks] <;> omega)
            refine n_q H (q_assign rfl) rfl ?_
            clear H a; intro a H
            refine n_nil ?_
            refine then_normal ?_
            refine wp_seq ?_
            refine wp_region_lit ?_
            refine n_q H (q_load rfl (hB12.ldAll ag93 sz93)) rfl ?_
            clear H a; intro a H
            refine n_storeAll H rfl rfl rfl sz93 hB8 rfl (by simp [hpm]) ?_
            clear H; intro w37 hB8N hC38 hz; clear a; intro a H
            replace hB8 := hB8N; clear hB8N
            clear hz
            replace hB7 := hC38.blk hB7 (by simp [blks] <;> omega)
            replace hB12 := hC38.blk hB12 (by simp [blks] <;> omega)
            replace hO30 := hO30.chg hC38 (fun c hc hd => by simp [blks] at hd; (try exact hn_v30_b8 c hc hd))
            replace hOw := hOw.chg hC38 (fun c hc hd => by simp [blks] at hd; (try exact hn_vw_b8 c hc hd))
            replace hO70 := hO70.chg hC38 (fun c hc hd => by simp [blks] at hd; (try exact hn_v70_b8 c hc hd))
            replace hY26 := Chg.trans2 hY26 hC38 (by simp [blks] <;> omega)
            replace hX := Chg.below hX hC38 (Nat.le_refl _) (by simp [blks] <;> omega)
            have hFn3 := (hFn.ext hRg).chg hC38 (fun b hb _ hf => by simp at hb; subst hb; have := hln _ hf; omega)
            refine n_nil ?_
            refine then_normal ?_
            refine wp_exit ?_
            refine then_exit ?_
            refine block_exit ?_
            refine then_normal ?_
            refine wp_region_lit ?_
            refine n_q H (q_add rfl rfl (by constructor <;> omega)) rfl ?_
            clear H a; intro a H
            refine n_q H (q_move rfl) rfl ?_
            clear H a; intro a H
            refine n_nil ?_
            refine then_normal ?_
            exact round (i + 1, v70) H ⟨rfl, rfl, rfl, rfl, rfl, rfl, trivial⟩ ⟨by omega, ⟨want.drop 1, pm, fpn, hB8, hFn3, fun b hb => ⟨fun hc => by have := hf_v70 b hc; have := hflt b hb; omega, by have := hln b hb; omega, by have := hln b hb; omega⟩, hO70, fun c hc => .inr (by have := hf_v70 c hc; omega), tail_ok hok⟩, hY26⟩ (by first | omega | (dsimp only; omega))
      · skip
        refine wp_skip ?_
        refine then_normal ?_
        refine wp_seq ?_
        refine wp_region_lit ?_
        refine n_q H (q_load rfl (hB7.ldAll ag90 sz90)) rfl ?_
        clear H a; intro a H
        refine n_q H (q_load rfl (hB8.ldAll ag93 sz93)) rfl ?_
        clear H a; intro a H
        refine n_q H (q_move rfl) rfl ?_
        clear H a; intro a H
        refine n_call H rfl en44 (put_w (p := (planM size depth)) (q := ⟨want, 0⟩) (s := x) (hG.ext hX) (hF.now.ext (Flat.mono _) hRr)) rfl ?_
        clear H a; intro v41 w39 hv a H
        obtain ⟨pm, rfl, hN, hE40⟩ := hv
        have ht_g7 := hB7.lt
        have ht_g8 := hB8.lt
        have hvlt := hOw.lt
        replace hB7 := hB7.ext hE40
        replace hB8 := hB8.ext hE40
        replace hO30 := hO30.ext hE40
        replace hOw := hOw.ext hE40
        replace hX := Ext.trans' hX hE40
        replace hY26 := Chg.trans hY26 (Chg.of_ext hE40)
        replace hRr := Ext.trans' hRr hE40
        have hRp := Ext.rfl' (w := w39)
        obtain ⟨fpn, hFn, hln⟩ := hN
        have hflt := hFn.lt
        refine n_q H (q_move rfl) rfl ?_
        clear H a; intro a H
        refine n_q H (q_extract rfl rfl) rfl ?_
        clear H a; intro a H
        refine n_q H (q_extract rfl rfl) rfl ?_
        clear H a; intro a H
        refine n_alloc H ze93 rfl ?_
        clear H; intro b16 w42 hB16 hE43 hs_b16; clear a; intro a H
        have hn_b7_b16 : b7 ≠ b16 := by have := hB7.lt; omega
        have hn_b16_b7 := hn_b7_b16.symm
        have hlt_b7_b16 : b7 < b16 := by have := hB7.lt; omega
        have hn_b8_b16 : b8 ≠ b16 := by have := hB8.lt; omega
        have hn_b16_b8 := hn_b8_b16.symm
        have hlt_b8_b16 : b8 < b16 := by have := hB8.lt; omega
        have hw_b16 : w.heap.size ≤ b16 := by have := hX.size; omega
        have hlt_v30_b16 : ∀ c ∈ blks v30, c < b16 := fun c hc => by have := hO30.lt c hc; omega
        have hn_v30_b16 : ∀ c ∈ blks v30, c ≠ b16 := fun c hc => by have := hlt_v30_b16 c hc; omega
        have hlt_vw_b16 : ∀ c ∈ blks vw, c < b16 := fun c hc => by have := hOw.lt c hc; omega
        have hn_vw_b16 : ∀ c ∈ blks vw, c ≠ b16 := fun c hc => by have := hlt_vw_b16 c hc; omega
        have hq_hY26_b16 : w22.heap.size ≤ b16 := by have := hY26.size; omega
        have hq_hRr_b16 : w24.heap.size ≤ b16 := by have := hRr.size; omega
        have hq_hRp_b16 : w39.heap.size ≤ b16 := by have := hRp.size; omega
        replace hB7 := hB7.ext hE43
        replace hB8 := hB8.ext hE43
        replace hO30 := hO30.ext hE43
        replace hOw := hOw.ext hE43
        replace hX := Ext.trans' hX hE43
        replace hY26 := Chg.trans hY26 (Chg.of_ext hE43)
        replace hRr := Ext.trans' hRr hE43
        replace hRp := Ext.trans' hRp hE43
        refine n_storeAll H rfl rfl rfl sz93 hB16 rfl (by simp [hFn.now.r.one]) ?_
        clear H; intro w44 hB16N hC45 hz; clear a; intro a H
        replace hB16 := hB16N; clear hB16N
        clear hz
        replace hB7 := hC45.blk hB7 (by simp [blks] <;> omega)
        replace hB8 := hC45.blk hB8 (by simp [blks] <;> omega)
        replace hO30 := hO30.chg hC45 (fun c hc hd => by simp [blks] at hd; (try exact hn_v30_b16 c hc hd))
        replace hOw := hOw.chg hC45 (fun c hc hd => by simp [blks] at hd; (try exact hn_vw_b16 c hc hd))
        replace hY26 := Chg.trans2 hY26 hC45 (by simp [blks] <;> omega)
        replace hRr := Chg.below hRr hC45 (Nat.le_refl _) (by simp [blks] <;> omega)
        replace hRp := Chg.below hRp hC45 (Nat.le_refl _) (by simp [blks] <;> omega)
        replace hX := Chg.below hX hC45 (Nat.le_refl _) (by simp [blks] <;> omega)
        refine n_q H (q_assign rfl) rfl ?_
        clear H a; intro a H
        refine n_nil ?_
        refine then_normal ?_
        refine wp_seq ?_
        refine wp_seq ?_
        refine wp_region_lit ?_
        refine n_c H (fun HC => ?_); clear H
        refine nc_q HC (q_move rfl) rfl (by kernel_rfl) ?_
        clear HC a; intro a HC
        refine nc_q HC (q_lenS Tryd.underlying9 rfl) rfl (by kernel_rfl) ?_
        clear HC a; intro a HC
        refine nc_q HC (q_fieldAddr0 rfl fo90_1) rfl (by kernel_rfl) ?_
        clear HC a; intro a HC
        refine nc_q HC (q_load rfl (hB7.ld ag3 rfl)) rfl (by kernel_rfl) ?_
        clear HC a; intro a HC
        refine nc_q HC (q_gtr rfl rfl) rfl (by kernel_rfl) ?_
        clear HC a; intro a HC
        refine nc_q HC (q_move rfl) rfl (by kernel_rfl) ?_
        clear HC a; intro a HC
        refine nc_g HC (q_move rfl) (by kernel_rfl) (by kernel_rfl) (by kernel_rfl) ?_
        clear HC a; intro a HC
        refine nc_g HC (q_lenSl (A := Aw) (n := want.length) (c := cw) Tryd.underlying87 (congrArg some hvw)) (by kernel_rfl) (by kernel_rfl) (by kernel_rfl) ?_
        clear HC a; intro a HC
        refine nc_g HC (q_fieldAddr0 rfl fo90_2) (by kernel_rfl) (by kernel_rfl) (by kernel_rfl) ?_
        clear HC a; intro a HC
        refine nc_g HC (q_load rfl (hB7.ld ag3 rfl)) (by kernel_rfl) (by kernel_rfl) (by kernel_rfl) ?_
        clear HC a; intro a HC
        refine nc_g HC (q_eql rfl rfl) (by kernel_rfl) (by kernel_rfl) (by kernel_rfl) ?_
        clear HC a; intro a HC
        refine nc_or (j := 5) HC rfl rfl rfl (by kernel_rfl) (by kernel_rfl) ?_
        clear HC a; intro a HC
        have H := HC.has; clear HC
        refine n_nil ?_
        refine then_normal ?_
        refine c_cond H rfl (fun hc90 => ?_) (fun hc90 => ?_)
        · skip
          refine wp_seq ?_
          refine wp_seq ?_
          refine wp_region_lit ?_
          refine n_q H (q_move rfl) rfl ?_
          clear H a; intro a H
          refine n_q H (q_nilI Tryd.underlying43 rfl rfl (eV_form _ _ _)) rfl ?_
          clear H a; intro a H
          refine n_nil ?_
          refine then_normal ?_
          refine c_cond H rfl (fun hc92 => ?_) (fun hc92 => ?_)
          · skip
            exfalso; rw [eV_nil, add_ok x hok] at hc92; revert hc92; split; simp; rename_i hz; rcases Bool.or_eq_true_iff.1 hc90 with q | q; exact absurd (of_decide_eq_true q) hz; rw [if_pos (show (want.length : Int) = (planM size depth).depth from eq_of_beq q)]; simp
          · skip
            refine wp_skip ?_
            refine then_normal ?_
            refine wp_exit ?_
            refine then_exit ?_
            refine block_exit ?_
            refine then_normal ?_
            refine wp_region_lit ?_
            refine n_q H (q_add rfl rfl (by constructor <;> omega)) rfl ?_
            clear H a; intro a H
            refine n_q H (q_move rfl) rfl ?_
            clear H a; intro a H
            refine n_nil ?_
            refine then_normal ?_
            exact round (i + 1, vw) H ⟨rfl, rfl, rfl, rfl, rfl, rfl, trivial⟩ ⟨by omega, ⟨want, mq, fp, hB8, hF.ext hRr, hfp, hOw, hvlo, hok⟩, hY26⟩ (by first | omega | (dsimp only; omega))
        · skip
          have hq1 : ¬ (planM size depth).size < (x.size : Int) := of_decide_eq_false (Bool.or_eq_false_iff.1 hc90).1
          have hq2 : ¬ (want.length : Int) = (planM size depth).depth := fun e => by have h2 := (Bool.or_eq_false_iff.1 hc90).2; rw [beq_eq_false_iff_ne] at h2; exact h2 e
          obtain ⟨hae, ham, hok2⟩ := put_ok hok hq1 hq2
          rw [ham] at hFn
          refine wp_skip ?_
          refine then_normal ?_
          refine wp_seq ?_
          refine wp_seq ?_
          refine wp_region_lit ?_
          refine n_q H (q_move rfl) rfl ?_
          clear H a; intro a H
          refine n_q H (q_nnilI Tryd.underlying43 rfl rfl (eV_form _ _ _)) rfl ?_
          clear H a; intro a H
          refine n_nil ?_
          refine then_normal ?_
          refine c_cond H rfl (fun hc94 => ?_) (fun hc94 => ?_)
          · skip
            exfalso; rw [eV_nil, (put_ok hok hq1 hq2).1] at hc94; simp at hc94
          · skip
            refine wp_skip ?_
            refine then_normal ?_
            refine wp_seq ?_
            refine wp_region_lit ?_
            refine n_q H (q_move rfl) rfl ?_
            clear H a; intro a H
            refine n_q H (q_move rfl) rfl ?_
            clear H a; intro a H
            refine n_buildSlice H Tryd.underlying87 sz9 ze9 rfl rfl rfl (cs := [.string x]) (by kernel_rfl) rfl ?_
            clear H; intro b97 w46 hB97 hE47 hs_b97; clear a; intro a H
            have hn_b7_b97 : b7 ≠ b97 := by have := hB7.lt; omega
            have hn_b97_b7 := hn_b7_b97.symm
            have hlt_b7_b97 : b7 < b97 := by have := hB7.lt; omega
            have hn_b8_b97 : b8 ≠ b97 := by have := hB8.lt; omega
            have hn_b97_b8 := hn_b8_b97.symm
            have hlt_b8_b97 : b8 < b97 := by have := hB8.lt; omega
            have hn_b16_b97 : b16 ≠ b97 := by have := hB16.lt; omega
            have hn_b97_b16 := hn_b16_b97.symm
            have hlt_b16_b97 : b16 < b97 := by have := hB16.lt; omega
            have hw_b97 : w.heap.size ≤ b97 := by have := hX.size; omega
            have hlt_v30_b97 : ∀ c ∈ blks v30, c < b97 := fun c hc => by have := hO30.lt c hc; omega
            have hn_v30_b97 : ∀ c ∈ blks v30, c ≠ b97 := fun c hc => by have := hlt_v30_b97 c hc; omega
            have hlt_vw_b97 : ∀ c ∈ blks vw, c < b97 := fun c hc => by have := hOw.lt c hc; omega
            have hn_vw_b97 : ∀ c ∈ blks vw, c ≠ b97 := fun c hc => by have := hlt_vw_b97 c hc; omega
            have hq_hY26_b97 : w22.heap.size ≤ b97 := by have := hY26.size; omega
            have hq_hRr_b97 : w24.heap.size ≤ b97 := by have := hRr.size; omega
            have hq_hRp_b97 : w39.heap.size ≤ b97 := by have := hRp.size; omega
            replace hB7 := hB7.ext hE47
            replace hB8 := hB8.ext hE47
            replace hB16 := hB16.ext hE47
            replace hO30 := hO30.ext hE47
            replace hOw := hOw.ext hE47
            replace hX := Ext.trans' hX hE47
            replace hY26 := Chg.trans hY26 (Chg.of_ext hE47)
            replace hRr := Ext.trans' hRr hE47
            replace hRp := Ext.trans' hRp hE47
            refine n_append H rfl rfl Tryd.underlying87 Tryd.underlying87 (by simp) el9 hOw (Own.src (Own.ofBlk (n := 1) (k := 1) hB97 rfl (by simp [maxLen]))) (by simp) (by have := hok.1; have := (clamp_in (z := depth) (lo := 1) (hi := 8) (by omega)).2; have e : (planM size depth).depth = clampM depth 1 8 := rfl; omega) (by have := hok.1; have := (clamp_in (z := depth) (lo := 1) (hi := 8) (by omega)).2; have e : (planM size depth).depth = clampM depth 1 8 := rfl; simp only [maxLen]; omega) rfl ?_
            clear H; intro v98 w48 hO98 hC49 hb98 hnil98; clear a; intro a H
            have hFn2 := (hFn.ext hRp).chg hC49 (fun b hb _ hf => by have := hln b hf; have := hvlt b hb; omega)
            have hvlo98 : ∀ c ∈ blks v98, c = b27 ∨ w22.heap.size ≤ c := by
              rcases hb98 with hb | ⟨b98, hb, hl⟩
              · rw [hb]; exact hvlo
              · rw [hb]; intro c hc; rw [List.mem_singleton.1 hc]; right; have := hY26.size; omega
            have hav98 : ∀ b, fpn b → b ∉ blks v98 := by
              intro b hf
              rcases hb98 with hb | ⟨b98, hb, hl⟩
              · rw [hb]; intro hc; have := hln b hf; have := hvlt b hc; omega
              · rw [hb]; intro hc; have := List.mem_singleton.1 hc; have := hflt b hf; have := hRp.size; omega
            replace hB7 := hC49.blk hB7 (fun hd => hn_vw_b7 _ hd rfl)
            replace hB8 := hC49.blk hB8 (fun hd => hn_vw_b8 _ hd rfl)
            replace hB16 := hC49.blk hB16 (fun hd => hn_vw_b16 _ hd rfl)
            replace hB97 := hC49.blk hB97 (fun hd => hn_vw_b97 _ hd rfl)
            replace hO30 := hO30.chg hC49 (fun c hc hd => hn_v30_vw c hc hd)
            replace hY26 := Chg.trans2 hY26 hC49 (fun c hc h => by rcases hvlo c hc with h2 | h2 <;> first | (simp [h2]; done) | omega)
            replace hX := Chg.below hX hC49 (Nat.le_refl _) hlo_vw
            have hn_v98_b7 : ∀ c ∈ blks v98, c ≠ b7 := fun c hc => by rcases hvlo98 c hc with h | h <;> omega
            have hn_v98_b8 : ∀ c ∈ blks v98, c ≠ b8 := fun c hc => by rcases hvlo98 c hc with h | h <;> omega
            replace hO98 : Own w48 9 1 v98 (want.length + 1) ((want ++ [x]).flatMap eS) := by simpa [eS] using hO98
            refine n_q H (q_assign rfl) rfl ?_
            clear H a; intro a H
            refine n_nil ?_
            refine then_normal ?_
            refine wp_seq ?_
            refine wp_region_lit ?_
            refine n_q H (q_load rfl (hB16.ldAll ag93 sz93)) rfl ?_
            clear H a; intro a H
            refine n_storeAll H rfl rfl rfl sz93 hB8 rfl (by simp [hFn2.now.r.one]) ?_
            clear H; intro w50 hB8N hC51 hz; clear a; intro a H
            replace hB8 := hB8N; clear hB8N
            clear hz
            replace hB7 := hC51.blk hB7 (by simp [blks] <;> omega)
            replace hB16 := hC51.blk hB16 (by simp [blks] <;> omega)
            replace hB97 := hC51.blk hB97 (by simp [blks] <;> omega)
            replace hO30 := hO30.chg hC51 (fun c hc hd => by simp [blks] at hd; (try exact hn_v30_b8 c hc hd))
            replace hO98 := hO98.chg hC51 (fun c hc hd => by simp [blks] at hd; (try exact hn_v98_b8 c hc hd))
            replace hY26 := Chg.trans2 hY26 hC51 (by simp [blks] <;> omega)
            replace hX := Chg.below hX hC51 (Nat.le_refl _) (by simp [blks] <;> omega)
            have hFn3 := hFn2.chg hC51 (fun b hb _ hf => by simp at hb; subst hb; have := hln _ hf; omega)
            have hRq := Ext.rfl' (w := w50)
            refine n_nil ?_
            refine then_normal ?_
            refine wp_seq ?_
            refine wp_region_lit ?_
            refine n_c H (fun HC => ?_); clear H
            refine nc_q HC (q_fieldAddr0 rfl fo93_0) rfl (by kernel_rfl) ?_
            clear HC a; intro a HC
            refine nc_q HC (q_load rfl (hB8.ld ag87 rfl)) rfl (by kernel_rfl) ?_
            clear HC a; intro a HC
            refine nc_q HC (q_move rfl) rfl (by kernel_rfl) ?_
            clear HC a; intro a HC
            refine nc_call HC rfl en45 (sameStrings_w hFn3.now.r (hO98.slr (xs := want ++ [x]) (by simp) (by simp [eS]))) rfl (by kernel_rfl) ?_
            clear HC a; intro v54 w52 hv a HC
            obtain ⟨rfl, hE53⟩ := hv
            replace hB7 := hB7.ext hE53
            replace hB8 := hB8.ext hE53
            replace hB16 := hB16.ext hE53
            replace hB97 := hB97.ext hE53
            replace hO30 := hO30.ext hE53
            replace hO98 := hO98.ext hE53
            replace hX := Ext.trans' hX hE53
            replace hY26 := Chg.trans hY26 (Chg.of_ext hE53)
            replace hRq := Ext.trans' hRq hE53
            refine nc_q HC (q_not rfl) rfl (by kernel_rfl) ?_
            clear HC a; intro a HC
            refine nc_q HC (q_move rfl) rfl (by kernel_rfl) ?_
            clear HC a; intro a HC
            refine nc_g HC (q_load rfl (hB7.ldAll ag90 sz90)) (by kernel_rfl) (by kernel_rfl) (by kernel_rfl) ?_
            clear HC a; intro a HC
            refine nc_g HC (q_load rfl (hB8.ldAll ag93 sz93)) (by kernel_rfl) (by kernel_rfl) (by kernel_rfl) ?_
            clear HC a; intro a HC
            refine nc_gcall0 HC rfl en46 (check_w (p := (planM size depth)) (q := ⟨want ++ [x], 0⟩) (hG.ext hX) (hFn3.now.r.ext (Flat.mono _) hRq)) (by kernel_rfl) (by kernel_rfl) (by kernel_rfl) ?_
            clear HC a; intro w55 hE56 a HC
            replace hB7 := hB7.ext hE56
            replace hB8 := hB8.ext hE56
            replace hB16 := hB16.ext hE56
            replace hB97 := hB97.ext hE56
            replace hO30 := hO30.ext hE56
            replace hO98 := hO98.ext hE56
            replace hX := Ext.trans' hX hE56
            replace hY26 := Chg.trans hY26 (Chg.of_ext hE56)
            replace hRq := Ext.trans' hRq hE56
            refine nc_g HC (q_nnilI Tryd.underlying43 rfl rfl (eV_form _ _ _)) (by kernel_rfl) (by kernel_rfl) (by kernel_rfl) ?_
            clear HC a; intro a HC
            refine nc_or (j := 5) HC rfl rfl rfl (by kernel_rfl) (by kernel_rfl) ?_
            clear HC a; intro a HC
            have H := HC.has; clear HC
            refine n_nil ?_
            refine then_normal ?_
            refine c_cond H rfl (fun hc110 => ?_) (fun hc110 => ?_)
            · skip
              exfalso; rw [eV_nil, check_ok (put_ok hok hq1 hq2).2.2] at hc110; simp at hc110
            · skip
              refine wp_skip ?_
              refine block_normal ?_
              refine then_normal ?_
              refine wp_region_lit ?_
              refine n_q H (q_add rfl rfl (by constructor <;> omega)) rfl ?_
              clear H a; intro a H
              refine n_q H (q_move rfl) rfl ?_
              clear H a; intro a H
              refine n_nil ?_
              refine then_normal ?_
              exact round (i + 1, v98) H ⟨rfl, rfl, rfl, rfl, rfl, rfl, trivial⟩ ⟨by omega, ⟨want ++ [x], pm, fpn, hB8, hFn3.ext hRq, fun b hb => ⟨hav98 b hb, by have := hln b hb; omega, by have := hln b hb; omega⟩, by simpa using hO98, hvlo98, hok2⟩, hY26⟩ (by first | omega | (dsimp only; omega))
    · skip
      simp at hc33
      refine wp_exit ?_
      refine then_exit ?_
      refine then_exit ?_
      refine block_exit ?_
      refine then_normal ?_
      refine wp_seq ?_
      refine wp_region_lit ?_
      refine n_q H (q_fieldAddr0 rfl fo93_0) rfl ?_
      clear H a; intro a H
      refine n_q H (q_load rfl (hB8.ld ag87 rfl)) rfl ?_
      clear H a; intro a H
      refine n_q H (q_move rfl) rfl ?_
      clear H a; intro a H
      refine n_call H rfl en45 (sameStrings_w hF.now.r (hOw.slr rfl (by simp [eS]))) rfl ?_
      clear H a; intro v59 w57 hv a H
      obtain ⟨rfl, hE58⟩ := hv
      replace hB7 := hB7.ext hE58
      replace hB8 := hB8.ext hE58
      replace hO30 := hO30.ext hE58
      replace hOw := hOw.ext hE58
      replace hX := Ext.trans' hX hE58
      replace hY26 := Chg.trans hY26 (Chg.of_ext hE58)
      replace hRr := Ext.trans' hRr hE58
      refine n_q H (q_assign rfl) rfl ?_
      clear H a; intro a H
      refine n_nil ?_
      refine then_normal ?_
      refine wp_ret ?_
      refine ret1 H (.inr rfl) rfl rfl ?_
      exact ⟨congrArg Value.bool (by simp), hX⟩

end Go.Proofs.YtdglaodhmlocdaaDoor
