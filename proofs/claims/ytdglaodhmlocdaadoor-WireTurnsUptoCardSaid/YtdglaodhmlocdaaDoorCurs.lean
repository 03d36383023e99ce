/- The cursors of the laws on wires (written by wip/tools) -/
import Derived.Test.YtdglaodhmlocdaaDoorLaw02
import Derived.Test.YtdglaodhmlocdaaDoorList
set_option linter.unusedVariables false
set_option linter.unusedSimpArgs false
set_option maxRecDepth 10000
namespace Go.Proofs.YtdglaodhmlocdaaDoor
open Go Go.RowKit
theorem ag34 : aggB Tryd.prog 34 = some false := by kernel_rfl
theorem ag35 : aggB Tryd.prog 35 = some false := by kernel_rfl
theorem ag37 : aggB Tryd.prog 37 = some true := by kernel_rfl
theorem ag39 : aggB Tryd.prog 39 = some false := by kernel_rfl
theorem ag40 : aggB Tryd.prog 40 = some false := by kernel_rfl
theorem ag51 : aggB Tryd.prog 51 = some false := by kernel_rfl
theorem bd37 : bdB Tryd.prog 37 = true := by kernel_rfl
theorem pl37 : placesB Tryd.prog 37 = some #[(0, 1), (1, 1)] := by kernel_rfl
theorem el39 : ElemOk Tryd.prog 39 1 8 [.pointer none] := ⟨by kernel_rfl, by kernel_rfl, by kernel_rfl, rfl, by decide⟩
theorem el51 : ElemOk Tryd.prog 51 1 8 [.pointer none] := ⟨by kernel_rfl, by kernel_rfl, by kernel_rfl, rfl, by decide⟩
theorem en16 : entersB Tryd.prog 16 = true := by kernel_rfl
theorem en19 : entersB Tryd.prog 19 = true := by kernel_rfl
theorem en24 : entersB Tryd.prog 24 = true := by kernel_rfl
theorem en66 : entersB Tryd.prog 66 = true := by kernel_rfl
theorem en67 : entersB Tryd.prog 67 = true := by kernel_rfl
theorem en68 : entersB Tryd.prog 68 = true := by kernel_rfl
theorem en70 : entersB Tryd.prog 70 = true := by kernel_rfl
theorem en71 : entersB Tryd.prog 71 = true := by kernel_rfl
theorem en72 : entersB Tryd.prog 72 = true := by kernel_rfl
theorem fo29_2 : fOff Tryd.prog 29 2 = some 2 := by kernel_rfl
theorem fo29_4 : fOff Tryd.prog 29 4 = some 4 := by kernel_rfl
theorem fo29_5 : fOff Tryd.prog 29 5 = some 5 := by kernel_rfl
theorem fo37_0 : fOff Tryd.prog 37 0 = some 0 := by kernel_rfl
theorem fo37_1 : fOff Tryd.prog 37 1 = some 1 := by kernel_rfl
theorem sz34 : sizeB Tryd.prog 34 = some 1 := by kernel_rfl
theorem sz35 : sizeB Tryd.prog 35 = some 1 := by kernel_rfl
theorem sz37 : sizeB Tryd.prog 37 = some 2 := by kernel_rfl
theorem sz39 : sizeB Tryd.prog 39 = some 1 := by kernel_rfl
theorem sz40 : sizeB Tryd.prog 40 = some 1 := by kernel_rfl
theorem sz51 : sizeB Tryd.prog 51 = some 1 := by kernel_rfl
theorem ze29 : zeroB Tryd.prog 29 = some [.int .i64 0, .bool false, .int .i64 0, .int .i64 0, .int .i64 0, .int .i64 0, .string ⟨#[]⟩] := by kernel_rfl
theorem ze37 : zeroB Tryd.prog 37 = some [.slice none 0 0, .slice none 0 0] := by kernel_rfl
theorem ze39 : zeroB Tryd.prog 39 = some [.pointer none] := by kernel_rfl
theorem ze51 : zeroB Tryd.prog 51 = some [.pointer none] := by kernel_rfl

theorem at_mark (s : ByteArray) (a : UInt8) : (s.data.toList ++ [a])[s.size]? = some a := by
  have e : s.data.toList.length = s.size := rfl
  rw [← e]; simp
/-- A cursor of the program and the document's. -/
structure CurM where
  p : Nat
  q : Nat
  v : Value
  v2 : Value
  bs : List UInt8
  a : Nat
  a2 : Nat
  d : Nat
def curF (c : CurM) : Rs := starR [cuR c.p c.v c.a c.d, rcR c.q c.v2 c.a2 c.d]
def CurM.wf (c : CurM) : Prop := c.a ≤ c.d ∧ c.a2 ≤ c.d ∧ c.d ≤ c.bs.length ∧ c.bs.length ≤ 70368744177664
/-- All bytes stand still. -/
def arrs (l : List CurM) (w : World) : Prop := ∀ c ∈ l, SlR w 1 (Flat eB) c.v c.bs ∧ SlR w 1 (Flat eB) c.v2 c.bs ∧ c.wf
def pP (c : CurM) : Value := .pointer (some ⟨c.p, 0, none⟩)
def pQ (c : CurM) : Value := .pointer (some ⟨c.q, 0, none⟩)
/-- The lists of cursors behind a pointer. -/
def cuS (b : Nat) (l : List CurM) : Rs := exR fun vI => exR fun vW => starR [blkR b [vI, vW] 37, ownR 39 1 vI l.length (l.map pP), ownR 51 1 vW l.length (l.map pQ), starR (l.map curF), anyR (arrs l)]
theorem St.cuS {fp : Nat → Prop} {w0 w : World} {rs : List Rs} {b : Nat} {l : List CurM} (h : St fp w0 w (cuS b l :: rs)) :
    ∃ vI vW, St fp w0 w (blkR b [vI, vW] 37 :: ownR 39 1 vI l.length (l.map pP) :: ownR 51 1 vW l.length (l.map pQ) :: starR (l.map curF) :: anyR (arrs l) :: rs) := by
  obtain ⟨vI, h⟩ := h.ex
  obtain ⟨vW, h⟩ := h.ex
  exact ⟨vI, vW, h.star⟩
theorem St.cuMk {fp : Nat → Prop} {w0 w : World} {rs : List Rs} {b n m : Nat} {l : List CurM} {vI vW : Value} {xs ys : List Value} (h : St fp w0 w (blkR b [vI, vW] 37 :: ownR 39 1 vI n xs :: ownR 51 1 vW m ys :: starR (l.map curF) :: anyR (arrs l) :: rs)) (hn : n = l.length) (hm : m = l.length) (hx : xs = l.map pP) (hy : ys = l.map pQ) :
    St fp w0 w (Go.Proofs.YtdglaodhmlocdaaDoor.cuS b l :: rs) := by
  subst hn; subst hm; subst hx; subst hy
  exact ((h.fold [_, _, _, _, _]).mkEx (f := fun vW => starR [blkR b [vI, vW] 37, ownR 39 1 vI l.length (l.map pP), ownR 51 1 vW l.length (l.map pQ), starR (l.map curF), anyR (arrs l)]) vW).mkEx (f := fun vI => exR fun vW => starR [blkR b [vI, vW] 37, ownR 39 1 vI l.length (l.map pP), ownR 51 1 vW l.length (l.map pQ), starR (l.map curF), anyR (arrs l)]) vI
/-- A new cursor over bytes of its own. -/
theorem St.cuAdd {fp : Nat → Prop} {w0 w : World} {rs : List Rs} {b n m n1 n2 p q : Nat} {l : List CurM} {vI vW v v2 : Value} {xs ys : List Value} {bs : List UInt8}
    (h : St fp w0 w (blkR b [vI, vW] 37 :: ownR 39 1 vI n xs :: ownR 51 1 vW m ys :: starR (l.map curF) :: anyR (arrs l) :: cuR p v 0 bs.length :: ownR 5 1 v n1 (bs.flatMap eB) :: rcR q v2 0 bs.length :: ownR 5 1 v2 n2 (bs.flatMap eB) :: rs))
    (hn : n = l.length + 1) (hm : m = l.length + 1) (hx : xs = l.map pP ++ [.pointer (some ⟨p, 0, none⟩)]) (hy : ys = l.map pQ ++ [.pointer (some ⟨q, 0, none⟩)]) (h1 : n1 = bs.length) (h2 : n2 = bs.length) (hz : bs.length ≤ 70368744177664) :
    St fp w0 w (Go.Proofs.YtdglaodhmlocdaaDoor.cuS b (l ++ [⟨p, q, v, v2, bs, 0, 0, bs.length⟩]) :: rs) := by
  subst hn; subst hm; subst hx; subst hy; subst h1; subst h2
  have h := h.pick 6 rfl
  simp only [List.eraseIdx_cons_succ, List.eraseIdx_cons_zero] at h
  have h := (h.ownAny (F := fun w => SlR w 1 (Flat eB) v bs) fun w' hO => hO.slB rfl)
  have h := h.pick 5 rfl
  simp only [List.eraseIdx_cons_succ, List.eraseIdx_cons_zero] at h
  have h := h.pick 1 rfl
  simp only [List.eraseIdx_cons_succ, List.eraseIdx_cons_zero] at h
  have h := h.pick 8 rfl
  simp only [List.eraseIdx_cons_succ, List.eraseIdx_cons_zero] at h
  have h := (h.ownAny (F := fun w => SlR w 1 (Flat eB) v2 bs) fun w' hO => hO.slB rfl)
  have h := h.anyAnd.anyAnd
  have h := h.anyMono (G := arrs (l ++ [⟨p, q, v, v2, bs, 0, 0, bs.length⟩])) fun w' hw c hc => by
    rcases List.mem_append.1 hc with hc | hc
    · exact hw.2 c hc
    · rw [List.mem_singleton.1 hc]
      exact ⟨hw.1.2, hw.1.1, Nat.zero_le _, Nat.zero_le _, Nat.le_refl _, hz⟩
  have h := h.pick 4 rfl
  simp only [List.eraseIdx_cons_succ, List.eraseIdx_cons_zero] at h
  have h := h.pick 6 rfl
  simp only [List.eraseIdx_cons_succ, List.eraseIdx_cons_zero] at h
  have h := h.pick 6 rfl
  simp only [List.eraseIdx_cons_succ, List.eraseIdx_cons_zero] at h
  have h := h.fold [_, _]
  have h := St.starAdd (f := curF) (c := ⟨p, q, v, v2, bs, 0, 0, bs.length⟩) h
  have h := h.pick 1 rfl
  simp only [List.eraseIdx_cons_succ, List.eraseIdx_cons_zero] at h
  have h := h.pick 1 rfl
  simp only [List.eraseIdx_cons_succ, List.eraseIdx_cons_zero] at h
  have h := h.pick 4 rfl
  simp only [List.eraseIdx_cons_succ, List.eraseIdx_cons_zero] at h
  have h := h.pick 4 rfl
  simp only [List.eraseIdx_cons_succ, List.eraseIdx_cons_zero] at h
  have h := h.pick 4 rfl
  simp only [List.eraseIdx_cons_succ, List.eraseIdx_cons_zero] at h
  exact h.cuMk (by simp) (by simp) (by simp [pP]) (by simp [pQ])
set_option maxHeartbeats 4000000 in
theorem cOpen_w {w : World} {fp : Nat → Prop} {bc : Nat} {l : List CurM} {s : ByteArray} (hz : s.size ≤ 1048576) (hl : l.length ≤ 16777216) (hP0 : Sep w fp [cuS bc l]) :
    Calls Tryd.prog 16 [.pointer (some ⟨bc, 0, none⟩), .string s].toArray w (Ret fun r w' => r = .bool true ∧ ∃ c, c.a = c.a2 ∧ St fp w w' [cuS bc (l ++ [c])]) := by
  have hS := St.init hP0
  obtain ⟨vI, vW, hS⟩ := hS.cuS
  have hlen1 : s.size + 1 = (s.data.toList ++ [55]).length := by rw [List.length_append]; rfl
  have hl8 : s.data.toList.length = s.size := rfl
  refine enter Tryd.func16 rfl rfl rfl ?_
  intro a H
  dsimp only [enumL, Nat.zero_add, Nat.reduceAdd] at H
  refine wp_seq ?_
  refine wp_region_lit ?_
  refine n_q H (q_assign rfl) rfl ?_
  clear H a; intro a H
  refine n_nil ?_
  refine then_normal ?_
  refine wp_seq ?_
  refine wp_region_lit ?_
  refine n_q H (q_move rfl) rfl ?_
  clear H a; intro a H
  refine n_q H (q_lenS Tryd.underlying9 rfl) rfl ?_
  clear H a; intro a H
  refine n_q H (q_add rfl rfl (by constructor <;> omega)) rfl ?_
  clear H a; intro a H
  refine n_make (L := 0) (C := (s.size + 1)) H Tryd.underlying48 el5 rfl (congrArg (fun z => some (Value.int .i64 z)) (show (s.size : Int) + 1 = ((s.size + 1 : Nat) : Int) by omega)) (by omega) (by omega) (by simp only [maxLen]; omega) rfl ?_
  clear H; intro b11 w1 hN hE2 hs_b11; clear a; intro a H
  replace hS := hS.newOwn hN hE2 (by simp [blks]; omega); clear hN hE2
  simp only [List.replicate_zero, List.flatten_nil] at hS
  refine n_q H (q_move rfl) rfl ?_
  clear H a; intro a H
  refine n_append H rfl rfl Tryd.underlying48 Tryd.underlying9 (by simp) el5 (hS.own 0 rfl) (show Src _ 1 (.string s) s.size (s.data.toList.flatMap eB) from .inr (.inr ⟨s, rfl, rfl, rfl, eB_map _⟩)) (flat_one eB_one _) (by omega) (by simp only [maxLen]; omega) rfl ?_
  clear H; intro v13 w3 hN hC4 hb13 hnil13; clear a; intro a H
  replace hS := hS.setOwn hN hC4 hb13; clear hN
  simp only [Nat.zero_add, List.nil_append] at hS
  refine n_buildSlice H Tryd.underlying48 sz5 ze5 rfl rfl rfl (cs := [.int .u8 55]) (by kernel_rfl) rfl ?_
  clear H; intro b14 w5 hN hE6 hs_b14; clear a; intro a H
  replace hS := hS.newBlk hN hE6 hs_b14; clear hN hE6
  replace hS := hS.pick 1 rfl
  dsimp only [List.eraseIdx] at hS
  refine n_append H rfl rfl Tryd.underlying48 Tryd.underlying48 (by simp) el5 (hS.own 0 rfl) (show Src _ 1 _ 1 (([55] : List UInt8).flatMap eB) from (Own.ofBlk (n := 1) (k := 1) (hS.blk 1 rfl) rfl (by simp [maxLen])).src) (flat_one eB_one _) (by omega) (by simp only [maxLen]; omega) rfl ?_
  clear H; intro v15 w7 hN hC8 hb15 hnil15; clear a; intro a H
  replace hS := hS.setOwn hN hC8 hb15; clear hN
  rw [← List.flatMap_append] at hS
  refine n_q H (q_assign rfl) rfl ?_
  clear H a; intro a H
  refine n_nil ?_
  refine then_normal ?_
  refine wp_seq ?_
  refine wp_region_lit ?_
  obtain ⟨b7, c7, hv7⟩ := (hS.own 0 rfl).sm (by omega)
  have hl7 : s.size + 1 ≤ c7 := by obtain ⟨_, _, hq, h, _⟩ := (hS.own 0 rfl).form; rw [hv7] at hq; cases hq; exact h
  subst hv7
  refine n_q H (q_move rfl) rfl ?_
  clear H a; intro a H
  refine n_q H (q_move rfl) rfl ?_
  clear H a; intro a H
  refine n_q H (q_lenS Tryd.underlying9 rfl) rfl ?_
  clear H a; intro a H
  refine n_q H (q_cast (q_sliceTo (A := some ⟨b7, 0, none⟩) (n := s.size + 1) (c := c7) Tryd.underlying48 sz5 rfl rfl (by omega) (by have := hl7; omega)) (show _ = Value.slice (some ⟨b7, 0, none⟩) s.size c7 by simp)) rfl ?_
  clear H a; intro a H
  refine n_call H rfl en51 (open_w (bs := s.data.toList) (fun w' e => take_marks s [55] ▸ (((hS.own 0 rfl).ext e).slB (xs := s.data.toList ++ [55]) hlen1).take s.size (by omega)) (by omega)) rfl ?_
  clear H a; intro v11 w9 hv a H
  obtain ⟨p1, vA, n1, rfl, hn1, hE10⟩ := hv
  replace hS := hS.new hE10
  simp only [List.cons_append, List.nil_append] at hS
  refine n_q H (q_assign rfl) rfl ?_
  clear H a; intro a H
  refine n_nil ?_
  refine then_normal ?_
  refine wp_seq ?_
  refine wp_seq ?_
  refine wp_region_lit ?_
  refine n_c H (fun HC => ?_); clear H
  refine nc_q HC (q_move rfl) rfl (by kernel_rfl) ?_
  clear HC a; intro a HC
  refine nc_q HC (q_nilP Tryd.underlying39 rfl rfl) rfl (by kernel_rfl) ?_
  clear HC a; intro a HC
  refine nc_q HC (q_move rfl) rfl (by kernel_rfl) ?_
  clear HC a; intro a HC
  refine nc_g HC (q_move rfl) (by kernel_rfl) (by kernel_rfl) (by kernel_rfl) ?_
  clear HC a; intro a HC
  refine nc_g HC (q_move rfl) (by kernel_rfl) (by kernel_rfl) (by kernel_rfl) ?_
  clear HC a; intro a HC
  refine nc_g HC (q_lenS Tryd.underlying9 rfl) (by kernel_rfl) (by kernel_rfl) (by kernel_rfl) ?_
  clear HC a; intro a HC
  refine nc_g HC (q_cast (q_sliceTo (A := some ⟨b7, 0, none⟩) (n := s.size + 1) (c := c7) Tryd.underlying48 sz5 rfl rfl (by omega) (by have := hl7; omega)) (show _ = Value.slice (some ⟨b7, 0, none⟩) s.size c7 by simp)) (by kernel_rfl) (by kernel_rfl) (by kernel_rfl) ?_
  clear HC a; intro a HC
  refine nc_g HC (q_str Tryd.underlying48 Tryd.underlying5 Tryd.underlying9 rfl (fun w' e => take_marks s [55] ▸ (((hS.own 2 rfl).ext e).slB (xs := s.data.toList ++ [55]) hlen1).take s.size (by omega))) (by kernel_rfl) (by kernel_rfl) (by kernel_rfl) ?_
  clear HC a; intro a HC
  refine nc_g HC (q_move rfl) (by kernel_rfl) (by kernel_rfl) (by kernel_rfl) ?_
  clear HC a; intro a HC
  refine nc_g HC (q_neqS rfl rfl) (by kernel_rfl) (by kernel_rfl) (by kernel_rfl) ?_
  clear HC a; intro a HC
  refine nc_or (j := 2) HC rfl rfl rfl (by kernel_rfl) (by kernel_rfl) ?_
  clear HC a; intro a HC
  refine nc_q HC (q_move rfl) rfl (by kernel_rfl) ?_
  clear HC a; intro a HC
  refine nc_g HC (q_move rfl) (by kernel_rfl) (by kernel_rfl) (by kernel_rfl) ?_
  clear HC a; intro a HC
  refine nc_g HC (q_move rfl) (by kernel_rfl) (by kernel_rfl) (by kernel_rfl) ?_
  clear HC a; intro a HC
  refine nc_g HC (q_lenS Tryd.underlying9 rfl) (by kernel_rfl) (by kernel_rfl) (by kernel_rfl) ?_
  clear HC a; intro a HC
  refine nc_g HC (q_cast (q_indexAddr (ad := ⟨b7, 0, none⟩) (n := s.size + 1) (c := c7) Tryd.underlying48 sz5 rfl rfl (by omega) (by omega)) (show _ = Value.pointer (some ((⟨b7, 0, none⟩ : Addr).add (s.size * 1))) by rw [show (s.size : Int).toNat = s.size by omega])) (by kernel_rfl) (by kernel_rfl) (by kernel_rfl) ?_
  clear HC a; intro a HC
  refine nc_g HC (q_load rfl (((hS.own 2 rfl).slB (xs := s.data.toList ++ [55]) hlen1).ldOne ag5 (at_mark s 55) rfl)) (by kernel_rfl) (by kernel_rfl) (by kernel_rfl) ?_
  clear HC a; intro a HC
  refine nc_g HC (q_neq rfl rfl) (by kernel_rfl) (by kernel_rfl) (by kernel_rfl) ?_
  clear HC a; intro a HC
  refine nc_or (j := 11) HC rfl rfl rfl (by kernel_rfl) (by kernel_rfl) ?_
  clear HC a; intro a HC
  have H := HC.has; clear HC
  refine n_nil ?_
  refine then_normal ?_
  refine c_cond H rfl (fun hc39 => ?_) (fun hc39 => ?_)
  · skip
    simp [strB_toList] at hc39
  · (try simp only [decide_eq_true_eq, decide_eq_false_iff_not, Bool.and_eq_true, Bool.or_eq_true, Bool.and_eq_false_iff, Bool.or_eq_false_iff, beq_iff_eq, bne_iff_ne, beq_eq_false_iff_ne, bne_eq_false_iff_eq, ne_eq, Bool.not_eq_true', Bool.not_eq_false', Int.not_lt, Int.not_le, Bool.not_eq_true, Bool.not_eq_false] at hc39)
    refine wp_skip ?_
    refine then_normal ?_
    refine wp_seq ?_
    refine wp_seq ?_
    refine wp_region_lit ?_
    refine n_q H (q_assign rfl) rfl ?_
    clear H a; intro a H
    refine n_nil ?_
    refine then_normal ?_
    refine wp_block ?_
    replace hS := hS.pick 8 rfl
    dsimp only [List.eraseIdx] at hS
    replace hS := hS.pick 8 rfl
    dsimp only [List.eraseIdx] at hS
    replace hS := hS.pick 8 rfl
    dsimp only [List.eraseIdx] at hS
    replace hS := hS.pick 8 rfl
    dsimp only [List.eraseIdx] at hS
    replace hS := hS.pick 8 rfl
    dsimp only [List.eraseIdx] at hS
    replace hS := hS.pick 6 rfl
    dsimp only [List.eraseIdx] at hS
    replace hS := hS.pick 6 rfl
    dsimp only [List.eraseIdx] at hS
    replace hS := hS.pick 7 rfl
    dsimp only [List.eraseIdx] at hS
    replace hS := hS.take 8
    simp only [List.take_succ_cons, List.take_zero] at hS
    refine c_loop (σ := Nat × List Value) (fun (j, xs) => [(0, .pointer (some ⟨bc, 0, none⟩)), (1, .string s), (5, .slice (some ⟨b7, 0, none⟩) (s.size + 1) c7), (6, .pointer (some ⟨p1, 0, none⟩)), (7, .int .i64 (j : Nat))]) (fun (j, xs) wl => j ≤ s.size + 1 ∧ St fp w wl [ownR 5 1 (.slice (some ⟨b7, 0, none⟩) (s.size + 1) c7) (s.size + 1) xs, cuR p1 vA 0 s.data.toList.length, ownR 5 1 vA n1 (s.data.toList.flatMap eB), blkR bc [vI, vW] 37, ownR 39 1 vI l.length (l.map pP), ownR 51 1 vW l.length (l.map pQ), starR (l.map curF), anyR (arrs l)]) (fun (j, xs) => s.size + 1 - j) (0, (s.data.toList ++ [55]).flatMap eB) H ⟨rfl, rfl, rfl, rfl, rfl, trivial⟩ ⟨Nat.zero_le _, hS⟩ ?_
    clear H hS; clear a; intro xx a w12 H hR
    obtain ⟨j, xs⟩ := xx
    simp only [ent, List.map_cons, List.map_nil] at H
    try dsimp only at hR
    obtain ⟨hj, hS⟩ := hR; try clear hR
    refine wp_seq ?_
    refine wp_seq ?_
    refine wp_region_lit ?_
    refine n_q H (q_move rfl) rfl ?_
    clear H a; intro a H
    refine n_q H (q_move rfl) rfl ?_
    clear H a; intro a H
    refine n_q H (q_lenSl Tryd.underlying48 rfl) rfl ?_
    clear H a; intro a H
    refine n_q H (q_lss rfl rfl) rfl ?_
    clear H a; intro a H
    refine n_nil ?_
    refine then_normal ?_
    refine c_cond H rfl (fun hc43 => ?_) (fun hc43 => ?_)
    · (try simp only [decide_eq_true_eq, decide_eq_false_iff_not, Bool.and_eq_true, Bool.or_eq_true, Bool.and_eq_false_iff, Bool.or_eq_false_iff, beq_iff_eq, bne_iff_ne, beq_eq_false_iff_ne, bne_eq_false_iff_eq, ne_eq, Bool.not_eq_true', Bool.not_eq_false', Int.not_lt, Int.not_le, Bool.not_eq_true, Bool.not_eq_false] at hc43)
      have hj1 : j < s.size + 1 := by simp at hc43; omega
      refine wp_skip ?_
      refine then_normal ?_
      refine wp_seq ?_
      refine wp_block ?_
      refine wp_region_lit ?_
      refine n_q H (q_move rfl) rfl ?_
      clear H a; intro a H
      refine n_q H (q_move rfl) rfl ?_
      clear H a; intro a H
      refine n_q H (q_indexAddr0 (b := b7) (n := s.size + 1) (c := c7) (i := j) Tryd.underlying48 sz5 rfl rfl (by omega)) rfl ?_
      clear H a; intro a H
      refine n_storeE1 H rfl rfl sz5 rfl (hS.own 0 rfl) (by omega) ?_
      clear H; intro w13 hN hC14; clear a; intro a H
      replace hS := hS.setOwn hN hC14 (.inl rfl); clear hN
      refine n_nil ?_
      refine block_normal ?_
      refine then_normal ?_
      refine wp_region_lit ?_
      refine n_q H (q_move rfl) rfl ?_
      clear H a; intro a H
      refine n_q H (q_add rfl rfl (by constructor <;> omega)) rfl ?_
      clear H a; intro a H
      refine n_q H (q_assign rfl) rfl ?_
      clear H a; intro a H
      refine n_nil ?_
      refine then_normal ?_
      replace hS := hS.pick 7 rfl
      dsimp only [List.eraseIdx] at hS
      replace hS := hS.pick 7 rfl
      dsimp only [List.eraseIdx] at hS
      replace hS := hS.pick 7 rfl
      dsimp only [List.eraseIdx] at hS
      replace hS := hS.pick 7 rfl
      dsimp only [List.eraseIdx] at hS
      replace hS := hS.pick 7 rfl
      dsimp only [List.eraseIdx] at hS
      replace hS := hS.pick 7 rfl
      dsimp only [List.eraseIdx] at hS
      replace hS := hS.pick 7 rfl
      dsimp only [List.eraseIdx] at hS
      replace hS := hS.pick 7 rfl
      dsimp only [List.eraseIdx] at hS
      exact round (j + 1, xs.set (j * 1) (.int .u8 44)) H ⟨rfl, rfl, rfl, rfl, rfl, trivial⟩ ⟨by omega, hS⟩ (by first | omega | (dsimp only; omega))
    · (try simp only [decide_eq_true_eq, decide_eq_false_iff_not, Bool.and_eq_true, Bool.or_eq_true, Bool.and_eq_false_iff, Bool.or_eq_false_iff, beq_iff_eq, bne_iff_ne, beq_eq_false_iff_ne, bne_eq_false_iff_eq, ne_eq, Bool.not_eq_true', Bool.not_eq_false', Int.not_lt, Int.not_le, Bool.not_eq_true, Bool.not_eq_false] at hc43)
      refine wp_exit ?_
      refine then_exit ?_
      refine then_exit ?_
      refine block_exit ?_
      refine then_normal ?_
      refine c_join (σ := Nat) H (fun z => [(0, .pointer (some ⟨bc, 0, none⟩))]) (fun z wl => ∃ c0 : CurM, c0.a = c0.a2 ∧ St fp w wl [cuS bc (l ++ [c0])]) ?_ ?_
      · skip
        refine c_ord (blks vI ++ blks vW) 20 (by kernel_rfl) ?_
        obtain ⟨w15, hw15⟩ : ∃ x, x = w12.drew := ⟨_, rfl⟩
        rw [← hw15]
        have hE16 : Ext w12 w15 := by rw [hw15]; exact Ext.drew' _
        clear hw15
        replace hS := hS.ext hE16
        have hh_bc := (hS.blk 3 rfl).lt
        have hnbc : bc ∉ blks vI ++ blks vW := fun hm => (List.mem_append.1 hm).elim (hS.neOwn (by decide : (3 : Nat) ≠ 4) rfl rfl) (hS.neOwn (by decide : (3 : Nat) ≠ 5) rfl rfl)
        refine k_take 0 H rfl (q_move rfl) rfl (by kernel_rfl) (by kernel_rfl) (by kernel_rfl) (by kernel_rfl) (fun _ _ _ h => h) ?_
        clear H a; intro a H
        refine k_take 2 H rfl (q_move rfl) rfl (by kernel_rfl) (by kernel_rfl) (by kernel_rfl) (by kernel_rfl) (fun _ _ _ h => h) ?_
        clear H a; intro a H
        refine k_take 3 H rfl (q_nilCheck rfl) rfl (by kernel_rfl) (by kernel_rfl) (by kernel_rfl) (by kernel_rfl) (fun _ _ _ h => h) ?_
        clear H a; intro a H
        refine k_take 4 H rfl (q_fieldAddr0 rfl fo37_0) rfl (by kernel_rfl) (by kernel_rfl) (by kernel_rfl) (by kernel_rfl) (fun _ _ _ h => h) ?_
        clear H a; intro a H
        refine k_take 5 H rfl (q_load rfl ((hS.blk 3 rfl).ldB hh_bc hnbc ag34 rfl)) rfl (by kernel_rfl) (by kernel_rfl) (by kernel_rfl) (by kernel_rfl) (fun _ _ _ h => h) ?_
        clear H a; intro a H
        refine k_take 6 H rfl (q_move rfl) rfl (by kernel_rfl) (by kernel_rfl) (by kernel_rfl) (by kernel_rfl) (fun _ _ _ h => h) ?_
        clear H a; intro a H
        refine k_takeT 1 H rfl (q_move rfl) rfl (by kernel_rfl) (by kernel_rfl) (by kernel_rfl) (by kernel_rfl) (fun _ _ _ h => h) ?_
        clear H a; intro a H
        refine k_takeT 9 H rfl (q_move rfl) rfl (by kernel_rfl) (by kernel_rfl) (by kernel_rfl) (by kernel_rfl) (fun _ _ _ h => h) ?_
        clear H a; intro a H
        refine k_takeT 10 H rfl (q_nilCheck rfl) rfl (by kernel_rfl) (by kernel_rfl) (by kernel_rfl) (by kernel_rfl) (fun _ _ _ h => h) ?_
        clear H a; intro a H
        refine k_takeT 11 H rfl (q_fieldAddr0 rfl fo37_1) rfl (by kernel_rfl) (by kernel_rfl) (by kernel_rfl) (by kernel_rfl) (fun _ _ _ h => h) ?_
        clear H a; intro a H
        refine k_take 12 H rfl (q_load rfl ((hS.blk 3 rfl).ldB hh_bc hnbc ag35 rfl)) rfl (by kernel_rfl) (by kernel_rfl) (by kernel_rfl) (by kernel_rfl) (fun _ _ _ h => h) ?_
        clear H a; intro a H
        refine k_takeT 13 H rfl (q_move rfl) rfl (by kernel_rfl) (by kernel_rfl) (by kernel_rfl) (by kernel_rfl) (fun _ _ _ h => h) ?_
        clear H a; intro a H
        refine k_two 7 14 (by kernel_rfl) ?_ ?_
        · skip
          refine kk_buildSlice 7 H rfl Tryd.underlying34 sz39 ze39 rfl rfl rfl rfl rfl ?_
          clear H; intro b56 w17 hN hE18 hs_b56; clear a; intro a H
          have hz_b56 := hE18.size
          replace hS := hS.newBlk hN hE18 hs_b56; clear hN hE18
          refine k_two 8 14 (by kernel_rfl) ?_ ?_
          · skip
            replace hS := hS.pick 5 rfl
            dsimp only [List.eraseIdx] at hS
            refine kk_append 8 H rfl rfl rfl Tryd.underlying34 Tryd.underlying34 (by simp) el39 (hS.own 0 rfl) (Own.ofBlk (n := 1) (k := 1) (hS.blk 1 rfl) rfl (by simp [maxLen])).src (by simp <;> rfl) (by omega) (by simp only [maxLen]; omega) rfl (.inl (fun b hb _ => List.mem_append_left _ hb)) ?_
            clear H; intro v57 w19 hN hC20 hb57 hnil57; clear a; intro a H
            have hz57 := hC20.size
            replace hS := hS.setOwn hN hC20 hb57; clear hN
            refine k_bytes 14 H rfl Tryd.underlying9 Tryd.underlying48 Tryd.underlying5 rfl (by simp only [maxLen]; omega) rfl (by kernel_rfl) ?_
            clear H; intro v63 w21 hN hE22 hs_v63; clear a; intro a H
            replace hS := hS.newOwn hN hE22 (by rw [hs_v63]; intro c hc; rw [List.mem_singleton.1 hc]; exact Nat.le_refl _); clear hN hE22
            refine k_call 15 H rfl rfl en66 (rOpen_w (bs := s.data.toList) (fun w' e => ((hS.own 0 rfl).ext e).slB rfl) (by omega)) rfl (by kernel_rfl) (fun v w hv => .inl (ChgF.of_ext (by obtain ⟨q1, vB, n2, rfl, hn2, hE0⟩ := hv; exact hE0.x))) ?_
            clear H a; intro v25 w23 hv a H
            obtain ⟨q1, vB, n2, rfl, hn2, hE24⟩ := hv
            replace hS := hS.new hE24
            simp only [List.cons_append, List.nil_append] at hS
            refine k_buildSlice 16 H rfl Tryd.underlying35 sz51 ze51 rfl rfl rfl rfl rfl (by kernel_rfl) ?_
            clear H; intro b65 w26 hN hE27 hs_b65; clear a; intro a H
            have hz_b65 := hE27.size
            replace hS := hS.newBlk hN hE27 hs_b65; clear hN hE27
            replace hS := hS.pick 10 rfl
            dsimp only [List.eraseIdx] at hS
            refine k_append 17 H rfl rfl rfl Tryd.underlying35 Tryd.underlying35 (by simp) el51 (hS.own 0 rfl) (Own.ofBlk (n := 1) (k := 1) (hS.blk 1 rfl) rfl (by simp [maxLen])).src (by simp <;> rfl) (by omega) (by simp only [maxLen]; omega) rfl (by kernel_rfl) (.inl (fun b hb _ => List.mem_append_right _ hb)) ?_
            clear H; intro v66 w28 hN hC29 hb66 hnil66; clear a; intro a H
            have hz66 := hC29.size
            replace hS := hS.setOwn hN hC29 hb66; clear hN
            refine k_takeT 18 H rfl (q_nilCheck rfl) rfl (by kernel_rfl) (by kernel_rfl) (by kernel_rfl) (by kernel_rfl) (fun _ _ _ h => h) ?_
            clear H a; intro a H
            refine k_take 19 H rfl (q_fieldAddr0 rfl fo37_0) rfl (by kernel_rfl) (by kernel_rfl) (by kernel_rfl) (by kernel_rfl) (fun _ _ _ h => h) ?_
            clear H a; intro a H
            replace hS := hS.pick 10 rfl
            dsimp only [List.eraseIdx] at hS
            refine k_store1 20 H rfl rfl rfl sz34 (hS.blk 0 rfl) (by simp) (hS.own 6 rfl).one (by kernel_rfl) (.inr (by kernel_rfl)) ?_
            clear H; intro w30 hN hC31 hz; clear a; intro a H
            replace hS := hS.setBlk hN hC31; clear hN hz
            try simp only [List.set_cons_succ, List.set_cons_zero] at hS
            refine k_takeT 21 H rfl (q_nilCheck rfl) rfl (by kernel_rfl) (by kernel_rfl) (by kernel_rfl) (by kernel_rfl) (fun _ _ _ h => h) ?_
            clear H a; intro a H
            refine k_takeT 22 H rfl (q_fieldAddr0 rfl fo37_1) rfl (by kernel_rfl) (by kernel_rfl) (by kernel_rfl) (by kernel_rfl) (fun _ _ _ h => h) ?_
            clear H a; intro a H
            refine k_store1 23 H rfl rfl rfl sz35 (hS.blk 0 rfl) (by simp) (hS.own 1 rfl).one (by kernel_rfl) (.inr (by kernel_rfl)) ?_
            clear H; intro w32 hN hC33 hz; clear a; intro a H
            replace hS := hS.setBlk hN hC33; clear hN hz
            try simp only [List.set_cons_succ, List.set_cons_zero] at hS
            refine k_done (by kernel_rfl) ?_
            refine then_normal ?_
            replace hS := hS.pick 4 rfl
            dsimp only [List.eraseIdx] at hS
            replace hS := hS.pick 4 rfl
            dsimp only [List.eraseIdx] at hS
            replace hS := hS.pick 10 rfl
            dsimp only [List.eraseIdx] at hS
            replace hS := hS.pick 10 rfl
            dsimp only [List.eraseIdx] at hS
            replace hS := hS.pick 12 rfl
            dsimp only [List.eraseIdx] at hS
            replace hS := hS.pick 12 rfl
            dsimp only [List.eraseIdx] at hS
            replace hS := hS.pick 7 rfl
            dsimp only [List.eraseIdx] at hS
            replace hS := hS.pick 10 rfl
            dsimp only [List.eraseIdx] at hS
            replace hS := hS.pick 8 rfl
            dsimp only [List.eraseIdx] at hS
            replace hS := hS.take 9
            simp only [List.take_succ_cons, List.take_zero] at hS
            replace hS := hS.cuAdd rfl rfl rfl rfl hn1 hn2 (by omega)
            exact join 0 H ⟨rfl, trivial⟩ ⟨_, rfl, hS⟩
          · skip
            refine kk_bytes 14 H rfl Tryd.underlying9 Tryd.underlying48 Tryd.underlying5 rfl (by simp only [maxLen]; omega) rfl ?_
            clear H; intro v63 w34 hN hE35 hs_v63; clear a; intro a H
            replace hS := hS.newOwn hN hE35 (by rw [hs_v63]; intro c hc; rw [List.mem_singleton.1 hc]; exact Nat.le_refl _); clear hN hE35
            replace hS := hS.pick 6 rfl
            dsimp only [List.eraseIdx] at hS
            refine k_append 8 H rfl rfl rfl Tryd.underlying34 Tryd.underlying34 (by simp) el39 (hS.own 0 rfl) (Own.ofBlk (n := 1) (k := 1) (hS.blk 2 rfl) rfl (by simp [maxLen])).src (by simp <;> rfl) (by omega) (by simp only [maxLen]; omega) rfl (by kernel_rfl) (.inl (fun b hb _ => List.mem_append_left _ hb)) ?_
            clear H; intro v57 w36 hN hC37 hb57 hnil57; clear a; intro a H
            have hz57 := hC37.size
            replace hS := hS.setOwn hN hC37 hb57; clear hN
            refine k_call 15 H rfl rfl en66 (rOpen_w (bs := s.data.toList) (fun w' e => ((hS.own 1 rfl).ext e).slB rfl) (by omega)) rfl (by kernel_rfl) (fun v w hv => .inl (ChgF.of_ext (by obtain ⟨q1, vB, n2, rfl, hn2, hE0⟩ := hv; exact hE0.x))) ?_
            clear H a; intro v40 w38 hv a H
            obtain ⟨q1, vB, n2, rfl, hn2, hE39⟩ := hv
            replace hS := hS.new hE39
            simp only [List.cons_append, List.nil_append] at hS
            refine k_buildSlice 16 H rfl Tryd.underlying35 sz51 ze51 rfl rfl rfl rfl rfl (by kernel_rfl) ?_
            clear H; intro b65 w41 hN hE42 hs_b65; clear a; intro a H
            have hz_b65 := hE42.size
            replace hS := hS.newBlk hN hE42 hs_b65; clear hN hE42
            replace hS := hS.pick 10 rfl
            dsimp only [List.eraseIdx] at hS
            refine k_append 17 H rfl rfl rfl Tryd.underlying35 Tryd.underlying35 (by simp) el51 (hS.own 0 rfl) (Own.ofBlk (n := 1) (k := 1) (hS.blk 1 rfl) rfl (by simp [maxLen])).src (by simp <;> rfl) (by omega) (by simp only [maxLen]; omega) rfl (by kernel_rfl) (.inl (fun b hb _ => List.mem_append_right _ hb)) ?_
            clear H; intro v66 w43 hN hC44 hb66 hnil66; clear a; intro a H
            have hz66 := hC44.size
            replace hS := hS.setOwn hN hC44 hb66; clear hN
            refine k_takeT 18 H rfl (q_nilCheck rfl) rfl (by kernel_rfl) (by kernel_rfl) (by kernel_rfl) (by kernel_rfl) (fun _ _ _ h => h) ?_
            clear H a; intro a H
            refine k_take 19 H rfl (q_fieldAddr0 rfl fo37_0) rfl (by kernel_rfl) (by kernel_rfl) (by kernel_rfl) (by kernel_rfl) (fun _ _ _ h => h) ?_
            clear H a; intro a H
            replace hS := hS.pick 10 rfl
            dsimp only [List.eraseIdx] at hS
            refine k_store1 20 H rfl rfl rfl sz34 (hS.blk 0 rfl) (by simp) (hS.own 5 rfl).one (by kernel_rfl) (.inr (by kernel_rfl)) ?_
            clear H; intro w45 hN hC46 hz; clear a; intro a H
            replace hS := hS.setBlk hN hC46; clear hN hz
            try simp only [List.set_cons_succ, List.set_cons_zero] at hS
            refine k_takeT 21 H rfl (q_nilCheck rfl) rfl (by kernel_rfl) (by kernel_rfl) (by kernel_rfl) (by kernel_rfl) (fun _ _ _ h => h) ?_
            clear H a; intro a H
            refine k_takeT 22 H rfl (q_fieldAddr0 rfl fo37_1) rfl (by kernel_rfl) (by kernel_rfl) (by kernel_rfl) (by kernel_rfl) (fun _ _ _ h => h) ?_
            clear H a; intro a H
            refine k_store1 23 H rfl rfl rfl sz35 (hS.blk 0 rfl) (by simp) (hS.own 1 rfl).one (by kernel_rfl) (.inr (by kernel_rfl)) ?_
            clear H; intro w47 hN hC48 hz; clear a; intro a H
            replace hS := hS.setBlk hN hC48; clear hN hz
            try simp only [List.set_cons_succ, List.set_cons_zero] at hS
            refine k_done (by kernel_rfl) ?_
            refine then_normal ?_
            replace hS := hS.pick 4 rfl
            dsimp only [List.eraseIdx] at hS
            replace hS := hS.pick 4 rfl
            dsimp only [List.eraseIdx] at hS
            replace hS := hS.pick 10 rfl
            dsimp only [List.eraseIdx] at hS
            replace hS := hS.pick 10 rfl
            dsimp only [List.eraseIdx] at hS
            replace hS := hS.pick 12 rfl
            dsimp only [List.eraseIdx] at hS
            replace hS := hS.pick 12 rfl
            dsimp only [List.eraseIdx] at hS
            replace hS := hS.pick 7 rfl
            dsimp only [List.eraseIdx] at hS
            replace hS := hS.pick 9 rfl
            dsimp only [List.eraseIdx] at hS
            replace hS := hS.pick 8 rfl
            dsimp only [List.eraseIdx] at hS
            replace hS := hS.take 9
            simp only [List.take_succ_cons, List.take_zero] at hS
            replace hS := hS.cuAdd rfl rfl rfl rfl hn1 hn2 (by omega)
            exact join 0 H ⟨rfl, trivial⟩ ⟨_, rfl, hS⟩
        · skip
          refine kk_bytes 14 H rfl Tryd.underlying9 Tryd.underlying48 Tryd.underlying5 rfl (by simp only [maxLen]; omega) rfl ?_
          clear H; intro v63 w49 hN hE50 hs_v63; clear a; intro a H
          replace hS := hS.newOwn hN hE50 (by rw [hs_v63]; intro c hc; rw [List.mem_singleton.1 hc]; exact Nat.le_refl _); clear hN hE50
          refine k_buildSlice 7 H rfl Tryd.underlying34 sz39 ze39 rfl rfl rfl rfl rfl (by kernel_rfl) ?_
          clear H; intro b56 w51 hN hE52 hs_b56; clear a; intro a H
          have hz_b56 := hE52.size
          replace hS := hS.newBlk hN hE52 hs_b56; clear hN hE52
          replace hS := hS.pick 6 rfl
          dsimp only [List.eraseIdx] at hS
          refine k_append 8 H rfl rfl rfl Tryd.underlying34 Tryd.underlying34 (by simp) el39 (hS.own 0 rfl) (Own.ofBlk (n := 1) (k := 1) (hS.blk 1 rfl) rfl (by simp [maxLen])).src (by simp <;> rfl) (by omega) (by simp only [maxLen]; omega) rfl (by kernel_rfl) (.inl (fun b hb _ => List.mem_append_left _ hb)) ?_
          clear H; intro v57 w53 hN hC54 hb57 hnil57; clear a; intro a H
          have hz57 := hC54.size
          replace hS := hS.setOwn hN hC54 hb57; clear hN
          refine k_call 15 H rfl rfl en66 (rOpen_w (bs := s.data.toList) (fun w' e => ((hS.own 2 rfl).ext e).slB rfl) (by omega)) rfl (by kernel_rfl) (fun v w hv => .inl (ChgF.of_ext (by obtain ⟨q1, vB, n2, rfl, hn2, hE0⟩ := hv; exact hE0.x))) ?_
          clear H a; intro v57 w55 hv a H
          obtain ⟨q1, vB, n2, rfl, hn2, hE56⟩ := hv
          replace hS := hS.new hE56
          simp only [List.cons_append, List.nil_append] at hS
          refine k_buildSlice 16 H rfl Tryd.underlying35 sz51 ze51 rfl rfl rfl rfl rfl (by kernel_rfl) ?_
          clear H; intro b65 w58 hN hE59 hs_b65; clear a; intro a H
          have hz_b65 := hE59.size
          replace hS := hS.newBlk hN hE59 hs_b65; clear hN hE59
          replace hS := hS.pick 10 rfl
          dsimp only [List.eraseIdx] at hS
          refine k_append 17 H rfl rfl rfl Tryd.underlying35 Tryd.underlying35 (by simp) el51 (hS.own 0 rfl) (Own.ofBlk (n := 1) (k := 1) (hS.blk 1 rfl) rfl (by simp [maxLen])).src (by simp <;> rfl) (by omega) (by simp only [maxLen]; omega) rfl (by kernel_rfl) (.inl (fun b hb _ => List.mem_append_right _ hb)) ?_
          clear H; intro v66 w60 hN hC61 hb66 hnil66; clear a; intro a H
          have hz66 := hC61.size
          replace hS := hS.setOwn hN hC61 hb66; clear hN
          refine k_takeT 18 H rfl (q_nilCheck rfl) rfl (by kernel_rfl) (by kernel_rfl) (by kernel_rfl) (by kernel_rfl) (fun _ _ _ h => h) ?_
          clear H a; intro a H
          refine k_take 19 H rfl (q_fieldAddr0 rfl fo37_0) rfl (by kernel_rfl) (by kernel_rfl) (by kernel_rfl) (by kernel_rfl) (fun _ _ _ h => h) ?_
          clear H a; intro a H
          replace hS := hS.pick 10 rfl
          dsimp only [List.eraseIdx] at hS
          refine k_store1 20 H rfl rfl rfl sz34 (hS.blk 0 rfl) (by simp) (hS.own 5 rfl).one (by kernel_rfl) (.inr (by kernel_rfl)) ?_
          clear H; intro w62 hN hC63 hz; clear a; intro a H
          replace hS := hS.setBlk hN hC63; clear hN hz
          try simp only [List.set_cons_succ, List.set_cons_zero] at hS
          refine k_takeT 21 H rfl (q_nilCheck rfl) rfl (by kernel_rfl) (by kernel_rfl) (by kernel_rfl) (by kernel_rfl) (fun _ _ _ h => h) ?_
          clear H a; intro a H
          refine k_takeT 22 H rfl (q_fieldAddr0 rfl fo37_1) rfl (by kernel_rfl) (by kernel_rfl) (by kernel_rfl) (by kernel_rfl) (fun _ _ _ h => h) ?_
          clear H a; intro a H
          refine k_store1 23 H rfl rfl rfl sz35 (hS.blk 0 rfl) (by simp) (hS.own 1 rfl).one (by kernel_rfl) (.inr (by kernel_rfl)) ?_
          clear H; intro w64 hN hC65 hz; clear a; intro a H
          replace hS := hS.setBlk hN hC65; clear hN hz
          try simp only [List.set_cons_succ, List.set_cons_zero] at hS
          refine k_done (by kernel_rfl) ?_
          refine then_normal ?_
          replace hS := hS.pick 4 rfl
          dsimp only [List.eraseIdx] at hS
          replace hS := hS.pick 4 rfl
          dsimp only [List.eraseIdx] at hS
          replace hS := hS.pick 10 rfl
          dsimp only [List.eraseIdx] at hS
          replace hS := hS.pick 10 rfl
          dsimp only [List.eraseIdx] at hS
          replace hS := hS.pick 12 rfl
          dsimp only [List.eraseIdx] at hS
          replace hS := hS.pick 12 rfl
          dsimp only [List.eraseIdx] at hS
          replace hS := hS.pick 7 rfl
          dsimp only [List.eraseIdx] at hS
          replace hS := hS.pick 9 rfl
          dsimp only [List.eraseIdx] at hS
          replace hS := hS.pick 8 rfl
          dsimp only [List.eraseIdx] at hS
          replace hS := hS.take 9
          simp only [List.take_succ_cons, List.take_zero] at hS
          replace hS := hS.cuAdd rfl rfl rfl rfl hn1 hn2 (by omega)
          exact join 0 H ⟨rfl, trivial⟩ ⟨_, rfl, hS⟩
      · clear H hS; clear a
        intro z a w66 H hR
        simp only [ent, List.map_cons, List.map_nil] at H
        try dsimp only at hR
        obtain ⟨c0, hc0, hS⟩ := hR; try clear hR
        refine wp_seq ?_
        refine wp_region_lit ?_
        refine n_q H (q_assign rfl) rfl ?_
        clear H a; intro a H
        refine n_nil ?_
        refine then_normal ?_
        refine wp_ret ?_
        refine ret1 H (.inr rfl) rfl rfl ?_
        exact ⟨rfl, c0, hc0, hS⟩

/-- What a call on a cursor may do: an error leaves it where it is and has its place within; else it moves by what was read. -/
def stepOk (a d : Nat) (m : Int) (e : ErrM) (a' : Nat) : Prop := (e ≠ .nil → a' = a ∧ (e.place < 0 ∨ ((a : Int) ≤ e.place ∧ e.place ≤ d))) ∧ (e = .nil → (a' : Int) = a + m ∧ 0 ≤ m ∧ m ≤ (d : Int) - a)
theorem stepOk.v {a d : Nat} {m : Int} {g : Nat} : stepOk a d m (.v g) a := ⟨fun _ => ⟨rfl, .inl (by simp [ErrM.place])⟩, fun h => by cases h⟩
theorem stepOk.pl {a d n g : Nat} {m : Int} (h1 : a ≤ n) (h2 : n ≤ d) : stepOk a d m (.pl (n : Nat) g) a := ⟨fun _ => ⟨rfl, .inr (by simp only [ErrM.place]; omega)⟩, fun h => by cases h⟩
theorem stepOk.ok {a d n : Nat} {m : Int} (h0 : (n : Int) = m) (h : a + n ≤ d) : stepOk a d m .nil (a + n) := ⟨fun h => absurd rfl h, fun _ => ⟨by omega, by omega, by omega⟩⟩
theorem stepOk_ranged {bs : List UInt8} {a d : Nat} (k lo hi : Int) (h : a ≤ d) : stepOk a d k (rangedM bs a d k lo hi).2.1 (rangedM bs a d k lo hi).2.2 := by
  unfold rangedM
  split
  · exact .v
  split
  · exact .pl (Nat.le_refl _) h
  split
  · exact .pl (Nat.le_refl _) h
  · exact .ok (by omega) (by omega)
theorem stepOk_raw {bs : List UInt8} {a d : Nat} (n : Int) (h : a ≤ d) (h2 : d ≤ bs.length) : stepOk a d (((rawM bs a d n).1.length : Nat) : Int) (rawM bs a d n).2.1 (rawM bs a d n).2.2 := by
  unfold rawM
  split
  · exact .v
  split
  · exact .pl (Nat.le_refl _) h
  · exact .ok (by simp; omega) (by omega)
theorem strB_size (l : List UInt8) : (strB l).size = l.length := by simp [strB, ByteArray.size]
theorem textM_size {bs : List UInt8} {a d : Nat} (most : Int) : (textM bs a d most).1.size ≤ bs.length := by
  unfold textM
  split
  · exact Nat.zero_le _
  split
  · exact Nat.zero_le _
  split
  · exact Nat.zero_le _
  · rw [strB_size]; simp; omega
theorem stepOk_text {bs : List UInt8} {a d : Nat} (most : Int) (h : a ≤ d) (h2 : d ≤ bs.length) : stepOk a d (2 + (((textM bs a d most).1.size : Nat) : Int)) (textM bs a d most).2.1 (textM bs a d most).2.2 := by
  unfold textM
  split
  · exact .pl (Nat.le_refl _) h
  split
  · exact .pl (Nat.le_refl _) h
  split
  · exact .pl (by omega) (by omega)
  · have hp := peekN_lt (bs := bs) (a := a) (k := 2) (by omega)
    rw [Nat.add_assoc]
    exact .ok (by rw [strB_size]; simp; omega) (by omega)
theorem stepOk_next0 {bs : List UInt8} {a d : Nat} {m : Int} (h : a ≤ d) (hn : (nextM bs a d).2.1 = none) : stepOk a d m (nextM bs a d).2.2.1 (nextM bs a d).2.2.2 := by
  unfold nextM at *
  split
  · exact .pl (Nat.le_refl _) h
  split
  · exact .pl (Nat.le_refl _) h
  split
  · exact .pl (by omega) (by omega)
  · simp_all
theorem stepOk_next1 {bs : List UInt8} {a d : Nat} {x : Nat × Nat} (h : a ≤ d) (h2 : d ≤ bs.length) (hn : (nextM bs a d).2.1 = some x) : x.1 ≤ x.2 ∧ x.2 ≤ d ∧ stepOk a d (3 + ((x.2 : Int) - x.1)) (nextM bs a d).2.2.1 (nextM bs a d).2.2.2 := by
  unfold nextM at *
  split
  · simp_all
  split
  · simp_all
  split
  · simp_all
  · have hp := peekN_lt (bs := bs) (a := a + 1) (k := 2) (by omega)
    simp_all
    subst hn
    dsimp only
    refine ⟨by omega, by omega, ?_⟩
    rw [Nat.add_assoc]
    exact .ok (by omega) (by omega)
theorem stepOk_end {a d : Nat} (h : a ≤ d) : stepOk a d 0 (endM a d) a := by
  unfold endM
  split
  · exact .pl (Nat.le_refl _) h
  · exact .ok (n := 0) (by omega) (by omega)
set_option maxHeartbeats 4000000 in
theorem step_w {w : World} {fp : Nat → Prop} {A : Nat → Addr} {p ca cd : Nat} {vb : Value} {bs : List UInt8} {o : OpM} (hn63 : o.n ≤ 9223372036854775807) (hG : ∀ w', ChgP fp w w' → EV A w') (hb : ∀ w', ChgP fp w w' → SlR w' 1 (Flat eB) vb bs) (h1 : ca ≤ cd) (h2 : cd ≤ bs.length) (h3 : bs.length ≤ 70368744177664) (hP0 : Sep w fp [cuR p vb ca cd]) :
    Calls Tryd.prog 19 [.pointer (some ⟨p, 0, none⟩), opV o].toArray w (Ret fun r w' => ∃ m u e a', r = .tuple #[.int .i64 m, u] ∧ stepOk ca cd m e a' ∧ St fp w w' [cuR p vb a' cd, erR A u e]) := by
  have hS := St.init hP0
  refine enter Tryd.func19 rfl rfl rfl ?_
  intro a H
  dsimp only [enumL, Nat.zero_add, Nat.reduceAdd] at H
  refine wp_seq ?_
  refine wp_region_lit ?_
  refine n_box H rfl (cs := (eOp o)) rfl rfl ?_
  clear H; intro b3 w1 hN hE2 hs_b3; clear a; intro a H
  replace hS := hS.newBlk hN hE2 hs_b3; clear hN hE2
  refine n_q H (q_assign rfl) rfl ?_
  clear H a; intro a H
  refine n_q H (q_assign rfl) rfl ?_
  clear H a; intro a H
  refine n_nil ?_
  refine then_normal ?_
  refine wp_seq ?_
  refine wp_seq ?_
  refine wp_region_lit ?_
  refine n_q H (q_fieldAddr0 rfl fo29_0) rfl ?_
  clear H a; intro a H
  refine n_q H (q_load rfl ((hS.blk 0 rfl).ld ag3 rfl)) rfl ?_
  clear H a; intro a H
  refine n_nil ?_
  refine then_normal ?_
  refine wp_block ?_
  refine wp_seq ?_
  refine wp_seq ?_
  refine wp_region_lit ?_
  refine n_q H (q_eql rfl rfl) rfl ?_
  clear H a; intro a H
  refine n_q H (q_assign rfl) rfl ?_
  clear H a; intro a H
  refine n_nil ?_
  refine then_normal ?_
  refine c_cond H rfl (fun hc23 => ?_) (fun hc23 => ?_)
  · skip
    refine wp_skip ?_
    refine then_normal ?_
    refine c_cond H rfl (fun hc23 => ?_) (fun hc23 => ?_)
    · skip
      refine wp_seq ?_
      refine wp_region_lit ?_
      refine n_q H (q_move rfl) rfl ?_
      clear H a; intro a H
      replace hS := hS.pick 1 rfl
      dsimp only [List.eraseIdx] at hS
      obtain ⟨fp28, hG28, hK28, hR28, hF28⟩ := hS.frame1
      refine n_call H rfl en53 (cU8_w  (fun w' hw => hG _ (hK28 _ hw)) (fun w' hw => hb _ (hK28 _ hw)) h1 h2 h3 hG28) rfl ?_
      clear H a; intro v5 w3 hv a H
      obtain ⟨u28, rfl, hE4⟩ := hv
      replace hS := hF28 _ _ hE4
      simp only [List.cons_append, List.nil_append] at hS
      clear hG28 hK28 hR28 hF28
      refine n_q H (q_move rfl) rfl ?_
      clear H a; intro a H
      refine n_q H (q_extract rfl rfl) rfl ?_
      clear H a; intro a H
      refine n_q H (q_extract rfl rfl) rfl ?_
      clear H a; intro a H
      refine n_q H (q_assign rfl) rfl ?_
      clear H a; intro a H
      refine n_q H (q_assign rfl) rfl ?_
      clear H a; intro a H
      refine n_nil ?_
      refine then_normal ?_
      refine wp_seq ?_
      refine wp_region_lit ?_
      refine n_q H (q_move rfl) rfl ?_
      clear H a; intro a H
      refine n_q H (q_assign rfl) rfl ?_
      clear H a; intro a H
      refine n_q H (q_assign rfl) rfl ?_
      clear H a; intro a H
      refine n_nil ?_
      refine then_normal ?_
      refine wp_ret ?_
      refine block_ret ?_
      refine then_ret ?_
      replace hS := hS.pick 1 rfl
      dsimp only [List.eraseIdx] at hS
      replace hS := hS.pick 1 rfl
      dsimp only [List.eraseIdx] at hS
      replace hS := hS.take 2
      simp only [List.take_succ_cons, List.take_zero] at hS
      refine ret2 H (.inr rfl) rfl rfl rfl ?_
      first | exact ⟨_, _, _, _, rfl, stepOk_ranged _ _ _ h1, hS⟩ | exact ⟨_, _, _, _, rfl, stepOk_raw _ h1 h2, hS⟩ | exact ⟨_, _, _, _, rfl, stepOk_text _ h1 h2, hS⟩ | exact ⟨_, _, _, _, rfl, stepOk_next0 h1 hq, hS⟩ | exact ⟨_, _, _, _, rfl, hx1.2.2, hS⟩ | exact ⟨_, _, _, _, rfl, stepOk_end h1, hS⟩
    · skip
      refine wp_seq ?_
      refine wp_region_lit ?_
      refine n_q H (q_eql rfl rfl) rfl ?_
      clear H a; intro a H
      refine n_q H (q_assign rfl) rfl ?_
      clear H a; intro a H
      refine n_nil ?_
      refine then_normal ?_
      refine c_cond H rfl (fun hc32 => ?_) (fun hc32 => ?_)
      · skip
        refine wp_seq ?_
        refine wp_region_lit ?_
        refine n_q H (q_move rfl) rfl ?_
        clear H a; intro a H
        replace hS := hS.pick 1 rfl
        dsimp only [List.eraseIdx] at hS
        obtain ⟨fp36, hG36, hK36, hR36, hF36⟩ := hS.frame1
        refine n_call H rfl en67 (cU16_w  (fun w' hw => hG _ (hK36 _ hw)) (fun w' hw => hb _ (hK36 _ hw)) h1 h2 h3 hG36) rfl ?_
        clear H a; intro v8 w6 hv a H
        obtain ⟨u36, rfl, hE7⟩ := hv
        replace hS := hF36 _ _ hE7
        simp only [List.cons_append, List.nil_append] at hS
        clear hG36 hK36 hR36 hF36
        refine n_q H (q_move rfl) rfl ?_
        clear H a; intro a H
        refine n_q H (q_extract rfl rfl) rfl ?_
        clear H a; intro a H
        refine n_q H (q_extract rfl rfl) rfl ?_
        clear H a; intro a H
        refine n_q H (q_assign rfl) rfl ?_
        clear H a; intro a H
        refine n_q H (q_assign rfl) rfl ?_
        clear H a; intro a H
        refine n_nil ?_
        refine then_normal ?_
        refine wp_seq ?_
        refine wp_region_lit ?_
        refine n_q H (q_move rfl) rfl ?_
        clear H a; intro a H
        refine n_q H (q_assign rfl) rfl ?_
        clear H a; intro a H
        refine n_q H (q_assign rfl) rfl ?_
        clear H a; intro a H
        refine n_nil ?_
        refine then_normal ?_
        refine wp_ret ?_
        refine block_ret ?_
        refine then_ret ?_
        replace hS := hS.pick 1 rfl
        dsimp only [List.eraseIdx] at hS
        replace hS := hS.pick 1 rfl
        dsimp only [List.eraseIdx] at hS
        replace hS := hS.take 2
        simp only [List.take_succ_cons, List.take_zero] at hS
        refine ret2 H (.inr rfl) rfl rfl rfl ?_
        first | exact ⟨_, _, _, _, rfl, stepOk_ranged _ _ _ h1, hS⟩ | exact ⟨_, _, _, _, rfl, stepOk_raw _ h1 h2, hS⟩ | exact ⟨_, _, _, _, rfl, stepOk_text _ h1 h2, hS⟩ | exact ⟨_, _, _, _, rfl, stepOk_next0 h1 hq, hS⟩ | exact ⟨_, _, _, _, rfl, hx1.2.2, hS⟩ | exact ⟨_, _, _, _, rfl, stepOk_end h1, hS⟩
      · skip
        refine wp_seq ?_
        refine wp_region_lit ?_
        refine n_q H (q_eql rfl rfl) rfl ?_
        clear H a; intro a H
        refine n_q H (q_assign rfl) rfl ?_
        clear H a; intro a H
        refine n_nil ?_
        refine then_normal ?_
        refine c_cond H rfl (fun hc40 => ?_) (fun hc40 => ?_)
        · skip
          refine wp_seq ?_
          refine wp_region_lit ?_
          refine n_q H (q_move rfl) rfl ?_
          clear H a; intro a H
          replace hS := hS.pick 1 rfl
          dsimp only [List.eraseIdx] at hS
          obtain ⟨fp44, hG44, hK44, hR44, hF44⟩ := hS.frame1
          refine n_call H rfl en68 (cU32_w  (fun w' hw => hG _ (hK44 _ hw)) (fun w' hw => hb _ (hK44 _ hw)) h1 h2 h3 hG44) rfl ?_
          clear H a; intro v11 w9 hv a H
          obtain ⟨u44, rfl, hE10⟩ := hv
          replace hS := hF44 _ _ hE10
          simp only [List.cons_append, List.nil_append] at hS
          clear hG44 hK44 hR44 hF44
          refine n_q H (q_move rfl) rfl ?_
          clear H a; intro a H
          refine n_q H (q_extract rfl rfl) rfl ?_
          clear H a; intro a H
          refine n_q H (q_extract rfl rfl) rfl ?_
          clear H a; intro a H
          refine n_q H (q_assign rfl) rfl ?_
          clear H a; intro a H
          refine n_q H (q_assign rfl) rfl ?_
          clear H a; intro a H
          refine n_nil ?_
          refine then_normal ?_
          refine wp_seq ?_
          refine wp_region_lit ?_
          refine n_q H (q_move rfl) rfl ?_
          clear H a; intro a H
          refine n_q H (q_assign rfl) rfl ?_
          clear H a; intro a H
          refine n_q H (q_assign rfl) rfl ?_
          clear H a; intro a H
          refine n_nil ?_
          refine then_normal ?_
          refine wp_ret ?_
          refine block_ret ?_
          refine then_ret ?_
          replace hS := hS.pick 1 rfl
          dsimp only [List.eraseIdx] at hS
          replace hS := hS.pick 1 rfl
          dsimp only [List.eraseIdx] at hS
          replace hS := hS.take 2
          simp only [List.take_succ_cons, List.take_zero] at hS
          refine ret2 H (.inr rfl) rfl rfl rfl ?_
          first | exact ⟨_, _, _, _, rfl, stepOk_ranged _ _ _ h1, hS⟩ | exact ⟨_, _, _, _, rfl, stepOk_raw _ h1 h2, hS⟩ | exact ⟨_, _, _, _, rfl, stepOk_text _ h1 h2, hS⟩ | exact ⟨_, _, _, _, rfl, stepOk_next0 h1 hq, hS⟩ | exact ⟨_, _, _, _, rfl, hx1.2.2, hS⟩ | exact ⟨_, _, _, _, rfl, stepOk_end h1, hS⟩
        · skip
          refine wp_seq ?_
          refine wp_region_lit ?_
          refine n_q H (q_eql rfl rfl) rfl ?_
          clear H a; intro a H
          refine n_q H (q_assign rfl) rfl ?_
          clear H a; intro a H
          refine n_nil ?_
          refine then_normal ?_
          refine c_cond H rfl (fun hc48 => ?_) (fun hc48 => ?_)
          · skip
            refine wp_seq ?_
            refine wp_region_lit ?_
            refine n_q H (q_move rfl) rfl ?_
            clear H a; intro a H
            refine n_q H (q_fieldAddr0 rfl fo29_3) rfl ?_
            clear H a; intro a H
            refine n_q H (q_load rfl ((hS.blk 0 rfl).ld ag3 rfl)) rfl ?_
            clear H a; intro a H
            refine n_q H (q_fieldAddr0 rfl fo29_4) rfl ?_
            clear H a; intro a H
            refine n_q H (q_load rfl ((hS.blk 0 rfl).ld ag3 rfl)) rfl ?_
            clear H a; intro a H
            refine n_q H (q_fieldAddr0 rfl fo29_5) rfl ?_
            clear H a; intro a H
            refine n_q H (q_load rfl ((hS.blk 0 rfl).ld ag3 rfl)) rfl ?_
            clear H a; intro a H
            replace hS := hS.pick 1 rfl
            dsimp only [List.eraseIdx] at hS
            obtain ⟨fp58, hG58, hK58, hR58, hF58⟩ := hS.frame1
            refine n_call H rfl en69 (ranged_w  (fun w' hw => hG _ (hK58 _ hw)) (fun w' hw => hb _ (hK58 _ hw)) h1 h2 h3 hG58) rfl ?_
            clear H a; intro v14 w12 hv a H
            obtain ⟨u58, rfl, hE13⟩ := hv
            replace hS := hF58 _ _ hE13
            simp only [List.cons_append, List.nil_append] at hS
            clear hG58 hK58 hR58 hF58
            refine n_q H (q_move rfl) rfl ?_
            clear H a; intro a H
            refine n_q H (q_extract rfl rfl) rfl ?_
            clear H a; intro a H
            refine n_q H (q_extract rfl rfl) rfl ?_
            clear H a; intro a H
            refine n_q H (q_assign rfl) rfl ?_
            clear H a; intro a H
            refine n_q H (q_assign rfl) rfl ?_
            clear H a; intro a H
            refine n_nil ?_
            refine then_normal ?_
            refine wp_seq ?_
            refine wp_region_lit ?_
            refine n_q H (q_fieldAddr0 rfl fo29_3) rfl ?_
            clear H a; intro a H
            refine n_q H (q_load rfl ((hS.blk 2 rfl).ld ag3 rfl)) rfl ?_
            clear H a; intro a H
            refine n_q H (q_move rfl) rfl ?_
            clear H a; intro a H
            refine n_q H (q_assign rfl) rfl ?_
            clear H a; intro a H
            refine n_q H (q_assign rfl) rfl ?_
            clear H a; intro a H
            refine n_nil ?_
            refine then_normal ?_
            refine wp_ret ?_
            refine block_ret ?_
            refine then_ret ?_
            replace hS := hS.pick 1 rfl
            dsimp only [List.eraseIdx] at hS
            replace hS := hS.pick 1 rfl
            dsimp only [List.eraseIdx] at hS
            replace hS := hS.take 2
            simp only [List.take_succ_cons, List.take_zero] at hS
            refine ret2 H (.inr rfl) rfl rfl rfl ?_
            first | exact ⟨_, _, _, _, rfl, stepOk_ranged _ _ _ h1, hS⟩ | exact ⟨_, _, _, _, rfl, stepOk_raw _ h1 h2, hS⟩ | exact ⟨_, _, _, _, rfl, stepOk_text _ h1 h2, hS⟩ | exact ⟨_, _, _, _, rfl, stepOk_next0 h1 hq, hS⟩ | exact ⟨_, _, _, _, rfl, hx1.2.2, hS⟩ | exact ⟨_, _, _, _, rfl, stepOk_end h1, hS⟩
          · skip
            refine wp_seq ?_
            refine wp_region_lit ?_
            refine n_q H (q_eql rfl rfl) rfl ?_
            clear H a; intro a H
            refine n_q H (q_assign rfl) rfl ?_
            clear H a; intro a H
            refine n_nil ?_
            refine then_normal ?_
            refine c_cond H rfl (fun hc64 => ?_) (fun hc64 => ?_)
            · skip
              refine wp_seq ?_
              refine wp_region_lit ?_
              refine n_q H (q_move rfl) rfl ?_
              clear H a; intro a H
              refine n_q H (q_fieldAddr0 rfl fo29_3) rfl ?_
              clear H a; intro a H
              refine n_q H (q_load rfl ((hS.blk 0 rfl).ld ag3 rfl)) rfl ?_
              clear H a; intro a H
              replace hS := hS.pick 1 rfl
              dsimp only [List.eraseIdx] at hS
              obtain ⟨fp70, hG70, hK70, hR70, hF70⟩ := hS.frame1
              refine n_call H rfl en70 (cRaw_w hn63 (fun w' hw => hG _ (hK70 _ hw)) (fun w' hw => hb _ (hK70 _ hw)) h1 h2 h3 hG70) rfl ?_
              clear H a; intro v17 w15 hv a H
              obtain ⟨v70, u70, rfl, hE16⟩ := hv
              replace hS := hF70 _ _ hE16
              simp only [List.cons_append, List.nil_append] at hS
              clear hG70 hK70 hR70 hF70
              obtain ⟨A70, c70, hv70, _⟩ := (hS.own 2 rfl).form
              subst hv70
              refine n_q H (q_move rfl) rfl ?_
              clear H a; intro a H
              refine n_q H (q_extract rfl rfl) rfl ?_
              clear H a; intro a H
              refine n_q H (q_extract rfl rfl) rfl ?_
              clear H a; intro a H
              refine n_q H (q_assign rfl) rfl ?_
              clear H a; intro a H
              refine n_q H (q_assign rfl) rfl ?_
              clear H a; intro a H
              refine n_nil ?_
              refine then_normal ?_
              refine wp_seq ?_
              refine wp_region_lit ?_
              refine n_q H (q_move rfl) rfl ?_
              clear H a; intro a H
              refine n_q H (q_lenSl Tryd.underlying48 rfl) rfl ?_
              clear H a; intro a H
              refine n_q H (q_move rfl) rfl ?_
              clear H a; intro a H
              refine n_q H (q_assign rfl) rfl ?_
              clear H a; intro a H
              refine n_q H (q_assign rfl) rfl ?_
              clear H a; intro a H
              refine n_nil ?_
              refine then_normal ?_
              refine wp_ret ?_
              refine block_ret ?_
              refine then_ret ?_
              replace hS := hS.pick 1 rfl
              dsimp only [List.eraseIdx] at hS
              replace hS := hS.pick 1 rfl
              dsimp only [List.eraseIdx] at hS
              replace hS := hS.take 2
              simp only [List.take_succ_cons, List.take_zero] at hS
              refine ret2 H (.inr rfl) rfl rfl rfl ?_
              first | exact ⟨_, _, _, _, rfl, stepOk_ranged _ _ _ h1, hS⟩ | exact ⟨_, _, _, _, rfl, stepOk_raw _ h1 h2, hS⟩ | exact ⟨_, _, _, _, rfl, stepOk_text _ h1 h2, hS⟩ | exact ⟨_, _, _, _, rfl, stepOk_next0 h1 hq, hS⟩ | exact ⟨_, _, _, _, rfl, hx1.2.2, hS⟩ | exact ⟨_, _, _, _, rfl, stepOk_end h1, hS⟩
            · skip
              refine wp_seq ?_
              refine wp_region_lit ?_
              refine n_q H (q_eql rfl rfl) rfl ?_
              clear H a; intro a H
              refine n_q H (q_assign rfl) rfl ?_
              clear H a; intro a H
              refine n_nil ?_
              refine then_normal ?_
              refine c_cond H rfl (fun hc76 => ?_) (fun hc76 => ?_)
              · skip
                refine wp_seq ?_
                refine wp_region_lit ?_
                refine n_q H (q_move rfl) rfl ?_
                clear H a; intro a H
                refine n_q H (q_fieldAddr0 rfl fo29_3) rfl ?_
                clear H a; intro a H
                refine n_q H (q_load rfl ((hS.blk 0 rfl).ld ag3 rfl)) rfl ?_
                clear H a; intro a H
                replace hS := hS.pick 1 rfl
                dsimp only [List.eraseIdx] at hS
                obtain ⟨fp82, hG82, hK82, hR82, hF82⟩ := hS.frame1
                refine n_call H rfl en71 (cText_w  (fun w' hw => hG _ (hK82 _ hw)) (fun w' hw => hb _ (hK82 _ hw)) h1 h2 h3 hG82) rfl ?_
                clear H a; intro v20 w18 hv a H
                obtain ⟨u82, rfl, hE19⟩ := hv
                replace hS := hF82 _ _ hE19
                simp only [List.cons_append, List.nil_append] at hS
                clear hG82 hK82 hR82 hF82
                have ht82 := textM_size (bs := bs) (a := ca) (d := cd) o.n
                refine n_q H (q_move rfl) rfl ?_
                clear H a; intro a H
                refine n_q H (q_extract rfl rfl) rfl ?_
                clear H a; intro a H
                refine n_q H (q_extract rfl rfl) rfl ?_
                clear H a; intro a H
                refine n_q H (q_assign rfl) rfl ?_
                clear H a; intro a H
                refine n_q H (q_assign rfl) rfl ?_
                clear H a; intro a H
                refine n_nil ?_
                refine then_normal ?_
                refine wp_seq ?_
                refine wp_region_lit ?_
                refine n_q H (q_move rfl) rfl ?_
                clear H a; intro a H
                refine n_q H (q_lenS Tryd.underlying9 rfl) rfl ?_
                clear H a; intro a H
                refine n_q H (q_add rfl rfl (by constructor <;> omega)) rfl ?_
                clear H a; intro a H
                refine n_q H (q_move rfl) rfl ?_
                clear H a; intro a H
                refine n_q H (q_assign rfl) rfl ?_
                clear H a; intro a H
                refine n_q H (q_assign rfl) rfl ?_
                clear H a; intro a H
                refine n_nil ?_
                refine then_normal ?_
                refine wp_ret ?_
                refine block_ret ?_
                refine then_ret ?_
                replace hS := hS.pick 1 rfl
                dsimp only [List.eraseIdx] at hS
                replace hS := hS.pick 1 rfl
                dsimp only [List.eraseIdx] at hS
                replace hS := hS.take 2
                simp only [List.take_succ_cons, List.take_zero] at hS
                refine ret2 H (.inr rfl) rfl rfl rfl ?_
                first | exact ⟨_, _, _, _, rfl, stepOk_ranged _ _ _ h1, hS⟩ | exact ⟨_, _, _, _, rfl, stepOk_raw _ h1 h2, hS⟩ | exact ⟨_, _, _, _, rfl, stepOk_text _ h1 h2, hS⟩ | exact ⟨_, _, _, _, rfl, stepOk_next0 h1 hq, hS⟩ | exact ⟨_, _, _, _, rfl, hx1.2.2, hS⟩ | exact ⟨_, _, _, _, rfl, stepOk_end h1, hS⟩
              · skip
                refine wp_seq ?_
                refine wp_region_lit ?_
                refine n_q H (q_eql rfl rfl) rfl ?_
                clear H a; intro a H
                refine n_q H (q_assign rfl) rfl ?_
                clear H a; intro a H
                refine n_nil ?_
                refine then_normal ?_
                refine c_cond H rfl (fun hc89 => ?_) (fun hc89 => ?_)
                · skip
                  refine wp_seq ?_
                  refine wp_region_lit ?_
                  refine n_q H (q_move rfl) rfl ?_
                  clear H a; intro a H
                  replace hS := hS.pick 1 rfl
                  dsimp only [List.eraseIdx] at hS
                  obtain ⟨fp93, hG93, hK93, hR93, hF93⟩ := hS.frame1
                  refine n_call H rfl en72 (next_w (fun w' hw => hG _ (hK93 _ hw)) (fun w' hw => hb _ (hK93 _ hw)) h1 h2 h3 hG93) rfl ?_
                  clear H a; intro v23 w21 hv a H
                  obtain ⟨q93, u93, rfl, hE22⟩ := hv
                  replace hS := hF93 _ _ hE22
                  simp only [List.cons_append, List.nil_append] at hS
                  clear hG93 hK93 hR93 hF93
                  refine n_q H (q_move rfl) rfl ?_
                  clear H a; intro a H
                  refine n_q H (q_extract rfl rfl) rfl ?_
                  clear H a; intro a H
                  refine n_q H (q_extract rfl rfl) rfl ?_
                  clear H a; intro a H
                  refine n_q H (q_extract rfl rfl) rfl ?_
                  clear H a; intro a H
                  refine n_q H (q_assign rfl) rfl ?_
                  clear H a; intro a H
                  refine n_q H (q_assign rfl) rfl ?_
                  clear H a; intro a H
                  refine n_q H (q_assign rfl) rfl ?_
                  clear H a; intro a H
                  refine n_nil ?_
                  refine then_normal ?_
                  refine wp_seq ?_
                  refine wp_seq ?_
                  refine wp_region_lit ?_
                  refine n_q H (q_move rfl) rfl ?_
                  clear H a; intro a H
                  refine n_q H (q_nilP Tryd.underlying39 rfl rfl) rfl ?_
                  clear H a; intro a H
                  refine n_nil ?_
                  refine then_normal ?_
                  refine c_cond H rfl (fun hc98 => ?_) (fun hc98 => ?_)
                  · skip
                    have hq : (nextM bs ca cd).2.1 = none := by
                      rcases hx : (nextM bs ca cd).2.1 with _ | x
                      · rfl
                      · rw [hx] at hS
                        obtain ⟨pq, hq, _⟩ := (hS.pick 2 rfl).ncGet
                        rw [hq] at hc98; cases hc98
                    refine wp_seq ?_
                    refine wp_region_lit ?_
                    refine n_q H (q_move rfl) rfl ?_
                    clear H a; intro a H
                    refine n_q H (q_assign rfl) rfl ?_
                    clear H a; intro a H
                    refine n_q H (q_assign rfl) rfl ?_
                    clear H a; intro a H
                    refine n_nil ?_
                    refine then_normal ?_
                    refine wp_ret ?_
                    refine then_ret ?_
                    refine block_ret ?_
                    refine then_ret ?_
                    replace hS := hS.pick 1 rfl
                    dsimp only [List.eraseIdx] at hS
                    replace hS := hS.pick 1 rfl
                    dsimp only [List.eraseIdx] at hS
                    replace hS := hS.take 2
                    simp only [List.take_succ_cons, List.take_zero] at hS
                    refine ret2 H (.inr rfl) rfl rfl rfl ?_
                    first | exact ⟨_, _, _, _, rfl, stepOk_ranged _ _ _ h1, hS⟩ | exact ⟨_, _, _, _, rfl, stepOk_raw _ h1 h2, hS⟩ | exact ⟨_, _, _, _, rfl, stepOk_text _ h1 h2, hS⟩ | exact ⟨_, _, _, _, rfl, stepOk_next0 h1 hq, hS⟩ | exact ⟨_, _, _, _, rfl, hx1.2.2, hS⟩ | exact ⟨_, _, _, _, rfl, stepOk_end h1, hS⟩
                  · skip
                    obtain ⟨x, hx⟩ : ∃ x, (nextM bs ca cd).2.1 = some x := by
                      rcases hx : (nextM bs ca cd).2.1 with _ | x
                      · rw [hx] at hS
                        obtain ⟨hq, _⟩ := (hS.pick 2 rfl).ncGet0
                        rw [hq] at hc98; cases hc98
                      · exact ⟨x, rfl⟩
                    have hx1 := stepOk_next1 h1 h2 hx
                    replace hS := hS.pick 2 rfl
                    dsimp only [List.eraseIdx] at hS
                    rw [hx] at hS
                    obtain ⟨bq, hq93, hS3⟩ := hS.ncGet
                    replace hS := hS3
                    clear hS3
                    subst hq93
                    refine wp_skip ?_
                    refine then_normal ?_
                    refine wp_seq ?_
                    refine wp_region_lit ?_
                    refine n_q H (q_move rfl) rfl ?_
                    clear H a; intro a H
                    refine n_call H rfl en18 (cLeft_w hx1.1 (by omega) (hS.blk 0 rfl)) rfl ?_
                    clear H a; intro v26 w24 hv a H
                    obtain ⟨rfl, hE25⟩ := hv
                    replace hS := hS.ext hE25
                    refine n_q H (q_add rfl rfl (by constructor <;> omega)) rfl ?_
                    clear H a; intro a H
                    refine n_q H (q_move rfl) rfl ?_
                    clear H a; intro a H
                    refine n_q H (q_assign rfl) rfl ?_
                    clear H a; intro a H
                    refine n_q H (q_assign rfl) rfl ?_
                    clear H a; intro a H
                    refine n_nil ?_
                    refine then_normal ?_
                    refine wp_ret ?_
                    refine block_ret ?_
                    refine then_ret ?_
                    replace hS := hS.pick 2 rfl
                    dsimp only [List.eraseIdx] at hS
                    replace hS := hS.pick 2 rfl
                    dsimp only [List.eraseIdx] at hS
                    replace hS := hS.take 2
                    simp only [List.take_succ_cons, List.take_zero] at hS
                    refine ret2 H (.inr rfl) rfl rfl rfl ?_
                    first | exact ⟨_, _, _, _, rfl, stepOk_ranged _ _ _ h1, hS⟩ | exact ⟨_, _, _, _, rfl, stepOk_raw _ h1 h2, hS⟩ | exact ⟨_, _, _, _, rfl, stepOk_text _ h1 h2, hS⟩ | exact ⟨_, _, _, _, rfl, stepOk_next0 h1 hq, hS⟩ | exact ⟨_, _, _, _, rfl, hx1.2.2, hS⟩ | exact ⟨_, _, _, _, rfl, stepOk_end h1, hS⟩
                · skip
                  refine wp_skip ?_
                  refine block_normal ?_
                  refine then_normal ?_
                  refine wp_seq ?_
                  refine wp_region_lit ?_
                  refine n_q H (q_move rfl) rfl ?_
                  clear H a; intro a H
                  replace hS := hS.pick 1 rfl
                  dsimp only [List.eraseIdx] at hS
                  obtain ⟨fp105, hG105, hK105, hR105, hF105⟩ := hS.frame1
                  refine n_call H rfl en24 (cEnd_w (fun w' hw => hG _ (hK105 _ hw)) (fun w' hw => hb _ (hK105 _ hw)) h1 h2 h3 hG105) rfl ?_
                  clear H a; intro v29 w27 hv a H
                  obtain ⟨u105, rfl, hE28⟩ := hv
                  replace hS := hF105 _ _ hE28
                  simp only [List.cons_append, List.nil_append] at hS
                  clear hG105 hK105 hR105 hF105
                  refine n_q H (q_assign rfl) rfl ?_
                  clear H a; intro a H
                  refine n_q H (q_assign rfl) rfl ?_
                  clear H a; intro a H
                  refine n_nil ?_
                  refine then_normal ?_
                  refine wp_ret ?_
                  replace hS := hS.pick 1 rfl
                  dsimp only [List.eraseIdx] at hS
                  replace hS := hS.pick 1 rfl
                  dsimp only [List.eraseIdx] at hS
                  replace hS := hS.take 2
                  simp only [List.take_succ_cons, List.take_zero] at hS
                  refine ret2 H (.inr rfl) rfl rfl rfl ?_
                  first | exact ⟨_, _, _, _, rfl, stepOk_ranged _ _ _ h1, hS⟩ | exact ⟨_, _, _, _, rfl, stepOk_raw _ h1 h2, hS⟩ | exact ⟨_, _, _, _, rfl, stepOk_text _ h1 h2, hS⟩ | exact ⟨_, _, _, _, rfl, stepOk_next0 h1 hq, hS⟩ | exact ⟨_, _, _, _, rfl, hx1.2.2, hS⟩ | exact ⟨_, _, _, _, rfl, stepOk_end h1, hS⟩
  · skip
    refine wp_region_lit ?_
    refine n_q H (q_eql rfl rfl) rfl ?_
    clear H a; intro a H
    refine n_q H (q_assign rfl) rfl ?_
    clear H a; intro a H
    refine n_nil ?_
    refine then_normal ?_
    refine c_cond H rfl (fun hc23 => ?_) (fun hc23 => ?_)
    · skip
      refine wp_seq ?_
      refine wp_region_lit ?_
      refine n_q H (q_move rfl) rfl ?_
      clear H a; intro a H
      replace hS := hS.pick 1 rfl
      dsimp only [List.eraseIdx] at hS
      obtain ⟨fp28, hG28, hK28, hR28, hF28⟩ := hS.frame1
      refine n_call H rfl en53 (cU8_w  (fun w' hw => hG _ (hK28 _ hw)) (fun w' hw => hb _ (hK28 _ hw)) h1 h2 h3 hG28) rfl ?_
      clear H a; intro v32 w30 hv a H
      obtain ⟨u28, rfl, hE31⟩ := hv
      replace hS := hF28 _ _ hE31
      simp only [List.cons_append, List.nil_append] at hS
      clear hG28 hK28 hR28 hF28
      refine n_q H (q_move rfl) rfl ?_
      clear H a; intro a H
      refine n_q H (q_extract rfl rfl) rfl ?_
      clear H a; intro a H
      refine n_q H (q_extract rfl rfl) rfl ?_
      clear H a; intro a H
      refine n_q H (q_assign rfl) rfl ?_
      clear H a; intro a H
      refine n_q H (q_assign rfl) rfl ?_
      clear H a; intro a H
      refine n_nil ?_
      refine then_normal ?_
      refine wp_seq ?_
      refine wp_region_lit ?_
      refine n_q H (q_move rfl) rfl ?_
      clear H a; intro a H
      refine n_q H (q_assign rfl) rfl ?_
      clear H a; intro a H
      refine n_q H (q_assign rfl) rfl ?_
      clear H a; intro a H
      refine n_nil ?_
      refine then_normal ?_
      refine wp_ret ?_
      refine block_ret ?_
      refine then_ret ?_
      replace hS := hS.pick 1 rfl
      dsimp only [List.eraseIdx] at hS
      replace hS := hS.pick 1 rfl
      dsimp only [List.eraseIdx] at hS
      replace hS := hS.take 2
      simp only [List.take_succ_cons, List.take_zero] at hS
      refine ret2 H (.inr rfl) rfl rfl rfl ?_
      first | exact ⟨_, _, _, _, rfl, stepOk_ranged _ _ _ h1, hS⟩ | exact ⟨_, _, _, _, rfl, stepOk_raw _ h1 h2, hS⟩ | exact ⟨_, _, _, _, rfl, stepOk_text _ h1 h2, hS⟩ | exact ⟨_, _, _, _, rfl, stepOk_next0 h1 hq, hS⟩ | exact ⟨_, _, _, _, rfl, hx1.2.2, hS⟩ | exact ⟨_, _, _, _, rfl, stepOk_end h1, hS⟩
    · skip
      refine wp_seq ?_
      refine wp_region_lit ?_
      refine n_q H (q_eql rfl rfl) rfl ?_
      clear H a; intro a H
      refine n_q H (q_assign rfl) rfl ?_
      clear H a; intro a H
      refine n_nil ?_
      refine then_normal ?_
      refine c_cond H rfl (fun hc32 => ?_) (fun hc32 => ?_)
      · skip
        refine wp_seq ?_
        refine wp_region_lit ?_
        refine n_q H (q_move rfl) rfl ?_
        clear H a; intro a H
        replace hS := hS.pick 1 rfl
        dsimp only [List.eraseIdx] at hS
        obtain ⟨fp36, hG36, hK36, hR36, hF36⟩ := hS.frame1
        refine n_call H rfl en67 (cU16_w  (fun w' hw => hG _ (hK36 _ hw)) (fun w' hw => hb _ (hK36 _ hw)) h1 h2 h3 hG36) rfl ?_
        clear H a; intro v35 w33 hv a H
        obtain ⟨u36, rfl, hE34⟩ := hv
        replace hS := hF36 _ _ hE34
        simp only [List.cons_append, List.nil_append] at hS
        clear hG36 hK36 hR36 hF36
        refine n_q H (q_move rfl) rfl ?_
        clear H a; intro a H
        refine n_q H (q_extract rfl rfl) rfl ?_
        clear H a; intro a H
        refine n_q H (q_extract rfl rfl) rfl ?_
        clear H a; intro a H
        refine n_q H (q_assign rfl) rfl ?_
        clear H a; intro a H
        refine n_q H (q_assign rfl) rfl ?_
        clear H a; intro a H
        refine n_nil ?_
        refine then_normal ?_
        refine wp_seq ?_
        refine wp_region_lit ?_
        refine n_q H (q_move rfl) rfl ?_
        clear H a; intro a H
        refine n_q H (q_assign rfl) rfl ?_
        clear H a; intro a H
        refine n_q H (q_assign rfl) rfl ?_
        clear H a; intro a H
        refine n_nil ?_
        refine then_normal ?_
        refine wp_ret ?_
        refine block_ret ?_
        refine then_ret ?_
        replace hS := hS.pick 1 rfl
        dsimp only [List.eraseIdx] at hS
        replace hS := hS.pick 1 rfl
        dsimp only [List.eraseIdx] at hS
        replace hS := hS.take 2
        simp only [List.take_succ_cons, List.take_zero] at hS
        refine ret2 H (.inr rfl) rfl rfl rfl ?_
        first | exact ⟨_, _, _, _, rfl, stepOk_ranged _ _ _ h1, hS⟩ | exact ⟨_, _, _, _, rfl, stepOk_raw _ h1 h2, hS⟩ | exact ⟨_, _, _, _, rfl, stepOk_text _ h1 h2, hS⟩ | exact ⟨_, _, _, _, rfl, stepOk_next0 h1 hq, hS⟩ | exact ⟨_, _, _, _, rfl, hx1.2.2, hS⟩ | exact ⟨_, _, _, _, rfl, stepOk_end h1, hS⟩
      · skip
        refine wp_seq ?_
        refine wp_region_lit ?_
        refine n_q H (q_eql rfl rfl) rfl ?_
        clear H a; intro a H
        refine n_q H (q_assign rfl) rfl ?_
        clear H a; intro a H
        refine n_nil ?_
        refine then_normal ?_
        refine c_cond H rfl (fun hc40 => ?_) (fun hc40 => ?_)
        · skip
          refine wp_seq ?_
          refine wp_region_lit ?_
          refine n_q H (q_move rfl) rfl ?_
          clear H a; intro a H
          replace hS := hS.pick 1 rfl
          dsimp only [List.eraseIdx] at hS
          obtain ⟨fp44, hG44, hK44, hR44, hF44⟩ := hS.frame1
          refine n_call H rfl en68 (cU32_w  (fun w' hw => hG _ (hK44 _ hw)) (fun w' hw => hb _ (hK44 _ hw)) h1 h2 h3 hG44) rfl ?_
          clear H a; intro v38 w36 hv a H
          obtain ⟨u44, rfl, hE37⟩ := hv
          replace hS := hF44 _ _ hE37
          simp only [List.cons_append, List.nil_append] at hS
          clear hG44 hK44 hR44 hF44
          refine n_q H (q_move rfl) rfl ?_
          clear H a; intro a H
          refine n_q H (q_extract rfl rfl) rfl ?_
          clear H a; intro a H
          refine n_q H (q_extract rfl rfl) rfl ?_
          clear H a; intro a H
          refine n_q H (q_assign rfl) rfl ?_
          clear H a; intro a H
          refine n_q H (q_assign rfl) rfl ?_
          clear H a; intro a H
          refine n_nil ?_
          refine then_normal ?_
          refine wp_seq ?_
          refine wp_region_lit ?_
          refine n_q H (q_move rfl) rfl ?_
          clear H a; intro a H
          refine n_q H (q_assign rfl) rfl ?_
          clear H a; intro a H
          refine n_q H (q_assign rfl) rfl ?_
          clear H a; intro a H
          refine n_nil ?_
          refine then_normal ?_
          refine wp_ret ?_
          refine block_ret ?_
          refine then_ret ?_
          replace hS := hS.pick 1 rfl
          dsimp only [List.eraseIdx] at hS
          replace hS := hS.pick 1 rfl
          dsimp only [List.eraseIdx] at hS
          replace hS := hS.take 2
          simp only [List.take_succ_cons, List.take_zero] at hS
          refine ret2 H (.inr rfl) rfl rfl rfl ?_
          first | exact ⟨_, _, _, _, rfl, stepOk_ranged _ _ _ h1, hS⟩ | exact ⟨_, _, _, _, rfl, stepOk_raw _ h1 h2, hS⟩ | exact ⟨_, _, _, _, rfl, stepOk_text _ h1 h2, hS⟩ | exact ⟨_, _, _, _, rfl, stepOk_next0 h1 hq, hS⟩ | exact ⟨_, _, _, _, rfl, hx1.2.2, hS⟩ | exact ⟨_, _, _, _, rfl, stepOk_end h1, hS⟩
        · skip
          refine wp_seq ?_
          refine wp_region_lit ?_
          refine n_q H (q_eql rfl rfl) rfl ?_
          clear H a; intro a H
          refine n_q H (q_assign rfl) rfl ?_
          clear H a; intro a H
          refine n_nil ?_
          refine then_normal ?_
          refine c_cond H rfl (fun hc48 => ?_) (fun hc48 => ?_)
          · skip
            refine wp_seq ?_
            refine wp_region_lit ?_
            refine n_q H (q_move rfl) rfl ?_
            clear H a; intro a H
            refine n_q H (q_fieldAddr0 rfl fo29_3) rfl ?_
            clear H a; intro a H
            refine n_q H (q_load rfl ((hS.blk 0 rfl).ld ag3 rfl)) rfl ?_
            clear H a; intro a H
            refine n_q H (q_fieldAddr0 rfl fo29_4) rfl ?_
            clear H a; intro a H
            refine n_q H (q_load rfl ((hS.blk 0 rfl).ld ag3 rfl)) rfl ?_
            clear H a; intro a H
            refine n_q H (q_fieldAddr0 rfl fo29_5) rfl ?_
            clear H a; intro a H
            refine n_q H (q_load rfl ((hS.blk 0 rfl).ld ag3 rfl)) rfl ?_
            clear H a; intro a H
            replace hS := hS.pick 1 rfl
            dsimp only [List.eraseIdx] at hS
            obtain ⟨fp58, hG58, hK58, hR58, hF58⟩ := hS.frame1
            refine n_call H rfl en69 (ranged_w  (fun w' hw => hG _ (hK58 _ hw)) (fun w' hw => hb _ (hK58 _ hw)) h1 h2 h3 hG58) rfl ?_
            clear H a; intro v41 w39 hv a H
            obtain ⟨u58, rfl, hE40⟩ := hv
            replace hS := hF58 _ _ hE40
            simp only [List.cons_append, List.nil_append] at hS
            clear hG58 hK58 hR58 hF58
            refine n_q H (q_move rfl) rfl ?_
            clear H a; intro a H
            refine n_q H (q_extract rfl rfl) rfl ?_
            clear H a; intro a H
            refine n_q H (q_extract rfl rfl) rfl ?_
            clear H a; intro a H
            refine n_q H (q_assign rfl) rfl ?_
            clear H a; intro a H
            refine n_q H (q_assign rfl) rfl ?_
            clear H a; intro a H
            refine n_nil ?_
            refine then_normal ?_
            refine wp_seq ?_
            refine wp_region_lit ?_
            refine n_q H (q_fieldAddr0 rfl fo29_3) rfl ?_
            clear H a; intro a H
            refine n_q H (q_load rfl ((hS.blk 2 rfl).ld ag3 rfl)) rfl ?_
            clear H a; intro a H
            refine n_q H (q_move rfl) rfl ?_
            clear H a; intro a H
            refine n_q H (q_assign rfl) rfl ?_
            clear H a; intro a H
            refine n_q H (q_assign rfl) rfl ?_
            clear H a; intro a H
            refine n_nil ?_
            refine then_normal ?_
            refine wp_ret ?_
            refine block_ret ?_
            refine then_ret ?_
            replace hS := hS.pick 1 rfl
            dsimp only [List.eraseIdx] at hS
            replace hS := hS.pick 1 rfl
            dsimp only [List.eraseIdx] at hS
            replace hS := hS.take 2
            simp only [List.take_succ_cons, List.take_zero] at hS
            refine ret2 H (.inr rfl) rfl rfl rfl ?_
            first | exact ⟨_, _, _, _, rfl, stepOk_ranged _ _ _ h1, hS⟩ | exact ⟨_, _, _, _, rfl, stepOk_raw _ h1 h2, hS⟩ | exact ⟨_, _, _, _, rfl, stepOk_text _ h1 h2, hS⟩ | exact ⟨_, _, _, _, rfl, stepOk_next0 h1 hq, hS⟩ | exact ⟨_, _, _, _, rfl, hx1.2.2, hS⟩ | exact ⟨_, _, _, _, rfl, stepOk_end h1, hS⟩
          · skip
            refine wp_seq ?_
            refine wp_region_lit ?_
            refine n_q H (q_eql rfl rfl) rfl ?_
            clear H a; intro a H
            refine n_q H (q_assign rfl) rfl ?_
            clear H a; intro a H
            refine n_nil ?_
            refine then_normal ?_
            refine c_cond H rfl (fun hc64 => ?_) (fun hc64 => ?_)
            · skip
              refine wp_seq ?_
              refine wp_region_lit ?_
              refine n_q H (q_move rfl) rfl ?_
              clear H a; intro a H
              refine n_q H (q_fieldAddr0 rfl fo29_3) rfl ?_
              clear H a; intro a H
              refine n_q H (q_load rfl ((hS.blk 0 rfl).ld ag3 rfl)) rfl ?_
              clear H a; intro a H
              replace hS := hS.pick 1 rfl
              dsimp only [List.eraseIdx] at hS
              obtain ⟨fp70, hG70, hK70, hR70, hF70⟩ := hS.frame1
              refine n_call H rfl en70 (cRaw_w hn63 (fun w' hw => hG _ (hK70 _ hw)) (fun w' hw => hb _ (hK70 _ hw)) h1 h2 h3 hG70) rfl ?_
              clear H a; intro v44 w42 hv a H
              obtain ⟨v70, u70, rfl, hE43⟩ := hv
              replace hS := hF70 _ _ hE43
              simp only [List.cons_append, List.nil_append] at hS
              clear hG70 hK70 hR70 hF70
              obtain ⟨A70, c70, hv70, _⟩ := (hS.own 2 rfl).form
              subst hv70
              refine n_q H (q_move rfl) rfl ?_
              clear H a; intro a H
              refine n_q H (q_extract rfl rfl) rfl ?_
              clear H a; intro a H
              refine n_q H (q_extract rfl rfl) rfl ?_
              clear H a; intro a H
              refine n_q H (q_assign rfl) rfl ?_
              clear H a; intro a H
              refine n_q H (q_assign rfl) rfl ?_
              clear H a; intro a H
              refine n_nil ?_
              refine then_normal ?_
              refine wp_seq ?_
              refine wp_region_lit ?_
              refine n_q H (q_move rfl) rfl ?_
              clear H a; intro a H
              refine n_q H (q_lenSl Tryd.underlying48 rfl) rfl ?_
              clear H a; intro a H
              refine n_q H (q_move rfl) rfl ?_
              clear H a; intro a H
              refine n_q H (q_assign rfl) rfl ?_
              clear H a; intro a H
              refine n_q H (q_assign rfl) rfl ?_
              clear H a; intro a H
              refine n_nil ?_
              refine then_normal ?_
              refine wp_ret ?_
              refine block_ret ?_
              refine then_ret ?_
              replace hS := hS.pick 1 rfl
              dsimp only [List.eraseIdx] at hS
              replace hS := hS.pick 1 rfl
              dsimp only [List.eraseIdx] at hS
              replace hS := hS.take 2
              simp only [List.take_succ_cons, List.take_zero] at hS
              refine ret2 H (.inr rfl) rfl rfl rfl ?_
              first | exact ⟨_, _, _, _, rfl, stepOk_ranged _ _ _ h1, hS⟩ | exact ⟨_, _, _, _, rfl, stepOk_raw _ h1 h2, hS⟩ | exact ⟨_, _, _, _, rfl, stepOk_text _ h1 h2, hS⟩ | exact ⟨_, _, _, _, rfl, stepOk_next0 h1 hq, hS⟩ | exact ⟨_, _, _, _, rfl, hx1.2.2, hS⟩ | exact ⟨_, _, _, _, rfl, stepOk_end h1, hS⟩
            · skip
              refine wp_seq ?_
              refine wp_region_lit ?_
              refine n_q H (q_eql rfl rfl) rfl ?_
              clear H a; intro a H
              refine n_q H (q_assign rfl) rfl ?_
              clear H a; intro a H
              refine n_nil ?_
              refine then_normal ?_
              refine c_cond H rfl (fun hc76 => ?_) (fun hc76 => ?_)
              · skip
                refine wp_seq ?_
                refine wp_region_lit ?_
                refine n_q H (q_move rfl) rfl ?_
                clear H a; intro a H
                refine n_q H (q_fieldAddr0 rfl fo29_3) rfl ?_
                clear H a; intro a H
                refine n_q H (q_load rfl ((hS.blk 0 rfl).ld ag3 rfl)) rfl ?_
                clear H a; intro a H
                replace hS := hS.pick 1 rfl
                dsimp only [List.eraseIdx] at hS
                obtain ⟨fp82, hG82, hK82, hR82, hF82⟩ := hS.frame1
                refine n_call H rfl en71 (cText_w  (fun w' hw => hG _ (hK82 _ hw)) (fun w' hw => hb _ (hK82 _ hw)) h1 h2 h3 hG82) rfl ?_
                clear H a; intro v47 w45 hv a H
                obtain ⟨u82, rfl, hE46⟩ := hv
                replace hS := hF82 _ _ hE46
                simp only [List.cons_append, List.nil_append] at hS
                clear hG82 hK82 hR82 hF82
                have ht82 := textM_size (bs := bs) (a := ca) (d := cd) o.n
                refine n_q H (q_move rfl) rfl ?_
                clear H a; intro a H
                refine n_q H (q_extract rfl rfl) rfl ?_
                clear H a; intro a H
                refine n_q H (q_extract rfl rfl) rfl ?_
                clear H a; intro a H
                refine n_q H (q_assign rfl) rfl ?_
                clear H a; intro a H
                refine n_q H (q_assign rfl) rfl ?_
                clear H a; intro a H
                refine n_nil ?_
                refine then_normal ?_
                refine wp_seq ?_
                refine wp_region_lit ?_
                refine n_q H (q_move rfl) rfl ?_
                clear H a; intro a H
                refine n_q H (q_lenS Tryd.underlying9 rfl) rfl ?_
                clear H a; intro a H
                refine n_q H (q_add rfl rfl (by constructor <;> omega)) rfl ?_
                clear H a; intro a H
                refine n_q H (q_move rfl) rfl ?_
                clear H a; intro a H
                refine n_q H (q_assign rfl) rfl ?_
                clear H a; intro a H
                refine n_q H (q_assign rfl) rfl ?_
                clear H a; intro a H
                refine n_nil ?_
                refine then_normal ?_
                refine wp_ret ?_
                refine block_ret ?_
                refine then_ret ?_
                replace hS := hS.pick 1 rfl
                dsimp only [List.eraseIdx] at hS
                replace hS := hS.pick 1 rfl
                dsimp only [List.eraseIdx] at hS
                replace hS := hS.take 2
                simp only [List.take_succ_cons, List.take_zero] at hS
                refine ret2 H (.inr rfl) rfl rfl rfl ?_
                first | exact ⟨_, _, _, _, rfl, stepOk_ranged _ _ _ h1, hS⟩ | exact ⟨_, _, _, _, rfl, stepOk_raw _ h1 h2, hS⟩ | exact ⟨_, _, _, _, rfl, stepOk_text _ h1 h2, hS⟩ | exact ⟨_, _, _, _, rfl, stepOk_next0 h1 hq, hS⟩ | exact ⟨_, _, _, _, rfl, hx1.2.2, hS⟩ | exact ⟨_, _, _, _, rfl, stepOk_end h1, hS⟩
              · skip
                refine wp_seq ?_
                refine wp_region_lit ?_
                refine n_q H (q_eql rfl rfl) rfl ?_
                clear H a; intro a H
                refine n_q H (q_assign rfl) rfl ?_
                clear H a; intro a H
                refine n_nil ?_
                refine then_normal ?_
                refine c_cond H rfl (fun hc89 => ?_) (fun hc89 => ?_)
                · skip
                  refine wp_seq ?_
                  refine wp_region_lit ?_
                  refine n_q H (q_move rfl) rfl ?_
                  clear H a; intro a H
                  replace hS := hS.pick 1 rfl
                  dsimp only [List.eraseIdx] at hS
                  obtain ⟨fp93, hG93, hK93, hR93, hF93⟩ := hS.frame1
                  refine n_call H rfl en72 (next_w (fun w' hw => hG _ (hK93 _ hw)) (fun w' hw => hb _ (hK93 _ hw)) h1 h2 h3 hG93) rfl ?_
                  clear H a; intro v50 w48 hv a H
                  obtain ⟨q93, u93, rfl, hE49⟩ := hv
                  replace hS := hF93 _ _ hE49
                  simp only [List.cons_append, List.nil_append] at hS
                  clear hG93 hK93 hR93 hF93
                  refine n_q H (q_move rfl) rfl ?_
                  clear H a; intro a H
                  refine n_q H (q_extract rfl rfl) rfl ?_
                  clear H a; intro a H
                  refine n_q H (q_extract rfl rfl) rfl ?_
                  clear H a; intro a H
                  refine n_q H (q_extract rfl rfl) rfl ?_
                  clear H a; intro a H
                  refine n_q H (q_assign rfl) rfl ?_
                  clear H a; intro a H
                  refine n_q H (q_assign rfl) rfl ?_
                  clear H a; intro a H
                  refine n_q H (q_assign rfl) rfl ?_
                  clear H a; intro a H
                  refine n_nil ?_
                  refine then_normal ?_
                  refine wp_seq ?_
                  refine wp_seq ?_
                  refine wp_region_lit ?_
                  refine n_q H (q_move rfl) rfl ?_
                  clear H a; intro a H
                  refine n_q H (q_nilP Tryd.underlying39 rfl rfl) rfl ?_
                  clear H a; intro a H
                  refine n_nil ?_
                  refine then_normal ?_
                  refine c_cond H rfl (fun hc98 => ?_) (fun hc98 => ?_)
                  · skip
                    have hq : (nextM bs ca cd).2.1 = none := by
                      rcases hx : (nextM bs ca cd).2.1 with _ | x
                      · rfl
                      · rw [hx] at hS
                        obtain ⟨pq, hq, _⟩ := (hS.pick 2 rfl).ncGet
                        rw [hq] at hc98; cases hc98
                    refine wp_seq ?_
                    refine wp_region_lit ?_
                    refine n_q H (q_move rfl) rfl ?_
                    clear H a; intro a H
                    refine n_q H (q_assign rfl) rfl ?_
                    clear H a; intro a H
                    refine n_q H (q_assign rfl) rfl ?_
                    clear H a; intro a H
                    refine n_nil ?_
                    refine then_normal ?_
                    refine wp_ret ?_
                    refine then_ret ?_
                    refine block_ret ?_
                    refine then_ret ?_
                    replace hS := hS.pick 1 rfl
                    dsimp only [List.eraseIdx] at hS
                    replace hS := hS.pick 1 rfl
                    dsimp only [List.eraseIdx] at hS
                    replace hS := hS.take 2
                    simp only [List.take_succ_cons, List.take_zero] at hS
                    refine ret2 H (.inr rfl) rfl rfl rfl ?_
                    first | exact ⟨_, _, _, _, rfl, stepOk_ranged _ _ _ h1, hS⟩ | exact ⟨_, _, _, _, rfl, stepOk_raw _ h1 h2, hS⟩ | exact ⟨_, _, _, _, rfl, stepOk_text _ h1 h2, hS⟩ | exact ⟨_, _, _, _, rfl, stepOk_next0 h1 hq, hS⟩ | exact ⟨_, _, _, _, rfl, hx1.2.2, hS⟩ | exact ⟨_, _, _, _, rfl, stepOk_end h1, hS⟩
                  · skip
                    obtain ⟨x, hx⟩ : ∃ x, (nextM bs ca cd).2.1 = some x := by
                      rcases hx : (nextM bs ca cd).2.1 with _ | x
                      · rw [hx] at hS
                        obtain ⟨hq, _⟩ := (hS.pick 2 rfl).ncGet0
                        rw [hq] at hc98; cases hc98
                      · exact ⟨x, rfl⟩
                    have hx1 := stepOk_next1 h1 h2 hx
                    replace hS := hS.pick 2 rfl
                    dsimp only [List.eraseIdx] at hS
                    rw [hx] at hS
                    obtain ⟨bq, hq93, hS3⟩ := hS.ncGet
                    replace hS := hS3
                    clear hS3
                    subst hq93
                    refine wp_skip ?_
                    refine then_normal ?_
                    refine wp_seq ?_
                    refine wp_region_lit ?_
                    refine n_q H (q_move rfl) rfl ?_
                    clear H a; intro a H
                    refine n_call H rfl en18 (cLeft_w hx1.1 (by omega) (hS.blk 0 rfl)) rfl ?_
                    clear H a; intro v53 w51 hv a H
                    obtain ⟨rfl, hE52⟩ := hv
                    replace hS := hS.ext hE52
                    refine n_q H (q_add rfl rfl (by constructor <;> omega)) rfl ?_
                    clear H a; intro a H
                    refine n_q H (q_move rfl) rfl ?_
                    clear H a; intro a H
                    refine n_q H (q_assign rfl) rfl ?_
                    clear H a; intro a H
                    refine n_q H (q_assign rfl) rfl ?_
                    clear H a; intro a H
                    refine n_nil ?_
                    refine then_normal ?_
                    refine wp_ret ?_
                    refine block_ret ?_
                    refine then_ret ?_
                    replace hS := hS.pick 2 rfl
                    dsimp only [List.eraseIdx] at hS
                    replace hS := hS.pick 2 rfl
                    dsimp only [List.eraseIdx] at hS
                    replace hS := hS.take 2
                    simp only [List.take_succ_cons, List.take_zero] at hS
                    refine ret2 H (.inr rfl) rfl rfl rfl ?_
                    first | exact ⟨_, _, _, _, rfl, stepOk_ranged _ _ _ h1, hS⟩ | exact ⟨_, _, _, _, rfl, stepOk_raw _ h1 h2, hS⟩ | exact ⟨_, _, _, _, rfl, stepOk_text _ h1 h2, hS⟩ | exact ⟨_, _, _, _, rfl, stepOk_next0 h1 hq, hS⟩ | exact ⟨_, _, _, _, rfl, hx1.2.2, hS⟩ | exact ⟨_, _, _, _, rfl, stepOk_end h1, hS⟩
                · skip
                  refine wp_skip ?_
                  refine block_normal ?_
                  refine then_normal ?_
                  refine wp_seq ?_
                  refine wp_region_lit ?_
                  refine n_q H (q_move rfl) rfl ?_
                  clear H a; intro a H
                  replace hS := hS.pick 1 rfl
                  dsimp only [List.eraseIdx] at hS
                  obtain ⟨fp105, hG105, hK105, hR105, hF105⟩ := hS.frame1
                  refine n_call H rfl en24 (cEnd_w (fun w' hw => hG _ (hK105 _ hw)) (fun w' hw => hb _ (hK105 _ hw)) h1 h2 h3 hG105) rfl ?_
                  clear H a; intro v56 w54 hv a H
                  obtain ⟨u105, rfl, hE55⟩ := hv
                  replace hS := hF105 _ _ hE55
                  simp only [List.cons_append, List.nil_append] at hS
                  clear hG105 hK105 hR105 hF105
                  refine n_q H (q_assign rfl) rfl ?_
                  clear H a; intro a H
                  refine n_q H (q_assign rfl) rfl ?_
                  clear H a; intro a H
                  refine n_nil ?_
                  refine then_normal ?_
                  refine wp_ret ?_
                  replace hS := hS.pick 1 rfl
                  dsimp only [List.eraseIdx] at hS
                  replace hS := hS.pick 1 rfl
                  dsimp only [List.eraseIdx] at hS
                  replace hS := hS.take 2
                  simp only [List.take_succ_cons, List.take_zero] at hS
                  refine ret2 H (.inr rfl) rfl rfl rfl ?_
                  first | exact ⟨_, _, _, _, rfl, stepOk_ranged _ _ _ h1, hS⟩ | exact ⟨_, _, _, _, rfl, stepOk_raw _ h1 h2, hS⟩ | exact ⟨_, _, _, _, rfl, stepOk_text _ h1 h2, hS⟩ | exact ⟨_, _, _, _, rfl, stepOk_next0 h1 hq, hS⟩ | exact ⟨_, _, _, _, rfl, hx1.2.2, hS⟩ | exact ⟨_, _, _, _, rfl, stepOk_end h1, hS⟩

theorem St.cuNil {fp : Nat → Prop} {w0 w : World} {rs : List Rs} {b : Nat} (h : St fp w0 w (blkR b [.slice none 0 0, .slice none 0 0] 37 :: rs)) : St fp w0 w (Go.Proofs.YtdglaodhmlocdaaDoor.cuS b [] :: rs) := by
  have h := h.starNil curF
  have h := h.trivAny (F := arrs []) (fun w' c hc => by cases hc)
  have h := h.pick 1 rfl
  simp only [List.eraseIdx_cons_succ, List.eraseIdx_cons_zero] at h
  have h := (h.nilOwn 51 1).nilOwn 39 1
  have h := h.pick 4 rfl
  simp only [List.eraseIdx_cons_succ, List.eraseIdx_cons_zero] at h
  exact h.cuMk rfl rfl rfl rfl
theorem set_same {α : Type} {l : List α} {k : Nat} {c c' : α} (f : α → Value) (hk : l[k]? = some c) (hf : f c' = f c) : (l.set k c').map f = l.map f := by
  apply List.ext_getElem?
  intro i
  by_cases hi : k = i
  · subst hi
    obtain ⟨hl, e⟩ := List.getElem?_eq_some_iff.1 hk
    simp [hl, e, hf]
  · simp [List.getElem?_set_ne hi]
/-- One cursor moves. -/
theorem St.cuPut {fp : Nat → Prop} {w0 w : World} {rs : List Rs} {b k a' a2' : Nat} {l : List CurM} {vI vW : Value} {c : CurM} (hk : l[k]? = some c)
    (h : St fp w0 w (cuR c.p c.v a' c.d :: rcR c.q c.v2 a2' c.d :: starR ((l.map curF).eraseIdx k) :: anyR (arrs l) :: blkR b [vI, vW] 37 :: ownR 39 1 vI l.length (l.map pP) :: ownR 51 1 vW l.length (l.map pQ) :: rs)) (h1 : a' ≤ c.d) (h2 : a2' ≤ c.d) :
    St fp w0 w (Go.Proofs.YtdglaodhmlocdaaDoor.cuS b (l.set k { c with a := a', a2 := a2' }) :: rs) := by
  have hl := (List.getElem?_eq_some_iff.1 hk).1
  have h := h.fold [_, _]
  have h := St.starPut (f := curF) (c' := { c with a := a', a2 := a2' }) hl h
  have h := h.pick 1 rfl
  simp only [List.eraseIdx_cons_succ, List.eraseIdx_cons_zero] at h
  have h := h.anyMono (G := arrs (l.set k { c with a := a', a2 := a2' })) fun w' hw x hx => by
    rcases List.mem_or_eq_of_mem_set hx with hx | rfl
    · exact hw x hx
    · have := hw c (List.mem_of_getElem? hk)
      exact ⟨this.1, this.2.1, h1, h2, this.2.2.2.2⟩
  have h := h.pick 1 rfl
  simp only [List.eraseIdx_cons_succ, List.eraseIdx_cons_zero] at h
  have h := h.pick 4 rfl
  simp only [List.eraseIdx_cons_succ, List.eraseIdx_cons_zero] at h
  have h := h.pick 4 rfl
  simp only [List.eraseIdx_cons_succ, List.eraseIdx_cons_zero] at h
  have h := h.pick 4 rfl
  simp only [List.eraseIdx_cons_succ, List.eraseIdx_cons_zero] at h
  exact h.cuMk (by simp) (by simp) (set_same (c' := { c with a := a', a2 := a2' }) pP hk rfl).symm (set_same (c' := { c with a := a', a2 := a2' }) pQ hk rfl).symm
theorem map_flat (f : CurM → Value) : ∀ l : List CurM, l.map f = l.flatMap (fun c => [f c])
  | [] => rfl
  | x :: r => by rw [List.map_cons, List.flatMap_cons, map_flat f r]; rfl
theorem own_ldC {P : Program} {T E n k cap : Nat} {w : World} {ad : Addr} {l : List CurM} {c : CurM} (f : CurM → Value) (h : Own w E 1 (.slice (some ad) n cap) n (l.map f)) (hn : n = l.length) (ht : aggB P T = some false) (hx : l[k]? = some c) : LdX P T w (ad.add (k * 1)) (f c) :=
  ((map_flat f l ▸ h : Own w E 1 (.slice (some ad) n cap) n (l.flatMap fun c => [f c])).slr hn (fun _ _ => rfl)).ldOne ht hx rfl
theorem curAt (cur : Int) {n : Nat} (h0 : 0 < n) (h1 : n ≤ 16777216) : ∃ k : Nat, k < n ∧ IntKind.i64.wrap ((IntKind.u64.wrap cur).tmod (IntKind.u64.wrap (n : Nat))) = (k : Int) := by
  have hw : ∀ z : Int, IntKind.u64.wrap z = z % 18446744073709551616 := fun z => by simp [IntKind.wrap, IntKind.bits, IntKind.signed]
  rw [hw, hw, show (n : Int) % 18446744073709551616 = n by omega]
  have hp : 0 ≤ cur % 18446744073709551616 := by omega
  rw [Int.tmod_eq_emod_of_nonneg hp]
  have h2 := Int.emod_nonneg (cur % 18446744073709551616) (show (n : Int) ≠ 0 by omega)
  have h3 := Int.emod_lt_of_pos (cur % 18446744073709551616) (show (0 : Int) < n by omega)
  refine ⟨((cur % 18446744073709551616) % (n : Int)).toNat, by omega, ?_⟩
  rw [wrap64_eq (by constructor <;> omega)]
  omega
theorem u64_pos {n : Nat} (h0 : 0 < n) (h1 : n ≤ 16777216) : IntKind.u64.wrap (n : Nat) ≠ 0 := by
  have hw : ∀ z : Int, IntKind.u64.wrap z = z % 18446744073709551616 := fun z => by simp [IntKind.wrap, IntKind.bits, IntKind.signed]
  rw [hw]; omega
set_option maxHeartbeats 4000000 in
theorem wireStays_w {w : World} {A : Nat → Addr} {v : Value} {script : List OpM} (hG : EV A w) (hH : HE w) (h : SlR w 7 (Flat eOp) v script) (hok : ∀ o ∈ script, o.n ≤ 9223372036854775807 ∧ o.s.size ≤ 1048576) (hlen : script.length ≤ 1048576) :
    Calls Tryd.prog 4 [v].toArray w (Ret fun r w' => r = .bool true ∧ Ext w w') := by
  have hS := St.begin NB w
  obtain ⟨A0, c0, rfl, hl0, hm0, hn0⟩ := h.form
  refine enter Tryd.func4 rfl rfl rfl ?_
  intro a H
  dsimp only [enumL, Nat.zero_add, Nat.reduceAdd] at H
  refine wp_seq ?_
  refine wp_region_lit ?_
  refine n_q H (q_assign rfl) rfl ?_
  clear H a; intro a H
  refine n_nil ?_
  refine then_normal ?_
  refine wp_seq ?_
  refine wp_seq ?_
  refine wp_region_lit ?_
  refine n_call H rfl en11 (fixed_w (hG.ext hS.x) (hH.ext hS.x)) rfl ?_
  clear H a; intro v3 w1 hv a H
  obtain ⟨rfl, hE2⟩ := hv
  replace hS := hS.ext hE2
  refine n_q H (q_not rfl) rfl ?_
  clear H a; intro a H
  refine n_nil ?_
  refine then_normal ?_
  refine c_cond H rfl (fun hc14 => ?_) (fun hc14 => ?_)
  · skip
    cases hc14
  · skip
    refine wp_skip ?_
    refine then_normal ?_
    refine wp_seq ?_
    refine wp_region_lit ?_
    refine n_q H (q_build (cs := [.slice none 0 0, .slice none 0 0]) ze37 bd37 pl37 rfl (by kernel_rfl)) rfl ?_
    clear H a; intro a H
    refine n_box H rfl (cs := [.slice none 0 0, .slice none 0 0]) rfl rfl ?_
    clear H; intro bc w4 hN hE5 hs_bc; clear a; intro a H
    replace hS := hS.newBlk hN hE5 hs_bc; clear hN hE5
    replace hS := hS.cuNil
    refine n_q H (q_assign rfl) rfl ?_
    clear H a; intro a H
    refine n_nil ?_
    refine then_normal ?_
    refine wp_seq ?_
    refine wp_seq ?_
    refine wp_region_lit ?_
    refine n_q H (q_assign rfl) rfl ?_
    clear H a; intro a H
    refine n_nil ?_
    refine then_normal ?_
    refine wp_block ?_
    refine c_loop (σ := Nat × List CurM) (fun (i, l) => [(0, .slice A0 script.length c0), (3, .pointer (some ⟨bc, 0, none⟩)), (4, .int .i64 (i : Nat))]) (fun (i, l) wl => i ≤ script.length ∧ l.length ≤ i ∧ St NB w wl [cuS bc l]) (fun (i, l) => script.length - i) (0, []) H ⟨rfl, rfl, rfl, trivial⟩ ⟨Nat.zero_le _, Nat.le_refl _, hS⟩ ?_
    clear H hS; clear a; intro xx a w6 H hR
    obtain ⟨i, l⟩ := xx
    simp only [ent, List.map_cons, List.map_nil] at H
    try dsimp only at hR
    obtain ⟨hi, hll, hS⟩ := hR; try clear hR
    refine wp_seq ?_
    refine wp_seq ?_
    refine wp_region_lit ?_
    refine n_q H (q_move rfl) rfl ?_
    clear H a; intro a H
    refine n_q H (q_move rfl) rfl ?_
    clear H a; intro a H
    refine n_q H (q_lenSl Tryd.underlying22 rfl) rfl ?_
    clear H a; intro a H
    refine n_q H (q_lss rfl rfl) rfl ?_
    clear H a; intro a H
    refine n_nil ?_
    refine then_normal ?_
    refine c_cond H rfl (fun hc20 => ?_) (fun hc20 => ?_)
    · skip
      have hi1 : i < script.length := by simp at hc20; omega
      obtain ⟨o, hx⟩ := h.at hi1
      obtain ⟨ad0, had⟩ := h.addr hi1
      subst had
      have hok1 := hok o (List.mem_of_getElem? hx)
      refine wp_skip ?_
      refine then_normal ?_
      refine wp_seq ?_
      refine wp_block ?_
      refine wp_seq ?_
      refine wp_region_lit ?_
      refine n_q H (q_move rfl) rfl ?_
      clear H a; intro a H
      refine n_q H (q_move rfl) rfl ?_
      clear H a; intro a H
      refine n_q H (q_indexAddr Tryd.underlying22 sz29 rfl rfl (by omega) (by omega)) rfl ?_
      clear H a; intro a H
      refine n_q H (q_load rfl (LdX.ext ((h.ldAgg ag29 sz29 hx)) hS.x)) rfl ?_
      clear H a; intro a H
      refine n_alloc H ze29 rfl ?_
      clear H; intro b5 w7 hN hE8 hs_b5; clear a; intro a H
      replace hS := hS.newBlk hN hE8 hs_b5; clear hN hE8
      refine n_storeAll H rfl rfl (vs := eOp o) rfl sz29 (hS.blk 0 rfl) rfl (by simp [eOp, Value.oneCell']) ?_
      clear H; intro w9 hN hC10 hz; clear a; intro a H
      replace hS := hS.setBlk hN hC10; clear hN hz
      refine n_nil ?_
      refine then_normal ?_
      refine wp_seq ?_
      refine wp_region_lit ?_
      replace hS := hS.pick 1 rfl
      dsimp only [List.eraseIdx] at hS
      obtain ⟨vI, vW, hS2⟩ := hS.cuS
      replace hS := hS2
      clear hS2
      obtain ⟨AI, cI, hvI, _⟩ := (hS.own 1 rfl).form
      subst hvI
      refine n_q H (q_move rfl) rfl ?_
      clear H a; intro a H
      refine n_q H (q_nilCheck rfl) rfl ?_
      clear H a; intro a H
      refine n_q H (q_fieldAddr0 rfl fo37_0) rfl ?_
      clear H a; intro a H
      refine n_q H (q_load rfl ((hS.blk 0 rfl).ld ag34 rfl)) rfl ?_
      clear H a; intro a H
      refine n_q H (q_lenSl Tryd.underlying34 rfl) rfl ?_
      clear H a; intro a H
      refine n_q H (q_assign rfl) rfl ?_
      clear H a; intro a H
      refine n_nil ?_
      refine then_normal ?_
      refine wp_seq ?_
      refine wp_seq ?_
      refine wp_region_lit ?_
      refine n_c H (fun HC => ?_); clear H
      refine nc_q HC (q_move rfl) rfl (by kernel_rfl) ?_
      clear HC a; intro a HC
      refine nc_q HC (q_eql rfl rfl) rfl (by kernel_rfl) ?_
      clear HC a; intro a HC
      refine nc_q HC (q_move rfl) rfl (by kernel_rfl) ?_
      clear HC a; intro a HC
      refine nc_g HC (q_fieldAddr0 rfl fo29_0) (by kernel_rfl) (by kernel_rfl) (by kernel_rfl) ?_
      clear HC a; intro a HC
      refine nc_g HC (q_load rfl ((hS.blk 5 rfl).ld ag3 rfl)) (by kernel_rfl) (by kernel_rfl) (by kernel_rfl) ?_
      clear HC a; intro a HC
      refine nc_g HC (q_eql rfl rfl) (by kernel_rfl) (by kernel_rfl) (by kernel_rfl) ?_
      clear HC a; intro a HC
      refine nc_or (j := 2) HC rfl rfl rfl (by kernel_rfl) (by kernel_rfl) ?_
      clear HC a; intro a HC
      have H := HC.has; clear HC
      refine n_nil ?_
      refine then_normal ?_
      refine c_cond H rfl (fun hc38 => ?_) (fun hc38 => ?_)
      · skip
        refine wp_seq ?_
        refine wp_seq ?_
        refine wp_region_lit ?_
        replace hS := hS.pick 5 rfl
        dsimp only [List.eraseIdx] at hS
        replace hS := hS.pick 5 rfl
        dsimp only [List.eraseIdx] at hS
        replace hS := hS.pick 5 rfl
        dsimp only [List.eraseIdx] at hS
        replace hS := hS.pick 5 rfl
        dsimp only [List.eraseIdx] at hS
        replace hS := hS.pick 5 rfl
        dsimp only [List.eraseIdx] at hS
        replace hS := hS.pick 5 rfl
        dsimp only [List.eraseIdx] at hS
        replace hS := hS.cuMk rfl rfl rfl rfl
        refine n_q H (q_move rfl) rfl ?_
        clear H a; intro a H
        refine n_q H (q_fieldAddr0 rfl fo29_6) rfl ?_
        clear H a; intro a H
        refine n_q H (q_load rfl ((hS.blk 1 rfl).ld ag9 rfl)) rfl ?_
        clear H a; intro a H
        obtain ⟨fp42, hG42, hK42, hR42, hF42⟩ := hS.frame1
        refine n_call H rfl en16 (cOpen_w (s := o.s) hok1.2 (by omega) hG42) rfl ?_
        clear H a; intro v13 w11 hv a H
        obtain ⟨rfl, c42, hc42, hE12⟩ := hv
        replace hS := hF42 _ _ hE12
        simp only [List.cons_append, List.nil_append] at hS
        clear hG42 hK42 hR42 hF42
        refine n_q H (q_not rfl) rfl ?_
        clear H a; intro a H
        refine n_nil ?_
        refine then_normal ?_
        refine c_cond H rfl (fun hc43 => ?_) (fun hc43 => ?_)
        · skip
          cases hc43
        · skip
          refine wp_skip ?_
          refine then_normal ?_
          refine wp_exit ?_
          refine then_exit ?_
          refine block_exit ?_
          refine then_normal ?_
          refine wp_region_lit ?_
          refine n_q H (q_move rfl) rfl ?_
          clear H a; intro a H
          refine n_q H (q_add rfl rfl (by constructor <;> omega)) rfl ?_
          clear H a; intro a H
          refine n_q H (q_assign rfl) rfl ?_
          clear H a; intro a H
          refine n_nil ?_
          refine then_normal ?_
          replace hS := hS.take 1
          simp only [List.take_succ_cons, List.take_zero] at hS
          exact round (i + 1, l ++ [c42]) H ⟨rfl, rfl, rfl, trivial⟩ ⟨by omega, by simp; omega, hS⟩ (by first | omega | (dsimp only; omega))
      · skip
        have hl1 : 0 < l.length := by
          rcases Nat.eq_zero_or_pos l.length with h0 | h0
          · rw [h0] at hc38; simp at hc38
          · exact h0
        obtain ⟨bI, cI2, hI⟩ := (hS.own 1 rfl).sm (by omega)
        cases hI
        obtain ⟨k, hk, hkv⟩ := curAt o.cur hl1 (by omega)
        obtain ⟨cc, hcc⟩ : ∃ c, l[k]? = some c := ⟨_, List.getElem?_eq_getElem hk⟩
        obtain ⟨p, q, v1, v2, bs, ca, ca2, cd⟩ := cc
        have hwf := (((hS.any 4 rfl) : arrs l _) _ (List.mem_of_getElem? hcc)).2.2
        have hwf : ca ≤ cd ∧ ca2 ≤ cd ∧ cd ≤ bs.length ∧ bs.length ≤ 70368744177664 := hwf
        replace hS := hS.pick 3 rfl
        dsimp only [List.eraseIdx] at hS
        replace hS := hS.starAt hcc
        replace hS := St.star (rs1 := [cuR p v1 ca cd, rcR q v2 ca2 cd]) hS
        simp only [List.cons_append, List.nil_append] at hS
        refine wp_skip ?_
        refine then_normal ?_
        refine wp_seq ?_
        refine c_quiet (by kernel_rfl) (by kernel_rfl) ?_
        refine qq_q H (q_move rfl) rfl ?_
        clear H a; intro a H
        refine qq_q H (q_nilCheck rfl) rfl ?_
        clear H a; intro a H
        refine qq_q H (q_fieldAddr0 rfl fo37_0) rfl ?_
        clear H a; intro a H
        refine qq_q H (q_load rfl ((hS.blk 3 rfl).ld ag34 rfl)) rfl ?_
        clear H a; intro a H
        refine qq_q H (q_fieldAddr0 rfl fo29_2) rfl ?_
        clear H a; intro a H
        refine qq_q H (q_load rfl ((hS.blk 7 rfl).ld ag3 rfl)) rfl ?_
        clear H a; intro a H
        refine qq_q H (q_convI Tryd.underlying3 Tryd.underlying40 ⟨_, rfl⟩ rfl) rfl ?_
        clear H a; intro a H
        refine qq_q H (q_move rfl) rfl ?_
        clear H a; intro a H
        refine qq_q H (q_convI Tryd.underlying3 Tryd.underlying40 ⟨_, rfl⟩ rfl) rfl ?_
        clear H a; intro a H
        refine qq_q H (q_remW rfl rfl (u64_pos hl1 (by omega))) rfl ?_
        clear H a; intro a H
        refine qq_q H (q_cast (q_convI Tryd.underlying40 Tryd.underlying3 ⟨_, rfl⟩ rfl) (show _ = Value.int .i64 (k : Nat) by rw [← hkv])) rfl ?_
        clear H a; intro a H
        refine qq_q H (q_cast (q_indexAddr (ad := ⟨bI, 0, none⟩) (n := l.length) (c := cI) Tryd.underlying34 sz39 rfl rfl (by omega) (by omega)) (show _ = Value.pointer (some ((⟨bI, 0, none⟩ : Addr).add (k * 1))) by rw [show (k : Int).toNat = k by omega])) rfl ?_
        clear H a; intro a H
        refine qq_q H (q_load rfl (own_ldC pP (hS.own 4 rfl) rfl ag39 hcc)) rfl ?_
        clear H a; intro a H
        refine qq_q H (q_assign rfl) rfl ?_
        clear H a; intro a H
        refine qq_nil ?_
        intro w14 hE15
        replace hS := hS.ext hE15
        refine then_normal ?_
        refine wp_seq ?_
        refine wp_region_lit ?_
        refine n_q H (q_move rfl) rfl ?_
        clear H a; intro a H
        refine n_call H rfl en17 (cAt_w (hS.blk 0 rfl)) rfl ?_
        clear H a; intro v18 w16 hv a H
        obtain ⟨rfl, hE17⟩ := hv
        replace hS := hS.ext hE17
        refine n_q H (q_move rfl) rfl ?_
        clear H a; intro a H
        refine n_call H rfl en18 (cLeft_w hwf.1 (by omega) (hS.blk 0 rfl)) rfl ?_
        clear H a; intro v21 w19 hv a H
        obtain ⟨rfl, hE20⟩ := hv
        replace hS := hS.ext hE20
        refine n_q H (q_assign rfl) rfl ?_
        clear H a; intro a H
        refine n_q H (q_assign rfl) rfl ?_
        clear H a; intro a H
        refine n_nil ?_
        refine then_normal ?_
        refine wp_seq ?_
        refine wp_region_lit ?_
        refine n_q H (q_move rfl) rfl ?_
        clear H a; intro a H
        refine n_q H (q_load rfl ((hS.blk 7 rfl).ldAll ag29 sz29)) rfl ?_
        clear H a; intro a H
        obtain ⟨fp64, hG64, hK64, hR64, hF64⟩ := hS.frame1
        refine n_call H rfl en19 (step_w (o := o) (bs := bs) hok1.1 (fun w' hw => hG.ext (hK64 _ hw).ext) (fun w' hw => ((restAny (hR64 5 _ rfl _ hw) : arrs l w') _ (List.mem_of_getElem? hcc)).1) hwf.1 hwf.2.2.1 hwf.2.2.2 hG64) rfl ?_
        clear H a; intro v24 w22 hv a H
        obtain ⟨m64, u64, e64, a64, rfl, hst, hE23⟩ := hv
        replace hS := hF64 _ _ hE23
        simp only [List.cons_append, List.nil_append] at hS
        clear hG64 hK64 hR64 hF64
        refine n_q H (q_move rfl) rfl ?_
        clear H a; intro a H
        refine n_q H (q_extract rfl rfl) rfl ?_
        clear H a; intro a H
        refine n_q H (q_extract rfl rfl) rfl ?_
        clear H a; intro a H
        refine n_q H (q_assign rfl) rfl ?_
        clear H a; intro a H
        refine n_q H (q_assign rfl) rfl ?_
        clear H a; intro a H
        refine n_nil ?_
        refine then_normal ?_
        refine wp_seq ?_
        refine wp_seq ?_
        refine wp_region_lit ?_
        refine n_q H (q_move rfl) rfl ?_
        clear H a; intro a H
        refine n_q H (q_nnilI Tryd.underlying43 rfl rfl (hS.any 1 rfl).form) rfl ?_
        clear H a; intro a H
        refine n_nil ?_
        refine then_normal ?_
        refine c_cond H rfl (fun hc68 => ?_) (fun hc68 => ?_)
        · skip
          have hn64 : e64 ≠ .nil := by rw [((hS.any 1 rfl)).isNil] at hc68; simpa using hc68
          obtain ⟨ha64, hp64⟩ := hst.1 hn64
          have hle64 : a64 ≤ cd := by omega
          refine wp_region_lit ?_
          refine n_q H (q_assign rfl) rfl ?_
          clear H a; intro a H
          refine n_nil ?_
          refine then_normal ?_
          refine wp_seq ?_
          refine wp_seq ?_
          refine wp_region_lit ?_
          refine n_c H (fun HC => ?_); clear H
          refine nc_q HC (q_move rfl) rfl (by kernel_rfl) ?_
          clear HC a; intro a HC
          refine nc_call HC rfl en17 (cAt_w (hS.blk 0 rfl)) rfl (by kernel_rfl) ?_
          clear HC a; intro v27 w25 hv a HC
          obtain ⟨rfl, hE26⟩ := hv
          replace hS := hS.ext hE26
          refine nc_q HC (q_move rfl) rfl (by kernel_rfl) ?_
          clear HC a; intro a HC
          refine nc_q HC (q_move rfl) rfl (by kernel_rfl) ?_
          clear HC a; intro a HC
          refine nc_q HC (q_add rfl rfl (by constructor <;> omega)) rfl (by kernel_rfl) ?_
          clear HC a; intro a HC
          refine nc_q HC (q_neq rfl rfl) rfl (by kernel_rfl) ?_
          clear HC a; intro a HC
          refine nc_q HC (q_move rfl) rfl (by kernel_rfl) ?_
          clear HC a; intro a HC
          refine nc_g HC (q_move rfl) (by kernel_rfl) (by kernel_rfl) (by kernel_rfl) ?_
          clear HC a; intro a HC
          refine nc_gcall0 HC rfl en18 (cLeft_w hle64 (by omega) (hS.blk 0 rfl)) (by kernel_rfl) (by kernel_rfl) (by kernel_rfl) ?_
          clear HC a; intro w28 hE29 a HC
          replace hS := hS.ext hE29
          refine nc_g HC (q_move rfl) (by kernel_rfl) (by kernel_rfl) (by kernel_rfl) ?_
          clear HC a; intro a HC
          refine nc_g HC (q_move rfl) (by kernel_rfl) (by kernel_rfl) (by kernel_rfl) ?_
          clear HC a; intro a HC
          refine nc_g HC (q_sub rfl rfl (by constructor <;> omega)) (by kernel_rfl) (by kernel_rfl) (by kernel_rfl) ?_
          clear HC a; intro a HC
          refine nc_g HC (q_neq rfl rfl) (by kernel_rfl) (by kernel_rfl) (by kernel_rfl) ?_
          clear HC a; intro a HC
          refine nc_or (j := 6) HC rfl rfl rfl (by kernel_rfl) (by kernel_rfl) ?_
          clear HC a; intro a HC
          refine nc_q HC (q_move rfl) rfl (by kernel_rfl) ?_
          clear HC a; intro a HC
          refine nc_g HC (q_move rfl) (by kernel_rfl) (by kernel_rfl) (by kernel_rfl) ?_
          clear HC a; intro a HC
          refine nc_g HC (q_move rfl) (by kernel_rfl) (by kernel_rfl) (by kernel_rfl) ?_
          clear HC a; intro a HC
          refine nc_g HC (q_gtr rfl rfl) (by kernel_rfl) (by kernel_rfl) (by kernel_rfl) ?_
          clear HC a; intro a HC
          refine nc_or (j := 14) HC rfl rfl rfl (by kernel_rfl) (by kernel_rfl) ?_
          clear HC a; intro a HC
          refine nc_q HC (q_move rfl) rfl (by kernel_rfl) ?_
          clear HC a; intro a HC
          refine nc_g HC (q_move rfl) (by kernel_rfl) (by kernel_rfl) (by kernel_rfl) ?_
          clear HC a; intro a HC
          refine nc_g HC (q_lss rfl rfl) (by kernel_rfl) (by kernel_rfl) (by kernel_rfl) ?_
          clear HC a; intro a HC
          refine nc_or (j := 19) HC rfl rfl rfl (by kernel_rfl) (by kernel_rfl) ?_
          clear HC a; intro a HC
          have H := HC.has; clear HC
          refine n_nil ?_
          refine then_normal ?_
          refine c_cond H rfl (fun hc91 => ?_) (fun hc91 => ?_)
          · skip
            simp at hc91; omega
          · skip
            refine wp_skip ?_
            refine then_normal ?_
            refine wp_seq ?_
            refine wp_region_lit ?_
            refine n_q H (q_move rfl) rfl ?_
            clear H a; intro a H
            refine n_call H rfl en20 (place_w (hH.ext hS.x) (hS.any 1 rfl)) rfl ?_
            clear H a; intro v32 w30 hv a H
            obtain ⟨rfl, hE31⟩ := hv
            replace hS := hS.ext hE31
            refine n_q H (q_assign rfl) rfl ?_
            clear H a; intro a H
            refine n_nil ?_
            refine then_normal ?_
            refine wp_seq ?_
            refine wp_region_lit ?_
            refine n_c H (fun HC => ?_); clear H
            refine nc_q HC (q_move rfl) rfl (by kernel_rfl) ?_
            clear HC a; intro a HC
            refine nc_q HC (q_nnilI Tryd.underlying43 rfl rfl (hS.any 1 rfl).form) rfl (by kernel_rfl) ?_
            clear HC a; intro a HC
            refine nc_q HC (q_move rfl) rfl (by kernel_rfl) ?_
            clear HC a; intro a HC
            refine nc_g HC (q_move rfl) (by kernel_rfl) (by kernel_rfl) (by kernel_rfl) ?_
            clear HC a; intro a HC
            refine nc_g HC (q_geq rfl rfl) (by kernel_rfl) (by kernel_rfl) (by kernel_rfl) ?_
            clear HC a; intro a HC
            refine nc_and (j := 2) HC rfl rfl rfl (by kernel_rfl) (by kernel_rfl) ?_
            clear HC a; intro a HC
            refine nc_q HC (q_move rfl) rfl (by kernel_rfl) ?_
            clear HC a; intro a HC
            refine nc_g HC (q_move rfl) (by kernel_rfl) (by kernel_rfl) (by kernel_rfl) ?_
            clear HC a; intro a HC
            refine nc_g HC (q_move rfl) (by kernel_rfl) (by kernel_rfl) (by kernel_rfl) ?_
            clear HC a; intro a HC
            refine nc_g HC (q_lss rfl rfl) (by kernel_rfl) (by kernel_rfl) (by kernel_rfl) ?_
            clear HC a; intro a HC
            refine nc_g HC (q_move rfl) (by kernel_rfl) (by kernel_rfl) (by kernel_rfl) ?_
            clear HC a; intro a HC
            refine nc_g HC (q_move rfl) (by kernel_rfl) (by kernel_rfl) (by kernel_rfl) ?_
            clear HC a; intro a HC
            refine nc_g HC (q_move rfl) (by kernel_rfl) (by kernel_rfl) (by kernel_rfl) ?_
            clear HC a; intro a HC
            refine nc_g HC (q_move rfl) (by kernel_rfl) (by kernel_rfl) (by kernel_rfl) ?_
            clear HC a; intro a HC
            refine nc_g HC (q_add rfl rfl (by constructor <;> omega)) (by kernel_rfl) (by kernel_rfl) (by kernel_rfl) ?_
            clear HC a; intro a HC
            refine nc_g HC (q_gtr rfl rfl) (by kernel_rfl) (by kernel_rfl) (by kernel_rfl) ?_
            clear HC a; intro a HC
            refine nc_org (j := 10) HC rfl rfl rfl (by kernel_rfl) (by kernel_rfl) (by kernel_rfl) ?_
            clear HC a; intro a HC
            refine nc_and (j := 6) HC rfl rfl rfl (by kernel_rfl) (by kernel_rfl) ?_
            clear HC a; intro a HC
            have H := HC.has; clear HC
            refine n_nil ?_
            refine then_normal ?_
            refine c_cond H rfl (fun hc111 => ?_) (fun hc111 => ?_)
            · skip
              (try rw [((hS.any 1 rfl)).isNil] at hc111); simp [hn64] at hc111 <;> omega
            · skip
              refine wp_skip ?_
              refine block_normal ?_
              refine then_normal ?_
              refine wp_region_lit ?_
              refine n_q H (q_move rfl) rfl ?_
              clear H a; intro a H
              refine n_q H (q_add rfl rfl (by constructor <;> omega)) rfl ?_
              clear H a; intro a H
              refine n_q H (q_assign rfl) rfl ?_
              clear H a; intro a H
              refine n_nil ?_
              refine then_normal ?_
              replace hS := hS.pick 6 rfl
              dsimp only [List.eraseIdx] at hS
              replace hS := hS.pick 6 rfl
              dsimp only [List.eraseIdx] at hS
              replace hS := hS.pick 6 rfl
              dsimp only [List.eraseIdx] at hS
              replace hS := hS.pick 7 rfl
              dsimp only [List.eraseIdx] at hS
              replace hS := hS.pick 7 rfl
              dsimp only [List.eraseIdx] at hS
              replace hS := hS.pick 7 rfl
              dsimp only [List.eraseIdx] at hS
              replace hS := hS.pick 6 rfl
              dsimp only [List.eraseIdx] at hS
              replace hS := hS.take 7
              simp only [List.take_succ_cons, List.take_zero] at hS
              replace hS := hS.cuPut hcc hle64 hwf.2.1
              exact round (i + 1, l.set k _) H ⟨rfl, rfl, rfl, trivial⟩ ⟨by omega, by simp; omega, hS⟩ (by first | omega | (dsimp only; omega))
        · skip
          have hn64 : e64 = .nil := by rw [((hS.any 1 rfl)).isNil] at hc68; simpa using hc68
          obtain ⟨ha64, hm64, hm65⟩ := hst.2 hn64
          have hle64 : a64 ≤ cd := by omega
          refine wp_skip ?_
          refine then_normal ?_
          refine wp_seq ?_
          refine wp_seq ?_
          refine wp_region_lit ?_
          refine n_c H (fun HC => ?_); clear H
          refine nc_q HC (q_move rfl) rfl (by kernel_rfl) ?_
          clear HC a; intro a HC
          refine nc_call HC rfl en17 (cAt_w (hS.blk 0 rfl)) rfl (by kernel_rfl) ?_
          clear HC a; intro v35 w33 hv a HC
          obtain ⟨rfl, hE34⟩ := hv
          replace hS := hS.ext hE34
          refine nc_q HC (q_move rfl) rfl (by kernel_rfl) ?_
          clear HC a; intro a HC
          refine nc_q HC (q_move rfl) rfl (by kernel_rfl) ?_
          clear HC a; intro a HC
          refine nc_q HC (q_add rfl rfl (by constructor <;> omega)) rfl (by kernel_rfl) ?_
          clear HC a; intro a HC
          refine nc_q HC (q_neq rfl rfl) rfl (by kernel_rfl) ?_
          clear HC a; intro a HC
          refine nc_q HC (q_move rfl) rfl (by kernel_rfl) ?_
          clear HC a; intro a HC
          refine nc_g HC (q_move rfl) (by kernel_rfl) (by kernel_rfl) (by kernel_rfl) ?_
          clear HC a; intro a HC
          refine nc_gcall0 HC rfl en18 (cLeft_w hle64 (by omega) (hS.blk 0 rfl)) (by kernel_rfl) (by kernel_rfl) (by kernel_rfl) ?_
          clear HC a; intro w36 hE37 a HC
          replace hS := hS.ext hE37
          refine nc_g HC (q_move rfl) (by kernel_rfl) (by kernel_rfl) (by kernel_rfl) ?_
          clear HC a; intro a HC
          refine nc_g HC (q_move rfl) (by kernel_rfl) (by kernel_rfl) (by kernel_rfl) ?_
          clear HC a; intro a HC
          refine nc_g HC (q_sub rfl rfl (by constructor <;> omega)) (by kernel_rfl) (by kernel_rfl) (by kernel_rfl) ?_
          clear HC a; intro a HC
          refine nc_g HC (q_neq rfl rfl) (by kernel_rfl) (by kernel_rfl) (by kernel_rfl) ?_
          clear HC a; intro a HC
          refine nc_or (j := 6) HC rfl rfl rfl (by kernel_rfl) (by kernel_rfl) ?_
          clear HC a; intro a HC
          refine nc_q HC (q_move rfl) rfl (by kernel_rfl) ?_
          clear HC a; intro a HC
          refine nc_g HC (q_move rfl) (by kernel_rfl) (by kernel_rfl) (by kernel_rfl) ?_
          clear HC a; intro a HC
          refine nc_g HC (q_move rfl) (by kernel_rfl) (by kernel_rfl) (by kernel_rfl) ?_
          clear HC a; intro a HC
          refine nc_g HC (q_gtr rfl rfl) (by kernel_rfl) (by kernel_rfl) (by kernel_rfl) ?_
          clear HC a; intro a HC
          refine nc_or (j := 14) HC rfl rfl rfl (by kernel_rfl) (by kernel_rfl) ?_
          clear HC a; intro a HC
          refine nc_q HC (q_move rfl) rfl (by kernel_rfl) ?_
          clear HC a; intro a HC
          refine nc_g HC (q_move rfl) (by kernel_rfl) (by kernel_rfl) (by kernel_rfl) ?_
          clear HC a; intro a HC
          refine nc_g HC (q_lss rfl rfl) (by kernel_rfl) (by kernel_rfl) (by kernel_rfl) ?_
          clear HC a; intro a HC
          refine nc_or (j := 19) HC rfl rfl rfl (by kernel_rfl) (by kernel_rfl) ?_
          clear HC a; intro a HC
          have H := HC.has; clear HC
          refine n_nil ?_
          refine then_normal ?_
          refine c_cond H rfl (fun hc91 => ?_) (fun hc91 => ?_)
          · skip
            simp at hc91; omega
          · skip
            refine wp_skip ?_
            refine then_normal ?_
            refine wp_seq ?_
            refine wp_region_lit ?_
            refine n_q H (q_move rfl) rfl ?_
            clear H a; intro a H
            refine n_call H rfl en20 (place_w (hH.ext hS.x) (hS.any 1 rfl)) rfl ?_
            clear H a; intro v40 w38 hv a H
            obtain ⟨rfl, hE39⟩ := hv
            replace hS := hS.ext hE39
            refine n_q H (q_assign rfl) rfl ?_
            clear H a; intro a H
            refine n_nil ?_
            refine then_normal ?_
            refine wp_seq ?_
            refine wp_region_lit ?_
            refine n_c H (fun HC => ?_); clear H
            refine nc_q HC (q_move rfl) rfl (by kernel_rfl) ?_
            clear HC a; intro a HC
            refine nc_q HC (q_nnilI Tryd.underlying43 rfl rfl (hS.any 1 rfl).form) rfl (by kernel_rfl) ?_
            clear HC a; intro a HC
            refine nc_q HC (q_move rfl) rfl (by kernel_rfl) ?_
            clear HC a; intro a HC
            refine nc_g HC (q_move rfl) (by kernel_rfl) (by kernel_rfl) (by kernel_rfl) ?_
            clear HC a; intro a HC
            refine nc_g HC (q_geq rfl rfl) (by kernel_rfl) (by kernel_rfl) (by kernel_rfl) ?_
            clear HC a; intro a HC
            refine nc_and (j := 2) HC rfl rfl rfl (by kernel_rfl) (by kernel_rfl) ?_
            clear HC a; intro a HC
            refine nc_q HC (q_move rfl) rfl (by kernel_rfl) ?_
            clear HC a; intro a HC
            refine nc_g HC (q_move rfl) (by kernel_rfl) (by kernel_rfl) (by kernel_rfl) ?_
            clear HC a; intro a HC
            refine nc_g HC (q_move rfl) (by kernel_rfl) (by kernel_rfl) (by kernel_rfl) ?_
            clear HC a; intro a HC
            refine nc_g HC (q_lss rfl rfl) (by kernel_rfl) (by kernel_rfl) (by kernel_rfl) ?_
            clear HC a; intro a HC
            refine nc_g HC (q_move rfl) (by kernel_rfl) (by kernel_rfl) (by kernel_rfl) ?_
            clear HC a; intro a HC
            refine nc_g HC (q_move rfl) (by kernel_rfl) (by kernel_rfl) (by kernel_rfl) ?_
            clear HC a; intro a HC
            refine nc_g HC (q_move rfl) (by kernel_rfl) (by kernel_rfl) (by kernel_rfl) ?_
            clear HC a; intro a HC
            refine nc_g HC (q_move rfl) (by kernel_rfl) (by kernel_rfl) (by kernel_rfl) ?_
            clear HC a; intro a HC
            refine nc_g HC (q_add rfl rfl (by constructor <;> omega)) (by kernel_rfl) (by kernel_rfl) (by kernel_rfl) ?_
            clear HC a; intro a HC
            refine nc_g HC (q_gtr rfl rfl) (by kernel_rfl) (by kernel_rfl) (by kernel_rfl) ?_
            clear HC a; intro a HC
            refine nc_org (j := 10) HC rfl rfl rfl (by kernel_rfl) (by kernel_rfl) (by kernel_rfl) ?_
            clear HC a; intro a HC
            refine nc_and (j := 6) HC rfl rfl rfl (by kernel_rfl) (by kernel_rfl) ?_
            clear HC a; intro a HC
            have H := HC.has; clear HC
            refine n_nil ?_
            refine then_normal ?_
            refine c_cond H rfl (fun hc111 => ?_) (fun hc111 => ?_)
            · skip
              (try rw [((hS.any 1 rfl)).isNil] at hc111); simp [hn64] at hc111 <;> omega
            · skip
              refine wp_skip ?_
              refine block_normal ?_
              refine then_normal ?_
              refine wp_region_lit ?_
              refine n_q H (q_move rfl) rfl ?_
              clear H a; intro a H
              refine n_q H (q_add rfl rfl (by constructor <;> omega)) rfl ?_
              clear H a; intro a H
              refine n_q H (q_assign rfl) rfl ?_
              clear H a; intro a H
              refine n_nil ?_
              refine then_normal ?_
              replace hS := hS.pick 6 rfl
              dsimp only [List.eraseIdx] at hS
              replace hS := hS.pick 6 rfl
              dsimp only [List.eraseIdx] at hS
              replace hS := hS.pick 6 rfl
              dsimp only [List.eraseIdx] at hS
              replace hS := hS.pick 7 rfl
              dsimp only [List.eraseIdx] at hS
              replace hS := hS.pick 7 rfl
              dsimp only [List.eraseIdx] at hS
              replace hS := hS.pick 7 rfl
              dsimp only [List.eraseIdx] at hS
              replace hS := hS.pick 6 rfl
              dsimp only [List.eraseIdx] at hS
              replace hS := hS.take 7
              simp only [List.take_succ_cons, List.take_zero] at hS
              replace hS := hS.cuPut hcc hle64 hwf.2.1
              exact round (i + 1, l.set k _) H ⟨rfl, rfl, rfl, trivial⟩ ⟨by omega, by simp; omega, hS⟩ (by first | omega | (dsimp only; omega))
    · skip
      refine wp_exit ?_
      refine then_exit ?_
      refine then_exit ?_
      refine block_exit ?_
      refine then_normal ?_
      refine wp_seq ?_
      refine wp_region_lit ?_
      refine n_q H (q_assign rfl) rfl ?_
      clear H a; intro a H
      refine n_nil ?_
      refine then_normal ?_
      refine wp_ret ?_
      refine ret1 H (.inr rfl) rfl rfl ?_
      exact ⟨rfl, hS.x⟩

end Go.Proofs.YtdglaodhmlocdaaDoor
