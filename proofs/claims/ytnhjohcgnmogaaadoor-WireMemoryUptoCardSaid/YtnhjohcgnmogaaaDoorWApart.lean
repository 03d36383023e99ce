/- Lists of their own are written and grown (written by wip/tools) -/
import Derived.Test.YtnhjohcgnmogaaaDoorRLists
import Derived.Test.YtnhjohcgnmogaaaDoorGua
import Derived.Test.YtnhjohcgnmogaaaDoorPtr
import Derived.Test.YtnhjohcgnmogaaaDoorPair
set_option linter.unusedVariables false
set_option linter.unusedSimpArgs false
set_option maxRecDepth 10000
namespace Go.Proofs.YtnhjohcgnmogaaaDoor
open Go Go.RowKit
theorem ag120 : aggB Tryd.prog 120 = some false := by kernel_rfl
theorem el9 : ElemOk Tryd.prog 9 1 16 [.string ⟨#[]⟩] := ⟨by kernel_rfl, by kernel_rfl, by kernel_rfl, rfl, by decide⟩
theorem sz120 : sizeB Tryd.prog 120 = some 1 := by kernel_rfl
theorem ze9 : zeroB Tryd.prog 9 = some [.string ⟨#[]⟩] := by kernel_rfl

/-- A body's memory. -/
def bodyR (r : RecM) : Rs := ownR 5 1 r.q r.body.length (r.body.flatMap eB)
structure PairM where
  q : Value
  body : List UInt8
  g : Value
  ext : List UInt8
def pairP (p : PairM) : Rs := pairR 5 1 p.q p.body.length (p.body.flatMap eB) p.g (p.body.length + p.ext.length) ((p.body ++ p.ext).flatMap eB)
def eG (p : PairM) : List Value := [p.g]
theorem strB_size (l : List UInt8) : (strB l).size = l.length := by simp [strB, ByteArray.size]
theorem strB_take (xs ys : List UInt8) : (strB (xs ++ ys)).extract 0 xs.length = strB xs := by
  apply ByteArray.ext
  rw [ByteArray.data_extract]
  apply Array.ext'
  simp [strB]
theorem q_sliceToS {P : Program} {L : Operand → Option Value} {C : World → Prop} {x z : Operand} {T : TypeId} {s : ByteArray} {q2 : IntKind} {hi : Int} (ht : P.underlying T = some .string) (ex : L x = some (.string s)) (ez : L z = some (.int q2 hi))
    (h1 : 0 ≤ hi) (h2 : hi ≤ s.size) : Q1 P L (.slice T x none (some z) none) C (.string (s.extract 0 hi.toNat)) :=
  fun ρ h w' _ dst ty pos af g => by
    have e1 : 0 ≤ hi ∧ hi ≤ (s.size : Int) := ⟨by omega, h2⟩
    simp only [execOp, h x _ ex, h z _ ez, Option.map_some, Option.map_none]
    simp [Instr.sliceAt, Instr.slice, run_underlying ht, Instr.sliceBounds, Instr.sliceBound, asIntOf, e1]
theorem strB_add (xs ys : List UInt8) : strB xs ++ strB ys = strB (xs ++ ys) := by
  apply ByteArray.ext
  simp [strB]
theorem eB_set {zs : List UInt8} {k : Nat} (hk : k < zs.length) (b : UInt8) : (zs.flatMap eB).set (k * 1) (.int .u8 (b.toNat : Int)) = (zs.set k b).flatMap eB := by
  have h : ∀ l : List UInt8, l.flatMap eB = l.map fun b => Value.int .u8 (b.toNat : Int) := by
    intro l
    induction l with
    | nil => rfl
    | cons x r ih => simp [List.flatMap_cons, eB, ih]
  rw [h, h, Nat.mul_one, List.map_set]
theorem map_at {α β : Type} {f : α → β} {xs ys : List α} {i : Nat} {x y : α} (h : ys.map f = xs.map f) (hx : xs[i]? = some x) (hy : ys[i]? = some y) : f x = f y := by
  have h1 : (xs.map f)[i]? = some (f x) := by simp [hx]
  rw [← h] at h1
  simpa [hy] using h1.symm
theorem map_set_same {α β : Type} {f : α → β} {ys : List α} {i : Nat} {r r2 : α} (h : ys[i]? = some r) (e : f r2 = f r) : (ys.set i r2).map f = ys.map f := by
  rw [List.map_set]
  apply List.ext_getElem?
  intro j
  rw [List.getElem?_set]
  split
  · next h1 => subst h1; split
               · simp [h, e]
               · next h2 => simp at h2; exact absurd (List.getElem?_eq_some_iff.1 h).1 (by omega)
  · rfl
theorem take_set_one {α : Type} {ys : List α} {i : Nat} (h : i < ys.length) (r : α) : (ys.set i r).take (i + 1) = ys.take i ++ [r] := by
  rw [List.take_add_one, List.take_set_of_le (Nat.le_refl _)]
  simp [h]
theorem set_same {α : Type} {l : List α} {i : Nat} {x : α} (h : l[i]? = some x) : l.set i x = l := by
  apply List.ext_getElem?
  intro j
  rw [List.getElem?_set]
  by_cases e : i = j
  · subst e; rw [if_pos rfl, if_pos (List.getElem?_eq_some_iff.1 h).1, h]
  · rw [if_neg e]
section
variable {fp : Nat → Prop} {w0 w : World} {rs : List Rs} {ys : List RecM} {ps : List PairM} {r : RecM} {i n m : Nat}
theorem St.bodyPut {zs : List UInt8} (hi : i < ys.length) (h : St fp w0 w (ownR 5 1 r.q n (zs.flatMap eB) :: starR ((ys.map bodyR).eraseIdx i) :: rs)) (hn : n = zs.length) : St fp w0 w (starR ((ys.set i ⟨r.tag, r.q, zs⟩).map bodyR) :: rs) := by
  subst hn; exact St.starPut (f := bodyR) (c' := ⟨r.tag, r.q, zs⟩) hi h
theorem St.starCons {α : Type} {f : α → Rs} {x : α} {l : List α} (h : St fp w0 w (starR ((x :: l).map f) :: rs)) : St fp w0 w (f x :: starR (l.map f) :: rs) := by
  have h1 := h.star
  simp only [List.map_cons, List.cons_append] at h1
  exact (((h1.perm (List.perm_middle (l₁ := l.map f) (a := f x) (l₂ := rs)).symm).fold (l.map f))).perm (List.Perm.swap _ _ _)
theorem St.pairAdd {q g : Value} {body es : List UInt8} (h : St fp w0 w (pairR 5 1 q n (body.flatMap eB) g m ((body ++ es).flatMap eB) :: starR (ps.map pairP) :: rs)) (hn : n = body.length) (hm : m = body.length + es.length) : St fp w0 w (starR ((ps ++ [(⟨q, body, g, es⟩ : PairM)]).map pairP) :: rs) := by
  subst hn; subst hm; exact St.starAdd (f := pairP) (c := ⟨q, body, g, es⟩) h
end
/-- What the texts say of the lists, so far. -/
def PsOk (ys : List RecM) (ps : List PairM) (ws : List ByteArray) : Prop := ws.length = ys.length ∧ (∀ (j : Nat) p, ps[j]? = some p → ∃ y, ys[j]? = some y ∧ p.q = y.q ∧ p.body = y.body ∧ ws[j]? = some (strB (p.body ++ p.ext))) ∧ ∀ (j : Nat) y, ps.length ≤ j → ys[j]? = some y → ws[j]? = some (strB y.body)
theorem psOk0 (ys : List RecM) : PsOk ys [] (ys.map fun r => strB r.body) := ⟨by simp, fun j p h => by simp at h, fun j y _ h => by simp [h]⟩
theorem psOk1 {ys : List RecM} {ps : List PairM} {ws us : List ByteArray} {y : RecM} {q g : Value} {es : List UInt8} (h : PsOk ys ps ws) (hy : ys[ps.length]? = some y) (hq : y.q = q) (hl : us.length = ws.length) (h1 : us[ps.length]? = some (strB (y.body ++ es))) (h2 : ∀ j, j ≠ ps.length → us[j]? = ws[j]?) : PsOk ys (ps ++ [⟨q, y.body, g, es⟩]) us := by
  obtain ⟨a1, a2, a3⟩ := h
  refine ⟨hl.trans a1, fun j p hp => ?_, fun j z hj hz => ?_⟩
  · rcases Nat.lt_or_ge j ps.length with hlt | hge
    · rw [List.getElem?_append_left hlt] at hp
      obtain ⟨z, b1, b2, b3, b4⟩ := a2 j p hp
      exact ⟨z, b1, b2, b3, by rw [h2 j (by omega)]; exact b4⟩
    · rw [List.getElem?_append_right hge] at hp
      have e : j = ps.length := by
        rcases Nat.lt_or_ge (j - ps.length) 1 with h3 | h3
        · omega
        · rw [List.getElem?_eq_none (by simpa using h3)] at hp; cases hp
      subst e
      simp at hp
      subst hp
      exact ⟨y, hy, hq.symm, rfl, h1⟩
  · rw [List.length_append, List.length_singleton] at hj
    rw [h2 j (by omega)]
    exact a3 j z (by omega) hz
set_option maxHeartbeats 4000000 in
theorem apart_w {w : World} {fp : Nat → Prop} {vL : Value} {xs : List RecM} (hz : xs.length ≤ 16777216) (hb : ∀ r ∈ xs, r.body.length ≤ 1099511627776) (hP0 : Sep w fp [ownR 23 1 vL xs.length (xs.flatMap eBod), starR (xs.map bodyR)]) :
    Calls Tryd.prog 21 [vL].toArray w (Ret fun r w' => r = .bool true ∧ St fp w w' []) := by
  have hS := St.init hP0
  obtain ⟨AL, cL, hvL, _⟩ := (hS.own 0 rfl).form
  subst hvL
  refine enter Tryd.func21 rfl rfl rfl ?_
  intro a H
  dsimp only [enumL, Nat.zero_add, Nat.reduceAdd] at H
  refine wp_seq ?_
  refine wp_region_lit ?_
  refine n_q H (q_assign rfl) rfl ?_
  clear H a; intro a H
  refine n_nil ?_
  refine then_normal ?_
  refine wp_seq ?_
  refine wp_region_lit ?_
  refine n_q H (q_assign rfl) rfl ?_
  clear H a; intro a H
  refine n_nil ?_
  refine then_normal ?_
  refine wp_seq ?_
  refine wp_region_lit ?_
  refine n_q H (q_assign rfl) rfl ?_
  clear H a; intro a H
  refine n_nil ?_
  refine then_normal ?_
  refine wp_seq ?_
  refine wp_seq ?_
  refine wp_region_lit ?_
  refine n_q H (q_assign rfl) rfl ?_
  clear H a; intro a H
  refine n_nil ?_
  refine then_normal ?_
  refine wp_block ?_
  replace hS := hS.nilOwn 9 1
  replace hS := hS.pick 2 rfl
  dsimp only [List.eraseIdx] at hS
  replace hS := hS.pick 2 rfl
  dsimp only [List.eraseIdx] at hS
  refine c_loop (σ := Nat × Value × List RecM) (fun (i, vW, ys) => [(0, .slice AL xs.length cL), (3, vW), (4, .slice none 0 0), (5, .int .i64 (i : Nat))]) (fun (i, vW, ys) wl => (i ≤ xs.length ∧ ys.length = xs.length ∧ ys.map RecM.q = xs.map RecM.q ∧ ys.map (fun r => r.body.length) = xs.map (fun r => r.body.length)) ∧ St fp w wl [ownR 23 1 (.slice AL xs.length cL) xs.length (xs.flatMap eBod), starR (ys.map bodyR), ownR 9 1 vW i (((ys.take i).map fun r => strB r.body).flatMap eS)]) (fun (i, vW, ys) => xs.length - i) (0, .slice none 0 0, xs) H ⟨rfl, rfl, rfl, rfl, trivial⟩ ⟨⟨Nat.zero_le _, rfl, rfl, rfl⟩, hS⟩ ?_
  clear H hS; clear a; intro xx a w1 H hR
  obtain ⟨i, vW, ys⟩ := xx
  simp only [ent, List.map_cons, List.map_nil] at H
  try dsimp only at hR
  obtain ⟨⟨hi, hyn, hyq, hyl⟩, hS⟩ := hR; try clear hR
  refine wp_seq ?_
  refine wp_seq ?_
  refine wp_region_lit ?_
  refine n_q H (q_move rfl) rfl ?_
  clear H a; intro a H
  refine n_q H (q_move rfl) rfl ?_
  clear H a; intro a H
  refine n_q H (q_lenSl Tryd.underlying44 rfl) rfl ?_
  clear H a; intro a H
  refine n_q H (q_lss rfl rfl) rfl ?_
  clear H a; intro a H
  refine n_nil ?_
  refine then_normal ?_
  refine c_cond H rfl (fun hc14 => ?_) (fun hc14 => ?_)
  · skip
    have hi1 : i < xs.length := by simp at hc14; omega
    obtain ⟨r, hr⟩ : ∃ r, ys[i]? = some r := ⟨_, List.getElem?_eq_getElem (by omega)⟩
    obtain ⟨x0, hx0⟩ : ∃ x, xs[i]? = some x := ⟨_, List.getElem?_eq_getElem (by omega)⟩
    have hq0 : x0.q = r.q := map_at hyq hx0 hr
    have hl0 : x0.body.length = r.body.length := map_at (f := fun r : RecM => r.body.length) hyl hx0 hr
    have hb0 := hb x0 (List.mem_of_getElem? hx0)
    replace hS := hS.pick 1 rfl
    dsimp only [List.eraseIdx] at hS
    replace hS := St.starAt hr hS
    dsimp only [bodyR] at hS
    obtain ⟨Aq, cq, hvq, hcq, hmq, _⟩ := (hS.own 0 rfl).form
    rw [hvq] at hS
    have hqx : x0.q = .slice Aq r.body.length cq := hq0.trans hvq
    obtain ⟨bL, c61, hq60⟩ := (hS.own 2 rfl).sm (by omega)
    cases hq60
    refine wp_skip ?_
    refine then_normal ?_
    refine wp_seq ?_
    refine wp_block ?_
    refine wp_seq ?_
    refine wp_seq ?_
    refine wp_region_lit ?_
    refine n_q H (q_assign rfl) rfl ?_
    clear H a; intro a H
    refine n_nil ?_
    refine then_normal ?_
    refine wp_block ?_
    replace hS := hS.pick 3 rfl
    dsimp only [List.eraseIdx] at hS
    replace hS := hS.pick 2 rfl
    dsimp only [List.eraseIdx] at hS
    replace hS := hS.pick 3 rfl
    dsimp only [List.eraseIdx] at hS
    replace hS := hS.pick 3 rfl
    dsimp only [List.eraseIdx] at hS
    refine c_loop (σ := Nat × List UInt8) (fun (k, zs) => [(0, .slice (some ⟨bL, 0, none⟩) xs.length cL), (3, vW), (4, .slice none 0 0), (5, .int .i64 (i : Nat)), (6, .int .i64 (k : Nat))]) (fun (k, zs) wl => (k ≤ r.body.length ∧ zs.length = r.body.length) ∧ St fp w wl [ownR 5 1 (.slice Aq r.body.length cq) r.body.length (zs.flatMap eB), ownR 23 1 (.slice (some ⟨bL, 0, none⟩) xs.length cL) xs.length (xs.flatMap eBod), starR ((ys.map bodyR).eraseIdx i), ownR 9 1 vW i (((ys.take i).map fun r => strB r.body).flatMap eS)]) (fun (k, zs) => r.body.length - k) (0, r.body) H ⟨rfl, rfl, rfl, rfl, rfl, trivial⟩ ⟨⟨Nat.zero_le _, rfl⟩, hS⟩ ?_
    clear H hS; clear a; intro xx a w2 H hR
    obtain ⟨k, zs⟩ := xx
    simp only [ent, List.map_cons, List.map_nil] at H
    try dsimp only at hR
    obtain ⟨⟨hk, hzl⟩, hS⟩ := hR; try clear hR
    refine wp_seq ?_
    refine wp_seq ?_
    refine wp_region_lit ?_
    refine n_q H (q_move rfl) rfl ?_
    clear H a; intro a H
    refine n_q H (q_move rfl) rfl ?_
    clear H a; intro a H
    refine n_q H (q_move rfl) rfl ?_
    clear H a; intro a H
    refine n_q H (q_cast (q_indexAddr (ad := ⟨bL, 0, none⟩) (n := xs.length) (c := cL) Tryd.underlying44 sz23 rfl rfl (by omega) (by omega)) (show _ = Value.pointer (some ((⟨bL, 0, none⟩ : Addr).add (i * 1))) by rw [show (i : Int).toNat = i by omega])) rfl ?_
    clear H a; intro a H
    refine n_q H (q_load rfl (((hS.own 1 rfl).slr rfl (fun _ _ => rfl) : SlR _ 1 (Flat eBod) _ xs).ldOne ag23 hx0 (congrArg (fun z => [z]) hqx))) rfl ?_
    clear H a; intro a H
    refine n_q H (q_lenSl Tryd.underlying23 rfl) rfl ?_
    clear H a; intro a H
    refine n_q H (q_lss rfl rfl) rfl ?_
    clear H a; intro a H
    refine n_nil ?_
    refine then_normal ?_
    refine c_cond H rfl (fun hc23 => ?_) (fun hc23 => ?_)
    · skip
      have hk1 : k < r.body.length := by simp at hc23; omega
      obtain ⟨bq, c62, hq61⟩ := (hS.own 0 rfl).sm (by omega)
      cases hq61
      refine wp_skip ?_
      refine then_normal ?_
      refine wp_seq ?_
      refine wp_block ?_
      refine wp_region_lit ?_
      refine n_q H (q_move rfl) rfl ?_
      clear H a; intro a H
      refine n_q H (q_move rfl) rfl ?_
      clear H a; intro a H
      refine n_q H (q_cast (q_indexAddr (ad := ⟨bL, 0, none⟩) (n := xs.length) (c := cL) Tryd.underlying44 sz23 rfl rfl (by omega) (by omega)) (show _ = Value.pointer (some ((⟨bL, 0, none⟩ : Addr).add (i * 1))) by rw [show (i : Int).toNat = i by omega])) rfl ?_
      clear H a; intro a H
      refine n_q H (q_load rfl (((hS.own 1 rfl).slr rfl (fun _ _ => rfl) : SlR _ 1 (Flat eBod) _ xs).ldOne ag23 hx0 (congrArg (fun z => [z]) hqx))) rfl ?_
      clear H a; intro a H
      refine n_q H (q_move rfl) rfl ?_
      clear H a; intro a H
      refine n_q H (q_move rfl) rfl ?_
      clear H a; intro a H
      refine n_q H (q_mul rfl rfl (by constructor <;> omega)) rfl ?_
      clear H a; intro a H
      refine n_q H (q_move rfl) rfl ?_
      clear H a; intro a H
      refine n_q H (q_mul rfl rfl (by constructor <;> omega)) rfl ?_
      clear H a; intro a H
      refine n_q H (q_add rfl rfl (by constructor <;> omega)) rfl ?_
      clear H a; intro a H
      refine n_q H (q_add rfl rfl (by constructor <;> omega)) rfl ?_
      clear H a; intro a H
      refine n_q H (q_cast (q_convI Tryd.underlying3 Tryd.underlying5 ⟨_, rfl⟩ rfl) (show _ = Value.int .u8 ((byteOf ((i : Int) * 37 + (k : Int) * 11 + 3)).toNat : Int) by rw [wrap8])) rfl ?_
      clear H a; intro a H
      refine n_q H (q_indexAddr0 (b := bq) (n := r.body.length) (c := cq) (i := k) Tryd.underlying23 sz5 rfl rfl (by omega)) rfl ?_
      clear H a; intro a H
      refine n_storeE1 H rfl rfl sz5 rfl (hS.own 0 rfl) (by omega) ?_
      clear H; intro w3 hN hC4; clear a; intro a H
      replace hS := hS.setOwn hN hC4 (.inl rfl); clear hN
      refine n_nil ?_
      refine block_normal ?_
      refine then_normal ?_
      refine wp_region_lit ?_
      refine n_q H (q_move rfl) rfl ?_
      clear H a; intro a H
      refine n_q H (q_add rfl rfl (by constructor <;> omega)) rfl ?_
      clear H a; intro a H
      refine n_q H (q_assign rfl) rfl ?_
      clear H a; intro a H
      refine n_nil ?_
      refine then_normal ?_
      replace hS := hS.pick 3 rfl
      dsimp only [List.eraseIdx] at hS
      replace hS := hS.pick 3 rfl
      dsimp only [List.eraseIdx] at hS
      replace hS := hS.pick 3 rfl
      dsimp only [List.eraseIdx] at hS
      replace hS := hS.pick 3 rfl
      dsimp only [List.eraseIdx] at hS
      exact round (k + 1, zs.set k (byteOf ((i : Int) * 37 + (k : Int) * 11 + 3))) H ⟨rfl, rfl, rfl, rfl, rfl, trivial⟩ ⟨⟨by omega, by rw [List.length_set]; exact hzl⟩, by rw [← eB_set (by omega)]; exact hS⟩ (by first | omega | (dsimp only; omega))
    · skip
      refine wp_exit ?_
      refine then_exit ?_
      refine then_exit ?_
      refine block_exit ?_
      refine then_normal ?_
      refine wp_region_lit ?_
      refine n_q H (q_move rfl) rfl ?_
      clear H a; intro a H
      refine n_q H (q_move rfl) rfl ?_
      clear H a; intro a H
      refine n_q H (q_move rfl) rfl ?_
      clear H a; intro a H
      refine n_q H (q_cast (q_indexAddr (ad := ⟨bL, 0, none⟩) (n := xs.length) (c := cL) Tryd.underlying44 sz23 rfl rfl (by omega) (by omega)) (show _ = Value.pointer (some ((⟨bL, 0, none⟩ : Addr).add (i * 1))) by rw [show (i : Int).toNat = i by omega])) rfl ?_
      clear H a; intro a H
      refine n_q H (q_load rfl (((hS.own 1 rfl).slr rfl (fun _ _ => rfl) : SlR _ 1 (Flat eBod) _ xs).ldOne ag23 hx0 (congrArg (fun z => [z]) hqx))) rfl ?_
      clear H a; intro a H
      refine n_q H (q_str Tryd.underlying23 Tryd.underlying5 Tryd.underlying9 rfl (fun w' e => ((hS.own 0 rfl).ext e).slB hzl.symm)) rfl ?_
      clear H a; intro a H
      refine n_buildSlice H Tryd.underlying120 sz9 ze9 rfl rfl rfl (cs := [.string (strB zs)]) (by kernel_rfl) rfl ?_
      clear H; intro b45 w5 hN hE6 hs_b45; clear a; intro a H
      replace hS := hS.newBlk hN hE6 hs_b45; clear hN hE6
      replace hS := hS.pick 4 rfl
      dsimp only [List.eraseIdx] at hS
      refine n_append H rfl rfl Tryd.underlying120 Tryd.underlying120 (by simp) el9 (hS.own 0 rfl) (show Src _ 1 _ 1 (([strB zs] : List ByteArray).flatMap eS) from (Own.ofBlk (n := 1) (k := 1) (hS.blk 1 rfl) rfl (by simp [maxLen])).src) (by simp [eS, Value.oneCell']) (by omega) (by simp only [maxLen]; omega) rfl ?_
      clear H; intro v46 w7 hN hC8 hb46 hnil46; clear a; intro a H
      replace hS := hS.setOwn hN hC8 hb46; clear hN
      refine n_q H (q_assign rfl) rfl ?_
      clear H a; intro a H
      refine n_nil ?_
      refine block_normal ?_
      refine then_normal ?_
      refine wp_region_lit ?_
      refine n_q H (q_move rfl) rfl ?_
      clear H a; intro a H
      refine n_q H (q_add rfl rfl (by constructor <;> omega)) rfl ?_
      clear H a; intro a H
      refine n_q H (q_assign rfl) rfl ?_
      clear H a; intro a H
      refine n_nil ?_
      refine then_normal ?_
      replace hS := hS.pick 3 rfl
      dsimp only [List.eraseIdx] at hS
      replace hS := hS.pick 4 rfl
      dsimp only [List.eraseIdx] at hS
      replace hS := hS.pick 4 rfl
      dsimp only [List.eraseIdx] at hS
      replace hS := hS.take 4
      simp only [List.take_succ_cons, List.take_zero] at hS
      rw [← hvq] at hS
      replace hS := St.bodyPut (by omega) hS hzl.symm
      replace hS := hS.pick 2 rfl
      dsimp only [List.eraseIdx] at hS
      replace hS := hS.pick 1 rfl
      dsimp only [List.eraseIdx] at hS
      replace hS := hS.pick 2 rfl
      dsimp only [List.eraseIdx] at hS
      exact round (i + 1, v46, ys.set i ⟨r.tag, r.q, zs⟩) H ⟨rfl, rfl, rfl, rfl, trivial⟩ ⟨⟨by omega, by rw [List.length_set]; exact hyn, (map_set_same (f := RecM.q) (r2 := ⟨r.tag, r.q, zs⟩) hr rfl).trans hyq, (map_set_same (f := fun r : RecM => r.body.length) (r2 := ⟨r.tag, r.q, zs⟩) hr hzl).trans hyl⟩, by rw [take_set_one (by omega), List.map_append, List.flatMap_append]; exact hS⟩ (by first | omega | (dsimp only; omega))
  · skip
    obtain rfl : i = xs.length := by simp at hc14; omega
    rw [List.take_of_length_le (by omega)] at hS
    obtain ⟨AW, cW, hvW, _⟩ := (hS.own 2 rfl).form
    subst hvW
    refine wp_exit ?_
    refine then_exit ?_
    refine then_exit ?_
    refine block_exit ?_
    refine then_normal ?_
    refine wp_seq ?_
    refine wp_seq ?_
    refine wp_region_lit ?_
    refine n_q H (q_assign rfl) rfl ?_
    clear H a; intro a H
    refine n_nil ?_
    refine then_normal ?_
    refine wp_block ?_
    replace hS := hS.starNil pairP
    replace hS := hS.nilOwn 23 1
    replace hS := hS.pick 4 rfl
    dsimp only [List.eraseIdx] at hS
    replace hS := hS.pick 1 rfl
    dsimp only [List.eraseIdx] at hS
    replace hS := hS.pick 4 rfl
    dsimp only [List.eraseIdx] at hS
    replace hS := hS.pick 3 rfl
    dsimp only [List.eraseIdx] at hS
    replace hS := hS.pick 4 rfl
    dsimp only [List.eraseIdx] at hS
    refine c_loop (σ := Nat × Value × List PairM × List ByteArray) (fun (i, vG, ps, ws) => [(0, .slice AL xs.length cL), (3, .slice AW xs.length cW), (4, vG), (7, .int .i64 (i : Nat))]) (fun (i, vG, ps, ws) wl => (i ≤ xs.length ∧ ps.length = i ∧ PsOk ys ps ws) ∧ St fp w wl [ownR 23 1 (.slice AL xs.length cL) xs.length (xs.flatMap eBod), starR (ps.map pairP), starR ((ys.drop i).map bodyR), ownR 23 1 vG i (ps.flatMap eG), ownR 9 1 (.slice AW xs.length cW) xs.length (ws.flatMap eS)]) (fun (i, vG, ps, ws) => xs.length - i) (0, .slice none 0 0, [], ys.map fun r : RecM => strB r.body) H ⟨rfl, rfl, rfl, rfl, trivial⟩ ⟨⟨Nat.zero_le _, rfl, psOk0 ys⟩, hS⟩ ?_
    clear H hS; clear a; intro xx a w9 H hR
    obtain ⟨i, vG, ps, ws⟩ := xx
    simp only [ent, List.map_cons, List.map_nil] at H
    try dsimp only at hR
    obtain ⟨⟨hi, hpl, hok⟩, hS⟩ := hR; try clear hR
    refine wp_seq ?_
    refine wp_seq ?_
    refine wp_region_lit ?_
    refine n_q H (q_move rfl) rfl ?_
    clear H a; intro a H
    refine n_q H (q_move rfl) rfl ?_
    clear H a; intro a H
    refine n_q H (q_lenSl Tryd.underlying44 rfl) rfl ?_
    clear H a; intro a H
    refine n_q H (q_lss rfl rfl) rfl ?_
    clear H a; intro a H
    refine n_nil ?_
    refine then_normal ?_
    refine c_cond H rfl (fun hc50 => ?_) (fun hc50 => ?_)
    · skip
      have hi1 : i < xs.length := by simp at hc50; omega
      obtain ⟨r, hr⟩ : ∃ r, ys[i]? = some r := ⟨_, List.getElem?_eq_getElem (by omega)⟩
      obtain ⟨x0, hx0⟩ : ∃ x, xs[i]? = some x := ⟨_, List.getElem?_eq_getElem (by omega)⟩
      have hq0 : x0.q = r.q := map_at hyq hx0 hr
      have hl0 : x0.body.length = r.body.length := map_at (f := fun r : RecM => r.body.length) hyl hx0 hr
      have hb0 := hb x0 (List.mem_of_getElem? hx0)
      replace hS := hS.pick 2 rfl
      dsimp only [List.eraseIdx] at hS
      rw [drop_cons hr] at hS
      replace hS := St.starCons hS
      dsimp only [bodyR] at hS
      obtain ⟨Aq, cq, hvq, hcq, hmq, _⟩ := (hS.own 0 rfl).form
      rw [hvq] at hS
      have hqx : x0.q = .slice Aq r.body.length cq := hq0.trans hvq
      replace hS := St.pair0 hS
      obtain ⟨bL, c61, hq60⟩ := (hS.own 2 rfl).sm (by omega)
      cases hq60
      obtain ⟨bW, c63, hq63⟩ := (hS.own 5 rfl).sm (by omega)
      cases hq63
      refine wp_skip ?_
      refine then_normal ?_
      refine wp_seq ?_
      refine wp_block ?_
      refine wp_seq ?_
      refine wp_region_lit ?_
      refine n_q H (q_move rfl) rfl ?_
      clear H a; intro a H
      refine n_q H (q_move rfl) rfl ?_
      clear H a; intro a H
      refine n_q H (q_cast (q_indexAddr (ad := ⟨bL, 0, none⟩) (n := xs.length) (c := cL) Tryd.underlying44 sz23 rfl rfl (by omega) (by omega)) (show _ = Value.pointer (some ((⟨bL, 0, none⟩ : Addr).add (i * 1))) by rw [show (i : Int).toNat = i by omega])) rfl ?_
      clear H a; intro a H
      refine n_q H (q_load rfl (((hS.own 2 rfl).slr rfl (fun _ _ => rfl) : SlR _ 1 (Flat eBod) _ xs).ldOne ag23 hx0 (congrArg (fun z => [z]) hqx))) rfl ?_
      clear H a; intro a H
      refine n_q H (q_assign rfl) rfl ?_
      clear H a; intro a H
      refine n_nil ?_
      refine then_normal ?_
      refine wp_seq ?_
      refine wp_seq ?_
      refine wp_region_lit ?_
      refine n_q H (q_assign rfl) rfl ?_
      clear H a; intro a H
      refine n_nil ?_
      refine then_normal ?_
      refine wp_block ?_
      replace hS := hS.pick 5 rfl
      dsimp only [List.eraseIdx] at hS
      replace hS := hS.pick 5 rfl
      dsimp only [List.eraseIdx] at hS
      replace hS := hS.pick 3 rfl
      dsimp only [List.eraseIdx] at hS
      replace hS := hS.pick 5 rfl
      dsimp only [List.eraseIdx] at hS
      replace hS := hS.pick 5 rfl
      dsimp only [List.eraseIdx] at hS
      replace hS := hS.pick 5 rfl
      dsimp only [List.eraseIdx] at hS
      refine c_loop (σ := Nat × Value × List UInt8 × List ByteArray) (fun (k, vg, es, us) => [(0, .slice (some ⟨bL, 0, none⟩) xs.length cL), (3, .slice (some ⟨bW, 0, none⟩) xs.length cW), (4, vG), (7, .int .i64 (i : Nat)), (8, vg), (9, .int .i64 (k : Nat))]) (fun (k, vg, es, us) wl => (k ≤ 16 ∧ es.length = k ∧ us.length = xs.length ∧ us[i]? = some (strB (r.body ++ es)) ∧ ∀ j, j ≠ i → us[j]? = ws[j]?) ∧ St fp w wl [pairR 5 1 (.slice Aq r.body.length cq) r.body.length (r.body.flatMap eB) vg (r.body.length + k) ((r.body ++ es).flatMap eB), ownR 23 1 (.slice (some ⟨bL, 0, none⟩) xs.length cL) xs.length (xs.flatMap eBod), starR (ps.map pairP), starR ((ys.drop (i + 1)).map bodyR), ownR 23 1 vG i (ps.flatMap eG), ownR 9 1 (.slice (some ⟨bW, 0, none⟩) xs.length cW) xs.length (us.flatMap eS)]) (fun (k, vg, es, us) => 16 - k) (0, .slice Aq r.body.length cq, [], ws) H ⟨rfl, rfl, rfl, rfl, rfl, rfl, trivial⟩ ⟨⟨Nat.zero_le _, rfl, by rw [hok.1, hyn], by rw [List.append_nil]; exact hok.2.2 i r (by omega) hr, fun j _ => rfl⟩, by rw [List.append_nil]; exact hS⟩ ?_
      clear H hS; clear a; intro xx a w10 H hR
      obtain ⟨k, vg, es, us⟩ := xx
      simp only [ent, List.map_cons, List.map_nil] at H
      try dsimp only at hR
      obtain ⟨⟨hk, hel, hul, hui, hun⟩, hS⟩ := hR; try clear hR
      refine wp_seq ?_
      refine wp_seq ?_
      refine wp_region_lit ?_
      refine n_q H (q_move rfl) rfl ?_
      clear H a; intro a H
      refine n_q H (q_lss rfl rfl) rfl ?_
      clear H a; intro a H
      refine n_nil ?_
      refine then_normal ?_
      refine c_cond H rfl (fun hc58 => ?_) (fun hc58 => ?_)
      · skip
        have hk1 : k < 16 := by simp at hc58; omega
        refine wp_skip ?_
        refine then_normal ?_
        refine wp_seq ?_
        refine wp_block ?_
        refine wp_seq ?_
        refine wp_region_lit ?_
        refine n_q H (q_move rfl) rfl ?_
        clear H a; intro a H
        refine n_q H (q_move rfl) rfl ?_
        clear H a; intro a H
        refine n_q H (q_mul rfl rfl (by constructor <;> omega)) rfl ?_
        clear H a; intro a H
        refine n_q H (q_move rfl) rfl ?_
        clear H a; intro a H
        refine n_q H (q_add rfl rfl (by constructor <;> omega)) rfl ?_
        clear H a; intro a H
        refine n_q H (q_add rfl rfl (by constructor <;> omega)) rfl ?_
        clear H a; intro a H
        refine n_q H (q_cast (q_convI Tryd.underlying3 Tryd.underlying5 ⟨_, rfl⟩ rfl) (show _ = Value.int .u8 ((byteOf ((i : Int) * 17 + (k : Int) + 130)).toNat : Int) by rw [wrap8])) rfl ?_
        clear H a; intro a H
        refine n_buildSlice H Tryd.underlying23 sz5 ze5 rfl rfl rfl (cs := [.int .u8 ((byteOf ((i : Int) * 17 + (k : Int) + 130)).toNat : Int)]) (by kernel_rfl) rfl ?_
        clear H; intro b68 w11 hN hE12 hs_b68; clear a; intro a H
        replace hS := hS.newBlk hN hE12 hs_b68; clear hN hE12
        replace hS := hS.pick 1 rfl
        dsimp only [List.eraseIdx] at hS
        refine n_appP hS H rfl rfl Tryd.underlying23 Tryd.underlying23 (by simp) el5 (show Src _ 1 _ 1 (([byteOf ((i : Int) * 17 + (k : Int) + 130)] : List UInt8).flatMap eB) from (Own.ofBlk (n := 1) (k := 1) (hS.blk 1 rfl) rfl (by simp [maxLen])).src) (flat_one eB_one _) (by omega) (by simp only [maxLen]; omega) rfl ?_
        clear H; intro v69 w69 hS69; clear a; intro a H; replace hS := hS69; clear hS69
        refine n_q H (q_assign rfl) rfl ?_
        clear H a; intro a H
        refine n_nil ?_
        refine then_normal ?_
        refine c_ord [] 14 (by kernel_rfl) ?_
        obtain ⟨w13, hw13⟩ : ∃ x, x = w69.drew := ⟨_, rfl⟩
        rw [← hw13]
        have hE14 : Ext w69 w13 := by rw [hw13]; exact Ext.drew' _
        clear hw13
        replace hS := hS.ext hE14
        refine k_take 0 H rfl (q_move rfl) rfl (by kernel_rfl) (by kernel_rfl) (by kernel_rfl) (by kernel_rfl) (fun _ _ _ h => h) ?_
        clear H a; intro a H
        refine k_take 1 H rfl (q_move rfl) rfl (by kernel_rfl) (by kernel_rfl) (by kernel_rfl) (by kernel_rfl) (fun _ _ _ h => h) ?_
        clear H a; intro a H
        refine k_take 2 H rfl (q_cast (q_indexAddr (ad := ⟨bW, 0, none⟩) (n := xs.length) (c := cW) Tryd.underlying120 sz9 rfl rfl (by omega) (by omega)) (show _ = Value.pointer (some ((⟨bW, 0, none⟩ : Addr).add (i * 1))) by rw [show (i : Int).toNat = i by omega])) rfl (by kernel_rfl) (by kernel_rfl) (by kernel_rfl) (by kernel_rfl) (fun _ _ _ h => h) ?_
        clear H a; intro a H
        refine k_take 3 H rfl (q_load rfl (LdX.k0 (((hS.own 6 rfl).slr hul.symm (fun _ _ => rfl) : SlR _ 1 (Flat eS) _ us).ldOne ag9 hui rfl))) rfl (by kernel_rfl) (by kernel_rfl) (by kernel_rfl) (by kernel_rfl) (fun _ _ _ h => h) ?_
        clear H a; intro a H
        refine k_take 4 H rfl (q_move rfl) rfl (by kernel_rfl) (by kernel_rfl) (by kernel_rfl) (by kernel_rfl) (fun _ _ _ h => h) ?_
        clear H a; intro a H
        refine k_take 5 H rfl (q_mul rfl rfl (by constructor <;> omega)) rfl (by kernel_rfl) (by kernel_rfl) (by kernel_rfl) (by kernel_rfl) (fun _ _ _ h => h) ?_
        clear H a; intro a H
        refine k_take 6 H rfl (q_move rfl) rfl (by kernel_rfl) (by kernel_rfl) (by kernel_rfl) (by kernel_rfl) (fun _ _ _ h => h) ?_
        clear H a; intro a H
        refine k_take 7 H rfl (q_add rfl rfl (by constructor <;> omega)) rfl (by kernel_rfl) (by kernel_rfl) (by kernel_rfl) (by kernel_rfl) (fun _ _ _ h => h) ?_
        clear H a; intro a H
        refine k_take 8 H rfl (q_add rfl rfl (by constructor <;> omega)) rfl (by kernel_rfl) (by kernel_rfl) (by kernel_rfl) (by kernel_rfl) (fun _ _ _ h => h) ?_
        clear H a; intro a H
        refine k_take 9 H rfl (q_cast (q_convI Tryd.underlying3 Tryd.underlying5 ⟨_, rfl⟩ rfl) (show _ = Value.int .u8 ((byteOf ((i : Int) * 17 + (k : Int) + 130)).toNat : Int) by rw [wrap8])) rfl (by kernel_rfl) (by kernel_rfl) (by kernel_rfl) (by kernel_rfl) (fun _ _ _ h => h) ?_
        clear H a; intro a H
        refine k_buildSlice 10 H rfl Tryd.underlying23 sz5 ze5 rfl rfl rfl (cs := [.int .u8 ((byteOf ((i : Int) * 17 + (k : Int) + 130)).toNat : Int)]) (by kernel_rfl) rfl (by kernel_rfl) ?_
        clear H; intro b80 w15 hN hE16 hs_b80; clear a; intro a H
        have hz_b80 := hE16.size
        replace hS := hS.newBlk hN hE16 hs_b80; clear hN hE16
        refine k_q 11 H rfl (q_str Tryd.underlying23 Tryd.underlying5 Tryd.underlying9 rfl (fun w' e => ((Own.ofBlk (n := 1) (k := 1) (hS.blk 0 rfl) rfl (by simp [maxLen]) : Own _ 5 1 _ 1 (([byteOf ((i : Int) * 17 + (k : Int) + 130)] : List UInt8).flatMap eB)).ext e).slB rfl)) rfl (by kernel_rfl) ?_
        clear H a; intro a H
        refine k_take 12 H rfl (q_cast (q_cat rfl rfl (by rw [strB_size, strB_size]; simp only [List.length_append, List.length_singleton]; omega)) (show _ = Value.string (strB (r.body ++ (es ++ [byteOf ((i : Int) * 17 + (k : Int) + 130)]))) by rw [strB_add, List.append_assoc])) rfl (by kernel_rfl) (by kernel_rfl) (by kernel_rfl) (by kernel_rfl) (fun _ _ _ h => h) ?_
        clear H a; intro a H
        refine k_take 13 H rfl (q_cast (q_indexAddr (ad := ⟨bW, 0, none⟩) (n := xs.length) (c := cW) Tryd.underlying120 sz9 rfl rfl (by omega) (by omega)) (show _ = Value.pointer (some ((⟨bW, 0, none⟩ : Addr).add (i * 1))) by rw [show (i : Int).toNat = i by omega])) rfl (by kernel_rfl) (by kernel_rfl) (by kernel_rfl) (by kernel_rfl) (fun _ _ _ h => h) ?_
        clear H a; intro a H
        replace hS := hS.pick 7 rfl
        dsimp only [List.eraseIdx] at hS
        have hO : Own w15 9 1 (.slice (some ⟨bW, 0, none⟩) xs.length cW) us.length (us.flatMap eS) := by rw [hul]; exact hS.own 0 rfl
        refine k_storeEl (e := eS) (x' := strB (r.body ++ (es ++ [byteOf ((i : Int) * 17 + (k : Int) + 130)]))) 14 H rfl rfl rfl sz9 hO rfl rfl (by omega) rfl (by simp [eS, Value.oneCell']) (fun _ => rfl) (by kernel_rfl) (.inr (by kernel_rfl)) ?_
        clear H hO; intro w84 hN hC84; clear a; intro a H
        rw [List.length_set, hul] at hN
        replace hS := hS.setOwn hN hC84 (.inl rfl); clear hN
        refine k_done (by kernel_rfl) ?_
        refine block_normal ?_
        refine then_normal ?_
        refine wp_region_lit ?_
        refine n_q H (q_move rfl) rfl ?_
        clear H a; intro a H
        refine n_q H (q_add rfl rfl (by constructor <;> omega)) rfl ?_
        clear H a; intro a H
        refine n_q H (q_assign rfl) rfl ?_
        clear H a; intro a H
        refine n_nil ?_
        refine then_normal ?_
        replace hS := hS.pick 7 rfl
        dsimp only [List.eraseIdx] at hS
        replace hS := hS.pick 7 rfl
        dsimp only [List.eraseIdx] at hS
        replace hS := hS.pick 7 rfl
        dsimp only [List.eraseIdx] at hS
        replace hS := hS.pick 7 rfl
        dsimp only [List.eraseIdx] at hS
        replace hS := hS.pick 6 rfl
        dsimp only [List.eraseIdx] at hS
        replace hS := hS.take 6
        simp only [List.take_succ_cons, List.take_zero] at hS
        exact round (k + 1, v69, es ++ [byteOf ((i : Int) * 17 + (k : Int) + 130)], us.set i (strB (r.body ++ (es ++ [byteOf ((i : Int) * 17 + (k : Int) + 130)])))) H ⟨rfl, rfl, rfl, rfl, rfl, rfl, trivial⟩ ⟨⟨by omega, by simp [hel], by rw [List.length_set]; exact hul, by rw [List.getElem?_set_self (by omega)], fun j hj => by rw [List.getElem?_set_ne (fun e => hj e.symm)]; exact hun j hj⟩, by rw [← List.append_assoc] at hS; rw [← List.append_assoc, List.flatMap_append (xs := r.body ++ es), ← Nat.add_assoc]; exact hS⟩ (by first | omega | (dsimp only; omega))
      · skip
        obtain rfl : k = 16 := by simp at hc58; omega
        obtain ⟨Ag0, cg0, hvg0, _⟩ := (hS.pairOwn 0 rfl).2.form
        subst hvg0
        refine wp_exit ?_
        refine then_exit ?_
        refine then_exit ?_
        refine block_exit ?_
        refine then_normal ?_
        refine wp_region_lit ?_
        refine n_q H (q_move rfl) rfl ?_
        clear H a; intro a H
        refine n_q H (q_move rfl) rfl ?_
        clear H a; intro a H
        have hpo2 := (hS.pairOwn 0 rfl).2
        refine n_buildSlice H Tryd.underlying44 sz23 ze23 rfl rfl rfl (cs := [.slice Ag0 (r.body.length + 16) cg0]) (by kernel_rfl) rfl ?_
        clear H; intro b86 w17 hN hE18 hs_b86; clear a; intro a H
        replace hS := hS.newBlk hN hE18 hs_b86; clear hN hE18
        replace hS := hS.pick 5 rfl
        dsimp only [List.eraseIdx] at hS
        refine n_append H rfl rfl Tryd.underlying44 Tryd.underlying44 (by simp) el23 (hS.own 0 rfl) (show Src _ 1 _ 1 (([⟨.slice Aq r.body.length cq, r.body, .slice Ag0 (r.body.length + 16) cg0, es⟩] : List PairM).flatMap eG) from (Own.ofBlk (n := 1) (k := 1) (hS.blk 1 rfl) rfl (by simp [maxLen])).src) (by intro c hc; simp [eG] at hc; subst hc; rfl) (by omega) (by simp only [maxLen]; omega) rfl ?_
        clear H; intro v87 w19 hN hC20 hb87 hnil87; clear a; intro a H
        replace hS := hS.setOwn hN hC20 hb87; clear hN
        refine n_q H (q_assign rfl) rfl ?_
        clear H a; intro a H
        refine n_nil ?_
        refine block_normal ?_
        refine then_normal ?_
        refine wp_region_lit ?_
        refine n_q H (q_move rfl) rfl ?_
        clear H a; intro a H
        refine n_q H (q_add rfl rfl (by constructor <;> omega)) rfl ?_
        clear H a; intro a H
        refine n_q H (q_assign rfl) rfl ?_
        clear H a; intro a H
        refine n_nil ?_
        refine then_normal ?_
        replace hS := hS.pick 6 rfl
        dsimp only [List.eraseIdx] at hS
        replace hS := hS.pick 1 rfl
        dsimp only [List.eraseIdx] at hS
        replace hS := hS.pick 6 rfl
        dsimp only [List.eraseIdx] at hS
        replace hS := hS.pick 5 rfl
        dsimp only [List.eraseIdx] at hS
        replace hS := hS.pick 6 rfl
        dsimp only [List.eraseIdx] at hS
        replace hS := hS.pick 6 rfl
        dsimp only [List.eraseIdx] at hS
        replace hS := hS.take 6
        simp only [List.take_succ_cons, List.take_zero] at hS
        replace hS := St.pairAdd hS rfl (by rw [hel])
        replace hS := hS.pick 4 rfl
        dsimp only [List.eraseIdx] at hS
        replace hS := hS.pick 4 rfl
        dsimp only [List.eraseIdx] at hS
        replace hS := hS.pick 4 rfl
        dsimp only [List.eraseIdx] at hS
        replace hS := hS.pick 3 rfl
        dsimp only [List.eraseIdx] at hS
        replace hS := hS.pick 4 rfl
        dsimp only [List.eraseIdx] at hS
        exact round (i + 1, v87, ps ++ [⟨.slice Aq r.body.length cq, r.body, .slice Ag0 (r.body.length + 16) cg0, es⟩], us) H ⟨rfl, rfl, rfl, rfl, trivial⟩ ⟨⟨by omega, by rw [List.length_append, hpl]; rfl, psOk1 hok (by rw [hpl]; exact hr) hvq (by rw [hul, hok.1, hyn]) (by rw [hpl]; exact hui) (fun j hj => hun j (by omega))⟩, by rw [List.flatMap_append]; exact hS⟩ (by first | omega | (dsimp only; omega))
    · skip
      obtain rfl : i = xs.length := by simp at hc50; omega
      obtain ⟨AG, cG, hvG, _⟩ := (hS.own 3 rfl).form
      subst hvG
      refine wp_exit ?_
      refine then_exit ?_
      refine then_exit ?_
      refine block_exit ?_
      refine then_normal ?_
      refine wp_seq ?_
      refine wp_seq ?_
      refine wp_region_lit ?_
      refine n_q H (q_assign rfl) rfl ?_
      clear H a; intro a H
      refine n_nil ?_
      refine then_normal ?_
      refine wp_block ?_
      replace hS := hS.pick 4 rfl
      dsimp only [List.eraseIdx] at hS
      replace hS := hS.pick 4 rfl
      dsimp only [List.eraseIdx] at hS
      replace hS := hS.pick 3 rfl
      dsimp only [List.eraseIdx] at hS
      replace hS := hS.pick 3 rfl
      dsimp only [List.eraseIdx] at hS
      replace hS := hS.take 4
      simp only [List.take_succ_cons, List.take_zero] at hS
      refine c_loop (σ := Nat) (fun i => [(0, .slice AL xs.length cL), (3, .slice AW xs.length cW), (4, .slice AG xs.length cG), (10, .int .i64 (i : Nat))]) (fun i wl => i ≤ xs.length ∧ St fp w wl [ownR 23 1 (.slice AL xs.length cL) xs.length (xs.flatMap eBod), starR (ps.map pairP), ownR 23 1 (.slice AG xs.length cG) xs.length (ps.flatMap eG), ownR 9 1 (.slice AW xs.length cW) xs.length (ws.flatMap eS)]) (fun i => xs.length - i) 0 H ⟨rfl, rfl, rfl, rfl, trivial⟩ ⟨Nat.zero_le _, hS⟩ ?_
      clear H hS; clear a; intro i a w21 H hR
      simp only [ent, List.map_cons, List.map_nil] at H
      try dsimp only at hR
      obtain ⟨hi, hS⟩ := hR; try clear hR
      refine wp_seq ?_
      refine wp_seq ?_
      refine wp_region_lit ?_
      refine n_q H (q_move rfl) rfl ?_
      clear H a; intro a H
      refine n_q H (q_move rfl) rfl ?_
      clear H a; intro a H
      refine n_q H (q_lenSl Tryd.underlying44 rfl) rfl ?_
      clear H a; intro a H
      refine n_q H (q_lss rfl rfl) rfl ?_
      clear H a; intro a H
      refine n_nil ?_
      refine then_normal ?_
      refine c_cond H rfl (fun hc91 => ?_) (fun hc91 => ?_)
      · skip
        have hi1 : i < xs.length := by simp at hc91; omega
        obtain ⟨p, hp⟩ : ∃ p, ps[i]? = some p := ⟨_, List.getElem?_eq_getElem (by omega)⟩
        obtain ⟨y, hy, hpq, hpb, hpw⟩ := hok.2.1 i p hp
        obtain ⟨x0, hx0⟩ : ∃ x, xs[i]? = some x := ⟨_, List.getElem?_eq_getElem (by omega)⟩
        have hq0 : x0.q = y.q := map_at hyq hx0 hy
        replace hS := hS.pick 1 rfl
        dsimp only [List.eraseIdx] at hS
        replace hS := St.starAt hp hS
        dsimp only [pairP] at hS
        have hpo := hS.pairOwn 0 rfl
        obtain ⟨Aq, cq, hvq, hcq, hmq, _⟩ := hpo.1.form
        have hqx : x0.q = .slice Aq p.body.length cq := by rw [hq0, ← hpq, hvq]
        obtain ⟨Ag, cg, hvg, _⟩ := hpo.2.form
        obtain ⟨bL, c61, hq60⟩ := (hS.own 2 rfl).sm (by omega)
        cases hq60
        obtain ⟨bW, c63, hq63⟩ := (hS.own 4 rfl).sm (by omega)
        cases hq63
        obtain ⟨bG, c64, hq64⟩ := (hS.own 3 rfl).sm (by omega)
        cases hq64
        refine wp_skip ?_
        refine then_normal ?_
        refine wp_seq ?_
        refine wp_block ?_
        refine wp_seq ?_
        refine c_quiet (by kernel_rfl) (by kernel_rfl) ?_
        refine qq_c H (fun HC => ?_); clear H
        refine qc_q HC (q_move rfl) rfl (by kernel_rfl) ?_
        clear HC a; intro a HC
        refine qc_q HC (q_move rfl) rfl (by kernel_rfl) ?_
        clear HC a; intro a HC
        refine qc_q HC (q_cast (q_indexAddr (ad := ⟨bG, 0, none⟩) (n := xs.length) (c := cG) Tryd.underlying44 sz23 rfl rfl (by omega) (by omega)) (show _ = Value.pointer (some ((⟨bG, 0, none⟩ : Addr).add (i * 1))) by rw [show (i : Int).toNat = i by omega])) rfl (by kernel_rfl) ?_
        clear HC a; intro a HC
        refine qc_q HC (q_load rfl (((hS.own 3 rfl).slr (by omega) (fun _ _ => rfl) : SlR _ 1 (Flat eG) _ ps).ldOne ag23 hp (congrArg (fun z => [z]) hvg))) rfl (by kernel_rfl) ?_
        clear HC a; intro a HC
        refine qc_q HC (q_str Tryd.underlying23 Tryd.underlying5 Tryd.underlying9 rfl (fun w' e => ((hvg ▸ hpo.2).ext e).slB (by rw [List.length_append]))) rfl (by kernel_rfl) ?_
        clear HC a; intro a HC
        refine qc_q HC (q_move rfl) rfl (by kernel_rfl) ?_
        clear HC a; intro a HC
        refine qc_q HC (q_move rfl) rfl (by kernel_rfl) ?_
        clear HC a; intro a HC
        refine qc_q HC (q_cast (q_indexAddr (ad := ⟨bW, 0, none⟩) (n := xs.length) (c := cW) Tryd.underlying120 sz9 rfl rfl (by omega) (by omega)) (show _ = Value.pointer (some ((⟨bW, 0, none⟩ : Addr).add (i * 1))) by rw [show (i : Int).toNat = i by omega])) rfl (by kernel_rfl) ?_
        clear HC a; intro a HC
        refine qc_q HC (q_load rfl (((hS.own 4 rfl).slr (by have := hok.1; omega) (fun _ _ => rfl) : SlR _ 1 (Flat eS) _ ws).ldOne ag9 hpw rfl)) rfl (by kernel_rfl) ?_
        clear HC a; intro a HC
        refine qc_q HC (q_cast (q_neqS rfl rfl) (show _ = Value.bool false by simp)) rfl (by kernel_rfl) ?_
        clear HC a; intro a HC
        refine qc_q HC (q_move rfl) rfl (by kernel_rfl) ?_
        clear HC a; intro a HC
        refine qq_yes HC.has rfl rfl ?_
        refine qc_q HC (q_move rfl) rfl (by kernel_rfl) ?_
        clear HC a; intro a HC
        refine qq_yes HC.has rfl rfl ?_
        refine qc_q HC (q_move rfl) rfl (by kernel_rfl) ?_
        clear HC a; intro a HC
        refine qq_yes HC.has rfl rfl ?_
        refine qc_q HC (q_cast (q_indexAddr (ad := ⟨bL, 0, none⟩) (n := xs.length) (c := cL) Tryd.underlying44 sz23 rfl rfl (by omega) (by omega)) (show _ = Value.pointer (some ((⟨bL, 0, none⟩ : Addr).add (i * 1))) by rw [show (i : Int).toNat = i by omega])) rfl (by kernel_rfl) ?_
        clear HC a; intro a HC
        refine qq_yes HC.has rfl rfl ?_
        refine qc_q HC (q_load rfl (((hS.own 2 rfl).slr rfl (fun _ _ => rfl) : SlR _ 1 (Flat eBod) _ xs).ldOne ag23 hx0 (congrArg (fun z => [z]) hqx))) rfl (by kernel_rfl) ?_
        clear HC a; intro a HC
        refine qq_yes HC.has rfl rfl ?_
        refine qc_q HC (q_str Tryd.underlying23 Tryd.underlying5 Tryd.underlying9 rfl (fun w' e => ((hvq ▸ hpo.1).ext e).slB rfl)) rfl (by kernel_rfl) ?_
        clear HC a; intro a HC
        refine qq_yes HC.has rfl rfl ?_
        refine qc_q HC (q_move rfl) rfl (by kernel_rfl) ?_
        clear HC a; intro a HC
        refine qq_yes HC.has rfl rfl ?_
        refine qc_q HC (q_move rfl) rfl (by kernel_rfl) ?_
        clear HC a; intro a HC
        refine qq_yes HC.has rfl rfl ?_
        refine qc_q HC (q_cast (q_indexAddr (ad := ⟨bW, 0, none⟩) (n := xs.length) (c := cW) Tryd.underlying120 sz9 rfl rfl (by omega) (by omega)) (show _ = Value.pointer (some ((⟨bW, 0, none⟩ : Addr).add (i * 1))) by rw [show (i : Int).toNat = i by omega])) rfl (by kernel_rfl) ?_
        clear HC a; intro a HC
        refine qq_yes HC.has rfl rfl ?_
        refine qc_q HC (q_load rfl (((hS.own 4 rfl).slr (by have := hok.1; omega) (fun _ _ => rfl) : SlR _ 1 (Flat eS) _ ws).ldOne ag9 hpw rfl)) rfl (by kernel_rfl) ?_
        clear HC a; intro a HC
        refine qq_yes HC.has rfl rfl ?_
        refine qc_q HC (q_move rfl) rfl (by kernel_rfl) ?_
        clear HC a; intro a HC
        refine qq_yes HC.has rfl rfl ?_
        refine qc_q HC (q_move rfl) rfl (by kernel_rfl) ?_
        clear HC a; intro a HC
        refine qq_yes HC.has rfl rfl ?_
        refine qc_q HC (q_cast (q_indexAddr (ad := ⟨bL, 0, none⟩) (n := xs.length) (c := cL) Tryd.underlying44 sz23 rfl rfl (by omega) (by omega)) (show _ = Value.pointer (some ((⟨bL, 0, none⟩ : Addr).add (i * 1))) by rw [show (i : Int).toNat = i by omega])) rfl (by kernel_rfl) ?_
        clear HC a; intro a HC
        refine qq_yes HC.has rfl rfl ?_
        refine qc_q HC (q_load rfl (((hS.own 2 rfl).slr rfl (fun _ _ => rfl) : SlR _ 1 (Flat eBod) _ xs).ldOne ag23 hx0 (congrArg (fun z => [z]) hqx))) rfl (by kernel_rfl) ?_
        clear HC a; intro a HC
        refine qq_yes HC.has rfl rfl ?_
        refine qc_q HC (q_lenSl Tryd.underlying23 rfl) rfl (by kernel_rfl) ?_
        clear HC a; intro a HC
        refine qq_yes HC.has rfl rfl ?_
        refine qc_q HC (q_cast (q_sliceToS Tryd.underlying9 rfl rfl (by omega) (by rw [strB_size, List.length_append]; omega)) (show _ = Value.string (strB p.body) from congrArg Value.string (strB_take _ _))) rfl (by kernel_rfl) ?_
        clear HC a; intro a HC
        refine qq_yes HC.has rfl rfl ?_
        refine qc_q HC (q_cast (q_neqS rfl rfl) (show _ = Value.bool false by simp)) rfl (by kernel_rfl) ?_
        clear HC a; intro a HC
        refine qc_or (j := 10) HC rfl rfl rfl (by kernel_rfl) (by kernel_rfl) ?_
        clear HC a; intro a HC
        have H := HC.has; clear HC
        refine qq_nil ?_
        intro w22 hE23
        replace hS := hS.ext hE23
        refine then_normal ?_
        refine c_cond H rfl (fun hc121 => ?_) (fun hc121 => ?_)
        · skip
          cases hc121
        · skip
          refine wp_skip ?_
          refine block_normal ?_
          refine then_normal ?_
          refine wp_region_lit ?_
          refine n_q H (q_move rfl) rfl ?_
          clear H a; intro a H
          refine n_q H (q_add rfl rfl (by constructor <;> omega)) rfl ?_
          clear H a; intro a H
          refine n_q H (q_assign rfl) rfl ?_
          clear H a; intro a H
          refine n_nil ?_
          refine then_normal ?_
          replace hS := hS.pick 4 rfl
          dsimp only [List.eraseIdx] at hS
          replace hS := hS.pick 4 rfl
          dsimp only [List.eraseIdx] at hS
          replace hS := hS.pick 4 rfl
          dsimp only [List.eraseIdx] at hS
          replace hS := hS.pick 4 rfl
          dsimp only [List.eraseIdx] at hS
          replace hS := hS.pick 4 rfl
          dsimp only [List.eraseIdx] at hS
          replace hS := St.starPut (f := pairP) (c' := p) (by omega) hS
          rw [set_same hp] at hS
          replace hS := hS.pick 3 rfl
          dsimp only [List.eraseIdx] at hS
          replace hS := hS.pick 3 rfl
          dsimp only [List.eraseIdx] at hS
          replace hS := hS.pick 2 rfl
          dsimp only [List.eraseIdx] at hS
          replace hS := hS.pick 3 rfl
          dsimp only [List.eraseIdx] at hS
          exact round (i + 1) H ⟨rfl, rfl, rfl, rfl, trivial⟩ ⟨by omega, hS⟩ (by first | omega | (dsimp only; omega))
      · skip
        refine wp_exit ?_
        refine then_exit ?_
        refine then_exit ?_
        refine block_exit ?_
        refine then_normal ?_
        refine wp_seq ?_
        refine wp_region_lit ?_
        refine n_q H (q_assign rfl) rfl ?_
        clear H a; intro a H
        refine n_nil ?_
        refine then_normal ?_
        refine wp_ret ?_
        replace hS := hS.take 0
        simp only [List.take_succ_cons, List.take_zero] at hS
        refine ret1 H (.inr rfl) rfl rfl ?_
        exact ⟨rfl, hS⟩

end Go.Proofs.YtnhjohcgnmogaaaDoor
