/- How the rules of XCore are met in a walk: a region in the text's order, a region that draws its order, calls, code. No program is named here. -/
import Derived.Test.YtnhjohcgnmogaaaDoorCore
set_option linter.unusedVariables false
set_option linter.unusedSimpArgs false
set_option linter.unusedSectionVars false
namespace Go.Proofs.YtnhjohcgnmogaaaDoor
open Go Go.RowKit

section
variable {P : Program} {ops : Array Oper} {Q : Exit → Act → World → Prop} {rest : List Oper} {a : Act} {n : Nat} {l : List (Nat × Option Value)} {lc : List (Nat × (Nat × Bool) × Value)} {w : World}
  {op : Op} {ty : TypeId} {pos : String} {af : Array Edge} {d : Nat} {v : Value}

/-! ### 1. A region in the text's order -/
theorem n_q (H : Has a n l) (q : Q1 P (lo l) op (Ext w) v) (hd : Nat.blt d n = true) (h : ∀ a', Has a' n ((d, some v) :: l) → wpList P ops Q rest a' w) :
    wpList P ops Q (⟨some d, op, ty, pos, af, none⟩ :: rest) a w :=
  wpList_plain rfl fun K hK => by
    unfold Oper.wp
    rw [q a.eval H.eval w Ext.rfl' (some d) ty pos af none]
    exact hK _ _ (h _ (H.put d v hd))

/-- A guarded region begins. -/
theorem n_c (H : Has a n l) (h : HasC ops a n l [] → wpList P ops Q rest a w) : wpList P ops Q rest a w := h (H.c ops)

theorem nc_q (H : HasC ops a n l lc) (q : Q1 P (lo l) op (Ext w) v) (hd : Nat.blt d n = true) (hk : okc ops d lc = true) (h : ∀ a', HasC ops a' n ((d, some v) :: l) lc → wpList P ops Q rest a' w) :
    wpList P ops Q (⟨some d, op, ty, pos, af, none⟩ :: rest) a w :=
  wpList_plain rfl fun K hK => by
    unfold Oper.wp
    rw [q a.eval H.has.eval w Ext.rfl' (some d) ty pos af none]
    exact hK _ _ (h _ (H.put d v hd hk))

theorem wanted_iff {ops : Array Oper} {tm : Array Value} {g : Nat × Bool} {o : Oper} (ho : o.guard = some g) : Region.wanted o (yielded ops tm) = true ↔ yielded ops tm g.1 = some g.2 := by
  obtain ⟨j, b⟩ := g
  simp [Region.wanted, ho]

/-- A guarded operation. -/
theorem nc_g {g : Nat × Bool} (H : HasC ops a n l lc) (q : Q1 P (loc l lc g) op (Ext w) v) (hd : Nat.blt d n = true) (hk : okc ops d lc = true)
    (hg : (match (ops[g.1]?).bind (·.dst) with | some t => !(Nat.beq t d) | none => true) = true)
    (h : ∀ a', HasC ops a' n ((d, none) :: l) ((d, g, v) :: lc) → wpList P ops Q rest a' w) :
    wpList P ops Q (⟨some d, op, ty, pos, af, some g⟩ :: rest) a w := by
  refine wpList_step fun K hK => ?_
  by_cases hw : Region.wanted ⟨some d, op, ty, pos, af, some g⟩ (yielded ops a.tmps) = true
  · rw [if_pos hw]
    have hy := (wanted_iff (o := ⟨some d, op, ty, pos, af, some g⟩) rfl).1 hw
    unfold Oper.wp
    rw [q a.eval (H.eval g hy) w Ext.rfl' (some d) ty pos af (some g)]
    exact hK _ _ (h _ (H.putg g d v v hd hk hg fun _ => rfl))
  · rw [if_neg hw]
    have hy := fun e => hw ((wanted_iff (o := ⟨some d, op, ty, pos, af, some g⟩) rfl).2 e)
    exact hK _ _ (h _ (H.putg g d v undef hd hk hg fun e => absurd e hy))

theorem loc_eval {g : Nat × Bool} (H : HasC ops a n l lc) (hy : yielded ops a.tmps g.1 = some g.2) {x : Operand} {v : Value} (e : loc l lc g x = some v) : a.eval x = v := H.eval g hy x v e

theorem yielded_of {j t : Nat} {b : Bool} (H : Has a n l) (hj : (ops[j]?).bind (·.dst) = some t) (ht : lk l t = some (.bool b)) : yielded ops a.tmps j = some b := by
  simp [yielded, hj, H.val t _ ht]
theorem yielded_ofc {j t : Nat} {b : Bool} {g : Nat × Bool} (H : HasC ops a n l lc) (hy : yielded ops a.tmps g.1 = some g.2) (hj : (ops[j]?).bind (·.dst) = some t) (ht : loc l lc g (.tmp t) = some (.bool b)) : yielded ops a.tmps j = some b := by
  have : a.tmps[t]? = some (.bool b) := by
    simp only [loc] at ht
    split at ht
    · rename_i u hu
      cases ht
      exact H.has.val t _ hu
    · exact H.valc g t _ hy ht
  simp [yielded, hj, this]

theorem eval_const {v : Value} : a.eval (.const v) = v := rfl

/-- 'x && y': the pick behind y's operations. -/
theorem pick_and {j t r : Nat} {b u : Bool} (H : HasC ops a n l lc) (hj : (ops[j]?).bind (·.dst) = some t) (ht : lk l t = some (.bool b)) (hr : loc l lc (j, true) (.tmp r) = some (.bool u)) :
    QuietR P a.eval (.pick (.tmp t) (.tmp r) (.const (.bool false))) (Ext w) (.bool (b && u)) := by
  intro w' _ dst ty pos af g
  have e1 := H.has.eval (.tmp t) _ ht
  cases b with
  | false => simp [execOp, e1, asBool, eval_const]
  | true =>
    have e2 := H.eval (j, true) (yielded_of H.has hj ht) (.tmp r) _ hr
    simp [execOp, e1, e2, asBool]
/-- 'x || y'. -/
theorem pick_or {j t r : Nat} {b u : Bool} (H : HasC ops a n l lc) (hj : (ops[j]?).bind (·.dst) = some t) (ht : lk l t = some (.bool b)) (hr : loc l lc (j, false) (.tmp r) = some (.bool u)) :
    QuietR P a.eval (.pick (.tmp t) (.const (.bool true)) (.tmp r)) (Ext w) (.bool (b || u)) := by
  intro w' _ dst ty pos af g
  have e1 := H.has.eval (.tmp t) _ ht
  cases b with
  | true => simp [execOp, e1, asBool, eval_const]
  | false =>
    have e2 := H.eval (j, false) (yielded_of H.has hj ht) (.tmp r) _ hr
    simp [execOp, e1, e2, asBool]

theorem nc_and {j t r : Nat} {b u : Bool} (H : HasC ops a n l lc) (hj : (ops[j]?).bind (·.dst) = some t) (ht : lk l t = some (.bool b)) (hr : loc l lc (j, true) (.tmp r) = some (.bool u)) (hd : Nat.blt d n = true) (hk : okc ops d lc = true)
    (h : ∀ a', HasC ops a' n ((d, some (.bool (b && u))) :: l) lc → wpList P ops Q rest a' w) :
    wpList P ops Q (⟨some d, .pick (.tmp t) (.tmp r) (.const (.bool false)), ty, pos, af, none⟩ :: rest) a w :=
  wpList_plain rfl fun K hK => by
    unfold Oper.wp
    rw [pick_and (P := P) (w := w) H hj ht hr w Ext.rfl' (some d) ty pos af none]
    exact hK _ _ (h _ (H.put d _ hd hk))
theorem nc_or {j t r : Nat} {b u : Bool} (H : HasC ops a n l lc) (hj : (ops[j]?).bind (·.dst) = some t) (ht : lk l t = some (.bool b)) (hr : loc l lc (j, false) (.tmp r) = some (.bool u)) (hd : Nat.blt d n = true) (hk : okc ops d lc = true)
    (h : ∀ a', HasC ops a' n ((d, some (.bool (b || u))) :: l) lc → wpList P ops Q rest a' w) :
    wpList P ops Q (⟨some d, .pick (.tmp t) (.const (.bool true)) (.tmp r), ty, pos, af, none⟩ :: rest) a w :=
  wpList_plain rfl fun K hK => by
    unfold Oper.wp
    rw [pick_or (P := P) (w := w) H hj ht hr w Ext.rfl' (some d) ty pos af none]
    exact hK _ _ (h _ (H.put d _ hd hk))

/-! the same where the pick is itself guarded ('a && (b || c)') -/
theorem nc_andg {j t r : Nat} {b u : Bool} {g : Nat × Bool} (H : HasC ops a n l lc) (hj : (ops[j]?).bind (·.dst) = some t) (ht : loc l lc g (.tmp t) = some (.bool b)) (hr : loc l lc (j, true) (.tmp r) = some (.bool u)) (hd : Nat.blt d n = true) (hk : okc ops d lc = true)
    (hg : (match (ops[g.1]?).bind (·.dst) with | some t => !(Nat.beq t d) | none => true) = true)
    (h : ∀ a', HasC ops a' n ((d, none) :: l) ((d, g, .bool (b && u)) :: lc) → wpList P ops Q rest a' w) :
    wpList P ops Q (⟨some d, .pick (.tmp t) (.tmp r) (.const (.bool false)), ty, pos, af, some g⟩ :: rest) a w := by
  refine wpList_step fun K hK => ?_
  by_cases hw : Region.wanted ⟨some d, .pick (.tmp t) (.tmp r) (.const (.bool false)), ty, pos, af, some g⟩ (yielded ops a.tmps) = true
  · rw [if_pos hw]
    have hy := (wanted_iff (o := ⟨some d, .pick (.tmp t) (.tmp r) (.const (.bool false)), ty, pos, af, some g⟩) rfl).1 hw
    have e1 := H.eval g hy (.tmp t) _ ht
    have hyj := yielded_ofc H hy hj ht
    have hrun : (execOp a.eval ⟨some d, .pick (.tmp t) (.tmp r) (.const (.bool false)), ty, pos, af, some g⟩).run P w = .ok (.value (.bool (b && u))) w := by
      cases b with
      | false => simp [execOp, e1, asBool, eval_const]
      | true => simp [execOp, e1, H.eval (j, true) hyj (.tmp r) _ hr, asBool]
    unfold Oper.wp
    rw [hrun]
    exact hK _ _ (h _ (H.putg g d _ _ hd hk hg fun _ => rfl))
  · rw [if_neg hw]
    have hy := fun e => hw ((wanted_iff (o := ⟨some d, .pick (.tmp t) (.tmp r) (.const (.bool false)), ty, pos, af, some g⟩) rfl).2 e)
    exact hK _ _ (h _ (H.putg g d _ undef hd hk hg fun e => absurd e hy))
theorem nc_org {j t r : Nat} {b u : Bool} {g : Nat × Bool} (H : HasC ops a n l lc) (hj : (ops[j]?).bind (·.dst) = some t) (ht : loc l lc g (.tmp t) = some (.bool b)) (hr : loc l lc (j, false) (.tmp r) = some (.bool u)) (hd : Nat.blt d n = true) (hk : okc ops d lc = true)
    (hg : (match (ops[g.1]?).bind (·.dst) with | some t => !(Nat.beq t d) | none => true) = true)
    (h : ∀ a', HasC ops a' n ((d, none) :: l) ((d, g, .bool (b || u)) :: lc) → wpList P ops Q rest a' w) :
    wpList P ops Q (⟨some d, .pick (.tmp t) (.const (.bool true)) (.tmp r), ty, pos, af, some g⟩ :: rest) a w := by
  refine wpList_step fun K hK => ?_
  by_cases hw : Region.wanted ⟨some d, .pick (.tmp t) (.const (.bool true)) (.tmp r), ty, pos, af, some g⟩ (yielded ops a.tmps) = true
  · rw [if_pos hw]
    have hy := (wanted_iff (o := ⟨some d, .pick (.tmp t) (.const (.bool true)) (.tmp r), ty, pos, af, some g⟩) rfl).1 hw
    have e1 := H.eval g hy (.tmp t) _ ht
    have hyj := yielded_ofc H hy hj ht
    have hrun : (execOp a.eval ⟨some d, .pick (.tmp t) (.const (.bool true)) (.tmp r), ty, pos, af, some g⟩).run P w = .ok (.value (.bool (b || u))) w := by
      cases b with
      | true => simp [execOp, e1, asBool, eval_const]
      | false => simp [execOp, e1, H.eval (j, false) hyj (.tmp r) _ hr, asBool]
    unfold Oper.wp
    rw [hrun]
    exact hK _ _ (h _ (H.putg g d _ _ hd hk hg fun _ => rfl))
  · rw [if_neg hw]
    have hy := fun e => hw ((wanted_iff (o := ⟨some d, .pick (.tmp t) (.const (.bool true)) (.tmp r), ty, pos, af, some g⟩) rfl).2 e)
    exact hK _ _ (h _ (H.putg g d _ undef hd hk hg fun e => absurd e hy))

theorem n_nil (h : Q .normal a w) : wpList P ops Q [] a w := h

/-! ### 2. Operations that make or write memory -/
/-- A step by its run. -/
theorem n_run {w' : World} (H : Has a n l) (hr : ∀ ρ : Operand → Value, (∀ x u, lo l x = some u → ρ x = u) → (execOp ρ ⟨some d, op, ty, pos, af, none⟩).run P w = .ok (.value v) w') (hd : Nat.blt d n = true)
    (h : ∀ a', Has a' n ((d, some v) :: l) → wpList P ops Q rest a' w') : wpList P ops Q (⟨some d, op, ty, pos, af, none⟩ :: rest) a w :=
  wpList_plain rfl fun K hK => by
    unfold Oper.wp
    rw [hr a.eval H.eval]
    exact hK _ _ (h _ (H.put d v hd))
theorem n_run0 {w' : World} {dst : Option Nat} (H : Has a n l) (hr : ∀ ρ : Operand → Value, (∀ x u, lo l x = some u → ρ x = u) → (execOp ρ ⟨dst, op, ty, pos, af, none⟩).run P w = .ok .skip w') (hd : dst = none)
    (h : ∀ a', Has a' n l → wpList P ops Q rest a' w') : wpList P ops Q (⟨dst, op, ty, pos, af, none⟩ :: rest) a w :=
  wpList_plain rfl fun K hK => by
    subst hd
    unfold Oper.wp
    rw [hr a.eval H.eval]
    exact hK _ _ (h _ H)

/-- A new variable that holds a value (of one cell, or a struct). -/
theorem n_box {x : Operand} {T : TypeId} {u : Value} {cs : List Value} (H : Has a n l) (e : lo l x = some u) (hc : u.cells = cs.toArray) (hd : Nat.blt d n = true)
    (h : ∀ b w', Blk w' b cs T → Ext w w' → w.heap.size = b → ∀ a', Has a' n ((d, some (.pointer (some ⟨b, 0, none⟩))) :: l) → wpList P ops Q rest a' w') :
    wpList P ops Q (⟨some d, .box T x, ty, pos, af, none⟩ :: rest) a w :=
  n_run (w' := w.alloc (.cells cs.toArray T)) H (fun ρ hρ => by simp [execOp, hρ x _ e, Instr.box, newVar, newRow, hc]) hd
    (h w.heap.size _ (Blk.new w cs T) (Ext.alloc' _ _) rfl)

def zeroB (P : Program) (t : TypeId) : Option (List Value) := ((P.info? t).bind (·.zero)).map fun z => z.cells.toList

/-- A new variable that holds its type's zero value. -/
theorem n_alloc {T : TypeId} {cs : List Value} (H : Has a n l) (hz : zeroB P T = some cs) (hd : Nat.blt d n = true)
    (h : ∀ b w', Blk w' b cs T → Ext w w' → w.heap.size = b → ∀ a', Has a' n ((d, some (.pointer (some ⟨b, 0, none⟩))) :: l) → wpList P ops Q rest a' w') :
    wpList P ops Q (⟨some d, .alloc T, ty, pos, af, none⟩ :: rest) a w := by
  unfold zeroB at hz
  cases hi : P.info? T with
  | none => simp [hi] at hz
  | some i =>
    cases hzz : i.zero with
    | none => simp [hi, hzz] at hz
    | some z =>
      simp [hi, hzz] at hz
      have hcs : z.cells = cs.toArray := by rw [← hz]
      exact n_run (w' := w.alloc (.cells cs.toArray T)) H (fun ρ hρ => by simp [execOp, Instr.alloc, zeroValue, typeInfo, hi, hzz, newVar, newRow, hcs]) hd
        (h w.heap.size _ (Blk.new w cs T) (Ext.alloc' _ _) rfl)

/-- Of the old blocks those in S alone have been written. -/
structure Chg (S : List Nat) (w w' : World) : Prop where
  os : w'.os = w.os
  tape : w'.tape = w.tape
  output : w'.output = w.output
  size : w.heap.size ≤ w'.heap.size
  block : ∀ k, k < w.heap.size → k ∉ S → w'.heap[k]? = w.heap[k]?

theorem Chg.refl (S : List Nat) (w : World) : Chg S w w := ⟨rfl, rfl, rfl, Nat.le_refl _, fun _ _ _ => rfl⟩
theorem Chg.trans {S : List Nat} {w1 w2 w3 : World} (h : Chg S w1 w2) (k : Chg S w2 w3) : Chg S w1 w3 :=
  ⟨k.os.trans h.os, k.tape.trans h.tape, k.output.trans h.output, Nat.le_trans h.size k.size, fun i hi hn => (k.block i (Nat.lt_of_lt_of_le hi h.size) hn).trans (h.block i hi hn)⟩
theorem Chg.trans2 {S S2 : List Nat} {w1 w2 w3 : World} (h : Chg S w1 w2) (k : Chg S2 w2 w3) (hs : ∀ b ∈ S2, b < w1.heap.size → b ∈ S) : Chg S w1 w3 :=
  ⟨k.os.trans h.os, k.tape.trans h.tape, k.output.trans h.output, Nat.le_trans h.size k.size, fun i hi hn => (k.block i (Nat.lt_of_lt_of_le hi h.size) fun hm => hn (hs i hm hi)).trans (h.block i hi hn)⟩
theorem Chg.of_ext {S : List Nat} {w w' : World} (e : Ext w w') : Chg S w w' := ⟨e.os, e.tape, e.output, e.size, fun k hk _ => e.block k hk⟩
theorem Chg.mono {S S' : List Nat} {w w' : World} (h : Chg S w w') (hs : ∀ k ∈ S, k < w.heap.size → k ∈ S') : Chg S' w w' :=
  ⟨h.os, h.tape, h.output, h.size, fun k hk hn => h.block k hk fun hm => hn (hs k hm hk)⟩
theorem Chg.blk {S : List Nat} {w w' : World} {b : Nat} {cs : List Value} {T : TypeId} (h : Chg S w w') (k : Blk w b cs T) (hn : b ∉ S) : Blk w' b cs T := by
  have hl := k.lt
  obtain ⟨fr, h1, h2⟩ := k
  exact ⟨fr, (h.block b hl hn).trans h1, h2⟩
theorem Chg.below {S : List Nat} {B : Nat} {w0 w w' : World} (h : Below B w0 w) (k : Chg S w w') (hB : B ≤ w0.heap.size) (hs : ∀ b ∈ S, B ≤ b) : Below B w0 w' :=
  ⟨k.os.trans h.os, k.tape.trans h.tape, k.output.trans h.output, Nat.le_trans h.size k.size, fun i hi => (k.block i (Nat.lt_of_lt_of_le hi (Nat.le_trans hB h.size)) fun hm => by have := hs i hm; omega).trans (h.block i hi)⟩

theorem storeCells_blk (P : Program) (w : World) (b : Nat) (T : TypeId) : ∀ (vs : List Value) (i o : Nat) (cs : List Value), Blk w b cs T → o + i + vs.length ≤ cs.length → (∀ u ∈ vs, u.oneCell' = true) →
    ∃ w', (storeCells ⟨b, o, none⟩ vs i).run P w = .ok () w' ∧ Blk w' b (cs.take (o + i) ++ vs ++ cs.drop (o + i + vs.length)) T ∧ Chg [b] w w' ∧ w'.heap.size = w.heap.size
  | [], i, o, cs, hb, hl, _ => ⟨w, by simp [storeCells], by simpa using hb, Chg.refl _ _, rfl⟩
  | v :: vs, i, o, cs, hb, hl, h1 => by
    simp only [List.length_cons] at hl
    have hc : w.cell? ((⟨b, o, none⟩ : Addr).add i) = some cs[o + i] := by rw [plain_add', hb.cell, List.getElem?_eq_getElem (by omega)]
    have hf : w.frozen? ((⟨b, o, none⟩ : Addr).add i) = false := by rw [plain_add']; exact hb.frozen (by omega)
    have hst := run_store P w ((⟨b, o, none⟩ : Addr).add i) v .plain (h1 v List.mem_cons_self)
    rw [hc, hf] at hst
    simp only [Bool.false_eq_true, if_false] at hst
    have hb' : Blk (w.setCell ((⟨b, o, none⟩ : Addr).add i) v) b (cs.set (o + i) v) T := by
      rw [plain_add']
      exact hb.set (o + i) v
    obtain ⟨w', hr, hb2, hch, hsz⟩ := storeCells_blk P (w.setCell ((⟨b, o, none⟩ : Addr).add i) v) b T vs (i + 1) o (cs.set (o + i) v) hb' (by simp; omega) (fun u hu => h1 u (List.mem_cons_of_mem _ hu))
    refine ⟨w', by simp [storeCells, hst, hr], ?_, ?_, by rw [hsz]; simp⟩
    · have e : cs.take (o + i) ++ (v :: vs) ++ cs.drop (o + i + (v :: vs).length) = (cs.set (o + i) v).take (o + (i + 1)) ++ vs ++ (cs.set (o + i) v).drop (o + (i + 1) + vs.length) := by
        apply List.ext_getElem?
        intro j
        simp only [List.length_cons, List.getElem?_append, List.length_take, List.length_append, List.length_set, List.getElem?_take, List.getElem?_drop, List.getElem?_set]
        rcases Nat.lt_trichotomy j (o + i) with h | h | h
        · have a1 : j < min (o + i) cs.length := by omega
          have a2 : j < min (o + i) cs.length + (vs.length + 1) := by omega
          have a3 : j < min (o + (i + 1)) cs.length := by omega
          have a4 : j < min (o + (i + 1)) cs.length + vs.length := by omega
          simp [a1, a2, a3, a4, h, show j < o + (i + 1) by omega, show o + i ≠ j by omega]
        · subst h
          have a1 : ¬ (o + i) < min (o + i) cs.length := by omega
          have a2 : (o + i) < min (o + i) cs.length + (vs.length + 1) := by omega
          have a3 : (o + i) < min (o + (i + 1)) cs.length := by omega
          have a4 : (o + i) < min (o + (i + 1)) cs.length + vs.length := by omega
          have a5 : (o + i) - min (o + i) cs.length = 0 := by omega
          simp [a1, a2, a3, a4, a5, show o + i < o + (i + 1) by omega, show o + i < cs.length by omega]
        · have a1 : ¬ j < min (o + i) cs.length := by omega
          have a3 : ¬ j < min (o + (i + 1)) cs.length := by omega
          by_cases hj : j < o + i + 1 + vs.length
          · have a2 : j < min (o + i) cs.length + (vs.length + 1) := by omega
            have a4 : j < min (o + (i + 1)) cs.length + vs.length := by omega
            obtain ⟨m, hm⟩ : ∃ m, j - min (o + i) cs.length = m + 1 := ⟨j - min (o + i) cs.length - 1, by omega⟩
            have hm' : j - min (o + (i + 1)) cs.length = m := by omega
            simp [a1, a2, a3, a4, hm, hm']
          · have a2 : ¬ j < min (o + i) cs.length + (vs.length + 1) := by omega
            have a4 : ¬ j < min (o + (i + 1)) cs.length + vs.length := by omega
            simp only [a1, a2, a3, a4, if_false]
            have x1 : o + i + (vs.length + 1) + (j - (min (o + i) cs.length + (vs.length + 1))) = j := by omega
            have x2 : o + (i + 1) + vs.length + (j - (min (o + (i + 1)) cs.length + vs.length)) = j := by omega
            rw [x1, x2, if_neg (by omega)]
      rw [e]
      exact hb2
    · have c1 : Chg [b] w (w.setCell ((⟨b, o, none⟩ : Addr).add i) v) := ⟨rfl, rfl, rfl, by simp, fun k hk hn => heap_setCell_other w _ k v (by rw [add_block]; exact fun e => hn (by rw [e]; exact List.mem_singleton.2 rfl))⟩
      exact c1.trans hch

/-- A store into a block of the call's own, or into a struct behind a pointer. -/
theorem n_store {x y : Operand} {t T : TypeId} {b o : Nat} {u : Value} {vs cs : List Value} (H : Has a n l) (ex : lo l x = some (.pointer (some ⟨b, o, none⟩))) (ey : lo l y = some u) (hc : u.cells = vs.toArray) (hs : sizeB P t = some vs.length)
    (hb : Blk w b cs T) (hl : o + vs.length ≤ cs.length) (h1 : ∀ u ∈ vs, u.oneCell' = true)
    (h : ∀ w', Blk w' b (cs.take o ++ vs ++ cs.drop (o + vs.length)) T → Chg [b] w w' → w'.heap.size = w.heap.size → ∀ a', Has a' n l → wpList P ops Q rest a' w') :
    wpList P ops Q (⟨none, .store t x y, ty, pos, af, none⟩ :: rest) a w := by
  obtain ⟨w', hr, hb', hch, hsz⟩ := storeCells_blk P w b T vs 0 o cs hb (by omega) h1
  refine n_run0 (w' := w') H (fun ρ hρ => ?_) rfl (h w' (by simpa using hb') hch hsz)
  simp [execOp, hρ x _ ex, hρ y _ ey, Instr.storeAt, Instr.sureAddr, storeVar, hc, run_sizeOf hs, hr]

/-! ### 3. Calls -/
/-- The call returns a value of which Φ holds. -/
def Ret (Φ : Value → World → Prop) (e : Ending) (w : World) : Prop := ∃ v, e = .returned v ∧ Φ v w

theorem Ret.mono {P : Program} {f : FuncId} {args : Array Value} {w : World} {Φ Ψ : Value → World → Prop} (h : Calls P f args w (Ret Φ)) (k : ∀ v w', Φ v w' → Ψ v w') : Calls P f args w (Ret Ψ) :=
  h.mono fun _ _ ⟨v, he, hv⟩ => ⟨v, he, k v _ hv⟩

/-- The function has a body and is no body-less one of the runtime's: the machine enters it. -/
def entersB (P : Program) (f : FuncId) : Bool :=
  match P.funcs[f]? with
  | some fn => !(fn.name == "runtime.NumGoroutine") && fn.body.isSome
  | none => false

theorem run_callFunc_enters {f : FuncId} (h : entersB P f = true) (args : Array Value) (w : World) : (callFunc f args).run P w = .ok (.enter f args) w := by
  unfold entersB at h
  cases hf : P.funcs[f]? with
  | none => simp [hf] at h
  | some fn =>
    simp only [hf, Bool.and_eq_true, Bool.not_eq_true'] at h
    obtain ⟨h1, h2⟩ := h
    have h3 : fn.body ≠ none := by intro e; rw [e] at h2; cases h2
    have h4 : fn.name ≠ "runtime.NumGoroutine" := by simpa using h1
    simp [callFunc, hf, h4, h3]

def loAll (l : List (Nat × Option Value)) : List Operand → Option (List Value)
  | [] => some []
  | x :: xs => match lo l x, loAll l xs with
    | some v, some vs => some (v :: vs)
    | _, _ => none

theorem loAll_map {ρ : Operand → Value} (h : ∀ x u, lo l x = some u → ρ x = u) : ∀ (xs : List Operand) (vs : List Value), loAll l xs = some vs → xs.map ρ = vs
  | [], vs, e => by simp [loAll] at e; simp [← e]
  | x :: xs, vs, e => by
    simp only [loAll] at e
    split at e
    · rename_i v vs' h1 h2
      cases e
      simp [h x v h1, loAll_map h xs vs' h2]
    · cases e

theorem wp_call {o : Oper} {K : Act → World → Prop} {f : FuncId} {args : Array Value} {Φ : Value → World → Prop} (hr : (execOp a.eval o).run P w = .ok (.enter f args) w) (hc : Calls P f args w (Ret Φ))
    (h : ∀ v w', Φ v w' → K (a.put o.dst v) w') : o.wp P a w K Q := by
  unfold Oper.wp
  rw [hr]
  refine hc.mono fun e w' he => ?_
  obtain ⟨v, rfl, hv⟩ := he
  exact h v w' hv

/-- A call of a named function. -/
theorem n_call {f : FuncId} {xs : List Operand} {tys : Array TypeId} {vs : List Value} {Φ : Value → World → Prop} (H : Has a n l) (e : loAll l xs = some vs) (hf : entersB P f = true) (hc : Calls P f vs.toArray w (Ret Φ)) (hd : Nat.blt d n = true)
    (h : ∀ v w', Φ v w' → ∀ a', Has a' n ((d, some v) :: l) → wpList P ops Q rest a' w') :
    wpList P ops Q (⟨some d, .call { callee := .value (.func f), args := xs.toArray, argTypes := tys }, ty, pos, af, none⟩ :: rest) a w :=
  wpList_plain rfl fun K hK => by
    refine wp_call (f := f) (args := vs.toArray) (by
      have := loAll_map H.eval xs vs e
      simp [execOp, resolve, Act.eval, Deferred.ofValue, invoke, run_callFunc_enters hf, this]) hc fun v w' hv => hK _ _ (h v w' hv _ (H.put d v hd))

/-- A call of a function value: a literal that captured 'cap'. -/
theorem n_callv {f : FuncId} {x : Operand} {xs : List Operand} {tys : Array TypeId} {vs first cap : List Value} {Φ : Value → World → Prop} (H : Has a n l) (ex : lo l x = some (.func (.func f) first.toArray cap.toArray)) (e : loAll l xs = some vs) (hf : entersB P f = true)
    (hc : Calls P f (first ++ vs ++ cap).toArray w (Ret Φ)) (hd : Nat.blt d n = true)
    (h : ∀ v w', Φ v w' → ∀ a', Has a' n ((d, some v) :: l) → wpList P ops Q rest a' w') :
    wpList P ops Q (⟨some d, .call { callee := .value x, args := xs.toArray, argTypes := tys }, ty, pos, af, none⟩ :: rest) a w :=
  wpList_plain rfl fun K hK => by
    refine wp_call (f := f) (args := (first ++ vs ++ cap).toArray) (by
      have := loAll_map H.eval xs vs e
      simp [execOp, resolve, H.eval x _ ex, Deferred.ofValue, invoke, run_callFunc_enters hf, this]) hc fun v w' hv => hK _ _ (h v w' hv _ (H.put d v hd))

/-! ### 4. Code -/
theorem c_region {id : Nat} (h : wpList P ops Q ops.toList a w) : (Code.region id ops false).wp P Q a w := wp_region_list h
theorem c_cond {c : Operand} {x y : Code} {b : Bool} (H : Has a n l) (e : lo l c = some (.bool b)) (ht : b = true → x.wp P Q a w) (hf : b = false → y.wp P Q a w) : (Code.cond c x y).wp P Q a w :=
  wp_cond_split (H.eval c _ e) ht hf

def enumL : Nat → List Value → List (Nat × Option Value)
  | _, [] => []
  | i, v :: vs => (i, some v) :: enumL (i + 1) vs

theorem lk_enumL : ∀ (vs : List Value) (i t : Nat) (v : Value), lk (enumL i vs) t = some v → i ≤ t ∧ vs[t - i]? = some v
  | [], i, t, v, e => by simp [enumL, lk] at e
  | u :: vs, i, t, v, e => by
    simp only [enumL, lk] at e
    cases hq : Nat.beq i t with
    | true =>
      rw [hq] at e
      have := Nat.eq_of_beq_eq_true hq
      subst this
      simp only [cond_true] at e
      simp [e]
    | false =>
      rw [hq] at e
      obtain ⟨h1, h2⟩ := lk_enumL vs (i + 1) t v e
      refine ⟨by omega, ?_⟩
      rw [show t - i = (t - (i + 1)) + 1 by omega, List.getElem?_cons_succ]
      exact h2

theorem enter {f : FuncId} {fn : Func} {c : Code} {vs : List Value} {R : Ending → World → Prop} (hf : P.funcs[f]? = some fn) (hb : fn.body = some c) (hn : fn.ntmps = n) (hle : Nat.ble vs.length n = true)
    (h : ∀ a, Has a n (enumL 0 vs) → c.wp P (bodyPost P fn R) a w) : Calls P f vs.toArray w R := by
  refine calls_of_wp hf hb (h _ ⟨?_, rfl, fun t v e => ?_⟩)
  · have := Nat.le_of_ble_eq_true hle
    simp [hn]; omega
  · obtain ⟨_, h2⟩ := lk_enumL vs 0 t v e
    simp only [Nat.sub_zero] at h2
    have hlt : t < vs.length := (List.getElem?_eq_some_iff.1 h2).1
    simp [hn, Array.getElem?_append, hlt]
    exact (List.getElem?_eq_some_iff.1 h2).2

theorem ret0 {fn : Func} {Φ : Value → World → Prop} {e : Exit} (H : Has a n l) (he : e = .normal ∨ e = .ret) (hr : fn.results = #[]) (h : Φ (.tuple #[]) w) : bodyPost P fn (Ret Φ) e a w := by
  rcases he with rfl | rfl <;> exact ⟨H.defers, _, results_none hr _ _ _, _, rfl, h⟩
theorem ret1 {fn : Func} {Φ : Value → World → Prop} {e : Exit} {t : Nat} (H : Has a n l) (he : e = .normal ∨ e = .ret) (hr : fn.results = #[.tmp t]) (hv : lk l t = some v) (h : Φ v w) : bodyPost P fn (Ret Φ) e a w := by
  have hres : (results fn a.tmps).run P w = .ok v w := by rw [results_tmp hr]; simp [H.val t v hv]
  rcases he with rfl | rfl <;> exact ⟨H.defers, v, hres, v, rfl, h⟩
theorem ret2 {fn : Func} {Φ : Value → World → Prop} {e : Exit} {t u : Nat} {v2 : Value} (H : Has a n l) (he : e = .normal ∨ e = .ret) (hr : fn.results = #[.tmp t, .tmp u]) (hv : lk l t = some v) (hu : lk l u = some v2) (h : Φ (.tuple #[v, v2]) w) : bodyPost P fn (Ret Φ) e a w := by
  have hres : (results fn a.tmps).run P w = .ok (.tuple #[v, v2]) w := by rw [results_tmp2 hr]; simp [H.val t v hv, H.val u v2 hu]
  rcases he with rfl | rfl <;> exact ⟨H.defers, _, hres, _, rfl, h⟩
end

/-! ### 5. The ways out of a piece of code -/
section
variable {P : Program} {Q : Exit → Act → World → Prop} {K : Act → World → Prop} {a : Act} {w : World} {n : Nat} {l : List (Nat × Option Value)}
theorem then_normal (h : K a w) : Exit.then K Q .normal a w := h
theorem then_exit {id : Nat} (h : Q (.exit id) a w) : Exit.then K Q (.exit id) a w := h
theorem then_ret (h : Q .ret a w) : Exit.then K Q .ret a w := h
theorem block_normal {id : Nat} (h : Q .normal a w) : Exit.inBlock id Q .normal a w := h
theorem block_exit {id : Nat} (h : Q .normal a w) : Exit.inBlock id Q (.exit id) a w := by simp only [Exit.inBlock, if_true]; exact h
theorem block_other {id id' : Nat} (hne : Nat.beq id' id = false) (h : Q (.exit id') a w) : Exit.inBlock id Q (.exit id') a w := by
  have : id' ≠ id := fun e => by rw [e, Nat.beq_refl] at hne; cases hne
  simp only [Exit.inBlock, if_neg this]; exact h
theorem block_ret {id : Nat} (h : Q .ret a w) : Exit.inBlock id Q .ret a w := h

/-- What a loop hands to its next round. -/
def Round {σ : Type} (n : Nat) (L : σ → List (Nat × Value)) (R : σ → World → Prop) (μ : σ → Nat) (x : σ) (a : Act) (w : World) : Prop :=
  ∃ x' l', Has a n l' ∧ Sub (L x') l' ∧ R x' w ∧ μ x' < μ x
theorem round {σ : Type} {L : σ → List (Nat × Value)} {R : σ → World → Prop} {μ : σ → Nat} {x : σ} (x' : σ) (H : Has a n l) (hs : Sub (L x') l) (hR : R x' w) (hm : μ x' < μ x) : Round n L R μ x a w := ⟨x', l, H, hs, hR, hm⟩

/-- Where two ways meet. -/
def Join {σ : Type} (n : Nat) (L : σ → List (Nat × Value)) (R : σ → World → Prop) (a : Act) (w : World) : Prop := ∃ x l', Has a n l' ∧ Sub (L x) l' ∧ R x w
theorem join {σ : Type} {L : σ → List (Nat × Value)} {R : σ → World → Prop} (x : σ) (H : Has a n l) (hs : Sub (L x) l) (hR : R x w) : Join n L R a w := ⟨x, l, H, hs, hR⟩
theorem c_join {σ : Type} {c1 c2 : Code} (H0 : Has a n l) (L : σ → List (Nat × Value)) (R : σ → World → Prop) (h1 : c1.wp P (Exit.then (Join n L R) Q) a w) (h2 : ∀ x a w, Has a n (ent (L x)) → R x w → c2.wp P Q a w) : (Code.seq c1 c2).wp P Q a w :=
  wp_seq (Code.wp_mono (fun e a w q => by
    cases e with
    | normal =>
      obtain ⟨x, l', H, hs, hR⟩ := q
      exact h2 x a w (H.sub _ hs) hR
    | _ => exact q) h1)

theorem c_loop {σ : Type} {c : Code} (L : σ → List (Nat × Value)) (R : σ → World → Prop) (μ : σ → Nat) (x0 : σ) (H : Has a n l) (hs : Sub (L x0) l) (hR : R x0 w)
    (h : ∀ x a w, Has a n (ent (L x)) → R x w → c.wp P (Exit.then (Round n L R μ x) Q) a w) : (Code.loop c).wp P Q a w := by
  intro b k cs
  have key : ∀ m x a w, μ x = m → Has a n (ent (L x)) → R x w →
      ∃ e a' w', Q e a' w' ∧ Arrives P (lone (b.at a (.code c :: .inLoop c :: k)) cs w) b k cs e a' w' := by
    intro m
    induction m using Nat.strongRecOn with
    | _ m ih =>
      intro x a w hm H hR
      obtain ⟨e, a1, w1, hq, harr⟩ := h x a w H hR b (.inLoop c :: k) cs
      cases e with
      | normal =>
        obtain ⟨x', l', H', hs', hR', hlt⟩ := hq
        obtain ⟨e2, a2, w2, hq2, harr2⟩ := ih (μ x') (hm ▸ hlt) x' a1 w1 rfl (H'.sub _ hs') hR'
        exact ⟨e2, a2, w2, hq2, .of_steps (Steps.trans harr (.one step_inLoop)) harr2⟩
      | exit id => exact ⟨_, a1, w1, hq, .pass (x := .inLoop c) rfl (fun _ _ => .inl (by simp)) harr⟩
      | goto q => exact ⟨_, a1, w1, hq, .pass (x := .inLoop c) rfl (fun _ _ => .inl (by simp)) harr⟩
      | ret => exact ⟨_, a1, w1, hq, .pass (x := .inLoop c) rfl (fun _ _ => .inl (by simp)) harr⟩
      | panic ch => exact ⟨_, a1, w1, hq, .pass (x := .inLoop c) rfl (fun _ _ => .inl (by simp)) harr⟩
      | outgrown => exact ⟨_, a1, w1, hq, .pass (x := .inLoop c) rfl (fun _ _ => .inl (by simp)) harr⟩
  obtain ⟨e, a', w', hq, harr⟩ := key _ x0 a w rfl (H.sub _ hs) hR
  exact ⟨e, a', w', hq, .of_steps (.one step_loop) harr⟩
end

/-! ### 6. A region that draws its order and leaves the world alone but for new blocks: walked in the text's order -/
section
variable {P : Program} {ops : Array Oper} {Q : Exit → Act → World → Prop} {Qp : Act → Prop} {rest : List Oper} {a : Act} {n : Nat} {l : List (Nat × Option Value)} {lc : List (Nat × (Nat × Bool) × Value)} {w : World}
  {op : Op} {ty : TypeId} {pos : String} {af : Array Edge} {d : Nat} {v : Value}

theorem c_quiet {id : Nat} (hm : P.follows .mixedOrders = true) (hB : Region.lexB .any ops = true) (h : wpQuiet P ops (Ext w) (fun a' => ∀ w', Ext w w' → Q .normal a' w') ops.toList a) : (Code.region id ops true).wp P Q a w :=
  wp_region_quiet hm hB (Ext.drew' w) h

theorem qq_nil (h : Qp a) : wpQuiet P ops (Ext w) Qp [] a := h

theorem quietAt_of {o : Oper} {v : Value} {w' : World} (hr : (execOp a.eval o).run P w' = .ok (.value v) w') : o.quietAt P a (Ext w) w' v := by
  unfold Oper.quietAt
  rw [hr]
  exact ⟨rfl, rfl⟩

theorem qq_q (H : Has a n l) (q : Q1 P (lo l) op (Ext w) v) (hd : Nat.blt d n = true) (h : ∀ a', Has a' n ((d, some v) :: l) → wpQuiet P ops (Ext w) Qp rest a') :
    wpQuiet P ops (Ext w) Qp (⟨some d, op, ty, pos, af, none⟩ :: rest) a := by
  refine wpQuiet_step fun K hK => ?_
  rw [if_pos (by simp [Region.wanted])]
  exact ⟨v, fun w' hw => quietAt_of (q a.eval H.eval w' hw (some d) ty pos af none), hK _ (h _ (H.put d v hd))⟩

theorem qq_c (H : Has a n l) (h : HasC ops a n l [] → wpQuiet P ops (Ext w) Qp rest a) : wpQuiet P ops (Ext w) Qp rest a := h (H.c ops)

theorem qc_q (H : HasC ops a n l lc) (q : Q1 P (lo l) op (Ext w) v) (hd : Nat.blt d n = true) (hk : okc ops d lc = true) (h : ∀ a', HasC ops a' n ((d, some v) :: l) lc → wpQuiet P ops (Ext w) Qp rest a') :
    wpQuiet P ops (Ext w) Qp (⟨some d, op, ty, pos, af, none⟩ :: rest) a := by
  refine wpQuiet_step fun K hK => ?_
  rw [if_pos (by simp [Region.wanted])]
  exact ⟨v, fun w' hw => quietAt_of (q a.eval H.has.eval w' hw (some d) ty pos af none), hK _ (h _ (H.put d v hd hk))⟩

theorem qc_g {g : Nat × Bool} (H : HasC ops a n l lc) (q : Q1 P (loc l lc g) op (Ext w) v) (hd : Nat.blt d n = true) (hk : okc ops d lc = true)
    (hg : (match (ops[g.1]?).bind (·.dst) with | some t => !(Nat.beq t d) | none => true) = true)
    (h : ∀ a', HasC ops a' n ((d, none) :: l) ((d, g, v) :: lc) → wpQuiet P ops (Ext w) Qp rest a') :
    wpQuiet P ops (Ext w) Qp (⟨some d, op, ty, pos, af, some g⟩ :: rest) a := by
  refine wpQuiet_step fun K hK => ?_
  by_cases hw : Region.wanted ⟨some d, op, ty, pos, af, some g⟩ (yielded ops a.tmps) = true
  · rw [if_pos hw]
    have hy := (wanted_iff (o := ⟨some d, op, ty, pos, af, some g⟩) rfl).1 hw
    exact ⟨v, fun w' hw' => quietAt_of (q a.eval (H.eval g hy) w' hw' (some d) ty pos af (some g)), hK _ (h _ (H.putg g d v v hd hk hg fun _ => rfl))⟩
  · rw [if_neg hw]
    have hy := fun e => hw ((wanted_iff (o := ⟨some d, op, ty, pos, af, some g⟩) rfl).2 e)
    exact hK _ (h _ (H.putg g d v undef hd hk hg fun e => absurd e hy))

theorem qc_and {j t r : Nat} {b u : Bool} (H : HasC ops a n l lc) (hj : (ops[j]?).bind (·.dst) = some t) (ht : lk l t = some (.bool b)) (hr : loc l lc (j, true) (.tmp r) = some (.bool u)) (hd : Nat.blt d n = true) (hk : okc ops d lc = true)
    (h : ∀ a', HasC ops a' n ((d, some (.bool (b && u))) :: l) lc → wpQuiet P ops (Ext w) Qp rest a') :
    wpQuiet P ops (Ext w) Qp (⟨some d, .pick (.tmp t) (.tmp r) (.const (.bool false)), ty, pos, af, none⟩ :: rest) a := by
  refine wpQuiet_step fun K hK => ?_
  rw [if_pos (by simp [Region.wanted])]
  exact ⟨_, fun w' hw => quietAt_of (pick_and (P := P) (w := w) H hj ht hr w' hw (some d) ty pos af none), hK _ (h _ (H.put d _ hd hk))⟩
theorem qc_or {j t r : Nat} {b u : Bool} (H : HasC ops a n l lc) (hj : (ops[j]?).bind (·.dst) = some t) (ht : lk l t = some (.bool b)) (hr : loc l lc (j, false) (.tmp r) = some (.bool u)) (hd : Nat.blt d n = true) (hk : okc ops d lc = true)
    (h : ∀ a', HasC ops a' n ((d, some (.bool (b || u))) :: l) lc → wpQuiet P ops (Ext w) Qp rest a') :
    wpQuiet P ops (Ext w) Qp (⟨some d, .pick (.tmp t) (.const (.bool true)) (.tmp r), ty, pos, af, none⟩ :: rest) a := by
  refine wpQuiet_step fun K hK => ?_
  rw [if_pos (by simp [Region.wanted])]
  exact ⟨_, fun w' hw => quietAt_of (pick_or (P := P) (w := w) H hj ht hr w' hw (some d) ty pos af none), hK _ (h _ (H.put d _ hd hk))⟩

/-- A call that hands back one and the same value in every world that only has more blocks, and leaves such a world. -/
def CallsQ (P : Program) (f : FuncId) (vs : List Value) (w : World) (v : Value) : Prop := ∀ w', Ext w w' → Calls P f vs.toArray w' (Ret fun u w'' => u = v ∧ Ext w' w'')

theorem quietAt_call {o : Oper} {f : FuncId} {vs : List Value} {v : Value} {w' : World} (hr : (execOp a.eval o).run P w' = .ok (.enter f vs.toArray) w') (hw : Ext w w') (hc : CallsQ P f vs w v) : o.quietAt P a (Ext w) w' v := by
  unfold Oper.quietAt
  rw [hr]
  exact ⟨rfl, (hc w' hw).mono fun e w'' ⟨u, he, hu, hx⟩ => by subst hu; exact ⟨he, hw.trans' hx⟩⟩

def locAll (l : List (Nat × Option Value)) (lc : List (Nat × (Nat × Bool) × Value)) (g : Nat × Bool) : List Operand → Option (List Value)
  | [] => some []
  | x :: xs => match loc l lc g x, locAll l lc g xs with
    | some v, some vs => some (v :: vs)
    | _, _ => none
theorem locAll_map {g : Nat × Bool} {ρ : Operand → Value} (h : ∀ x u, loc l lc g x = some u → ρ x = u) : ∀ (xs : List Operand) (vs : List Value), locAll l lc g xs = some vs → xs.map ρ = vs
  | [], vs, e => by simp [locAll] at e; simp [← e]
  | x :: xs, vs, e => by
    simp only [locAll] at e
    split at e
    · rename_i v vs' h1 h2
      cases e
      simp [h x v h1, locAll_map h xs vs' h2]
    · cases e

theorem qq_call {f : FuncId} {xs : List Operand} {tys : Array TypeId} {vs : List Value} (H : Has a n l) (e : loAll l xs = some vs) (hf : entersB P f = true) (hc : CallsQ P f vs w v) (hd : Nat.blt d n = true)
    (h : ∀ a', Has a' n ((d, some v) :: l) → wpQuiet P ops (Ext w) Qp rest a') :
    wpQuiet P ops (Ext w) Qp (⟨some d, .call { callee := .value (.func f), args := xs.toArray, argTypes := tys }, ty, pos, af, none⟩ :: rest) a := by
  refine wpQuiet_step fun K hK => ?_
  rw [if_pos (by simp [Region.wanted])]
  have := loAll_map H.eval xs vs e
  exact ⟨v, fun w' hw => quietAt_call (f := f) (vs := vs) (by simp [execOp, resolve, Act.eval, Deferred.ofValue, invoke, run_callFunc_enters hf, this]) hw hc, hK _ (h _ (H.put d v hd))⟩
theorem qc_call {f : FuncId} {xs : List Operand} {tys : Array TypeId} {vs : List Value} (H : HasC ops a n l lc) (e : loAll l xs = some vs) (hf : entersB P f = true) (hc : CallsQ P f vs w v) (hd : Nat.blt d n = true) (hk : okc ops d lc = true)
    (h : ∀ a', HasC ops a' n ((d, some v) :: l) lc → wpQuiet P ops (Ext w) Qp rest a') :
    wpQuiet P ops (Ext w) Qp (⟨some d, .call { callee := .value (.func f), args := xs.toArray, argTypes := tys }, ty, pos, af, none⟩ :: rest) a := by
  refine wpQuiet_step fun K hK => ?_
  rw [if_pos (by simp [Region.wanted])]
  have := loAll_map H.has.eval xs vs e
  exact ⟨v, fun w' hw => quietAt_call (f := f) (vs := vs) (by simp [execOp, resolve, Act.eval, Deferred.ofValue, invoke, run_callFunc_enters hf, this]) hw hc, hK _ (h _ (H.put d v hd hk))⟩
/-- A guarded call: the contract may lean on the guard. -/
theorem qc_gcall {j : Nat} {want : Bool} {t : Nat} {b : Bool} {f : FuncId} {xs : List Operand} {tys : Array TypeId} {vs : List Value} (H : HasC ops a n l lc) (hj : (ops[j]?).bind (·.dst) = some t) (ht : lk l t = some (.bool b))
    (e : locAll l lc (j, want) xs = some vs) (hf : entersB P f = true) (hc : b = want → CallsQ P f vs w v) (hd : Nat.blt d n = true) (hk : okc ops d lc = true)
    (hg : (match (ops[j]?).bind (·.dst) with | some t => !(Nat.beq t d) | none => true) = true)
    (h : ∀ a', HasC ops a' n ((d, none) :: l) ((d, (j, want), v) :: lc) → wpQuiet P ops (Ext w) Qp rest a') :
    wpQuiet P ops (Ext w) Qp (⟨some d, .call { callee := .value (.func f), args := xs.toArray, argTypes := tys }, ty, pos, af, some (j, want)⟩ :: rest) a := by
  refine wpQuiet_step fun K hK => ?_
  by_cases hw : Region.wanted ⟨some d, .call { callee := .value (.func f), args := xs.toArray, argTypes := tys }, ty, pos, af, some (j, want)⟩ (yielded ops a.tmps) = true
  · rw [if_pos hw]
    have hy : yielded ops a.tmps j = some want := (wanted_iff (g := (j, want)) (o := ⟨some d, .call { callee := .value (.func f), args := xs.toArray, argTypes := tys }, ty, pos, af, some (j, want)⟩) rfl).1 hw
    have hb : b = want := by
      have := yielded_of (ops := ops) H.has hj ht
      rw [this] at hy
      exact Option.some.inj hy
    have := locAll_map (H.eval (j, want) hy) xs vs e
    exact ⟨v, fun w' hw' => quietAt_call (f := f) (vs := vs) (by simp [execOp, resolve, Act.eval, Deferred.ofValue, invoke, run_callFunc_enters hf, this]) hw' (hc hb), hK _ (h _ (H.putg (j, want) d v v hd hk hg fun _ => rfl))⟩
  · rw [if_neg hw]
    have hy := fun e => hw ((wanted_iff (g := (j, want)) (o := ⟨some d, .call { callee := .value (.func f), args := xs.toArray, argTypes := tys }, ty, pos, af, some (j, want)⟩) rfl).2 e)
    exact hK _ (h _ (H.putg (j, want) d v undef hd hk hg fun e => absurd e hy))

/-- .. whose contract asks nothing of the guard. -/
theorem qc_gcall0 {g : Nat × Bool} {f : FuncId} {xs : List Operand} {tys : Array TypeId} {vs : List Value} (H : HasC ops a n l lc)
    (e : locAll l lc g xs = some vs) (hf : entersB P f = true) (hc : CallsQ P f vs w v) (hd : Nat.blt d n = true) (hk : okc ops d lc = true)
    (hg : (match (ops[g.1]?).bind (·.dst) with | some t => !(Nat.beq t d) | none => true) = true)
    (h : ∀ a', HasC ops a' n ((d, none) :: l) ((d, g, v) :: lc) → wpQuiet P ops (Ext w) Qp rest a') :
    wpQuiet P ops (Ext w) Qp (⟨some d, .call { callee := .value (.func f), args := xs.toArray, argTypes := tys }, ty, pos, af, some g⟩ :: rest) a := by
  refine wpQuiet_step fun K hK => ?_
  by_cases hw : Region.wanted ⟨some d, .call { callee := .value (.func f), args := xs.toArray, argTypes := tys }, ty, pos, af, some g⟩ (yielded ops a.tmps) = true
  · rw [if_pos hw]
    have hy : yielded ops a.tmps g.1 = some g.2 := (wanted_iff (o := ⟨some d, .call { callee := .value (.func f), args := xs.toArray, argTypes := tys }, ty, pos, af, some g⟩) rfl).1 hw
    have := locAll_map (H.eval g hy) xs vs e
    exact ⟨v, fun w' hw' => quietAt_call (f := f) (vs := vs) (by simp [execOp, resolve, Act.eval, Deferred.ofValue, invoke, run_callFunc_enters hf, this]) hw' hc, hK _ (h _ (H.putg g d v v hd hk hg fun _ => rfl))⟩
  · rw [if_neg hw]
    have hy := fun e => hw ((wanted_iff (o := ⟨some d, .call { callee := .value (.func f), args := xs.toArray, argTypes := tys }, ty, pos, af, some g⟩) rfl).2 e)
    exact hK _ (h _ (H.putg g d v undef hd hk hg fun e => absurd e hy))
theorem nc_gcall0 {g : Nat × Bool} {f : FuncId} {xs : List Operand} {tys : Array TypeId} {vs : List Value} (H : HasC ops a n l lc)
    (e : locAll l lc g xs = some vs) (hf : entersB P f = true) (hc : Calls P f vs.toArray w (Ret fun u w' => u = v ∧ Ext w w')) (hd : Nat.blt d n = true) (hk : okc ops d lc = true)
    (hg : (match (ops[g.1]?).bind (·.dst) with | some t => !(Nat.beq t d) | none => true) = true)
    (h : ∀ w', Ext w w' → ∀ a', HasC ops a' n ((d, none) :: l) ((d, g, v) :: lc) → wpList P ops Q rest a' w') :
    wpList P ops Q (⟨some d, .call { callee := .value (.func f), args := xs.toArray, argTypes := tys }, ty, pos, af, some g⟩ :: rest) a w := by
  refine wpList_step fun K hK => ?_
  by_cases hw : Region.wanted ⟨some d, .call { callee := .value (.func f), args := xs.toArray, argTypes := tys }, ty, pos, af, some g⟩ (yielded ops a.tmps) = true
  · rw [if_pos hw]
    have hy : yielded ops a.tmps g.1 = some g.2 := (wanted_iff (o := ⟨some d, .call { callee := .value (.func f), args := xs.toArray, argTypes := tys }, ty, pos, af, some g⟩) rfl).1 hw
    have := locAll_map (H.eval g hy) xs vs e
    refine wp_call (f := f) (args := vs.toArray) (by simp [execOp, resolve, Act.eval, Deferred.ofValue, invoke, run_callFunc_enters hf, this]) hc fun u w' ⟨hu, hx⟩ => ?_
    subst hu
    exact hK _ _ (h w' hx _ (H.putg g d u u hd hk hg fun _ => rfl))
  · rw [if_neg hw]
    have hy := fun e => hw ((wanted_iff (o := ⟨some d, .call { callee := .value (.func f), args := xs.toArray, argTypes := tys }, ty, pos, af, some g⟩) rfl).2 e)
    exact hK _ _ (h w Ext.rfl' _ (H.putg g d v undef hd hk hg fun e => absurd e hy))

/-! picks that are themselves guarded, in a region that draws -/
theorem qc_andg {j t r : Nat} {b u : Bool} {g : Nat × Bool} (H : HasC ops a n l lc) (hj : (ops[j]?).bind (·.dst) = some t) (ht : loc l lc g (.tmp t) = some (.bool b)) (hr : loc l lc (j, true) (.tmp r) = some (.bool u)) (hd : Nat.blt d n = true) (hk : okc ops d lc = true)
    (hg : (match (ops[g.1]?).bind (·.dst) with | some t => !(Nat.beq t d) | none => true) = true)
    (h : ∀ a', HasC ops a' n ((d, none) :: l) ((d, g, .bool (b && u)) :: lc) → wpQuiet P ops (Ext w) Qp rest a') :
    wpQuiet P ops (Ext w) Qp (⟨some d, .pick (.tmp t) (.tmp r) (.const (.bool false)), ty, pos, af, some g⟩ :: rest) a := by
  refine wpQuiet_step fun K hK => ?_
  by_cases hw : Region.wanted ⟨some d, .pick (.tmp t) (.tmp r) (.const (.bool false)), ty, pos, af, some g⟩ (yielded ops a.tmps) = true
  · rw [if_pos hw]
    have hy := (wanted_iff (o := ⟨some d, .pick (.tmp t) (.tmp r) (.const (.bool false)), ty, pos, af, some g⟩) rfl).1 hw
    have e1 := H.eval g hy (.tmp t) _ ht
    have hyj := yielded_ofc H hy hj ht
    refine ⟨.bool (b && u), fun w' hw' => quietAt_of ?_, hK _ (h _ (H.putg g d _ _ hd hk hg fun _ => rfl))⟩
    cases b with
    | false => simp [execOp, e1, asBool, eval_const]
    | true => simp [execOp, e1, H.eval (j, true) hyj (.tmp r) _ hr, asBool]
  · rw [if_neg hw]
    have hy := fun e => hw ((wanted_iff (o := ⟨some d, .pick (.tmp t) (.tmp r) (.const (.bool false)), ty, pos, af, some g⟩) rfl).2 e)
    exact hK _ (h _ (H.putg g d _ undef hd hk hg fun e => absurd e hy))
theorem qc_org {j t r : Nat} {b u : Bool} {g : Nat × Bool} (H : HasC ops a n l lc) (hj : (ops[j]?).bind (·.dst) = some t) (ht : loc l lc g (.tmp t) = some (.bool b)) (hr : loc l lc (j, false) (.tmp r) = some (.bool u)) (hd : Nat.blt d n = true) (hk : okc ops d lc = true)
    (hg : (match (ops[g.1]?).bind (·.dst) with | some t => !(Nat.beq t d) | none => true) = true)
    (h : ∀ a', HasC ops a' n ((d, none) :: l) ((d, g, .bool (b || u)) :: lc) → wpQuiet P ops (Ext w) Qp rest a') :
    wpQuiet P ops (Ext w) Qp (⟨some d, .pick (.tmp t) (.const (.bool true)) (.tmp r), ty, pos, af, some g⟩ :: rest) a := by
  refine wpQuiet_step fun K hK => ?_
  by_cases hw : Region.wanted ⟨some d, .pick (.tmp t) (.const (.bool true)) (.tmp r), ty, pos, af, some g⟩ (yielded ops a.tmps) = true
  · rw [if_pos hw]
    have hy := (wanted_iff (o := ⟨some d, .pick (.tmp t) (.const (.bool true)) (.tmp r), ty, pos, af, some g⟩) rfl).1 hw
    have e1 := H.eval g hy (.tmp t) _ ht
    have hyj := yielded_ofc H hy hj ht
    refine ⟨.bool (b || u), fun w' hw' => quietAt_of ?_, hK _ (h _ (H.putg g d _ _ hd hk hg fun _ => rfl))⟩
    cases b with
    | true => simp [execOp, e1, asBool, eval_const]
    | false => simp [execOp, e1, H.eval (j, false) hyj (.tmp r) _ hr, asBool]
  · rw [if_neg hw]
    have hy := fun e => hw ((wanted_iff (o := ⟨some d, .pick (.tmp t) (.const (.bool true)) (.tmp r), ty, pos, af, some g⟩) rfl).2 e)
    exact hK _ (h _ (H.putg g d _ undef hd hk hg fun e => absurd e hy))

/-- A guarded call in a region in the text's order. -/
theorem nc_gcall {j : Nat} {want : Bool} {t : Nat} {b : Bool} {f : FuncId} {xs : List Operand} {tys : Array TypeId} {vs : List Value} (H : HasC ops a n l lc) (hj : (ops[j]?).bind (·.dst) = some t) (ht : lk l t = some (.bool b))
    (e : locAll l lc (j, want) xs = some vs) (hf : entersB P f = true) (hc : b = want → Calls P f vs.toArray w (Ret fun u w' => u = v ∧ Ext w w')) (hd : Nat.blt d n = true) (hk : okc ops d lc = true)
    (hg : (match (ops[j]?).bind (·.dst) with | some t => !(Nat.beq t d) | none => true) = true)
    (h : ∀ w', Ext w w' → ∀ a', HasC ops a' n ((d, none) :: l) ((d, (j, want), v) :: lc) → wpList P ops Q rest a' w') :
    wpList P ops Q (⟨some d, .call { callee := .value (.func f), args := xs.toArray, argTypes := tys }, ty, pos, af, some (j, want)⟩ :: rest) a w := by
  refine wpList_step fun K hK => ?_
  by_cases hw : Region.wanted ⟨some d, .call { callee := .value (.func f), args := xs.toArray, argTypes := tys }, ty, pos, af, some (j, want)⟩ (yielded ops a.tmps) = true
  · rw [if_pos hw]
    have hy : yielded ops a.tmps j = some want := (wanted_iff (g := (j, want)) (o := ⟨some d, .call { callee := .value (.func f), args := xs.toArray, argTypes := tys }, ty, pos, af, some (j, want)⟩) rfl).1 hw
    have hb : b = want := by
      have := yielded_of (ops := ops) H.has hj ht
      rw [this] at hy
      exact Option.some.inj hy
    have := locAll_map (H.eval (j, want) hy) xs vs e
    refine wp_call (f := f) (args := vs.toArray) (by simp [execOp, resolve, Act.eval, Deferred.ofValue, invoke, run_callFunc_enters hf, this]) (hc hb) fun u w' ⟨hu, hx⟩ => ?_
    subst hu
    exact hK _ _ (h w' hx _ (H.putg (j, want) d u u hd hk hg fun _ => rfl))
  · rw [if_neg hw]
    have hy := fun e => hw ((wanted_iff (g := (j, want)) (o := ⟨some d, .call { callee := .value (.func f), args := xs.toArray, argTypes := tys }, ty, pos, af, some (j, want)⟩) rfl).2 e)
    exact hK _ _ (h w Ext.rfl' _ (H.putg (j, want) d v undef hd hk hg fun e => absurd e hy))
theorem nc_call {f : FuncId} {xs : List Operand} {tys : Array TypeId} {vs : List Value} {Φ : Value → World → Prop} (H : HasC ops a n l lc) (e : loAll l xs = some vs) (hf : entersB P f = true) (hc : Calls P f vs.toArray w (Ret Φ)) (hd : Nat.blt d n = true) (hk : okc ops d lc = true)
    (h : ∀ v w', Φ v w' → ∀ a', HasC ops a' n ((d, some v) :: l) lc → wpList P ops Q rest a' w') :
    wpList P ops Q (⟨some d, .call { callee := .value (.func f), args := xs.toArray, argTypes := tys }, ty, pos, af, none⟩ :: rest) a w :=
  wpList_plain rfl fun K hK => by
    refine wp_call (f := f) (args := vs.toArray) (by
      have := loAll_map H.has.eval xs vs e
      simp [execOp, resolve, Act.eval, Deferred.ofValue, invoke, run_callFunc_enters hf, this]) hc fun v w' hv => hK _ _ (h v w' hv _ (H.put d v hd hk))
end

end Go.Proofs.YtnhjohcgnmogaaaDoor
