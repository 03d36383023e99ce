/- Regions that draw their order and make or write memory: what leaves the world alone is taken first; what does not comes up one at a time. Stores at the end (from number k0 on) may break the condition under which the loads before them were taken. No program is named here. -/
import Derived.Test.YtnhjohcgnmogaaaDoorMore
set_option linter.unusedVariables false
set_option linter.unusedSimpArgs false
set_option linter.unusedSectionVars false
namespace Go.Proofs.YtnhjohcgnmogaaaDoor
open Go Go.RowKit

section
variable {P : Program} {ops : Array Oper} {Q : Exit → Act → World → Prop} {k0 : Nat} {S : World → Prop}

def act (k0 : Nat) (li : Array Bool) : Bool := !(li.getD k0 false)
/-- Whatever order is picked; S holds behind every operation until number k0 has come up. -/
def wpK (P : Program) (ops : Array Oper) (Q : Exit → Act → World → Prop) (k0 : Nat) (S : World → Prop) : Nat → Array Bool → Act → World → Prop
  | 0, listed, a, w => Region.ready .any ops listed = [] ∧ Q .normal a w
  | fuel + 1, listed, a, w => (Region.ready .any ops listed = [] → Q .normal a w) ∧
    ∀ i ∈ Region.ready .any ops listed, wpOp P ops Q i (fun a' w' => (act k0 (listed.setIfInBounds i true) = true → S w') ∧ wpK P ops Q k0 S fuel (listed.setIfInBounds i true) a' w') a w

theorem wpAny_of_k : ∀ (fuel : Nat) (listed : Array Bool) (a : Act) (w : World), wpK P ops Q k0 S fuel listed a w → wpAny P .any ops Q fuel listed a w
  | 0, _, _, _, h => h
  | fuel + 1, _, _, _, h => ⟨h.1, fun i hi => wpOp_mono (fun a' w' h' => wpAny_of_k fuel _ a' w' h'.2) (h.2 i hi)⟩

theorem act_set {listed : Array Bool} {i : Nat} (h : act k0 (listed.setIfInBounds i true) = true) : act k0 listed = true := by
  unfold act at *
  simp only [Bool.not_eq_true'] at *
  by_cases hi : i = k0
  · subst hi
    by_cases hl : i < listed.size
    · simp [hl] at h
    · simp [Array.getElem?_eq_none (Nat.not_lt.1 hl)]
  · rwa [getD_set_ne false hi] at h

theorem wpK_weaken {S' : World → Prop} (h : ∀ w', S' w' → S w') : ∀ (fuel : Nat) (listed : Array Bool) (a : Act) (w : World), wpK P ops Q k0 S' fuel listed a w → wpK P ops Q k0 S fuel listed a w
  | 0, _, _, _, k => k
  | fuel + 1, _, _, _, k => ⟨k.1, fun i hi => wpOp_mono (fun a' w' h' => ⟨fun ha => h _ (h'.1 ha), wpK_weaken h fuel _ a' w' h'.2⟩) (k.2 i hi)⟩
theorem wpK_free {S' : World → Prop} : ∀ (fuel : Nat) (listed : Array Bool) (a : Act) (w : World), act k0 listed = false → wpK P ops Q k0 S' fuel listed a w → wpK P ops Q k0 S fuel listed a w
  | 0, _, _, _, _, k => k
  | fuel + 1, listed, _, _, hf, k => ⟨k.1, fun i hi => wpOp_mono (fun a' w' h' => by
      have hb : act k0 (listed.setIfInBounds i true) = false := by
        cases hq : act k0 (listed.setIfInBounds i true) with
        | false => rfl
        | true => rw [act_set hq] at hf; cases hf
      exact ⟨fun ha => (by rw [hb] at ha; cases ha), wpK_free fuel _ a' w' hb h'.2⟩) (k.2 i hi)⟩

/-- Number k0 waits for number i (or there is no number k0). -/
def before (ops : Array Oper) (k0 i : Nat) : Bool :=
  match ops[k0]? with
  | none => true
  | some o => o.after.any fun e => Region.binds .any e && e.on == i

theorem wpK_first {i : Nat} {oi : Oper} {v : Value} (hi : ops[i]? = some oi) (hsel : ∀ (j : Nat) (o : Oper) cs b, ops[j]? = some o → o.op ≠ .select cs b)
    (hQ : ∀ c a w, Q (.panic c) (a.put oi.dst v) w → Q (.panic c) a w) (hb : before ops k0 i = true) (hne : i ≠ k0) :
    ∀ (fuel : Nat) (listed : Array Bool) (a : Act) (w : World), act k0 listed = true → listed.size = ops.size →
      (∀ j oj, ops[j]? = some oj → j ≠ i → listed.getD j true = false → (∀ e ∈ oj.after, Region.binds .any e = true → e.on ≠ i) → oi.apart ops oj = true) →
      i ∈ Region.ready .any ops listed → YieldsIf P ops S oi v a → S w →
      wpK P ops Q k0 S fuel (listed.setIfInBounds i true) (a.put oi.dst v) w → wpK P ops Q k0 S (fuel + 1) listed a w := by
  intro fuel
  induction fuel with
  | zero =>
    intro listed a w hk hsz _ hr hy hS H
    refine ⟨fun h => (by rw [h] at hr; cases hr), fun j hj => ?_⟩
    by_cases hji : j = i
    · subst hji; exact hy.wpOp hi hS ⟨fun _ => hS, H⟩
    · have := ready_mono hj hji
      rw [H.1] at this
      cases this
  | succ fuel ih =>
    intro listed a w hk hsz hfree hr hy hS H
    refine ⟨fun h => (by rw [h] at hr; cases hr), fun j hj => ?_⟩
    by_cases hji : j = i
    · subst hji; exact hy.wpOp hi hS ⟨fun _ => hS, H⟩
    · have h1 := H.2 j (ready_mono hj hji)
      obtain ⟨hjun, oj, hoj, hall⟩ := mem_ready.1 hj
      have hnot : ∀ e ∈ oj.after, Region.binds .any e = true → e.on ≠ i := fun e he hb heq => by
        have h1 := hall e he hb
        have h0 := (mem_ready.1 hr).1
        rw [heq] at h1
        rcases Nat.lt_or_ge i listed.size with h' | h'
        · simp [h'] at h0 h1; rw [h0] at h1; cases h1
        · simp [Array.getElem?_eq_none h'] at h1
      have hjk : j ≠ k0 := fun e => by
        subst e
        unfold before at hb
        simp only [hoj, Array.any_eq_true', Bool.and_eq_true, beq_iff_eq] at hb
        obtain ⟨x, hx, hxb, hxi⟩ := hb
        exact hnot x hx hxb hxi
      have h2 := wpOp_putIf hoj (hfree j oj hoj hji hjun hnot) (fun cs b => hsel i oi cs b hi) (fun cs b => hsel j oj cs b hoj) hQ hy h1
      have hfree' : ∀ k ok, ops[k]? = some ok → k ≠ i → (listed.setIfInBounds j true).getD k true = false →
          (∀ e ∈ ok.after, Region.binds .any e = true → e.on ≠ i) → oi.apart ops ok = true := fun k ok hk hki hun hno => by
        refine hfree k ok hk hki ?_ hno
        by_cases hjk : j = k
        · subst hjk; exact hjun
        · rw [getD_set_ne true hjk] at hun; exact hun
      have hk' : act k0 (listed.setIfInBounds j true) = true := by
        unfold act at *
        rwa [getD_set_ne false hjk]
      have hk2 : act k0 ((listed.setIfInBounds i true).setIfInBounds j true) = true := by
        unfold act at *
        rw [getD_set_ne false hjk, getD_set_ne false hne]; exact hk
      refine wpOp_mono (fun a' w' h3 => ⟨fun _ => h3.2.1 hk2, ih (listed.setIfInBounds j true) a' w' hk' (by simpa using hsz) hfree' (ready_mono hr (Ne.symm hji)) h3.1 (h3.2.1 hk2) ?_⟩) h2
      rw [Array.setIfInBounds_comm _ _ hji]
      exact h3.2.2
end

/-! ### The class of worlds: of the blocks below h0 those in B alone have been written -/
structure ChgF (B : List Nat) (h0 : Nat) (w w' : World) : Prop where
  os : w'.os = w.os
  tape : w'.tape = w.tape
  output : w'.output = w.output
  size : w.heap.size ≤ w'.heap.size
  block : ∀ k, k < w.heap.size → k < h0 → k ∉ B → w'.heap[k]? = w.heap[k]?
theorem ChgF.refl (B : List Nat) (h0 : Nat) (w : World) : ChgF B h0 w w := ⟨rfl, rfl, rfl, Nat.le_refl _, fun _ _ _ _ => rfl⟩
theorem ChgF.trans {B : List Nat} {h0 : Nat} {w1 w2 w3 : World} (h : ChgF B h0 w1 w2) (k : ChgF B h0 w2 w3) : ChgF B h0 w1 w3 :=
  ⟨k.os.trans h.os, k.tape.trans h.tape, k.output.trans h.output, Nat.le_trans h.size k.size, fun i hi h0 hn => (k.block i (Nat.lt_of_lt_of_le hi h.size) h0 hn).trans (h.block i hi h0 hn)⟩
theorem ChgF.of_ext {B : List Nat} {h0 : Nat} {w w' : World} (e : Ext w w') : ChgF B h0 w w' := ⟨e.os, e.tape, e.output, e.size, fun k hk _ _ => e.block k hk⟩
theorem ChgF.of {B S : List Nat} {h0 : Nat} {w w' : World} (h : Chg S w w') (hs : ∀ k ∈ S, k < h0 → k ∈ B) : ChgF B h0 w w' :=
  ⟨h.os, h.tape, h.output, h.size, fun k hk h0 hn => h.block k hk fun hm => hn (hs k hm h0)⟩

/-! ### The moves -/
section
variable {P : Program} {ops : Array Oper} {Q : Exit → Act → World → Prop} {a : Act} {n : Nat} {l : List (Nat × Option Value)} {w : World} {B : List Nat} {k0 h0 : Nat}
  {op : Op} {ty : TypeId} {pos : String} {af : Array Edge} {d fuel : Nat} {v : Value} {listed : Array Bool}

/-- k0: the first operation of those that may write what others have read; B: the blocks that others write. -/
theorem c_ord (B : List Nat) (k0 : Nat) {id : Nat} (hm : P.follows .mixedOrders = true) (h : wpK P ops Q k0 (ChgF B w.drew.heap.size w.drew) ops.size (Array.replicate ops.size false) a w.drew) : (Code.region id ops true).wp P Q a w :=
  wp_region_any hm (wpAny_of_k _ _ _ _ h)

theorem k_take (i : Nat) (H : Has a n l) (hi : ops[i]? = some ⟨some d, op, ty, pos, af, none⟩) (q : Q1 P (lo l) op (ChgF B h0 w) v) (hd : Nat.blt d n = true) (hs : Region.noSelect ops = true) (hf : Region.free .any ops listed i = true)
    (hr : (Region.ready .any ops listed).contains i = true) (hb : (before ops k0 i && !(Nat.beq i k0) && act k0 listed && (Nat.beq listed.size ops.size)) = true) (hQ : ∀ c a w, Q (.panic c) (a.put (some d) v) w → Q (.panic c) a w)
    (h : ∀ a', Has a' n ((d, some v) :: l) → wpK P ops Q k0 (ChgF B h0 w) fuel (listed.setIfInBounds i true) a' w) : wpK P ops Q k0 (ChgF B h0 w) (fuel + 1) listed a w := by
  simp only [Bool.and_eq_true, Bool.not_eq_true'] at hb
  obtain ⟨⟨⟨h1, h2⟩, h3⟩, h4⟩ := hb
  exact wpK_first (oi := ⟨some d, op, ty, pos, af, none⟩) (v := v) hi (Region.noSelect_spec hs) hQ h1 (fun e => by rw [e, Nat.beq_refl] at h2; cases h2) fuel listed a w h3 (Nat.eq_of_beq_eq_true h4) (Region.free_spec hi hf) (by simpa using hr)
    (.inl ⟨by simp [Region.wanted], fun w' hw => q a.eval H.eval w' hw (some d) ty pos af none⟩) (ChgF.refl _ _ _) (h _ (H.put d v hd))

theorem k_done (hr : Region.ready .any ops listed = []) (h : Q .normal a w) : wpK P ops Q k0 (ChgF B h0 w) fuel listed a w := by
  cases fuel with
  | zero => exact ⟨hr, h⟩
  | succ fuel => exact ⟨fun _ => h, by rw [hr]; simp⟩

/-- The step keeps the condition, or the condition is asked no more. -/
def Go' (B : List Nat) (k0 h0 : Nat) (listed : Array Bool) (w w' : World) : Prop := ChgF B h0 w w' ∨ act k0 listed = false

theorem k_one (i : Nat) {o : Oper} (hi : ops[i]? = some o) (hg : o.guard = none) (hr : Region.ready .any ops listed = [i])
    (h : o.wp P a w (fun a' w' => Go' B k0 h0 (listed.setIfInBounds i true) w w' ∧ wpK P ops Q k0 (ChgF B h0 w') fuel (listed.setIfInBounds i true) a' w') Q) : wpK P ops Q k0 (ChgF B h0 w) (fuel + 1) listed a w := by
  refine ⟨fun h0 => (by rw [h0] at hr; cases hr), fun j hj => ?_⟩
  rw [hr] at hj
  have := List.mem_singleton.1 hj
  subst this
  unfold wpOp
  simp only [hi]
  rw [if_pos (by simp [Region.wanted, hg])]
  refine .inl (Oper.wp_mono (fun a' w' h' => ?_) h)
  rcases h'.1 with hc | hn
  · exact ⟨fun _ => hc, wpK_weaken (fun w'' hw => hc.trans hw) _ _ _ _ h'.2⟩
  · exact ⟨fun ha => (by rw [hn] at ha; cases ha), wpK_free _ _ _ _ hn h'.2⟩

/-- What leaves the world alone, where it is the one that may come up. -/
theorem k_q (i : Nat) (H : Has a n l) (hi : ops[i]? = some ⟨some d, op, ty, pos, af, none⟩) (q : Q1 P (lo l) op (Ext w) v) (hd : Nat.blt d n = true) (hr : Region.ready .any ops listed = [i])
    (h : ∀ a', Has a' n ((d, some v) :: l) → wpK P ops Q k0 (ChgF B h0 w) fuel (listed.setIfInBounds i true) a' w) : wpK P ops Q k0 (ChgF B h0 w) (fuel + 1) listed a w := by
  refine k_one i hi rfl hr ?_
  unfold Oper.wp
  rw [q a.eval H.eval w Ext.rfl' (some d) ty pos af none]
  exact ⟨.inl (ChgF.refl _ _ _), h _ (H.put d v hd)⟩

theorem k_run (i : Nat) {w' : World} (H : Has a n l) (hi : ops[i]? = some ⟨some d, op, ty, pos, af, none⟩) (hrun : ∀ ρ : Operand → Value, (∀ x u, lo l x = some u → ρ x = u) → (execOp ρ ⟨some d, op, ty, pos, af, none⟩).run P w = .ok (.value v) w')
    (hd : Nat.blt d n = true) (hr : Region.ready .any ops listed = [i]) (hc : Go' B k0 h0 (listed.setIfInBounds i true) w w')
    (h : ∀ a', Has a' n ((d, some v) :: l) → wpK P ops Q k0 (ChgF B h0 w') fuel (listed.setIfInBounds i true) a' w') : wpK P ops Q k0 (ChgF B h0 w) (fuel + 1) listed a w := by
  refine k_one i hi rfl hr ?_
  unfold Oper.wp
  rw [hrun a.eval H.eval]
  exact ⟨hc, h _ (H.put d v hd)⟩

theorem k_store (i : Nat) {x y : Operand} {t T : TypeId} {b o : Nat} {u : Value} {vs cs : List Value} (H : Has a n l) (hi : ops[i]? = some ⟨none, .store t x y, ty, pos, af, none⟩) (ex : lo l x = some (.pointer (some ⟨b, o, none⟩))) (ey : lo l y = some u)
    (hc : u.cells = vs.toArray) (hs : sizeB P t = some vs.length) (hb : Blk w b cs T) (hl : o + vs.length ≤ cs.length) (h1 : ∀ u ∈ vs, u.oneCell' = true) (hr : Region.ready .any ops listed = [i]) (hB : (b < h0 → b ∈ B) ∨ act k0 (listed.setIfInBounds i true) = false)
    (h : ∀ w', Blk w' b (cs.take o ++ vs ++ cs.drop (o + vs.length)) T → Chg [b] w w' → w'.heap.size = w.heap.size → ∀ a', Has a' n l → wpK P ops Q k0 (ChgF B h0 w') fuel (listed.setIfInBounds i true) a' w') :
    wpK P ops Q k0 (ChgF B h0 w) (fuel + 1) listed a w := by
  obtain ⟨w', hrr, hb', hch, hsz⟩ := storeCells_blk P w b T vs 0 o cs hb (by omega) h1
  refine k_one i hi rfl hr ?_
  unfold Oper.wp
  have hrun : (execOp a.eval ⟨none, .store t x y, ty, pos, af, none⟩).run P w = .ok .skip w' := by
    simp [execOp, H.eval x _ ex, H.eval y _ ey, Instr.storeAt, Instr.sureAddr, storeVar, hc, run_sizeOf hs, hrr]
  rw [hrun]
  refine ⟨?_, h w' (by simpa using hb') hch hsz _ H⟩
  rcases hB with hB | hB
  · exact .inl (ChgF.of hch fun k hk h => by rw [List.mem_singleton.1 hk] at h ⊢; exact hB h)
  · exact .inr hB

theorem k_storeAll (i : Nat) {x y : Operand} {t T : TypeId} {b : Nat} {u : Value} {vs cs : List Value} (H : Has a n l) (hi : ops[i]? = some ⟨none, .store t x y, ty, pos, af, none⟩) (ex : lo l x = some (.pointer (some ⟨b, 0, none⟩))) (ey : lo l y = some u)
    (hc : u.cells = vs.toArray) (hs : sizeB P t = some vs.length) (hb : Blk w b cs T) (hl : vs.length = cs.length) (h1 : ∀ u ∈ vs, u.oneCell' = true) (hr : Region.ready .any ops listed = [i]) (hB : (b < h0 → b ∈ B) ∨ act k0 (listed.setIfInBounds i true) = false)
    (h : ∀ w', Blk w' b vs T → Chg [b] w w' → w'.heap.size = w.heap.size → ∀ a', Has a' n l → wpK P ops Q k0 (ChgF B h0 w') fuel (listed.setIfInBounds i true) a' w') :
    wpK P ops Q k0 (ChgF B h0 w) (fuel + 1) listed a w :=
  k_store i H hi ex ey hc hs hb (by omega) h1 hr hB fun w' hb' hch hsz a' H' => by
    have e : cs.take 0 ++ vs ++ cs.drop (0 + vs.length) = vs := by rw [List.take_zero, List.nil_append, Nat.zero_add, hl, List.drop_length, List.append_nil]
    rw [e] at hb'
    exact h w' hb' hch hsz a' H'

theorem k_store1 (i : Nat) {x y : Operand} {t T : TypeId} {b o : Nat} {u : Value} {cs : List Value} (H : Has a n l) (hi : ops[i]? = some ⟨none, .store t x y, ty, pos, af, none⟩) (ex : lo l x = some (.pointer (some ⟨b, o, none⟩))) (ey : lo l y = some u)
    (hs : sizeB P t = some 1) (hb : Blk w b cs T) (hl : o < cs.length) (h1 : u.oneCell' = true) (hr : Region.ready .any ops listed = [i]) (hB : (b < h0 → b ∈ B) ∨ act k0 (listed.setIfInBounds i true) = false)
    (h : ∀ w', Blk w' b (cs.set o u) T → Chg [b] w w' → w'.heap.size = w.heap.size → ∀ a', Has a' n l → wpK P ops Q k0 (ChgF B h0 w') fuel (listed.setIfInBounds i true) a' w') :
    wpK P ops Q k0 (ChgF B h0 w) (fuel + 1) listed a w :=
  k_store (vs := [u]) i H hi ex ey (cells_one h1) hs hb (by simp only [List.length_cons, List.length_nil]; omega) (by simpa using h1) hr hB fun w' hb' hch hsz a' H' => by
    have e : cs.take o ++ [u] ++ cs.drop (o + [u].length) = cs.set o u := set_one hl
    rw [e] at hb'
    exact h w' hb' hch hsz a' H'

theorem k_call (i : Nat) {f : FuncId} {xs : List Operand} {tys : Array TypeId} {vs : List Value} {Φ : Value → World → Prop} (H : Has a n l)
    (hi : ops[i]? = some ⟨some d, .call { callee := .value (.func f), args := xs.toArray, argTypes := tys }, ty, pos, af, none⟩) (e : loAll l xs = some vs) (hf : entersB P f = true) (hc : Calls P f vs.toArray w (Ret Φ)) (hd : Nat.blt d n = true)
    (hr : Region.ready .any ops listed = [i]) (hΦ : ∀ v w', Φ v w' → Go' B k0 h0 (listed.setIfInBounds i true) w w')
    (h : ∀ v w', Φ v w' → ∀ a', Has a' n ((d, some v) :: l) → wpK P ops Q k0 (ChgF B h0 w') fuel (listed.setIfInBounds i true) a' w') : wpK P ops Q k0 (ChgF B h0 w) (fuel + 1) listed a w := by
  refine k_one i hi rfl hr ?_
  refine wp_call (f := f) (args := vs.toArray) (by
    have := loAll_map H.eval xs vs e
    simp [execOp, resolve, Act.eval, Deferred.ofValue, invoke, run_callFunc_enters hf, this]) hc fun v w' hv => ?_
  exact ⟨hΦ v w' hv, h v w' hv _ (H.put d v hd)⟩

theorem k_append (i : Nat) {x y : Operand} {t t' E k bytes : Nat} {z : List Value} {d' : TypeDesc} {u : Value} {m0 m : Nat} {xs news : List Value} (H : Has a n l)
    (hi : ops[i]? = some ⟨some d, .call { callee := .builtin .append, args := #[x, y], argTypes := #[t, t'] }, ty, pos, af, none⟩) (ex : lo l x = some v) (ey : lo l y = some u)
    (ht : P.underlying t = some (.slice E)) (ht' : P.underlying t' = some d') (hd' : ∀ q, d' ≠ .int q) (hE : ElemOk P E k bytes z) (hv : Own w E k v m0 xs) (hx : Src w k u m news) (h1 : ∀ u ∈ news, u.oneCell' = true)
    (hb : (m0 + m) * bytes ≤ 140737488355328) (h63 : m0 + m ≤ maxLen) (hd : Nat.blt d n = true) (hr : Region.ready .any ops listed = [i]) (hB : (∀ b ∈ blks v, b < h0 → b ∈ B) ∨ act k0 (listed.setIfInBounds i true) = false)
    (h : ∀ v' w', Own w' E k v' (m0 + m) (xs ++ news) → Chg (blks v) w w' → (blks v' = blks v ∨ ∃ b, blks v' = [b] ∧ w.heap.size ≤ b) → (v' = .slice none 0 0 ↔ v = .slice none 0 0 ∧ m = 0) →
      ∀ a', Has a' n ((d, some v') :: l) → wpK P ops Q k0 (ChgF B h0 w') fuel (listed.setIfInBounds i true) a' w') : wpK P ops Q k0 (ChgF B h0 w) (fuel + 1) listed a w := by
  obtain ⟨v', w', hrr, h2, h3, h4, h5⟩ := run_append (ty := ty) ht ht' hd' hE hv hx h1 hb h63
  refine k_run i (w' := w') H hi (fun ρ hρ => by simp [execOp, resolve, invoke, builtin, hρ x _ ex, hρ y _ ey, hrr]) hd hr ?_ (h v' w' h2 h3 h4 h5)
  rcases hB with hB | hB
  · exact .inl (ChgF.of h3 hB)
  · exact .inr hB

theorem k_buildSlice (i : Nat) {T E k len : Nat} {ps : List (Nat × Operand)} {vs : List (Nat × Value)} {zs cs : List Value} (H : Has a n l) (hi : ops[i]? = some ⟨some d, .buildSlice T len ps.toArray, ty, pos, af, none⟩)
    (ht : P.underlying T = some (.slice E)) (hk : sizeB P E = some k) (hz : zeroB P E = some zs) (hle : Nat.ble (len * k) 16777216 = true)
    (hzl : zs.length = k) (e : loP (lo l) ps = some vs) (hf : Instr.fill (fun i => some (i * k, k)) ((List.replicate len zs).flatten).toArray vs = some cs.toArray) (hd : Nat.blt d n = true) (hr : Region.ready .any ops listed = [i])
    (h : ∀ b w', Blk w' b cs E → Ext w w' → w.heap.size = b → ∀ a', Has a' n ((d, some (.slice (some ⟨b, 0, none⟩) len len)) :: l) → wpK P ops Q k0 (ChgF B h0 w') fuel (listed.setIfInBounds i true) a' w') :
    wpK P ops Q k0 (ChgF B h0 w) (fuel + 1) listed a w :=
  k_run i (w' := w.alloc (.cells cs.toArray E)) H hi (fun ρ hρ => run_bs ht hk hz hle hzl e hf ρ hρ) hd hr (.inl (ChgF.of_ext (Ext.alloc' _ _))) (h w.heap.size _ (Blk.new w cs E) (Ext.alloc' _ _) rfl)

theorem k_alloc (i : Nat) {T : TypeId} {cs : List Value} (H : Has a n l) (hi : ops[i]? = some ⟨some d, .alloc T, ty, pos, af, none⟩) (hz : zeroB P T = some cs) (hd : Nat.blt d n = true) (hr : Region.ready .any ops listed = [i])
    (h : ∀ b w', Blk w' b cs T → Ext w w' → w.heap.size = b → ∀ a', Has a' n ((d, some (.pointer (some ⟨b, 0, none⟩))) :: l) → wpK P ops Q k0 (ChgF B h0 w') fuel (listed.setIfInBounds i true) a' w') :
    wpK P ops Q k0 (ChgF B h0 w) (fuel + 1) listed a w :=
  k_run i (w' := w.alloc (.cells cs.toArray T)) H hi (fun ρ hρ => by
    obtain ⟨z, hr, hzc⟩ := run_zero hz w
    simp [execOp, Instr.alloc, hr, newVar, newRow, hzc]) hd hr (.inl (ChgF.of_ext (Ext.alloc' _ _))) (h w.heap.size _ (Blk.new w cs T) (Ext.alloc' _ _) rfl)

theorem k_box (i : Nat) {x : Operand} {T : TypeId} {u : Value} {cs : List Value} (H : Has a n l) (hi : ops[i]? = some ⟨some d, .box T x, ty, pos, af, none⟩) (e : lo l x = some u) (hc : u.cells = cs.toArray) (hd : Nat.blt d n = true) (hr : Region.ready .any ops listed = [i])
    (h : ∀ b w', Blk w' b cs T → Ext w w' → w.heap.size = b → ∀ a', Has a' n ((d, some (.pointer (some ⟨b, 0, none⟩))) :: l) → wpK P ops Q k0 (ChgF B h0 w') fuel (listed.setIfInBounds i true) a' w') :
    wpK P ops Q k0 (ChgF B h0 w) (fuel + 1) listed a w :=
  k_run i (w' := w.alloc (.cells cs.toArray T)) H hi (fun ρ hρ => by simp [execOp, hρ x _ e, Instr.box, newVar, newRow, hc]) hd hr (.inl (ChgF.of_ext (Ext.alloc' _ _))) (h w.heap.size _ (Blk.new w cs T) (Ext.alloc' _ _) rfl)

/-! ### Where several may come up -/
/-- What is owed where number i has been picked. -/
def wpKi (P : Program) (ops : Array Oper) (Q : Exit → Act → World → Prop) (k0 : Nat) (S : World → Prop) (fuel : Nat) (listed : Array Bool) (i : Nat) (a : Act) (w : World) : Prop :=
  wpOp P ops Q i (fun a' w' => (act k0 (listed.setIfInBounds i true) = true → S w') ∧ wpK P ops Q k0 S fuel (listed.setIfInBounds i true) a' w') a w
theorem k_two (i j : Nat) (hr : Region.ready .any ops listed = [i, j]) (h1 : wpKi P ops Q k0 (ChgF B h0 w) fuel listed i a w) (h2 : wpKi P ops Q k0 (ChgF B h0 w) fuel listed j a w) : wpK P ops Q k0 (ChgF B h0 w) (fuel + 1) listed a w := by
  refine ⟨fun h0 => (by rw [h0] at hr; cases hr), fun k hk => ?_⟩
  rw [hr] at hk
  simp only [List.mem_cons, List.not_mem_nil, or_false] at hk
  rcases hk with rfl | rfl
  · exact h1
  · exact h2
theorem k_three (i j m : Nat) (hr : Region.ready .any ops listed = [i, j, m]) (h1 : wpKi P ops Q k0 (ChgF B h0 w) fuel listed i a w) (h2 : wpKi P ops Q k0 (ChgF B h0 w) fuel listed j a w) (h3 : wpKi P ops Q k0 (ChgF B h0 w) fuel listed m a w) : wpK P ops Q k0 (ChgF B h0 w) (fuel + 1) listed a w := by
  refine ⟨fun h0 => (by rw [h0] at hr; cases hr), fun k hk => ?_⟩
  rw [hr] at hk
  simp only [List.mem_cons, List.not_mem_nil, or_false] at hk
  rcases hk with rfl | rfl | rfl
  · exact h1
  · exact h2
  · exact h3
theorem kk_one (i : Nat) {o : Oper} (hi : ops[i]? = some o) (hg : o.guard = none)
    (h : o.wp P a w (fun a' w' => Go' B k0 h0 (listed.setIfInBounds i true) w w' ∧ wpK P ops Q k0 (ChgF B h0 w') fuel (listed.setIfInBounds i true) a' w') Q) : wpKi P ops Q k0 (ChgF B h0 w) fuel listed i a w := by
  unfold wpKi wpOp
  simp only [hi]
  rw [if_pos (by simp [Region.wanted, hg])]
  refine .inl (Oper.wp_mono (fun a' w' h' => ?_) h)
  rcases h'.1 with hc | hn
  · exact ⟨fun _ => hc, wpK_weaken (fun w'' hw => hc.trans hw) _ _ _ _ h'.2⟩
  · exact ⟨fun ha => (by rw [hn] at ha; cases ha), wpK_free _ _ _ _ hn h'.2⟩

/-- What leaves the world alone, where it is the one that may come up. -/
theorem kk_q (i : Nat) (H : Has a n l) (hi : ops[i]? = some ⟨some d, op, ty, pos, af, none⟩) (q : Q1 P (lo l) op (Ext w) v) (hd : Nat.blt d n = true)
    (h : ∀ a', Has a' n ((d, some v) :: l) → wpK P ops Q k0 (ChgF B h0 w) fuel (listed.setIfInBounds i true) a' w) : wpKi P ops Q k0 (ChgF B h0 w) fuel listed i a w := by
  refine kk_one i hi rfl ?_
  unfold Oper.wp
  rw [q a.eval H.eval w Ext.rfl' (some d) ty pos af none]
  exact ⟨.inl (ChgF.refl _ _ _), h _ (H.put d v hd)⟩

theorem kk_run (i : Nat) {w' : World} (H : Has a n l) (hi : ops[i]? = some ⟨some d, op, ty, pos, af, none⟩) (hrun : ∀ ρ : Operand → Value, (∀ x u, lo l x = some u → ρ x = u) → (execOp ρ ⟨some d, op, ty, pos, af, none⟩).run P w = .ok (.value v) w')
    (hd : Nat.blt d n = true) (hc : Go' B k0 h0 (listed.setIfInBounds i true) w w')
    (h : ∀ a', Has a' n ((d, some v) :: l) → wpK P ops Q k0 (ChgF B h0 w') fuel (listed.setIfInBounds i true) a' w') : wpKi P ops Q k0 (ChgF B h0 w) fuel listed i a w := by
  refine kk_one i hi rfl ?_
  unfold Oper.wp
  rw [hrun a.eval H.eval]
  exact ⟨hc, h _ (H.put d v hd)⟩

theorem kk_store (i : Nat) {x y : Operand} {t T : TypeId} {b o : Nat} {u : Value} {vs cs : List Value} (H : Has a n l) (hi : ops[i]? = some ⟨none, .store t x y, ty, pos, af, none⟩) (ex : lo l x = some (.pointer (some ⟨b, o, none⟩))) (ey : lo l y = some u)
    (hc : u.cells = vs.toArray) (hs : sizeB P t = some vs.length) (hb : Blk w b cs T) (hl : o + vs.length ≤ cs.length) (h1 : ∀ u ∈ vs, u.oneCell' = true) (hB : (b < h0 → b ∈ B) ∨ act k0 (listed.setIfInBounds i true) = false)
    (h : ∀ w', Blk w' b (cs.take o ++ vs ++ cs.drop (o + vs.length)) T → Chg [b] w w' → w'.heap.size = w.heap.size → ∀ a', Has a' n l → wpK P ops Q k0 (ChgF B h0 w') fuel (listed.setIfInBounds i true) a' w') :
    wpKi P ops Q k0 (ChgF B h0 w) fuel listed i a w := by
  obtain ⟨w', hrr, hb', hch, hsz⟩ := storeCells_blk P w b T vs 0 o cs hb (by omega) h1
  refine kk_one i hi rfl ?_
  unfold Oper.wp
  have hrun : (execOp a.eval ⟨none, .store t x y, ty, pos, af, none⟩).run P w = .ok .skip w' := by
    simp [execOp, H.eval x _ ex, H.eval y _ ey, Instr.storeAt, Instr.sureAddr, storeVar, hc, run_sizeOf hs, hrr]
  rw [hrun]
  refine ⟨?_, h w' (by simpa using hb') hch hsz _ H⟩
  rcases hB with hB | hB
  · exact .inl (ChgF.of hch fun k hk h => by rw [List.mem_singleton.1 hk] at h ⊢; exact hB h)
  · exact .inr hB

theorem kk_storeAll (i : Nat) {x y : Operand} {t T : TypeId} {b : Nat} {u : Value} {vs cs : List Value} (H : Has a n l) (hi : ops[i]? = some ⟨none, .store t x y, ty, pos, af, none⟩) (ex : lo l x = some (.pointer (some ⟨b, 0, none⟩))) (ey : lo l y = some u)
    (hc : u.cells = vs.toArray) (hs : sizeB P t = some vs.length) (hb : Blk w b cs T) (hl : vs.length = cs.length) (h1 : ∀ u ∈ vs, u.oneCell' = true) (hB : (b < h0 → b ∈ B) ∨ act k0 (listed.setIfInBounds i true) = false)
    (h : ∀ w', Blk w' b vs T → Chg [b] w w' → w'.heap.size = w.heap.size → ∀ a', Has a' n l → wpK P ops Q k0 (ChgF B h0 w') fuel (listed.setIfInBounds i true) a' w') :
    wpKi P ops Q k0 (ChgF B h0 w) fuel listed i a w :=
  kk_store i H hi ex ey hc hs hb (by omega) h1 hB fun w' hb' hch hsz a' H' => by
    have e : cs.take 0 ++ vs ++ cs.drop (0 + vs.length) = vs := by rw [List.take_zero, List.nil_append, Nat.zero_add, hl, List.drop_length, List.append_nil]
    rw [e] at hb'
    exact h w' hb' hch hsz a' H'

theorem kk_store1 (i : Nat) {x y : Operand} {t T : TypeId} {b o : Nat} {u : Value} {cs : List Value} (H : Has a n l) (hi : ops[i]? = some ⟨none, .store t x y, ty, pos, af, none⟩) (ex : lo l x = some (.pointer (some ⟨b, o, none⟩))) (ey : lo l y = some u)
    (hs : sizeB P t = some 1) (hb : Blk w b cs T) (hl : o < cs.length) (h1 : u.oneCell' = true) (hB : (b < h0 → b ∈ B) ∨ act k0 (listed.setIfInBounds i true) = false)
    (h : ∀ w', Blk w' b (cs.set o u) T → Chg [b] w w' → w'.heap.size = w.heap.size → ∀ a', Has a' n l → wpK P ops Q k0 (ChgF B h0 w') fuel (listed.setIfInBounds i true) a' w') :
    wpKi P ops Q k0 (ChgF B h0 w) fuel listed i a w :=
  kk_store (vs := [u]) i H hi ex ey (cells_one h1) hs hb (by simp only [List.length_cons, List.length_nil]; omega) (by simpa using h1) hB fun w' hb' hch hsz a' H' => by
    have e : cs.take o ++ [u] ++ cs.drop (o + [u].length) = cs.set o u := set_one hl
    rw [e] at hb'
    exact h w' hb' hch hsz a' H'

theorem kk_call (i : Nat) {f : FuncId} {xs : List Operand} {tys : Array TypeId} {vs : List Value} {Φ : Value → World → Prop} (H : Has a n l)
    (hi : ops[i]? = some ⟨some d, .call { callee := .value (.func f), args := xs.toArray, argTypes := tys }, ty, pos, af, none⟩) (e : loAll l xs = some vs) (hf : entersB P f = true) (hc : Calls P f vs.toArray w (Ret Φ)) (hd : Nat.blt d n = true)
    (hΦ : ∀ v w', Φ v w' → Go' B k0 h0 (listed.setIfInBounds i true) w w')
    (h : ∀ v w', Φ v w' → ∀ a', Has a' n ((d, some v) :: l) → wpK P ops Q k0 (ChgF B h0 w') fuel (listed.setIfInBounds i true) a' w') : wpKi P ops Q k0 (ChgF B h0 w) fuel listed i a w := by
  refine kk_one i hi rfl ?_
  refine wp_call (f := f) (args := vs.toArray) (by
    have := loAll_map H.eval xs vs e
    simp [execOp, resolve, Act.eval, Deferred.ofValue, invoke, run_callFunc_enters hf, this]) hc fun v w' hv => ?_
  exact ⟨hΦ v w' hv, h v w' hv _ (H.put d v hd)⟩

theorem kk_append (i : Nat) {x y : Operand} {t t' E k bytes : Nat} {z : List Value} {d' : TypeDesc} {u : Value} {m0 m : Nat} {xs news : List Value} (H : Has a n l)
    (hi : ops[i]? = some ⟨some d, .call { callee := .builtin .append, args := #[x, y], argTypes := #[t, t'] }, ty, pos, af, none⟩) (ex : lo l x = some v) (ey : lo l y = some u)
    (ht : P.underlying t = some (.slice E)) (ht' : P.underlying t' = some d') (hd' : ∀ q, d' ≠ .int q) (hE : ElemOk P E k bytes z) (hv : Own w E k v m0 xs) (hx : Src w k u m news) (h1 : ∀ u ∈ news, u.oneCell' = true)
    (hb : (m0 + m) * bytes ≤ 140737488355328) (h63 : m0 + m ≤ maxLen) (hd : Nat.blt d n = true) (hB : (∀ b ∈ blks v, b < h0 → b ∈ B) ∨ act k0 (listed.setIfInBounds i true) = false)
    (h : ∀ v' w', Own w' E k v' (m0 + m) (xs ++ news) → Chg (blks v) w w' → (blks v' = blks v ∨ ∃ b, blks v' = [b] ∧ w.heap.size ≤ b) → (v' = .slice none 0 0 ↔ v = .slice none 0 0 ∧ m = 0) →
      ∀ a', Has a' n ((d, some v') :: l) → wpK P ops Q k0 (ChgF B h0 w') fuel (listed.setIfInBounds i true) a' w') : wpKi P ops Q k0 (ChgF B h0 w) fuel listed i a w := by
  obtain ⟨v', w', hrr, h2, h3, h4, h5⟩ := run_append (ty := ty) ht ht' hd' hE hv hx h1 hb h63
  refine kk_run i (w' := w') H hi (fun ρ hρ => by simp [execOp, resolve, invoke, builtin, hρ x _ ex, hρ y _ ey, hrr]) hd ?_ (h v' w' h2 h3 h4 h5)
  rcases hB with hB | hB
  · exact .inl (ChgF.of h3 hB)
  · exact .inr hB

theorem kk_buildSlice (i : Nat) {T E k len : Nat} {ps : List (Nat × Operand)} {vs : List (Nat × Value)} {zs cs : List Value} (H : Has a n l) (hi : ops[i]? = some ⟨some d, .buildSlice T len ps.toArray, ty, pos, af, none⟩)
    (ht : P.underlying T = some (.slice E)) (hk : sizeB P E = some k) (hz : zeroB P E = some zs) (hle : Nat.ble (len * k) 16777216 = true)
    (hzl : zs.length = k) (e : loP (lo l) ps = some vs) (hf : Instr.fill (fun i => some (i * k, k)) ((List.replicate len zs).flatten).toArray vs = some cs.toArray) (hd : Nat.blt d n = true)
    (h : ∀ b w', Blk w' b cs E → Ext w w' → w.heap.size = b → ∀ a', Has a' n ((d, some (.slice (some ⟨b, 0, none⟩) len len)) :: l) → wpK P ops Q k0 (ChgF B h0 w') fuel (listed.setIfInBounds i true) a' w') :
    wpKi P ops Q k0 (ChgF B h0 w) fuel listed i a w :=
  kk_run i (w' := w.alloc (.cells cs.toArray E)) H hi (fun ρ hρ => run_bs ht hk hz hle hzl e hf ρ hρ) hd (.inl (ChgF.of_ext (Ext.alloc' _ _))) (h w.heap.size _ (Blk.new w cs E) (Ext.alloc' _ _) rfl)

theorem kk_alloc (i : Nat) {T : TypeId} {cs : List Value} (H : Has a n l) (hi : ops[i]? = some ⟨some d, .alloc T, ty, pos, af, none⟩) (hz : zeroB P T = some cs) (hd : Nat.blt d n = true)
    (h : ∀ b w', Blk w' b cs T → Ext w w' → w.heap.size = b → ∀ a', Has a' n ((d, some (.pointer (some ⟨b, 0, none⟩))) :: l) → wpK P ops Q k0 (ChgF B h0 w') fuel (listed.setIfInBounds i true) a' w') :
    wpKi P ops Q k0 (ChgF B h0 w) fuel listed i a w :=
  kk_run i (w' := w.alloc (.cells cs.toArray T)) H hi (fun ρ hρ => by
    obtain ⟨z, hr, hzc⟩ := run_zero hz w
    simp [execOp, Instr.alloc, hr, newVar, newRow, hzc]) hd (.inl (ChgF.of_ext (Ext.alloc' _ _))) (h w.heap.size _ (Blk.new w cs T) (Ext.alloc' _ _) rfl)

theorem kk_box (i : Nat) {x : Operand} {T : TypeId} {u : Value} {cs : List Value} (H : Has a n l) (hi : ops[i]? = some ⟨some d, .box T x, ty, pos, af, none⟩) (e : lo l x = some u) (hc : u.cells = cs.toArray) (hd : Nat.blt d n = true)
    (h : ∀ b w', Blk w' b cs T → Ext w w' → w.heap.size = b → ∀ a', Has a' n ((d, some (.pointer (some ⟨b, 0, none⟩))) :: l) → wpK P ops Q k0 (ChgF B h0 w') fuel (listed.setIfInBounds i true) a' w') :
    wpKi P ops Q k0 (ChgF B h0 w) fuel listed i a w :=
  kk_run i (w' := w.alloc (.cells cs.toArray T)) H hi (fun ρ hρ => by simp [execOp, hρ x _ e, Instr.box, newVar, newRow, hc]) hd (.inl (ChgF.of_ext (Ext.alloc' _ _))) (h w.heap.size _ (Blk.new w cs T) (Ext.alloc' _ _) rfl)

/-! ### Footprints: what a fact reads -/
structure Foot (F : World → Prop) (fp : Nat → Prop) (w : World) : Prop where
  lt : ∀ b, fp b → b < w.heap.size
  all : ∀ w', (∀ b, fp b → w'.heap[b]? = w.heap[b]?) → F w'
theorem Foot.now {F : World → Prop} {fp : Nat → Prop} {w : World} (h : Foot F fp w) : F w := h.all w fun _ _ => rfl
theorem Foot.chg {F : World → Prop} {fp : Nat → Prop} {w w' : World} {D : List Nat} (h : Foot F fp w) (c : Chg D w w') (hd : ∀ b ∈ D, b < w.heap.size → ¬ fp b) : Foot F fp w' :=
  ⟨fun b hb => Nat.lt_of_lt_of_le (h.lt b hb) c.size, fun w'' hw => h.all w'' fun b hb => (hw b hb).trans (c.block b (h.lt b hb) fun hm => hd b hm (h.lt b hb) hb)⟩
theorem Foot.ext {F : World → Prop} {fp : Nat → Prop} {w w' : World} (h : Foot F fp w) (e : Ext w w') : Foot F fp w' :=
  h.chg (Chg.of_ext (S := []) e) (by simp)
theorem Foot.mono {F G : World → Prop} {fp : Nat → Prop} {w : World} (h : Foot F fp w) (hFG : ∀ w', F w' → G w') : Foot G fp w := ⟨h.lt, fun w' hw => hFG w' (h.all w' hw)⟩
theorem Foot.and {F G : World → Prop} {fp fq : Nat → Prop} {w : World} (h : Foot F fp w) (k : Foot G fq w) : Foot (fun w' => F w' ∧ G w') (fun b => fp b ∨ fq b) w :=
  ⟨fun b hb => hb.elim (h.lt b) (k.lt b), fun w' hw => ⟨h.all w' fun b hb => hw b (.inl hb), k.all w' fun b hb => hw b (.inr hb)⟩⟩
theorem Own.foot {E k : Nat} {v : Value} {n : Nat} {xs : List Value} (h : Own w E k v n xs) : Foot (fun w' => Own w' E k v n xs) (fun b => b ∈ blks v) w := by
  refine ⟨h.lt, fun w' hw => ?_⟩
  rcases h with h | ⟨b, cap, cs, rfl, ⟨fr, h2, h2'⟩, h3⟩
  · exact .inl h
  · exact .inr ⟨b, cap, cs, rfl, ⟨fr, (hw b (by simp [blks])).trans h2, h2'⟩, h3⟩
theorem Blk.foot {b : Nat} {cs : List Value} {T : TypeId} (h : Blk w b cs T) : Foot (fun w' => Blk w' b cs T) (fun c => c = b) w := by
  have hl := h.lt
  refine ⟨fun c hc => by rw [hc]; exact hl, fun w' hw => ?_⟩
  obtain ⟨fr, h2, h2'⟩ := h
  exact ⟨fr, (hw b rfl).trans h2, h2'⟩
theorem Own.ofBlk {b E k n : Nat} {cs : List Value} (h : Blk w b cs E) (hn : cs.length = n * k) (hm : n ≤ maxLen) : Own w E k (.slice (some ⟨b, 0, none⟩) n n) n cs :=
  .inr ⟨b, n, cs, rfl, h, Nat.le_refl _, hm, hn, hn, by rw [← hn]; exact List.take_length⟩

/-! loads in the class -/
theorem ChgF.blk {w' : World} {b : Nat} {cs : List Value} {T : TypeId} (h : ChgF B h0 w w') (k : Blk w b cs T) (hb : b < h0) (hn : b ∉ B) : Blk w' b cs T := by
  have hl := k.lt
  obtain ⟨fr, h1, h2⟩ := k
  exact ⟨fr, (h.block b hl hb hn).trans h1, h2⟩
theorem Blk.ldB {t : TypeId} {b : Nat} {cs : List Value} {T : TypeId} (h : Blk w b cs T) (hb : b < h0) (hn : b ∉ B) {j : Nat} {v : Value} (ht : aggB P t = some false) (hj : cs[j]? = some v) : LdC P t (ChgF B h0 w) ⟨b, j, none⟩ v :=
  fun w' hw' => Ld.one ht (((hw'.blk h hb hn).cell j).trans hj)
theorem Blk.ldAllB {t : TypeId} {b : Nat} {cs : List Value} {T : TypeId} (h : Blk w b cs T) (hb : b < h0) (hn : b ∉ B) (ht : aggB P t = some true) (hs : sizeB P t = some cs.length) : LdC P t (ChgF B h0 w) ⟨b, 0, none⟩ (.agg cs.toArray) :=
  fun w' hw' => (hw'.blk h hb hn).ldAll ht hs w' Ext.rfl'
/-- A load of memory older than w0, where all that is written is newer. -/
theorem LdC.old {t : TypeId} {w0 : World} {ad : Addr} {v : Value} (h : LdX P t w0 ad v) (hx : Ext w0 w) (hh : w0.heap.size ≤ h0) (hn : ∀ b ∈ B, w0.heap.size ≤ b) : LdC P t (ChgF B h0 w) ad v :=
  fun w' hw' => h w' ⟨hw'.os.trans hx.os, hw'.tape.trans hx.tape, hw'.output.trans hx.output, Nat.le_trans hx.size hw'.size, fun k hk => (hw'.block k (Nat.lt_of_lt_of_le hk hx.size) (Nat.lt_of_lt_of_le hk hh) fun hm => by have := hn k hm; omega).trans (hx.block k hk)⟩
end
end Go.Proofs.YtnhjohcgnmogaaaDoor
