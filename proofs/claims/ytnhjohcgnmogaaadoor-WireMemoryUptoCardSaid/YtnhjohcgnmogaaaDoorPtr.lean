/- What pointers lead to: an array's place written, facts that last while a call writes. No program is named here. -/
import Derived.Test.YtnhjohcgnmogaaaDoorCpy
set_option linter.unusedVariables false
set_option linter.unusedSimpArgs false
set_option linter.unusedSectionVars false
namespace Go.Proofs.YtnhjohcgnmogaaaDoor
open Go Go.RowKit

theorem vec_setO {α : Type} {n : Nat} (v : Vector α n) (f : α → Value) (i : Nat) (y : α) : (v.toList.map f).set (0 + i) (f y) = (v.setIfInBounds i y).toList.map f := by rw [Nat.zero_add]; exact vec_set v f i y
theorem arr_at1O {α : Type} {n : Nat} {v : Vector α n} {f : α → Value} {i : Nat} {x : α} (h : v[i]? = some x) : (v.toList.map f)[0 + i]? = some (f x) := by rw [Nat.zero_add]; exact arr_at1 h
theorem rdS_byte {s : ByteArray} {z c : Int} (h : rdS s z = some c) : c = ((byteOf c).toNat : Int) := by
  obtain ⟨h0, h1, rfl⟩ := rdS_some h
  rw [byteOf_toNat]
  have := (s[z.toNat]'h1).toNat_lt
  omega
theorem vec_setA {α : Type} {n k : Nat} {pre : List Value} {u : Value} (hp : pre.length = k) (v : Vector α n) (f : α → Value) (i : Nat) (y : α) (hu : u = f y) : (pre ++ v.toList.map f).set (k + i) u = pre ++ (v.setIfInBounds i y).toList.map f := by
  subst hu hp
  rw [List.set_append_right _ _ (by omega), Nat.add_sub_cancel_left, vec_set]
theorem vec_setB {α : Type} {n k : Nat} {pre suf : List Value} {u : Value} (hp : pre.length = k) (v : Vector α n) (f : α → Value) (i : Nat) (y : α) (hu : u = f y) (hi : i < n) : (pre ++ v.toList.map f ++ suf).set (k + i) u = pre ++ (v.setIfInBounds i y).toList.map f ++ suf := by
  rw [List.set_append_left _ _ (by simp; omega), vec_setA hp v f i y hu]
theorem vec_setC {α : Type} {n : Nat} {suf : List Value} {u : Value} (v : Vector α n) (f : α → Value) (i : Nat) (y : α) (hu : u = f y) (hi : i < n) : (v.toList.map f ++ suf).set (0 + i) u = (v.setIfInBounds i y).toList.map f ++ suf := by
  subst hu
  rw [List.set_append_left _ _ (by simp; omega), vec_setO]
/-- The first of a slice's elements. -/
theorem SlR.takeV {α : Type} {w : World} {k : Nat} {R : World → List Value → α → Prop} {v : Value} {xs : List α} {A : Option Addr} {n c : Nat} {z : Int} (h : SlR w k R v xs) (hv : v = .slice A n c) (h0 : 0 ≤ z) (h1 : z ≤ ((xs.length : Nat) : Int)) : SlR w k R (.slice A z.toNat c) (xs.take z.toNat) := by
  obtain ⟨A', c', g1, g2, g3, g4, g5⟩ := h
  have e := g1.symm.trans hv
  cases e
  refine ⟨A, c, by rw [List.length_take, Nat.min_eq_left (by omega)], by rw [List.length_take]; omega, g3, fun hA => ?_, fun ad ha i x hx => ?_⟩
  · obtain ⟨e1, e2⟩ := g4 hA
    exact ⟨by rw [e1]; simp, e2⟩
  · rw [List.getElem?_take] at hx
    split at hx
    · exact g5 ad ha i x hx
    · cases hx
theorem SlR.takeV3 {α : Type} {w : World} {k : Nat} {R : World → List Value → α → Prop} {v : Value} {xs : List α} {A : Option Addr} {n c : Nat} {z : Int} (h : SlR w k R v xs) (hv : v = .slice A n c) (h0 : 0 ≤ z) (h1 : z ≤ ((xs.length : Nat) : Int)) : SlR w k R (.slice A z.toNat z.toNat) (xs.take z.toNat) := by
  obtain ⟨A', c', g1, g2, g3, g4, g5⟩ := h
  have e := g1.symm.trans hv
  cases e
  refine ⟨A, z.toNat, by rw [List.length_take, Nat.min_eq_left (by omega)], by rw [List.length_take]; omega, by omega, fun hA => ?_, fun ad ha i x hx => ?_⟩
  · obtain ⟨e1, e2⟩ := g4 hA
    exact ⟨by rw [e1]; simp, by rw [e1] at h1; simp at h1; omega⟩
  · rw [List.getElem?_take] at hx
    split at hx
    · exact g5 ad ha i x hx
    · cases hx
theorem eB_xor (a b : Int) : eB (byteOf (bitXor .u8 a b)) = [.int .u8 (bitXor .u8 a b)] := by
  have h : 0 ≤ bitXor .u8 a b ∧ bitXor .u8 a b < 256 := by
    unfold bitXor
    generalize ((BitVec.ofInt IntKind.u8.bits a ^^^ BitVec.ofInt IntKind.u8.bits b).toNat : Int) = z
    have h : IntKind.u8.wrap z = z % 256 := by simp [IntKind.wrap, IntKind.signed, IntKind.bits]
    rw [h]; omega
  exact eB_lit h.1 h.2
/-! ### Elements written where the order is drawn -/
section
variable {P : Program} {ops : Array Oper} {Q : Exit → Act → World → Prop} {rest : List Oper} {a : Act} {n : Nat} {l : List (Nat × Option Value)} {w : World} {B : List Nat} {k0 h0 : Nat}
  {op : Op} {ty : TypeId} {pos : String} {af : Array Edge} {d fuel : Nat} {listed : Array Bool} {α : Type} {e : α → List Value} {E k i j o c n0 : Nat} {v u : Value} {xs : List α} {x0 x' : α} {ad : Addr} {A : Option Addr} {t : TypeId} {x y : Operand}
theorem set_at (y : α) (h : xs[i]? = some x0) : (xs.set i y)[i]? = some y := by
  have := (List.getElem?_eq_some_iff.1 h).1
  simp [this]
theorem k_storeEl (q : Nat) (H : Has a n l) (hq : ops[q]? = some ⟨none, .store t x y, ty, pos, af, none⟩) (ex : lo l x = some (.pointer (some (ad.add (i * k))))) (ey : lo l y = some u) (hs : sizeB P t = some k) (hO : Own w E k v xs.length (xs.flatMap e)) (hv : v = .slice A n0 c) (hA : A = some ad) (hi : i < xs.length)
    (hu : u.cells = (e x').toArray) (h1 : ∀ c ∈ e x', c.oneCell' = true) (hl : ∀ z, (e z).length = k) (hr : Region.ready .any ops listed = [q]) (hB : (∀ b ∈ blks v, b < h0 → b ∈ B) ∨ act k0 (listed.setIfInBounds q true) = false)
    (h : ∀ w', Own w' E k v (xs.set i x').length ((xs.set i x').flatMap e) → Chg (blks v) w w' → ∀ a', Has a' n l → wpK P ops Q k0 (ChgF B h0 w') fuel (listed.setIfInBounds q true) a' w') :
    wpK P ops Q k0 (ChgF B h0 w) (fuel + 1) listed a w := by
  rcases hO with ⟨rfl, hz, _⟩ | ⟨b, cap, cs, rfl, hBl, h2, h3, h4, h5, h6⟩
  · omega
  · cases hv; cases hA
    rw [plain_add] at ex
    have hik : i * k + k ≤ xs.length * k := by
      have := Nat.mul_le_mul_right k (show i + 1 ≤ xs.length from hi)
      rwa [Nat.succ_mul] at this
    have hc := Nat.mul_le_mul_right k h2
    refine k_store (vs := e x') q H hq ex ey hu (by rw [hs, hl]) hBl (by rw [hl]; omega) h1 hr (hB.imp (fun f hlt => f b (by simp [blks]) hlt) id) fun w' hB' hC _ a' H' => ?_
    refine h w' ?_ (by simpa [blks] using hC) a' H'
    have := Own.splice (vs := e x') (o := i * k) h2 h3 h4 h6 h5 (by rw [hl]; omega) hB'
    rw [flat_splice hl x' xs i hi] at this
    rw [List.length_set]
    exact this
theorem k_storeElC (q : Nat) (H : Has a n l) (hq : ops[q]? = some ⟨none, .store t x y, ty, pos, af, none⟩) (ex : lo l x = some (.pointer (some ((ad.add (i * k)).add j)))) (ey : lo l y = some u) (hs : sizeB P t = some 1) (hO : Own w E k v xs.length (xs.flatMap e)) (hv : v = .slice A n0 c) (hA : A = some ad) (hx : xs[i]? = some x0)
    (hu : e x' = (e x0).set j u) (hl : ∀ z, (e z).length = k) (hj : j < k) (h1 : u.oneCell' = true) (hr : Region.ready .any ops listed = [q]) (hB : (∀ b ∈ blks v, b < h0 → b ∈ B) ∨ act k0 (listed.setIfInBounds q true) = false)
    (h : ∀ w', Own w' E k v (xs.set i x').length ((xs.set i x').flatMap e) → Chg (blks v) w w' → ∀ a', Has a' n l → wpK P ops Q k0 (ChgF B h0 w') fuel (listed.setIfInBounds q true) a' w') :
    wpK P ops Q k0 (ChgF B h0 w) (fuel + 1) listed a w := by
  have hi := (List.getElem?_eq_some_iff.1 hx).1
  rcases id hO with ⟨rfl, hz, _⟩ | ⟨b, cap, cs, rfl, hBl, h2, h3, h4, h5, h6⟩
  · omega
  · cases hv; cases hA
    rw [plain_add, plain_add'] at ex
    have hik : i * k + k ≤ xs.length * k := by
      have := Nat.mul_le_mul_right k (show i + 1 ≤ xs.length from hi)
      rwa [Nat.succ_mul] at this
    obtain ⟨cs', hb', g2, g3, g4, g5, g6⟩ := hO.blk
    have hc : xs.length * k ≤ c * k := Nat.mul_le_mul_right k g2
    refine k_store1 q H hq ex ey hs hb' (by omega) h1 hr (hB.imp (fun f hlt => f b (by simp [blks]) hlt) id) fun w' hB hC hz a' H' => h w' ?_ (by simpa [blks] using hC) a' H'
    have hO' : Own w' E k (.slice (some ⟨b, 0, none⟩) xs.length c) xs.length ((xs.flatMap e).set (i * k + j) u) := by
      refine Own.ofBlk' hB g2 g3 (by simpa using g4) ?_ (by simpa using g5)
      rw [List.take_set, g6]
    rw [flat_take hl xs i j x0 u hx hj x' hu] at hO'
    rw [List.length_set]
    exact hO'
theorem n_storeElA (H : Has a n l) (ex : lo l x = some (.pointer (some (((ad.add (i * k)).add o).add j)))) (ey : lo l y = some u) (hs : sizeB P t = some 1) (hO : Own w E k v xs.length (xs.flatMap e)) (hv : v = .slice A n0 c) (hA : A = some ad) (hx : xs[i]? = some x0)
    (hu : e x' = (e x0).set (o + j) u) (hl : ∀ z, (e z).length = k) (hj : o + j < k) (h1 : u.oneCell' = true)
    (h : ∀ w', Own w' E k v (xs.set i x').length ((xs.set i x').flatMap e) → Chg (blks v) w w' → ∀ a', Has a' n l → wpList P ops Q rest a' w') :
    wpList P ops Q (⟨none, .store t x y, ty, pos, af, none⟩ :: rest) a w := by
  rw [add_add] at ex
  exact n_storeElC H ex ey hs hO hv hA hx hu hl hj h1 h
theorem k_storeElA (q : Nat) (H : Has a n l) (hq : ops[q]? = some ⟨none, .store t x y, ty, pos, af, none⟩) (ex : lo l x = some (.pointer (some (((ad.add (i * k)).add o).add j)))) (ey : lo l y = some u) (hs : sizeB P t = some 1) (hO : Own w E k v xs.length (xs.flatMap e)) (hv : v = .slice A n0 c) (hA : A = some ad) (hx : xs[i]? = some x0)
    (hu : e x' = (e x0).set (o + j) u) (hl : ∀ z, (e z).length = k) (hj : o + j < k) (h1 : u.oneCell' = true) (hr : Region.ready .any ops listed = [q]) (hB : (∀ b ∈ blks v, b < h0 → b ∈ B) ∨ act k0 (listed.setIfInBounds q true) = false)
    (h : ∀ w', Own w' E k v (xs.set i x').length ((xs.set i x').flatMap e) → Chg (blks v) w w' → ∀ a', Has a' n l → wpK P ops Q k0 (ChgF B h0 w') fuel (listed.setIfInBounds q true) a' w') :
    wpK P ops Q k0 (ChgF B h0 w) (fuel + 1) listed a w := by
  rw [add_add] at ex
  exact k_storeElC q H hq ex ey hs hO hv hA hx hu hl hj h1 hr hB h
/-- Where a guard is known. -/
theorem kg_run (i : Nat) {jg tg : Nat} {want : Bool} {w' : World} {v : Value} (H : Has a n l) (hi : ops[i]? = some ⟨some d, op, ty, pos, af, some (jg, want)⟩) (hj : (ops[jg]?).bind (·.dst) = some tg) (ht : lk l tg = some (.bool want)) (hrun : ∀ ρ : Operand → Value, (∀ x u, lo l x = some u → ρ x = u) → (execOp ρ ⟨some d, op, ty, pos, af, some (jg, want)⟩).run P w = .ok (.value v) w')
    (hd : Nat.blt d n = true) (hr : Region.ready .any ops listed = [i]) (hc : Go' B k0 h0 (listed.setIfInBounds i true) w w')
    (h : ∀ a', Has a' n ((d, some v) :: l) → wpK P ops Q k0 (ChgF B h0 w') fuel (listed.setIfInBounds i true) a' w') : wpK P ops Q k0 (ChgF B h0 w) (fuel + 1) listed a w := by
  refine kg_one i hi (wanted_known H hj ht) hr ?_
  unfold Oper.wp
  rw [hrun a.eval H.eval]
  exact ⟨hc, h _ (H.put d v hd)⟩
theorem kg_buildSlice (i : Nat) {jg tg : Nat} {want : Bool} {T E k len : Nat} {ps : List (Nat × Operand)} {vs : List (Nat × Value)} {zs cs : List Value} (H : Has a n l) (hi : ops[i]? = some ⟨some d, .buildSlice T len ps.toArray, ty, pos, af, some (jg, want)⟩) (hj : (ops[jg]?).bind (·.dst) = some tg) (htg : lk l tg = some (.bool want))
    (ht : P.underlying T = some (.slice E)) (hk : sizeB P E = some k) (hz : zeroB P E = some zs) (hle : Nat.ble (len * k) 16777216 = true)
    (hzl : zs.length = k) (e : loP (lo l) ps = some vs) (hf : Instr.fill (fun i => some (i * k, k)) ((List.replicate len zs).flatten).toArray vs = some cs.toArray) (hd : Nat.blt d n = true) (hr : Region.ready .any ops listed = [i])
    (h : ∀ b w', Blk w' b cs E → Ext w w' → w.heap.size = b → ∀ a', Has a' n ((d, some (.slice (some ⟨b, 0, none⟩) len len)) :: l) → wpK P ops Q k0 (ChgF B h0 w') fuel (listed.setIfInBounds i true) a' w') :
    wpK P ops Q k0 (ChgF B h0 w) (fuel + 1) listed a w :=
  kg_run i (w' := w.alloc (.cells cs.toArray E)) H hi hj htg (fun ρ hρ => run_bs ht hk hz hle hzl e hf ρ hρ) hd hr (.inl (ChgF.of_ext (Ext.alloc' _ _))) (h w.heap.size _ (Blk.new w cs E) (Ext.alloc' _ _) rfl)
end
/-! ### Loads that the first write waits for through others -/
section
variable {P : Program} {ops : Array Oper} {Q : Exit → Act → World → Prop} {k0 : Nat} {S : World → Prop}
def aftM : List (Edge) → Nat
  | [] => 0
  | e :: r => if Region.binds .any e = true then aftM r ||| 2 ^ e.on else aftM r
def opM (ops : Array Oper) (j : Nat) : Nat := match ops[j]? with
  | none => 0
  | some o => aftM o.after.toList
def stepM (ops : Array Oper) (M : Nat) : List Nat → Nat → Nat
  | [], z => z
  | j :: r, z => stepM ops M r (if M.testBit j = true then z ||| opM ops j else z)
/-- What number k0 waits for, through so many others. -/
def reachM (ops : Array Oper) (k0 : Nat) : Nat → Nat
  | 0 => 2 ^ k0
  | f + 1 => stepM ops (reachM ops k0 f) (List.range ops.size) (reachM ops k0 f)
def Closed (ops : Array Oper) (listed : Array Bool) : Prop := ∀ j o, ops[j]? = some o → listed.getD j false = true → ∀ e ∈ o.after, Region.binds .any e = true → listed.getD e.on false = true
def closedB (ops : Array Oper) (listed : Array Bool) : Bool := (List.range ops.size).all fun j => !(listed.getD j false) || (match ops[j]? with
  | none => true
  | some o => o.after.toList.all fun e => !(Region.binds .any e) || listed.getD e.on false)
theorem closedB_spec {listed : Array Bool} (h : closedB ops listed = true) : Closed ops listed := by
  intro j o ho hl e he hb
  have hj : j < ops.size := (Array.getElem?_eq_some_iff.1 ho).1
  have := List.all_eq_true.1 h j (List.mem_range.2 hj)
  rw [hl, ho] at this
  simp only [Bool.not_true, Bool.false_or] at this
  have := List.all_eq_true.1 this e (by simpa using he)
  rw [hb] at this
  simpa using this
theorem aftM_bit : ∀ {l : List Edge} {i : Nat}, (aftM l).testBit i = true → ∃ e ∈ l, Region.binds .any e = true ∧ e.on = i
  | [], i, h => by simp [aftM] at h
  | e :: r, i, h => by
    unfold aftM at h
    split at h
    · rename_i hb
      rw [Nat.testBit_or, Bool.or_eq_true] at h
      rcases h with h | h
      · obtain ⟨e', h1, h2⟩ := aftM_bit h
        exact ⟨e', List.mem_cons_of_mem _ h1, h2⟩
      · refine ⟨e, List.mem_cons_self .., hb, ?_⟩
        rw [Nat.testBit_two_pow] at h
        exact of_decide_eq_true h
    · obtain ⟨e', h1, h2⟩ := aftM_bit h
      exact ⟨e', List.mem_cons_of_mem _ h1, h2⟩
theorem stepM_inv {G : Nat → Prop} {M : Nat} (h : ∀ j, M.testBit j = true → ∀ i, (opM ops j).testBit i = true → G i) : ∀ (l : List Nat) (z : Nat), (∀ i, z.testBit i = true → G i) → ∀ i, (stepM ops M l z).testBit i = true → G i
  | [], z, hz => hz
  | j :: r, z, hz => by
    rw [stepM]
    refine stepM_inv h r _ fun i hi => ?_
    split at hi
    · rename_i hj
      rw [Nat.testBit_or, Bool.or_eq_true] at hi
      rcases hi with hi | hi
      · exact hz i hi
      · exact h j hj i hi
    · exact hz i hi
theorem reach_listed {listed : Array Bool} {o0 : Oper} (hc : Closed ops listed) (h0 : ops[k0]? = some o0) (hp : ∀ e ∈ o0.after, Region.binds .any e = true → listed.getD e.on false = true) : ∀ (f i : Nat), (reachM ops k0 f).testBit i = true → i = k0 ∨ listed.getD i false = true
  | 0, i, h => by
    rw [reachM, Nat.testBit_two_pow] at h
    exact .inl (of_decide_eq_true h).symm
  | f + 1, i, h => by
    rw [reachM] at h
    refine stepM_inv (G := fun i => i = k0 ∨ listed.getD i false = true) (fun j hj i hi => ?_) _ _ (fun i hi => reach_listed hc h0 hp f i hi) i h
    have hr := reach_listed hc h0 hp f j hj
    unfold opM at hi
    cases ho : ops[j]? with
    | none => rw [ho] at hi; simp at hi
    | some o =>
      rw [ho] at hi
      obtain ⟨e, h1, h2, rfl⟩ := aftM_bit hi
      rcases hr with rfl | hr
      · rw [h0] at ho
        cases ho
        exact .inr (hp e (by simpa using h1) h2)
      · exact .inr (hc j o ho hr e (by simpa using h1) h2)
theorem wpK_firstR {i f : Nat} {oi : Oper} {v : Value} (hi : ops[i]? = some oi) (hsel : ∀ (j : Nat) (o : Oper) cs b, ops[j]? = some o → o.op ≠ .select cs b)
    (hQ : ∀ c a w, Q (.panic c) (a.put oi.dst v) w → Q (.panic c) a w) (hb : (reachM ops k0 f).testBit i = true) (hne : i ≠ k0) :
    ∀ (fuel : Nat) (listed : Array Bool) (a : Act) (w : World), act k0 listed = true → listed.size = ops.size → Closed ops listed →
      (∀ j oj, ops[j]? = some oj → j ≠ i → listed.getD j true = false → (∀ e ∈ oj.after, Region.binds .any e = true → e.on ≠ i) → oi.apart ops oj = true) →
      i ∈ Region.ready .any ops listed → YieldsIf P ops S oi v a → S w →
      wpK P ops Q k0 S fuel (listed.setIfInBounds i true) (a.put oi.dst v) w → wpK P ops Q k0 S (fuel + 1) listed a w := by
  intro fuel
  induction fuel with
  | zero =>
    intro listed a w hk hsz _ _ hr hy hS H
    refine ⟨fun h => (by rw [h] at hr; cases hr), fun j hj => ?_⟩
    by_cases hji : j = i
    · subst hji; exact hy.wpOp hi hS ⟨fun _ => hS, H⟩
    · have := ready_mono hj hji
      rw [H.1] at this
      cases this
  | succ fuel ih =>
    intro listed a w hk hsz hcl hfree hr hy hS H
    refine ⟨fun h => (by rw [h] at hr; cases hr), fun j hj => ?_⟩
    by_cases hji : j = i
    · subst hji; exact hy.wpOp hi hS ⟨fun _ => hS, H⟩
    · have h1 := H.2 j (ready_mono hj hji)
      obtain ⟨hjun, oj, hoj, hall⟩ := mem_ready.1 hj
      have hun : listed.getD i false = false := by
        have h0 := (mem_ready.1 hr).1
        rcases Nat.lt_or_ge i listed.size with h' | h'
        · simpa [h'] using h0
        · simp [Array.getElem?_eq_none h']
      have hnot : ∀ e ∈ oj.after, Region.binds .any e = true → e.on ≠ i := fun e he hb heq => by
        have h1 := hall e he hb
        rw [heq, hun] at h1
        cases h1
      have hjk : j ≠ k0 := fun e => by
        subst e
        rcases reach_listed hcl hoj hall f i hb with e | e
        · exact hne e
        · rw [hun] at e; cases e
      have h2 := wpOp_putIf hoj (hfree j oj hoj hji hjun hnot) (fun cs b => hsel i oi cs b hi) (fun cs b => hsel j oj cs b hoj) hQ hy h1
      have hfree' : ∀ k ok, ops[k]? = some ok → k ≠ i → (listed.setIfInBounds j true).getD k true = false →
          (∀ e ∈ ok.after, Region.binds .any e = true → e.on ≠ i) → oi.apart ops ok = true := fun k ok hk hki hun hno => by
        refine hfree k ok hk hki ?_ hno
        by_cases hjk : j = k
        · subst hjk; exact hjun
        · rw [getD_set_ne true hjk] at hun; exact hun
      have up : ∀ x, listed.getD x false = true → (listed.setIfInBounds j true).getD x false = true := fun x hx => by
        by_cases hjx : j = x
        · subst hjx
          rcases Nat.lt_or_ge j listed.size with h' | h'
          · simp [h']
          · simp [Array.getElem?_eq_none h'] at hx
        · rw [getD_set_ne false hjx]; exact hx
      have hcl' : Closed ops (listed.setIfInBounds j true) := fun x o ho hx e he hbe => by
        by_cases hjx : j = x
        · subst hjx
          rw [hoj] at ho
          cases ho
          exact up _ (hall e he hbe)
        · rw [getD_set_ne false hjx] at hx
          exact up _ (hcl x o ho hx e he hbe)
      have hk' : act k0 (listed.setIfInBounds j true) = true := by
        unfold act at *
        rwa [getD_set_ne false hjk]
      have hk2 : act k0 ((listed.setIfInBounds i true).setIfInBounds j true) = true := by
        unfold act at *
        rw [getD_set_ne false hjk, getD_set_ne false hne]; exact hk
      refine wpOp_mono (fun a' w' h3 => ⟨fun _ => h3.2.1 hk2, ih (listed.setIfInBounds j true) a' w' hk' (by simpa using hsz) hcl' hfree' (ready_mono hr (Ne.symm hji)) h3.1 (h3.2.1 hk2) ?_⟩) h2
      rw [Array.setIfInBounds_comm _ _ hji]
      exact h3.2.2
end
section
variable {P : Program} {ops : Array Oper} {Q : Exit → Act → World → Prop} {a : Act} {n : Nat} {l : List (Nat × Option Value)} {w : World} {B : List Nat} {k0 h0 : Nat}
  {op : Op} {ty : TypeId} {pos : String} {af : Array Edge} {d fuel : Nat} {v : Value} {listed : Array Bool}
theorem k_takeR (i f : Nat) (H : Has a n l) (hi : ops[i]? = some ⟨some d, op, ty, pos, af, none⟩) (q : Q1 P (lo l) op (ChgF B h0 w) v) (hd : Nat.blt d n = true) (hs : Region.noSelect ops = true) (hf : Region.free .any ops listed i = true)
    (hr : (Region.ready .any ops listed).contains i = true) (hb : ((reachM ops k0 f).testBit i && !(Nat.beq i k0) && act k0 listed && (Nat.beq listed.size ops.size) && closedB ops listed) = true) (hQ : ∀ c a w, Q (.panic c) (a.put (some d) v) w → Q (.panic c) a w)
    (h : ∀ a', Has a' n ((d, some v) :: l) → wpK P ops Q k0 (ChgF B h0 w) fuel (listed.setIfInBounds i true) a' w) : wpK P ops Q k0 (ChgF B h0 w) (fuel + 1) listed a w := by
  simp only [Bool.and_eq_true, Bool.not_eq_true'] at hb
  obtain ⟨⟨⟨⟨h1, h2⟩, h3⟩, h4⟩, h5⟩ := hb
  exact wpK_firstR (oi := ⟨some d, op, ty, pos, af, none⟩) (v := v) hi (Region.noSelect_spec hs) hQ h1 (fun e => by rw [e, Nat.beq_refl] at h2; cases h2) fuel listed a w h3 (Nat.eq_of_beq_eq_true h4) (closedB_spec h5) (Region.free_spec hi hf) (by simpa using hr)
    (.inl ⟨by simp [Region.wanted], fun w' hw => q a.eval H.eval w' hw (some d) ty pos af none⟩) (ChgF.refl _ _ _) (h _ (H.put d v hd))
end
end Go.Proofs.YtnhjohcgnmogaaaDoor
