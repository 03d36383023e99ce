/- Rules for append, literals, conversions, results of several kinds, struct values. No program is named here. -/
import Derived.Test.YtnhjohcgnmogaaaDoorMem
import Derived.Lib.ConvBytes
import Derived.Laws.BytesArg
import Derived.Laws.StructEq
set_option linter.unusedVariables false
set_option linter.unusedSimpArgs false
set_option linter.unusedSectionVars false
namespace Go.Proofs.YtnhjohcgnmogaaaDoor
open Go Go.RowKit

/-! ### 1. Results -/
section
variable {P : Program} {a : Act} {n : Nat} {l : List (Nat × Option Value)} {w : World}
/-- The results' values. -/
def ResOk (P : Program) (l : List (Nat × Option Value)) (w : World) : List ResultVar → List Value → Prop
  | [], [] => True
  | .tmp t :: rs, v :: vs => lk l t = some v ∧ ResOk P l w rs vs
  | .cell t T :: rs, v :: vs => (∃ ad, lk l t = some (.pointer (some ad)) ∧ Ld P T w ad v) ∧ ResOk P l w rs vs
  | _, _ => False

theorem resNil : ResOk P l w [] [] := trivial
theorem resTmp {t : Nat} {rs : List ResultVar} {v : Value} {vs : List Value} (h1 : lk l t = some v) (h2 : ResOk P l w rs vs) : ResOk P l w (.tmp t :: rs) (v :: vs) := ⟨h1, h2⟩
theorem resCell {t T : Nat} {ad : Addr} {rs : List ResultVar} {v : Value} {vs : List Value} (h1 : lk l t = some (.pointer (some ad))) (h : LdX P T w ad v) (h2 : ResOk P l w rs vs) : ResOk P l w (.cell t T :: rs) (v :: vs) := ⟨⟨ad, h1, h w Ext.rfl'⟩, h2⟩
def resG (tm : Array Value) : ResultVar → Sem Value
  | .tmp t => pure (tm.getD t undef)
  | .cell ad t => do loadVar t (← asAddr (tm.getD ad undef))

theorem resOk_run (H : Has a n l) : ∀ (rs : List ResultVar) (vs : List Value), ResOk P l w rs vs → (rs.mapM (resG a.tmps)).run P w = .ok vs w
  | [], [], _ => by simp
  | [], _ :: _, h => by simp [ResOk] at h
  | .tmp t :: rs, [], h => by simp [ResOk] at h
  | .cell t T :: rs, [], h => by simp [ResOk] at h
  | .tmp t :: rs, v :: vs, h => by
    have ih := resOk_run H rs vs h.2
    have := H.val t v h.1
    have h1 : (resG a.tmps (.tmp t)).run P w = .ok v w := by simp [resG, this]
    simp [List.mapM_cons, h1, ih]
  | .cell t T :: rs, v :: vs, h => by
    have ih := resOk_run H rs vs h.2
    obtain ⟨ad, h1, h2⟩ := h.1
    have := H.val t _ h1
    unfold Ld at h2
    have h3 : (resG a.tmps (.cell t T)).run P w = .ok v w := by
      have h4 : a.tmps.getD t undef = .pointer (some ad) := by simp [this]
      simp only [resG, h4, show asAddr (.pointer (some ad)) = pure ad from rfl, Sem.run_bind, Sem.run_pure, Result.andThen_ok, h2]
    simp [List.mapM_cons, h3, ih]

def tup : List Value → Value
  | [v] => v
  | vs => .tuple vs.toArray

theorem retL {fn : Func} {Φ : Value → World → Prop} {e : Exit} {rs : List ResultVar} {vs : List Value} (H : Has a n l) (he : e = .normal ∨ e = .ret) (hr : fn.results = rs.toArray) (hv : ResOk P l w rs vs) (h : Φ (tup vs) w) : bodyPost P fn (Ret Φ) e a w := by
  have hm := resOk_run H rs vs hv
  have hres : (results fn a.tmps).run P w = .ok (tup vs) w := by
    show (do
      let vs ← fn.results.mapM (resG a.tmps)
      pure (if h : vs.size = 1 then vs[0] else .tuple vs) : Sem Value).run P w = _
    rw [hr, Array.mapM_eq_mapM_toList]
    simp only [List.toList_toArray, Sem.run_bind, Sem.run_map, hm, Result.andThen_ok, Sem.run_pure]
    match vs with
    | [] => simp [tup]
    | [v] => simp [tup]
    | v :: v2 :: vs => simp [tup]
  rcases he with rfl | rfl <;> exact ⟨H.defers, _, hres, _, rfl, h⟩
end

/-! ### 2. append -/
section
variable {P : Program} {ops : Array Oper} {Q : Exit → Act → World → Prop} {rest : List Oper} {a : Act} {n : Nat} {l : List (Nat × Option Value)} {w : World}
  {op : Op} {ty : TypeId} {pos : String} {af : Array Edge} {d : Nat} {v : Value}

theorem SlR.src {α : Type} {enc : α → List Value} {k : Nat} {v : Value} {xs : List α} (h : SlR w k (Flat enc) v xs) (hk : ∀ x ∈ xs, (enc x).length = k) : Src w k v xs.length (xs.flatMap enc) := by
  obtain ⟨A, c, rfl, h2, h3, h4, h5⟩ := h
  cases A with
  | none =>
    obtain ⟨rfl, rfl⟩ := h4 rfl
    exact .inl ⟨0, rfl, rfl, rfl⟩
  | some ad =>
    refine .inr (.inl ⟨ad, c, rfl, ?_, ?_⟩)
    · clear h2 h3 h4 h5
      induction xs with
      | nil => simp
      | cons x xs ih =>
        simp only [List.flatMap_cons, List.length_append, List.length_cons]
        rw [hk x List.mem_cons_self, ih fun y hy => hk y (List.mem_cons_of_mem _ hy), Nat.add_mul]
        omega
    · have h5' := h5 ad rfl
      clear h5 h2 h3 h4
      have key : ∀ (ys : List α) (o : Nat), (∀ y ∈ ys, (enc y).length = k) → (∀ i x, ys[i]? = some x → ∀ j u, (enc x)[j]? = some u → w.cell? (ad.add (o + (i * k + j))) = some u) →
          ∀ j u, (ys.flatMap enc)[j]? = some u → w.cell? (ad.add (o + j)) = some u := by
        intro ys
        induction ys with
        | nil => intro o _ _ j u hu; simp at hu
        | cons y ys ih =>
          intro o hl hc j u hu
          have hy := hl y List.mem_cons_self
          simp only [List.flatMap_cons] at hu
          by_cases hj : j < k
          · rw [List.getElem?_append_left (by omega)] at hu
            have := hc 0 y rfl j u hu
            simpa using this
          · rw [List.getElem?_append_right (by omega), hy] at hu
            have := ih (o + k) (fun z hz => hl z (List.mem_cons_of_mem _ hz)) (fun i x hx j u hu => by
              have := hc (i + 1) x hx j u hu
              rw [show o + k + (i * k + j) = o + ((i + 1) * k + j) by rw [Nat.add_mul]; omega]
              exact this) (j - k) u hu
            rwa [show o + k + (j - k) = o + j by omega] at this
      intro j u hu
      have := key xs 0 hk (fun i x hx j u hu => by
        obtain ⟨cs, g1, g2, g3⟩ := h5' i x hx
        have g2' : cs = enc x := g2
        subst g2'
        rw [Nat.zero_add]
        exact g3 j u hu) j u hu
      rwa [Nat.zero_add] at this

theorem Src.ext {w' : World} {k : Nat} {x : Value} {m : Nat} {news : List Value} (h : Src w k x m news) (e : Ext w w') : Src w' k x m news := by
  rcases h with h | ⟨ad, c, h1, h2, h3⟩ | h
  · exact .inl h
  · exact .inr (.inl ⟨ad, c, h1, h2, fun j u hu => cell_ext (h3 j u hu) e⟩)
  · exact .inr (.inr h)

theorem n_append {x y : Operand} {t t' E k bytes : Nat} {z : List Value} {d' : TypeDesc} {u : Value} {m0 m : Nat} {xs news : List Value} (H : Has a n l) (ex : lo l x = some v) (ey : lo l y = some u)
    (ht : P.underlying t = some (.slice E)) (ht' : P.underlying t' = some d') (hd' : ∀ q, d' ≠ .int q) (hE : ElemOk P E k bytes z) (hv : Own w E k v m0 xs) (hx : Src w k u m news) (h1 : ∀ u ∈ news, u.oneCell' = true)
    (hb : (m0 + m) * bytes ≤ 140737488355328) (h63 : m0 + m ≤ maxLen) (hd : Nat.blt d n = true)
    (h : ∀ v' w', Own w' E k v' (m0 + m) (xs ++ news) → Chg (blks v) w w' → (blks v' = blks v ∨ ∃ b, blks v' = [b] ∧ w.heap.size ≤ b) → (v' = .slice none 0 0 ↔ v = .slice none 0 0 ∧ m = 0) →
      ∀ a', Has a' n ((d, some v') :: l) → wpList P ops Q rest a' w') :
    wpList P ops Q (⟨some d, .call { callee := .builtin .append, args := #[x, y], argTypes := #[t, t'] }, ty, pos, af, none⟩ :: rest) a w := by
  obtain ⟨v', w', hr, h2, h3, h4, h5⟩ := run_append (ty := ty) ht ht' hd' hE hv hx h1 hb h63
  exact n_run (w' := w') H (fun ρ hρ => by simp [execOp, resolve, invoke, builtin, hρ x _ ex, hρ y _ ey, hr]) hd (h v' w' h2 h3 h4 h5)

/-- append onto a slice without room. -/
theorem n_appendF {x y : Operand} {t t' E k bytes : Nat} {z : List Value} {d' : TypeDesc} {u : Value} {A : Option Addr} {m0 m old : Nat} {xs news : List Value} (H : Has a n l) (ex : lo l x = some (.slice A m0 old)) (ey : lo l y = some u)
    (ht : P.underlying t = some (.slice E)) (ht' : P.underlying t' = some d') (hd' : ∀ q, d' ≠ .int q) (hE : ElemOk P E k bytes z) (hv : Src w k (.slice A m0 old) m0 xs) (hx : Src w k u m news) (hold : old < m0 + m)
    (hb : (m0 + m) * bytes ≤ 140737488355328) (h63 : m0 + m ≤ maxLen) (hd : Nat.blt d n = true)
    (h : ∀ v' w', Own w' E k v' (m0 + m) (xs ++ news) → Ext w w' → (∀ b ∈ blks v', w.heap.size ≤ b) → ∀ a', Has a' n ((d, some v') :: l) → wpList P ops Q rest a' w') :
    wpList P ops Q (⟨some d, .call { callee := .builtin .append, args := #[x, y], argTypes := #[t, t'] }, ty, pos, af, none⟩ :: rest) a w := by
  obtain ⟨v', w', hr, h2, h3, b, hb1, hb2⟩ := run_append_full (ty := ty) ht ht' hd' hE hv hx hold hb h63
  exact n_run (w' := w') H (fun ρ hρ => by simp [execOp, resolve, invoke, builtin, hρ x _ ex, hρ y _ ey, hr]) hd (h v' w' h2 h3 (by rw [hb1]; intro c hc; rw [List.mem_singleton.1 hc]; exact hb2))

/-! ### 3. Literals -/
def loP (L : Operand → Option Value) : List (Nat × Operand) → Option (List (Nat × Value))
  | [] => some []
  | p :: ps => match L p.2, loP L ps with
    | some v, some vs => some ((p.1, v) :: vs)
    | _, _ => none
theorem loP_map {L : Operand → Option Value} {ρ : Operand → Value} (h : ∀ x u, L x = some u → ρ x = u) : ∀ (ps : List (Nat × Operand)) (vs : List (Nat × Value)), loP L ps = some vs → (ps.map fun p => (p.1, ρ p.2)) = vs
  | [], vs, e => by simp [loP] at e; simp [← e]
  | p :: ps, vs, e => by
    simp only [loP] at e
    split at e
    · rename_i v vs' h1 h2
      cases e
      simp [h _ v h1, loP_map h ps vs' h2]
    · cases e

def placesB (P : Program) (t : TypeId) : Option (Array (Nat × Nat)) :=
  match P.underlying t with
  | some (.struct fs) => some (fs.map fun f => (f.offset, ((P.info? f.type).map (·.size)).getD 0))
  | _ => none
def allSizes (P : Program) (fs : Array Field) : Bool := fs.all fun f => (P.info? f.type).isSome
def bdB (P : Program) (t : TypeId) : Bool :=
  match P.underlying t with
  | some (.struct fs) => allSizes P fs
  | _ => false

theorem run_places {P : Program} (w : World) : ∀ (fs : List Field), (fs.all fun f => (P.info? f.type).isSome) = true →
    (fs.mapM (m := Sem) fun f => do pure (f.offset, ← sizeOf f.type)).run P w = .ok (fs.map fun f => (f.offset, ((P.info? f.type).map (·.size)).getD 0)) w
  | [], _ => by simp
  | f :: fs, h => by
    simp only [List.all_cons, Bool.and_eq_true] at h
    have ih := run_places w fs h.2
    obtain ⟨i, hi⟩ := Option.isSome_iff_exists.1 h.1
    have hs : (sizeOf f.type).run P w = .ok i.size w := by simp [sizeOf, typeInfo, hi]
    simp only [List.mapM_cons, Sem.run_bind, hs, Result.andThen_ok, Sem.run_pure, ih]
    simp [hi]

theorem run_zero {t : TypeId} {cs : List Value} (hz : zeroB P t = some cs) (w : World) : ∃ z, (zeroValue t).run P w = .ok z w ∧ z.cells = cs.toArray := by
  unfold zeroB at hz
  cases hi : P.info? t with
  | none => simp [hi] at hz
  | some i =>
    cases hzz : i.zero with
    | none => simp [hi, hzz] at hz
    | some z =>
      simp [hi, hzz] at hz
      exact ⟨z, by simp [zeroValue, typeInfo, hi, hzz], by rw [← hz]⟩

theorem q_build {L : Operand → Option Value} {C : World → Prop} {t : TypeId} {ps : List (Nat × Operand)} {vs : List (Nat × Value)} {zs cs : List Value} {pl : Array (Nat × Nat)} (hz : zeroB P t = some zs) (hb : bdB P t = true) (hpl : placesB P t = some pl)
    (e : loP L ps = some vs) (hf : Instr.fill (fun i => pl[i]?) zs.toArray vs = some cs.toArray) : Q1 P L (.build t ps.toArray) C (.agg cs.toArray) :=
  fun ρ h w' _ dst ty pos af g => by
    obtain ⟨z, hr, hzc⟩ := run_zero hz w'
    have hp := loP_map h ps vs e
    unfold bdB at hb
    unfold placesB at hpl
    cases hu : P.underlying t with
    | none => simp [hu] at hb
    | some dsc =>
      cases dsc with
      | struct fs =>
        simp only [hu] at hb hpl
        have hpls := run_places w' fs.toList (by simpa [allSizes] using hb)
        have hrun : (Instr.build t (ps.toArray.map fun p => (p.1, ρ p.2))).run P w' = .ok (.agg cs.toArray) w' := by
          unfold Instr.build
          simp only [Sem.run_bind, hr, Result.andThen_ok, Sem.run_pure, run_underlying hu]
          rw [Array.mapM_eq_mapM_toList]
          simp only [Sem.run_map, hpls, Result.andThen_ok]
          have e1 : (fs.toList.map fun f => (f.offset, ((P.info? f.type).map (·.size)).getD 0)).toArray = pl := by
            have := Option.some.inj hpl
            rw [← this]
            apply Array.ext'
            simp
          rw [e1]
          have e2 : (ps.toArray.map fun p => (p.1, ρ p.2)).toList = vs := by simp [hp]
          rw [e2, hzc, hf]
          simp
        show (do let x ← Instr.build t (ps.toArray.map fun p => (p.1, ρ p.2)); pure (.value x) : Sem Next).run P w' = _
        rw [Sem.run_bind, hrun]
        simp
      | _ => simp [hu] at hb

theorem rep_at {zs : List Value} {k : Nat} (hk : zs.length = k) : ∀ (len i : Nat), i < len * k → ((List.replicate len zs).flatten)[i]? = zs[i % k]?
  | 0, i, h => by simp at h
  | len + 1, i, h => by
    rw [List.replicate_succ, List.flatten_cons]
    rw [Nat.add_mul] at h
    by_cases hi : i < k
    · rw [List.getElem?_append_left (by omega), Nat.mod_eq_of_lt hi]
    · rw [List.getElem?_append_right (by omega), hk, rep_at hk len (i - k) (by omega), show i % k = (i - k) % k from Nat.mod_eq_sub_mod (by omega)]
theorem rep_len {zs : List Value} {k : Nat} (hk : zs.length = k) : ∀ len, ((List.replicate len zs).flatten).length = len * k
  | 0 => by simp
  | len + 1 => by rw [List.replicate_succ, List.flatten_cons, List.length_append, hk, rep_len hk len, Nat.add_mul]; omega
theorem zeros_eq {zs : List Value} {k : Nat} (hk : zs.length = k) (len : Nat) : (Array.range (len * k)).map (zs.toArray[· % zs.toArray.size]!) = ((List.replicate len zs).flatten).toArray := by
  apply Array.ext'
  simp only [Array.toList_map, Array.toList_range, List.size_toArray, hk]
  apply List.ext_getElem?
  intro i
  by_cases hi : i < len * k
  · have hk0 : 0 < k := by
      rcases Nat.eq_zero_or_pos k with h | h
      · rw [h] at hi; simp at hi
      · exact h
    have hm : i % k < zs.length := by rw [hk]; exact Nat.mod_lt _ hk0
    rw [rep_at hk len i hi, List.getElem?_map, List.getElem?_range hi]
    simp [getElem!_pos, hm]
  · rw [List.getElem?_eq_none (by simp; omega), List.getElem?_eq_none (by rw [rep_len hk]; omega)]

theorem run_bs {T E k len : Nat} {L : Operand → Option Value} {ps : List (Nat × Operand)} {vs : List (Nat × Value)} {zs cs : List Value} {dst : Option Nat} {g : Option (Nat × Bool)} (ht : P.underlying T = some (.slice E)) (hk : sizeB P E = some k) (hz : zeroB P E = some zs) (hle : Nat.ble (len * k) 16777216 = true)
    (hzl : zs.length = k) (e : loP L ps = some vs) (hf' : Instr.fill (fun i => some (i * k, k)) ((List.replicate len zs).flatten).toArray vs = some cs.toArray) (ρ : Operand → Value) (hρ : ∀ x u, L x = some u → ρ x = u) :
    (execOp ρ ⟨dst, .buildSlice T len ps.toArray, ty, pos, af, g⟩).run P w = .ok (.value (.slice (some ⟨w.heap.size, 0, none⟩) len len)) (w.alloc (.cells cs.toArray E)) := by
  have hf := hf'
  rw [← zeros_eq hzl len] at hf
  obtain ⟨z, hr, hzc⟩ := run_zero hz w
  have hp := loP_map hρ ps vs e
  have hle' := Nat.le_of_ble_eq_true hle
  have hrun : (Instr.buildSlice T len (ps.toArray.map fun p => (p.1, ρ p.2))).run P w = .ok (.slice (some ⟨w.heap.size, 0, none⟩) len len) (w.alloc (.cells cs.toArray E)) := by
    have e2 : (ps.toArray.map fun p => (p.1, ρ p.2)).toList = vs := by simp [hp]
    unfold Instr.buildSlice
    simp only [Sem.run_bind, run_underlying ht, Result.andThen_ok, run_sizeOf hk, Sem.run_pure, e2]
    rw [if_neg (by omega)]
    by_cases h0 : len * k = 0
    · have z0 : ∀ f : Nat → Value, (Array.range (len * k)).map f = #[] := fun f => by simp [h0]
      have hf0 : Instr.fill (fun i => some (i * k, k)) #[] vs = some cs.toArray := by
        rw [z0] at hf
        exact hf
      rw [if_pos h0]
      simp only [Sem.run_bind, Sem.run_pure, Result.andThen_ok, z0, hf0]
      simp [newRow]
    · simp only [h0, if_false, Sem.run_bind, hr, hzc, Result.andThen_ok, Sem.run_pure, hf]
      simp [newRow]
  show (do let x ← Instr.buildSlice T len (ps.toArray.map fun p => (p.1, ρ p.2)); pure (.value x) : Sem Next).run P w = _
  rw [Sem.run_bind, hrun]
  simp

theorem n_buildSlice {T E k len : Nat} {ps : List (Nat × Operand)} {vs : List (Nat × Value)} {zs cs : List Value} (H : Has a n l) (ht : P.underlying T = some (.slice E)) (hk : sizeB P E = some k) (hz : zeroB P E = some zs) (hle : Nat.ble (len * k) 16777216 = true)
    (hzl : zs.length = k) (e : loP (lo l) ps = some vs) (hf : Instr.fill (fun i => some (i * k, k)) ((List.replicate len zs).flatten).toArray vs = some cs.toArray) (hd : Nat.blt d n = true)
    (h : ∀ b w', Blk w' b cs E → Ext w w' → w.heap.size = b → ∀ a', Has a' n ((d, some (.slice (some ⟨b, 0, none⟩) len len)) :: l) → wpList P ops Q rest a' w') :
    wpList P ops Q (⟨some d, .buildSlice T len ps.toArray, ty, pos, af, none⟩ :: rest) a w :=
  n_run (w' := w.alloc (.cells cs.toArray E)) H (fun ρ hρ => run_bs ht hk hz hle hzl e hf ρ hρ) hd (h w.heap.size _ (Blk.new w cs E) (Ext.alloc' _ _) rfl)

@[simp] theorem one_int (k : IntKind) (z : Int) : (Value.int k z).oneCell' = true := rfl
@[simp] theorem one_bool (b : Bool) : (Value.bool b).oneCell' = true := rfl
@[simp] theorem one_string (s : ByteArray) : (Value.string s).oneCell' = true := rfl
@[simp] theorem one_slice (A : Option Addr) (n c : Nat) : (Value.slice A n c).oneCell' = true := rfl
@[simp] theorem one_pointer (A : Option Addr) : (Value.pointer A).oneCell' = true := rfl
@[simp] theorem one_map (A : Option Nat) : (Value.map A).oneCell' = true := rfl
@[simp] theorem one_nilI : Value.nilIface.oneCell' = true := rfl
@[simp] theorem one_iface (t : TypeId) (v : Value) : (Value.iface t v).oneCell' = true := rfl
@[simp] theorem one_nilF : Value.nilFunc.oneCell' = true := rfl

/-- A whole variable is written. -/
theorem n_storeAll {x y : Operand} {t T : TypeId} {b : Nat} {u : Value} {vs cs : List Value} (H : Has a n l) (ex : lo l x = some (.pointer (some ⟨b, 0, none⟩))) (ey : lo l y = some u) (hc : u.cells = vs.toArray) (hs : sizeB P t = some vs.length)
    (hb : Blk w b cs T) (hl : vs.length = cs.length) (h1 : ∀ u ∈ vs, u.oneCell' = true)
    (h : ∀ w', Blk w' b vs T → Chg [b] w w' → w'.heap.size = w.heap.size → ∀ a', Has a' n l → wpList P ops Q rest a' w') :
    wpList P ops Q (⟨none, .store t x y, ty, pos, af, none⟩ :: rest) a w :=
  n_store H ex ey hc hs hb (by omega) h1 fun w' hb' hch hsz a' H' => by
    have e : cs.take 0 ++ vs ++ cs.drop (0 + vs.length) = vs := by rw [List.take_zero, List.nil_append, Nat.zero_add, hl, List.drop_length, List.append_nil]
    rw [e] at hb'
    exact h w' hb' hch hsz a' H'

theorem SlR.len63 {α : Type} {k : Nat} {R : World → List Value → α → Prop} {v : Value} {xs : List α} (h : SlR w k R v xs) : xs.length ≤ maxLen := by
  obtain ⟨A, c, rfl, h1, h2, _⟩ := h
  omega
theorem cells_one {v : Value} (h : v.oneCell' = true) : v.cells = #[v] := by cases v <;> first | rfl | (simp [Value.oneCell'] at h)
theorem set_one {cs : List Value} {o : Nat} {v : Value} (h : o < cs.length) : cs.take o ++ [v] ++ cs.drop (o + 1) = cs.set o v := by
  rw [List.set_eq_take_append_cons_drop, if_pos h]; simp
/-- One cell of a variable is written. -/
theorem n_store1 {x y : Operand} {t T : TypeId} {b o : Nat} {u : Value} {cs : List Value} (H : Has a n l) (ex : lo l x = some (.pointer (some ⟨b, o, none⟩))) (ey : lo l y = some u) (hs : sizeB P t = some 1)
    (hb : Blk w b cs T) (hl : o < cs.length) (h1 : u.oneCell' = true)
    (h : ∀ w', Blk w' b (cs.set o u) T → Chg [b] w w' → w'.heap.size = w.heap.size → ∀ a', Has a' n l → wpList P ops Q rest a' w') :
    wpList P ops Q (⟨none, .store t x y, ty, pos, af, none⟩ :: rest) a w :=
  n_store (vs := [u]) H ex ey (cells_one h1) hs hb (by simp only [List.length_cons, List.length_nil]; omega) (by simpa using h1) fun w' hb' hch hsz a' H' => by
    have e : cs.take o ++ [u] ++ cs.drop (o + [u].length) = cs.set o u := set_one hl
    rw [e] at hb'
    exact h w' hb' hch hsz a' H'

theorem SlR.one {α : Type} {k : Nat} {R : World → List Value → α → Prop} {v : Value} {xs : List α} (h : SlR w k R v xs) : v.oneCell' = true := by
  obtain ⟨A, c, rfl, _⟩ := h
  rfl
theorem Own.one {E k : Nat} {v : Value} {n : Nat} {xs : List Value} (h : Own w E k v n xs) : v.oneCell' = true := by
  obtain ⟨A, c, rfl, _⟩ := h.form
  rfl

/-! ### 4. Struct values' fields, conversions -/
/-- A field: whether it lies in several cells, where it begins, how many cells. -/
def fdB (P : Program) (t k : Nat) : Option (Bool × Nat × Nat) :=
  match P.underlying t with
  | some (.struct fs) => match fs[k]? with
    | some f => match aggB P f.type, sizeB P f.type with
      | some b, some n => some (b, f.offset, n)
      | _, _ => none
    | none => none
  | _ => none
theorem q_fieldV {L : Operand → Option Value} {C : World → Prop} {x : Operand} {t k off sz : Nat} {cs : Array Value} {v : Value} (h : fdB P t k = some (false, off, sz)) (ex : L x = some (.agg cs)) (hv : cs[off]? = some v) : Q1 P L (.field t x k) C v :=
  fun ρ hρ w' _ dst ty pos af g => by
    unfold fdB at h
    cases hu : P.underlying t with
    | none => simp [hu] at h
    | some dsc =>
      cases dsc with
      | struct fs =>
        simp only [hu] at h
        cases hf : fs[k]? with
        | none => simp [hf] at h
        | some f =>
          simp only [hf] at h
          cases ha : aggB P f.type with
          | none => simp [ha] at h
          | some b =>
            cases hs : sizeB P f.type with
            | none => simp [ha, hs] at h
            | some q =>
              simp only [ha, hs, Option.some.injEq, Prod.mk.injEq] at h
              obtain ⟨rfl, rfl, rfl⟩ := h
              simp [execOp, hρ x _ ex, Instr.field, run_underlying hu, hf, asAgg, part, run_isAgg ha, hv]
      | _ => simp [hu] at h
theorem q_fieldA {L : Operand → Option Value} {C : World → Prop} {x : Operand} {t k off sz : Nat} {cs : Array Value} (h : fdB P t k = some (true, off, sz)) (ex : L x = some (.agg cs)) : Q1 P L (.field t x k) C (.agg (cs.extract off (off + sz))) :=
  fun ρ hρ w' _ dst ty pos af g => by
    unfold fdB at h
    cases hu : P.underlying t with
    | none => simp [hu] at h
    | some dsc =>
      cases dsc with
      | struct fs =>
        simp only [hu] at h
        cases hf : fs[k]? with
        | none => simp [hf] at h
        | some f =>
          simp only [hf] at h
          cases ha : aggB P f.type with
          | none => simp [ha] at h
          | some b =>
            cases hs : sizeB P f.type with
            | none => simp [ha, hs] at h
            | some q =>
              simp only [ha, hs, Option.some.injEq, Prod.mk.injEq] at h
              obtain ⟨rfl, rfl, rfl⟩ := h
              simp [execOp, hρ x _ ex, Instr.field, run_underlying hu, hf, asAgg, part, run_isAgg ha, run_sizeOf hs]
      | _ => simp [hu] at h

theorem q_convS {L : Operand → Option Value} {C : World → Prop} {x : Operand} {src T : TypeId} {s : ByteArray} (hs : P.underlying src = some .string) (ht : P.underlying T = some .string) (ex : L x = some (.string s)) : Q1 P L (.convert src T x) C (.string s) :=
  fun ρ h w' _ dst ty pos af g => by simp [execOp, h x _ ex, convert, run_underlying hs, run_underlying ht]

/-- The cell of a byte; the string of bytes. -/
def eB (b : UInt8) : List Value := [.int .u8 (b.toNat : Int)]
def strB (bs : List UInt8) : ByteArray := ⟨bs.toArray⟩

/-- string(b) of bytes. -/
theorem q_str {L : Operand → Option Value} {C : World → Prop} {x : Operand} {src T E : TypeId} {v : Value} {bs : List UInt8} (hs : P.underlying src = some (.slice E)) (hE : P.underlying E = some (.int .u8)) (ht : P.underlying T = some .string) (ex : L x = some v)
    (hv : ∀ w', C w' → SlR w' 1 (Flat eB) v bs) : Q1 P L (.convert src T x) C (.string (strB bs)) :=
  fun ρ h w' hw dst ty pos af g => by
    obtain ⟨A, c, rfl, h2, h3, h4, h5⟩ := hv w' hw
    simp only [execOp, h x _ ex]
    cases A with
    | none =>
      obtain ⟨rfl, rfl⟩ := h4 rfl
      rw [Sem.run_bind, run_convert_bytes_nil w' src E hs hE _ _ T ht]
      simp [strB]
      try rfl
    | some ad =>
      have hl : (loadCells ad bs.length).run P w' = .ok ((bs.map fun b => (b.toNat : Int)).map (Value.int .u8)).toArray w' := by
        have := run_loadCells_list (P := P) w' ad ((bs.map fun b => (b.toNat : Int)).map (Value.int .u8)) (fun j u hu => by
          simp only [List.map_map, List.getElem?_map, Option.map_eq_some_iff] at hu
          obtain ⟨b, hb, rfl⟩ := hu
          obtain ⟨cs, g1, g2, g3⟩ := h5 ad rfl j b hb
          have g2' : cs = eB b := g2
          subst g2'
          have := g3 0 _ rfl
          simpa using this)
        simpa using this
      rw [Sem.run_bind, run_convert_bytes_string w' src T E _ _ c hs hE ht, run_bytesToString w' ad _ c _ hl, foldl_push_byteCells]
      simp [strB]
      try rfl

/-- []byte(s): a new row of the call's own (with a mark behind its cells). -/
theorem n_bytes {x : Operand} {src T E : TypeId} {s : ByteArray} (H : Has a n l) (hs : P.underlying src = some .string) (hT : P.underlying T = some (.slice E)) (hE : P.underlying E = some (.int .u8)) (ex : lo l x = some (.string s)) (hm : s.size ≤ maxLen) (hd : Nat.blt d n = true)
    (h : ∀ v' w', Own w' E 1 v' s.size (s.data.toList.flatMap eB) → Ext w w' → blks v' = [w.heap.size] → ∀ a', Has a' n ((d, some v') :: l) → wpList P ops Q rest a' w') :
    wpList P ops Q (⟨some d, .convert src T x, ty, pos, af, none⟩ :: rest) a w := by
  have hge := grownCap_ge w s.size 0 E
  have hcm : grownCap w s.size 0 E ≤ maxLen := grownCap_le_maxLen w s.size 0 E hm
  have hfl : s.data.toList.flatMap eB = (s.data.map fun b => Value.int .u8 b.toNat).toList := by
    simp only [Array.toList_map]
    have : ∀ (bs : List UInt8), bs.flatMap eB = bs.map fun b => Value.int .u8 b.toNat := by
      intro bs
      induction bs with
      | nil => rfl
      | cons b bs ih => simp [List.flatMap_cons, eB, ih]
    exact this _
  have hsz : s.data.size = s.size := rfl
  refine n_run (w' := Lib.bytesWorld w E s) H (fun ρ hρ => ?_) hd (h (.slice (some ⟨w.heap.size, 0, none⟩) s.size (grownCap w s.size 0 E)) _ ?_ ?_ rfl)
  · simp [execOp, hρ x _ ex, Lib.run_convert_string_bytes w src T E s hs hT hE]
  · refine .inr ⟨w.heap.size, grownCap w s.size 0 E, (Lib.bytesCells w E s).toList, rfl, ⟨((Lib.bytesCells w E s).size, (Lib.bytesCells w E s).size + 1), Lib.bytesWorld_at_new w E s, ?_⟩, hge, hcm, ?_, ?_, ?_⟩
    · intro j hj hle
      have : (Lib.bytesCells w E s).toList.length = (Lib.bytesCells w E s).size := rfl
      simp only at hle
      omega
    · simp [Lib.bytesCells, hsz]; omega
    · rw [hfl]; simp [hsz]
    · rw [hfl]; simp only [Lib.bytesCells, Array.toList_append, Nat.mul_one]
      rw [List.take_append_of_le_length (by simp [hsz])]
      rw [List.take_of_length_le (by simp [hsz])]
  · exact ⟨rfl, rfl, rfl, by rw [Lib.bytesWorld_size]; omega, fun k hk => Lib.bytesWorld_at_old w E s k hk⟩

theorem q_max {L : Operand → Option Value} {C : World → Prop} {x y : Operand} {k k' : IntKind} {p q : Int} {tys : Array TypeId} (ex : L x = some (.int k p)) (ey : L y = some (.int k' q)) : Q1 P L (.call { callee := .builtin .max, args := #[x, y], argTypes := tys }) C (.int k (if q > p then q else p)) :=
  fun ρ h w' _ dst ty pos af g => by simp [execOp, resolve, invoke, builtin, h x _ ex, h y _ ey, Builtin.max_, Builtin.max2]
theorem q_min {L : Operand → Option Value} {C : World → Prop} {x y : Operand} {k k' : IntKind} {p q : Int} {tys : Array TypeId} (ex : L x = some (.int k p)) (ey : L y = some (.int k' q)) : Q1 P L (.call { callee := .builtin .min, args := #[x, y], argTypes := tys }) C (.int k (if q < p then q else p)) :=
  fun ρ h w' _ dst ty pos af g => by simp [execOp, resolve, invoke, builtin, h x _ ex, h y _ ey, Builtin.min_, Builtin.min2]
end
end Go.Proofs.YtnhjohcgnmogaaaDoor
