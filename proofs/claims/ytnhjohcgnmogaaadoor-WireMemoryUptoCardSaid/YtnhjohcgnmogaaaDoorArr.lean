/- Arrays in variables, structs and values; maps from whole numbers to 'true'. No program is named here. -/
import Derived.Test.YtnhjohcgnmogaaaDoorDec
set_option linter.unusedVariables false
set_option linter.unusedSimpArgs false
set_option linter.unusedSectionVars false
namespace Go.Proofs.YtnhjohcgnmogaaaDoor
open Go Go.RowKit

/-! ### 1. Arrays -/
section
variable {α : Type} {n : Nat}
def rdV (v : Vector α n) (z : Int) : Option α := if 0 ≤ z then v[z.toNat]? else none
theorem rdV_some {v : Vector α n} {z : Int} {x : α} (h : rdV v z = some x) : 0 ≤ z ∧ z < n ∧ v[z.toNat]? = some x := by
  unfold rdV at h
  split at h
  · rename_i h0
    have := (Vector.getElem?_eq_some_iff.1 h).1
    exact ⟨h0, by omega, h⟩
  · cases h
theorem rdV_nat (v : Vector α n) (i : Nat) : rdV v (i : Int) = v[i]? := by simp [rdV]
theorem vec_at {v : Vector α n} {i : Nat} {x : α} (h : v[i]? = some x) : v.toList[i]? = some x := by
  obtain ⟨hi, rfl⟩ := Vector.getElem?_eq_some_iff.1 h
  rw [List.getElem?_eq_getElem (by simpa using hi)]
  simp
theorem arr_at {A B : List Value} {v : Vector α n} {f : α → Value} {i : Nat} {x : α} (h : v[i]? = some x) : ((A ++ v.toList.map f) ++ B)[A.length + i]? = some (f x) := by
  have hi := (Vector.getElem?_eq_some_iff.1 h).1
  rw [List.getElem?_append_left (by simp; omega), List.getElem?_append_right (by omega)]
  simp [vec_at h]
theorem arr_at0 {B : List Value} {v : Vector α n} {f : α → Value} {i : Nat} {x : α} (h : v[i]? = some x) : (v.toList.map f ++ B)[i]? = some (f x) := by
  have := arr_at (A := []) (B := B) (f := f) h
  simpa using this
theorem arr_atE {A : List Value} {v : Vector α n} {f : α → Value} {i : Nat} {x : α} (h : v[i]? = some x) : (A ++ v.toList.map f)[A.length + i]? = some (f x) := by
  have := arr_at (A := A) (B := []) (f := f) h
  simpa using this
theorem arr_at1 {v : Vector α n} {f : α → Value} {i : Nat} {x : α} (h : v[i]? = some x) : (v.toList.map f)[i]? = some (f x) := by simp [vec_at h]
theorem vec_set (v : Vector α n) (f : α → Value) (i : Nat) (y : α) : (v.toList.map f).set i (f y) = (v.setIfInBounds i y).toList.map f := by
  rw [← List.map_set]
  congr 1
  simp
theorem arr_set {A B : List Value} {v : Vector α n} {f : α → Value} {i : Nat} (y : α) (hi : i < n) : ((A ++ v.toList.map f) ++ B).set (A.length + i) (f y) = (A ++ (v.setIfInBounds i y).toList.map f) ++ B := by
  rw [List.set_append_left _ _ (by simp; omega), List.set_append_right _ _ (by omega)]
  simp only [Nat.add_sub_cancel_left]
  rw [vec_set]
theorem toList_inj' {v u : Vector α n} : v.toList = u.toList ↔ v = u := by
  constructor
  · intro h; cases v; cases u; simp at h; simpa using h
  · intro h; rw [h]
end
section
variable {P : Program} {L : Operand → Option Value} {C : World → Prop} {x y : Operand} {ad : Addr} {q : IntKind} {z : Int}
theorem q_ixArr {T e len : Nat} (ht : P.underlying T = some (.array len e)) (hk : sizeB P e = some 1) (ex : L x = some (.pointer (some ad))) (ey : L y = some (.int q z)) (h0 : 0 ≤ z) (hn : z < len) : Q1 P L (.indexAddr T x y) C (.pointer (some (ad.add z.toNat))) :=
  fun ρ h w' _ dst ty pos af g => by simp [execOp, h x _ ex, h y _ ey, Instr.indexAt, Instr.sureAddr, asIntOf, run_underlying ht, h0, hn, run_sizeOf hk]
theorem q_ixArrB {T e len b o : Nat} (ht : P.underlying T = some (.array len e)) (hk : sizeB P e = some 1) (ex : L x = some (.pointer (some ⟨b, o, none⟩))) (ey : L y = some (.int q z)) (h0 : 0 ≤ z) (hn : z < len) : Q1 P L (.indexAddr T x y) C (.pointer (some ⟨b, o + z.toNat, none⟩)) := by
  have := q_ixArr (C := C) ht hk ex ey h0 hn
  rwa [plain_add'] at this
theorem q_ixVal {T e len : Nat} {cs : List Value} {v : Value} (ht : P.underlying T = some (.array len e)) (hk : sizeB P e = some 1) (ha : aggB P e = some false) (ex : L x = some (.agg cs.toArray)) (ey : L y = some (.int q z)) (h0 : 0 ≤ z) (hn : z < len) (hv : cs[z.toNat]? = some v) : Q1 P L (.index T x y) C v :=
  fun ρ h w' _ dst ty pos af g => by
    have := part_one (cs := cs) ha hv w'
    simp [execOp, h x _ ex, h y _ ey, Instr.index, asIntOf, run_underlying ht, h0, hn, run_sizeOf hk, this]
theorem q_buildArr {t e k len : Nat} {ps : List (Nat × Operand)} {vs : List (Nat × Value)} {zs cs : List Value} (ht : P.underlying t = some (.array len e)) (hk : sizeB P e = some k) (hz : zeroB P t = some zs)
    (e : loP L ps = some vs) (hf : Instr.fill (fun i => some (i * k, k)) zs.toArray vs = some cs.toArray) : Q1 P L (.build t ps.toArray) C (.agg cs.toArray) :=
  fun ρ h w' _ dst ty pos af g => by
    obtain ⟨z, hr, hzc⟩ := run_zero hz w'
    have hp := loP_map h ps vs e
    have hrun : (Instr.build t (ps.toArray.map fun p => (p.1, ρ p.2))).run P w' = .ok (.agg cs.toArray) w' := by
      unfold Instr.build
      simp only [Sem.run_bind, hr, Result.andThen_ok, Sem.run_pure, run_underlying ht, run_sizeOf hk, hzc]
      simp only [List.map_toArray, hp, hf]
      simp
    simp only [execOp]
    rw [Sem.run_bind, hrun]
    rfl
/-- arrays of bytes -/
theorem eqIn_vec {t e n : Nat} {k : IntKind} {v u : Vector Int n} (ht : P.underlying t = some (.array n e)) (hs : sizeB P e = some 1) (ha : aggB P e = some false) (he : P.underlying e = some (.int k)) :
    EqIn P t 2 (.agg (v.toList.map (Value.int k)).toArray) (.agg (u.toList.map (Value.int k)).toArray) (decide (v = u)) := by
  have h := eqIn_ints (xs := v.toList) (ys := u.toList) ht hs ha he (by simp) (by simp)
  have e : decide (v = u) = decide (v.toList = u.toList) := by rw [Bool.eq_iff_iff]; simp [toList_inj']
  rw [e]; exact h
theorem eqIn_vecB {t e n : Nat} {v u : Vector UInt8 n} (ht : P.underlying t = some (.array n e)) (hs : sizeB P e = some 1) (ha : aggB P e = some false) (he : P.underlying e = some (.int .u8)) :
    EqIn P t 2 (.agg (v.toList.map fun b => Value.int .u8 (b.toNat : Int)).toArray) (.agg (u.toList.map fun b => Value.int .u8 (b.toNat : Int)).toArray) (decide (v = u)) := by
  have h := eqIn_ints (k := .u8) (xs := v.toList.map fun b => (b.toNat : Int)) (ys := u.toList.map fun b => (b.toNat : Int)) ht hs ha he (by simp) (by simp)
  simp only [List.map_map] at h
  have e : decide (v = u) = decide ((v.toList.map fun b => (b.toNat : Int)) = (u.toList.map fun b => (b.toNat : Int))) := by
    rw [Bool.eq_iff_iff]
    simp only [decide_eq_true_eq]
    rw [← toList_inj']
    constructor
    · intro h; rw [h]
    · intro h
      refine (List.map_inj_right (f := fun b : UInt8 => (b.toNat : Int)) ?_).1 h
      intro a b hab
      exact UInt8.toNat_inj.1 (by have hab' : (a.toNat : Int) = b.toNat := hab; omega)
  rw [e]; exact h
end
section
variable {P : Program} {w : World} {α : Type} {e : α → List Value} {R : World → List Value → α → Prop} {k : Nat} {v : Value} {A : Option Addr} {ad : Addr} {n c i : Nat} {xs : List α} {x : α} {T : TypeId} {u : Value}
theorem SlR.ldArrV {o j : Nat} (h : SlR w k (Flat e) v xs) (hv : v = .slice A n c) (hA : A = some ad) (ht : aggB P T = some false) (hx : xs[i]? = some x) (he : (e x)[o + j]? = some u) : LdX P T w (((ad.add (i * k)).add o).add j) u := by
  rw [add_add (ad.add (i * k))]
  exact h.ldCellV hv hA ht hx he
theorem SlR.nilV (h : SlR w k R v xs) (hv : v = .slice A n c) (hA : A.isNone = true) : xs = [] := by
  subst hv
  obtain ⟨A', c', h1, h2, h3, h4, h5⟩ := h
  cases h1
  exact (h4 (by simpa using hA)).1
theorem q_nilV {L : Operand → Option Value} {C : World → Prop} {x y : Operand} {t t' el : TypeId} {n' c' : Nat} (ht : P.underlying t = some (.slice el)) (ex : L x = some v) (hv : v = .slice A n c) (ey : L y = some (.slice none n' c')) : Q1 P L (.binOp .eql t x y t') C (.bool A.isNone) := q_nilSl ht (hv ▸ ex) ey
end

/-! ### 2. Maps -/
def entsOf (ks : List Int) (es : List MapEntry) : Prop := es.map (·.key) = ks.map (Value.int .i64) ∧ ∀ e ∈ es, e.val = .bool true
def IsMap (r : Nat) (ks : List Int) (w : World) : Prop := ∃ es clock, w.heap[r]? = some (.map es clock) ∧ entsOf ks es.toList
def mapR (r : Nat) (ks : List Int) : Rs where
  P w fp := IsMap r ks w ∧ ∀ c, fp c ↔ c = r
  lt h c hc := by
    obtain ⟨es, cl, h1, _⟩ := h.1
    rw [(h.2 c).1 hc]
    exact (Array.getElem?_eq_some_iff.1 h1).1
  loc h hw := by
    obtain ⟨⟨es, cl, h1, h2⟩, h3⟩ := h
    exact ⟨⟨es, cl, (hw _ ((h3 _).2 rfl)).trans h1, h2⟩, h3⟩
def addK (ks : List Int) (k : Int) : List Int := if k ∈ ks then ks else ks ++ [k]
theorem find_ents {k : Int} {d : IntKind} : ∀ (ks : List Int) (es : List MapEntry) (i : Nat), entsOf ks es → ∃ o, Instr.findNow (.int d) (.int .i64 k) es i = some o ∧ (k ∈ ks → ∃ j, o = some (i + j, .bool true) ∧ ∃ e, es[j]? = some e ∧ e.key = .int .i64 k) ∧ (k ∉ ks → o = none)
  | [], [], i, _ => ⟨none, rfl, (fun h => by cases h), (fun _ => rfl)⟩
  | [], e :: es, i, h => by simp [entsOf] at h
  | z :: ks, [], i, h => by simp [entsOf] at h
  | z :: ks, e :: es, i, ⟨h1, h2⟩ => by
    simp only [List.map_cons, List.cons.injEq] at h1
    obtain ⟨hk, h1⟩ := h1
    have hv := h2 e List.mem_cons_self
    by_cases hz : k = z
    · subst hz
      refine ⟨some (i, .bool true), by simp [Instr.findNow, hk, Instr.sameNow, hv], fun _ => ⟨0, rfl, e, rfl, hk⟩, fun h => absurd List.mem_cons_self h⟩
    · obtain ⟨o, ho, g1, g2⟩ := find_ents (k := k) (d := d) ks es (i + 1) ⟨h1, fun x hx => h2 x (List.mem_cons_of_mem _ hx)⟩
      have hb : (k == z) = false := by simpa using hz
      refine ⟨o, by simp [Instr.findNow, hk, Instr.sameNow, hb, ho], fun h => ?_, fun h => g2 fun h' => h (List.mem_cons_of_mem _ h')⟩
      obtain ⟨j, hj, e', h3, h4⟩ := g1 (by simpa [hz] using h)
      exact ⟨j + 1, by rw [hj]; congr 2; omega, e', by simpa using h3, h4⟩
section
variable {P : Program} {w : World} {mt kt et r : Nat} {ks : List Int} {k : Int} {d : IntKind}
theorem run_find {es : List MapEntry} (hk : P.underlying kt = some (.int d)) (h : entsOf ks es) (w : World) : ∃ o, (Instr.findKey kt (.int .i64 k) es).run P w = .ok o w ∧ (k ∈ ks → ∃ j, o = some (j, .bool true) ∧ ∃ e, es[j]? = some e ∧ e.key = .int .i64 k) ∧ (k ∉ ks → o = none) := by
  obtain ⟨o, h1, h2, h3⟩ := find_ents (k := k) (d := d) ks es 0 h
  refine ⟨o, ?_, by simpa using h2, h3⟩
  simp [Instr.findKey, run_underlying hk, h1]
theorem run_check (hk : P.underlying kt = some (.int d)) (b : Bool) (w : World) : (Instr.checkKey b 10000 kt (.int .i64 k)).run P w = .ok () w := by
  show (Instr.checkKey b (9999 + 1) kt (.int .i64 k)).run P w = _
  rw [Instr.checkKey]
  simp [run_underlying hk]
theorem run_getObj_m {es : Array MapEntry} {cl : Nat} {w : World} (h : w.heap[r]? = some (.map es cl)) : (getObj r).run P w = .ok (.map es cl) w := by simp [getObj, Sem.run, h]
theorem q_lookup {L : Operand → Option Value} {x y : Operand} (hm : P.underlying mt = some (.map kt et)) (hk : P.underlying kt = some (.int d)) (hz : ∀ w, (zeroValue et).run P w = .ok (.bool false) w) (h : IsMap r ks w) (ex : L x = some (.map (some r))) (ey : L y = some (.int .i64 k)) :
    Q1 P L (.lookup mt x y false) (Ext w) (.bool (decide (k ∈ ks))) := fun ρ hρ w' hw dst ty pos af g => by
  obtain ⟨es, cl, h1, h2⟩ := h
  have h1' : w'.heap[r]? = some (.map es cl) := (hw.block r (Array.getElem?_eq_some_iff.1 h1).1).trans h1
  obtain ⟨o, g1, g2, g3⟩ := run_find (P := P) (k := k) hk h2 w'
  have hl : (Instr.lookup mt (.map (some r)) (.int .i64 k) false).run P w' = .ok (.bool (decide (k ∈ ks))) w' := by
    unfold Instr.lookup
    simp only [Sem.run_bind, run_underlying hm, Result.andThen_ok, run_getObj_m h1', Sem.run_pure, run_check hk, g1]
    by_cases hin : k ∈ ks
    · obtain ⟨j, rfl, _⟩ := g2 hin
      simp [hin]
    · rw [g3 hin]
      simp [hin, hz]
  simp [execOp, hρ x _ ex, hρ y _ ey, hl]
theorem addK_in {ks : List Int} {k : Int} (h : k ∈ ks) : addK ks k = ks := if_pos h
theorem addK_out {ks : List Int} {k : Int} (h : k ∉ ks) : addK ks k = ks ++ [k] := if_neg h
theorem run_update (hm : P.underlying mt = some (.map kt et)) (hk : P.underlying kt = some (.int d)) (h : IsMap r ks w) :
    ∃ w', (Instr.mapUpdate mt (.map (some r)) (.int .i64 k) (.bool true)).run P w = .ok () w' ∧ IsMap r (addK ks k) w' ∧ Chg [r] w w' := by
  obtain ⟨es, cl, h1, h2⟩ := h
  have hl := (Array.getElem?_eq_some_iff.1 h1).1
  obtain ⟨o, g1, g2, g3⟩ := run_find (P := P) (k := k) hk h2 w
  have key : ∀ (ob : Obj), ∃ w', (setObj r ob).run P w = .ok () w' ∧ w'.heap[r]? = some ob ∧ Chg [r] w w' := fun ob => by
    refine ⟨{ w with heap := w.heap.setIfInBounds r ob }, ?_, by simp [hl], ⟨rfl, rfl, rfl, by simp, fun k hk hn => ?_⟩⟩
    · simp [setObj, Sem.run, h1]
      try rfl
    · have : r ≠ k := fun e => hn (by rw [e]; exact List.mem_singleton.2 rfl)
      simp [Array.getElem?_setIfInBounds_ne this]
  by_cases hin : k ∈ ks
  · obtain ⟨j, rfl, e, hj, hke⟩ := g2 hin
    obtain ⟨w', k1, k2, k3⟩ := key (.map (es.modify j fun e => { e with key := .int .i64 k, val := .bool true }) cl)
    refine ⟨w', ?_, ⟨_, _, k2, ?_⟩, k3⟩
    · unfold Instr.mapUpdate
      have hj' : es[j]? = some e := by simpa using hj
      simp only [Sem.run_bind, run_underlying hm, Result.andThen_ok, run_getObj_m h1, Sem.run_pure, run_check hk, g1]
      simp [hj', hke, Instr.keyThatStays, Instr.sameBits, k1]
    · rw [addK_in hin]
      have hj' : es[j]? = some e := by simpa using hj
      refine ⟨?_, fun x hx => ?_⟩
      · rw [← h2.1]
        apply List.ext_getElem?
        intro i
        simp only [List.getElem?_map, Array.getElem?_toList, Array.getElem?_modify]
        by_cases hi : j = i
        · subst hi; simp [hj', hke]
        · simp [hi]
      · obtain ⟨i, hi, rfl⟩ := List.mem_iff_getElem.1 hx
        have hi' : i < es.size := by simpa using hi
        simp only [Array.getElem_toList, Array.getElem_modify]
        split
        · rfl
        · exact h2.2 _ (by simp)
  · rw [g3 hin] at g1
    obtain ⟨w', k1, k2, k3⟩ := key (.map (es.push { key := .int .i64 k, val := .bool true, born := cl }) (cl + 1))
    refine ⟨w', ?_, ⟨_, _, k2, ?_⟩, k3⟩
    · unfold Instr.mapUpdate
      simp only [Sem.run_bind, run_underlying hm, Result.andThen_ok, run_getObj_m h1, Sem.run_pure, run_check hk, g1]
      simp [k1]
    · rw [addK_out hin]
      refine ⟨by simp [h2.1], fun x hx => ?_⟩
      rcases (by simpa using hx : x ∈ es.toList ∨ x = _) with hx | rfl
      · exact h2.2 x hx
      · rfl
end
section
variable {P : Program} {ops : Array Oper} {Q : Exit → Act → World → Prop} {rest : List Oper} {a : Act} {n : Nat} {l : List (Nat × Option Value)} {w : World}
  {ty : TypeId} {pos : String} {af : Array Edge} {d mt kt et r : Nat} {ks : List Int} {k : Int} {dk : IntKind}
theorem n_makeMap (H : Has a n l) (hd : Nat.blt d n = true) (h : ∀ r w', IsMap r [] w' → Ext w w' → w.heap.size = r → ∀ a', Has a' n ((d, some (.map (some r))) :: l) → wpList P ops Q rest a' w') :
    wpList P ops Q (⟨some d, .makeMap mt none, ty, pos, af, none⟩ :: rest) a w :=
  n_run (w' := w.alloc (.map #[] 0)) H (fun ρ hρ => by
    have : (Instr.makeMap mt none).run P w = .ok (.map (some w.heap.size)) (w.alloc (.map #[] 0)) := rfl
    simp [execOp, this]) hd (h _ _ ⟨#[], 0, heap_alloc_new w _, rfl, fun e he => by cases he⟩ (Ext.alloc' _ _) rfl)
theorem n_mapUpdate {x y : Operand} (H : Has a n l) (hm : P.underlying mt = some (.map kt et)) (hk : P.underlying kt = some (.int dk)) (hM : IsMap r ks w) (ex : lo l x = some (.map (some r))) (ey : lo l y = some (.int .i64 k))
    (h : ∀ w', IsMap r (addK ks k) w' → Chg [r] w w' → ∀ a', Has a' n l → wpList P ops Q rest a' w') : wpList P ops Q (⟨none, .mapUpdate mt x y (.const (.bool true)), ty, pos, af, none⟩ :: rest) a w := by
  obtain ⟨w', h1, h2, h3⟩ := run_update (P := P) (k := k) hm hk hM
  exact n_run0 (w' := w') H (fun ρ hρ => by
    have e3 : ρ (.const (.bool true)) = .bool true := hρ _ _ rfl
    simp [execOp, hρ x _ ex, hρ y _ ey, e3, h1]) rfl (h w' h2 h3)
end
section
variable {fp : Nat → Prop} {w0 w w' : World} {rs : List Rs} {r : Nat} {ks ks' : List Int}
theorem St.map (i : Nat) (h : St fp w0 w rs) (hi : rs[i]? = some (mapR r ks)) : IsMap r ks w := by obtain ⟨g, h1, _⟩ := h.get i hi; exact h1
theorem St.newMap (h : St fp w0 w rs) (hb : IsMap r ks w') (e : Ext w w') (hl : w.heap.size = r) : St fp w0 w' (mapR r ks :: rs) := h.add (r := mapR r ks) (g := fun c => c = r) e ⟨hb, fun _ => Iff.rfl⟩ fun c hc => by omega
theorem St.setMap (h : St fp w0 w (mapR r ks :: rs)) (hb : IsMap r ks' w') (c : Chg [r] w w') : St fp w0 w' (mapR r ks' :: rs) :=
  h.upd fun g hg => ⟨ChgP.of_chg c fun x hx => (hg.2 x).2 (List.mem_singleton.1 hx), fun x => x = r, ⟨hb, fun _ => Iff.rfl⟩, fun x hx => .inl ((hg.2 x).2 hx)⟩
end
end Go.Proofs.YtnhjohcgnmogaaaDoor
