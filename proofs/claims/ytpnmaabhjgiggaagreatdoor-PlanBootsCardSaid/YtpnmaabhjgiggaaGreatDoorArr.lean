/- Arrays in variables, structs and values; maps from whole numbers to 'true'. No program is named here. -/
import Derived.Test.YtpnmaabhjgiggaaGreatDoorDec
set_option linter.unusedVariables false
set_option linter.unusedSimpArgs false
set_option linter.unusedSectionVars false
namespace Go.Proofs.YtpnmaabhjgiggaaGreatDoor
open Go Go.RowKit

/-! ### 1. Arrays -/
section
variable {α : Type} {n : Nat}
def rdV (v : Vector α n) (z : Int) : Option α := if 0 ≤ z then v[z.toNat]? else none
theorem rdV_some {v : Vector α n} {z : Int} {x : α} (h : rdV v z = some x) : 0 ≤ z ∧ z < n ∧ v[z.toNat]? = some x := by
  unfold rdV at h
  split at h
  · rename_i h0
    have := (Vector.getElem?_eq_some_iff.1 h).1
    exact ⟨h0, by omega, h⟩
  · cases h
theorem rdV_nat (v : Vector α n) (i : Nat) : rdV v (i : Int) = v[i]? := by simp [rdV]
theorem vec_at {v : Vector α n} {i : Nat} {x : α} (h : v[i]? = some x) : v.toList[i]? = some x := by
  obtain ⟨hi, rfl⟩ := Vector.getElem?_eq_some_iff.1 h
  rw [List.getElem?_eq_getElem (by simpa using hi)]
  simp
theorem arr_at {A B : List Value} {v : Vector α n} {f : α → Value} {i : Nat} {x : α} (h : v[i]? = some x) : ((A ++ v.toList.map f) ++ B)[A.length + i]? = some (f x) := by
  have hi := (Vector.getElem?_eq_some_iff.1 h).1
  rw [List.getElem?_append_left (by simp; omega), List.getElem?_append_right (by omega)]
  simp [vec_at h]
theorem arr_at0 {B : List Value} {v : Vector α n} {f : α → Value} {i : Nat} {x : α} (h : v[i]? = some x) : (v.toList.map f ++ B)[i]? = some (f x) := by
  have := arr_at (A := []) (B := B) (f := f) h
  simpa using this
theorem arr_atE {A : List Value} {v : Vector α n} {f : α → Value} {i : Nat} {x : α} (h : v[i]? = some x) : (A ++ v.toList.map f)[A.length + i]? = some (f x) := by
  have := arr_at (A := A) (B := []) (f := f) h
  simpa using this
theorem arr_at1 {v : Vector α n} {f : α → Value} {i : Nat} {x : α} (h : v[i]? = some x) : (v.toList.map f)[i]? = some (f x) := by simp [vec_at h]
theorem vec_set (v : Vector α n) (f : α → Value) (i : Nat) (y : α) : (v.toList.map f).set i (f y) = (v.setIfInBounds i y).toList.map f := by
  rw [← List.map_set]
  congr 1
  simp
theorem toList_inj' {v u : Vector α n} : v.toList = u.toList ↔ v = u := by
  constructor
  · intro h; cases v; cases u; simp at h; simpa using h
  · intro h; rw [h]
end
section
variable {P : Program} {L : Operand → Option Value} {C : World → Prop} {x y : Operand} {ad : Addr} {q : IntKind} {z : Int}
theorem q_ixArr {T e len : Nat} (ht : P.underlying T = some (.array len e)) (hk : sizeB P e = some 1) (ex : L x = some (.pointer (some ad))) (ey : L y = some (.int q z)) (h0 : 0 ≤ z) (hn : z < len) : Q1 P L (.indexAddr T x y) C (.pointer (some (ad.add z.toNat))) :=
  fun ρ h w' _ dst ty pos af g => by simp [execOp, h x _ ex, h y _ ey, Instr.indexAt, Instr.sureAddr, asIntOf, run_underlying ht, h0, hn, run_sizeOf hk]
theorem q_ixArrB {T e len b o : Nat} (ht : P.underlying T = some (.array len e)) (hk : sizeB P e = some 1) (ex : L x = some (.pointer (some ⟨b, o, none⟩))) (ey : L y = some (.int q z)) (h0 : 0 ≤ z) (hn : z < len) : Q1 P L (.indexAddr T x y) C (.pointer (some ⟨b, o + z.toNat, none⟩)) := by
  have := q_ixArr (C := C) ht hk ex ey h0 hn
  rwa [plain_add'] at this
theorem q_buildArr {t e k len : Nat} {ps : List (Nat × Operand)} {vs : List (Nat × Value)} {zs cs : List Value} (ht : P.underlying t = some (.array len e)) (hk : sizeB P e = some k) (hz : zeroB P t = some zs)
    (e : loP L ps = some vs) (hf : Instr.fill (fun i => some (i * k, k)) zs.toArray vs = some cs.toArray) : Q1 P L (.build t ps.toArray) C (.agg cs.toArray) :=
  fun ρ h w' _ dst ty pos af g => by
    obtain ⟨z, hr, hzc⟩ := run_zero hz w'
    have hp := loP_map h ps vs e
    have hrun : (Instr.build t (ps.toArray.map fun p => (p.1, ρ p.2))).run P w' = .ok (.agg cs.toArray) w' := by
      unfold Instr.build
      simp only [Sem.run_bind, hr, Result.andThen_ok, Sem.run_pure, run_underlying ht, run_sizeOf hk, hzc]
      simp only [List.map_toArray, hp, hf]
      simp
    simp only [execOp]
    rw [Sem.run_bind, hrun]
    rfl
/-- arrays of bytes -/
theorem eqIn_vec {t e n : Nat} {k : IntKind} {v u : Vector Int n} (ht : P.underlying t = some (.array n e)) (hs : sizeB P e = some 1) (ha : aggB P e = some false) (he : P.underlying e = some (.int k)) :
    EqIn P t 2 (.agg (v.toList.map (Value.int k)).toArray) (.agg (u.toList.map (Value.int k)).toArray) (decide (v = u)) := by
  have h := eqIn_ints (xs := v.toList) (ys := u.toList) ht hs ha he (by simp) (by simp)
  have e : decide (v = u) = decide (v.toList = u.toList) := by rw [Bool.eq_iff_iff]; simp [toList_inj']
  rw [e]; exact h
theorem eqIn_vecB {t e n : Nat} {v u : Vector UInt8 n} (ht : P.underlying t = some (.array n e)) (hs : sizeB P e = some 1) (ha : aggB P e = some false) (he : P.underlying e = some (.int .u8)) :
    EqIn P t 2 (.agg (v.toList.map fun b => Value.int .u8 (b.toNat : Int)).toArray) (.agg (u.toList.map fun b => Value.int .u8 (b.toNat : Int)).toArray) (decide (v = u)) := by
  have h := eqIn_ints (k := .u8) (xs := v.toList.map fun b => (b.toNat : Int)) (ys := u.toList.map fun b => (b.toNat : Int)) ht hs ha he (by simp) (by simp)
  simp only [List.map_map] at h
  have e : decide (v = u) = decide ((v.toList.map fun b => (b.toNat : Int)) = (u.toList.map fun b => (b.toNat : Int))) := by
    rw [Bool.eq_iff_iff]
    simp only [decide_eq_true_eq]
    rw [← toList_inj']
    constructor
    · intro h; rw [h]
    · intro h
      refine (List.map_inj_right (f := fun b : UInt8 => (b.toNat : Int)) ?_).1 h
      intro a b hab
      exact UInt8.toNat_inj.1 (by have hab' : (a.toNat : Int) = b.toNat := hab; omega)
  rw [e]; exact h
end
section
variable {P : Program} {w : World} {α : Type} {e : α → List Value} {R : World → List Value → α → Prop} {k : Nat} {v : Value} {A : Option Addr} {ad : Addr} {n c i : Nat} {xs : List α} {x : α} {T : TypeId} {u : Value}
theorem SlR.ldArrV {o j : Nat} (h : SlR w k (Flat e) v xs) (hv : v = .slice A n c) (hA : A = some ad) (ht : aggB P T = some false) (hx : xs[i]? = some x) (he : (e x)[o + j]? = some u) : LdX P T w (((ad.add (i * k)).add o).add j) u := by
  rw [add_add (ad.add (i * k))]
  exact h.ldCellV hv hA ht hx he
theorem SlR.nilV (h : SlR w k R v xs) (hv : v = .slice A n c) (hA : A.isNone = true) : xs = [] := by
  subst hv
  obtain ⟨A', c', h1, h2, h3, h4, h5⟩ := h
  cases h1
  exact (h4 (by simpa using hA)).1
theorem q_nilV {L : Operand → Option Value} {C : World → Prop} {x y : Operand} {t t' el : TypeId} {n' c' : Nat} (ht : P.underlying t = some (.slice el)) (ex : L x = some v) (hv : v = .slice A n c) (ey : L y = some (.slice none n' c')) : Q1 P L (.binOp .eql t x y t') C (.bool A.isNone) := q_nilSl ht (hv ▸ ex) ey
end

/-! ### 2. Maps -/
def entsOf (ks : List Int) (es : List MapEntry) : Prop := es.map (·.key) = ks.map (Value.int .i64) ∧ ∀ e ∈ es, e.val = .bool true
def IsMap (r : Nat) (ks : List Int) (w : World) : Prop := ∃ es clock, w.heap[r]? = some (.map es clock) ∧ entsOf ks es.toList
def mapR (r : Nat) (ks : List Int) : Rs where
  P w fp := IsMap r ks w ∧ ∀ c, fp c ↔ c = r
  lt h c hc := by
    obtain ⟨es, cl, h1, _⟩ := h.1
    rw [(h.2 c).1 hc]
    exact (Array.getElem?_eq_some_iff.1 h1).1
  loc h hw := by
    obtain ⟨⟨es, cl, h1, h2⟩, h3⟩ := h
    exact ⟨⟨es, cl, (hw _ ((h3 _).2 rfl)).trans h1, h2⟩, h3⟩
section
variable {P : Program} {w : World} {mt kt et r : Nat} {ks : List Int} {k : Int} {d : IntKind}
end
section
variable {P : Program} {ops : Array Oper} {Q : Exit → Act → World → Prop} {rest : List Oper} {a : Act} {n : Nat} {l : List (Nat × Option Value)} {w : World}
  {ty : TypeId} {pos : String} {af : Array Edge} {d mt kt et r : Nat} {ks : List Int} {k : Int} {dk : IntKind}
end
section
variable {fp : Nat → Prop} {w0 w w' : World} {rs : List Rs} {r : Nat} {ks ks' : List Int}
theorem St.map (i : Nat) (h : St fp w0 w rs) (hi : rs[i]? = some (mapR r ks)) : IsMap r ks w := by obtain ⟨g, h1, _⟩ := h.get i hi; exact h1
end
end Go.Proofs.YtpnmaabhjgiggaaGreatDoor
