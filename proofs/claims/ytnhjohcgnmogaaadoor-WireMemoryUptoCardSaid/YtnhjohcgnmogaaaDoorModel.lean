/- The program's plain types as Lean's: a process, a timer, a page, a port, a state; how they lie in cells; '==' of them. -/
import Derived.Test.YtnhjohcgnmogaaaDoorOrd
set_option linter.unusedVariables false
set_option linter.unusedSimpArgs false
set_option linter.unusedSectionVars false
namespace Go.Proofs.YtnhjohcgnmogaaaDoor
open Go Go.RowKit

/-! ### 1. '==' of values in several cells -/
section
variable {P : Program}
/-- The two values are found equal or not, where the nesting is at least m deep. -/
def EqIn (P : Program) (t : TypeId) (m : Nat) (u v : Value) (r : Bool) : Prop := ∀ d w, (Op.equalIn (d + m) t u v).run P w = .ok r w
theorem EqIn.mono {t m m' : Nat} {u v : Value} {r : Bool} (h : EqIn P t m u v r) (hm : m ≤ m') : EqIn P t m' u v r := fun d w => by
  have := h (d + (m' - m)) w
  rwa [show d + (m' - m) + m = d + m' by omega] at this
theorem eqIn_int {t : TypeId} {k k' : IntKind} {a b : Int} (h : P.underlying t = some (.int k')) : EqIn P t 1 (.int k a) (.int k b) (decide (a = b)) := fun d w => by
  rw [run_equalIn_int w d t k k' a b h]; congr 1
theorem eqIn_bool {t : TypeId} {a b : Bool} (h : P.underlying t = some .bool) : EqIn P t 1 (.bool a) (.bool b) (decide (a = b)) := fun d w => by
  rw [run_equalIn_bool' w d t a b h]; cases a <;> cases b <;> rfl
theorem eqIn_string {t : TypeId} {a b : ByteArray} (h : P.underlying t = some .string) : EqIn P t 1 (.string a) (.string b) (decide (a = b)) := fun d w => by
  rw [run_equalIn_string w d t a b h, beq_bytes]

def eqFs (d : Nat) (xs ys : Array Value) : List (TypeId × Nat) → Sem Bool
  | [] => pure true
  | f :: fs => do
    let a ← part f.1 xs f.2
    let b ← part f.1 ys f.2
    let r ← Op.equalIn d f.1 a b
    if (!r) = true then pure false else eqFs d xs ys fs
theorem eqFields_eq (d : Nat) (xs ys : Array Value) : ∀ (fs : List Field), (fs.all fun f => f.name != "_") = true → Op.eqFields d xs ys fs = eqFs d xs ys (fs.map fun f => (f.type, f.offset))
  | [], _ => rfl
  | f :: fs, h => by
    simp only [List.all_cons, Bool.and_eq_true, bne_iff_ne] at h
    simp only [Op.eqFields, List.map_cons, eqFs]
    rw [if_pos h.1, eqFields_eq d xs ys fs h.2]

def structB (P : Program) (t : TypeId) : Option (List (TypeId × Nat)) :=
  match P.underlying t with
  | some (.struct fs) => if (fs.toList.all fun f => f.name != "_") && !P.stoodInHeld t && !P.eqGuardType P.depth t then some (fs.toList.map fun f => (f.type, f.offset)) else none
  | _ => none

theorem eqIn_struct {t m : Nat} {fl : List (TypeId × Nat)} {xs ys : Array Value} {r : Bool} (h : structB P t = some fl) (hf : ∀ d w, (eqFs (d + m) xs ys fl).run P w = .ok r w) : EqIn P t (m + 1) (.agg xs) (.agg ys) r := fun d w => by
  unfold structB at h
  cases hu : P.underlying t with
  | none => simp [hu] at h
  | some dsc =>
    cases dsc with
    | struct fs =>
      simp only [hu] at h
      split at h
      · rename_i hc
        simp only [Bool.and_eq_true, Bool.not_eq_true'] at hc
        obtain ⟨⟨h1, h2⟩, h3⟩ := hc
        have hfo : P.fieldsOf t = fs := by simp [Program.fieldsOf, hu]
        show (Op.equalIn ((d + m) + 1) t (.agg xs) (.agg ys)).run P w = _
        rw [run_equalIn_struct w (d + m) t xs ys (by rw [hfo, hu]) h2, hfo, eqFields_eq _ _ _ _ h1, Option.some.inj h]
        exact hf d w
      · cases h
    | _ => simp [hu] at h
theorem structB_guard {t : Nat} {fl : List (TypeId × Nat)} (h : structB P t = some fl) : P.eqGuardType P.depth t = false := by
  unfold structB at h
  cases hu : P.underlying t with
  | none => simp [hu] at h
  | some dsc =>
    cases dsc with
    | struct fs =>
      simp only [hu] at h
      split at h
      · rename_i hc
        simp only [Bool.and_eq_true, Bool.not_eq_true'] at hc
        exact hc.2
      · cases h
    | _ => simp [hu] at h

theorem eqFs_nil {m : Nat} {xs ys : Array Value} : ∀ (d : Nat) (w : World), (eqFs (d + m) xs ys []).run P w = .ok true w := fun d w => by simp [eqFs]
theorem eqFs_cons {m t off : Nat} {fl : List (TypeId × Nat)} {xs ys : Array Value} {u v : Value} {r r' : Bool} (h1 : ∀ w, (part t xs off).run P w = .ok u w) (h2 : ∀ w, (part t ys off).run P w = .ok v w) (he : EqIn P t m u v r)
    (ih : ∀ (d : Nat) (w : World), (eqFs (d + m) xs ys fl).run P w = .ok r' w) : ∀ (d : Nat) (w : World), (eqFs (d + m) xs ys ((t, off) :: fl)).run P w = .ok (r && r') w := fun d w => by
  have := he d w
  cases r <;> simp [eqFs, h1, h2, this, ih]
theorem part_one {t off : Nat} {cs : List Value} {v : Value} (ha : aggB P t = some false) (hv : cs[off]? = some v) (w : World) : (part t cs.toArray off).run P w = .ok v w := by
  simp [part, run_isAgg ha, hv]
theorem part_agg {t off n : Nat} {cs ds : List Value} (ha : aggB P t = some true) (hs : sizeB P t = some n) (hv : (cs.drop off).take n = ds) (w : World) : (part t cs.toArray off).run P w = .ok (.agg ds.toArray) w := by
  simp [part, run_isAgg ha, run_sizeOf hs]
  exact hv

/-- arrays of integers -/
theorem eqIn_ints {t e n : Nat} {k : IntKind} {xs ys : List Int} (ht : P.underlying t = some (.array n e)) (hs : sizeB P e = some 1) (ha : aggB P e = some false) (he : P.underlying e = some (.int k)) (hx : xs.length = n) (hy : ys.length = n) :
    EqIn P t 2 (.agg (xs.map (Value.int k)).toArray) (.agg (ys.map (Value.int k)).toArray) (decide (xs = ys)) := fun d w => by
  have hp : ∀ (zs : List Int) (i : Nat) (z : Int), zs[i]? = some z → (part e (zs.map (Value.int k)).toArray (i * 1)).run P w = .ok (.int k z) w := fun zs i z hz => part_one ha (by simp [hz]) w
  show (Op.equalIn ((d + 1) + 1) t _ _).run P w = _
  rw [Op.equalIn]
  simp only [Sem.run_bind, run_underlying ht, Result.andThen_ok, run_sizeOf hs]
  have key : ∀ (m i : Nat), i + m = n → xs.take i = ys.take i →
      (forIn (List.range' i m) ((none, ()) : Option Bool × Unit) fun i (r : Option Bool × Unit) => do
        if (!(← Op.equalIn (d + 1) e (← part e (xs.map (Value.int k)).toArray (i * 1)) (← part e (ys.map (Value.int k)).toArray (i * 1)))) = true then
          pure (ForInStep.done ((some false, ()) : Option Bool × Unit)) else pure (ForInStep.yield (none, ())) : Sem _).run P w
        = .ok (if xs = ys then (none, ()) else (some false, ())) w := by
    intro m
    induction m with
    | zero =>
      intro i hi htk
      have : xs = ys := by
        rwa [List.take_of_length_le (by omega), List.take_of_length_le (by omega)] at htk
      simp [this]
    | succ m ih =>
      intro i hi htk
      obtain ⟨x, hx1⟩ : ∃ x, xs[i]? = some x := ⟨_, List.getElem?_eq_getElem (by omega)⟩
      obtain ⟨y, hy1⟩ : ∃ y, ys[i]? = some y := ⟨_, List.getElem?_eq_getElem (by omega)⟩
      simp only [List.range'_succ, List.forIn_cons, Sem.run_bind, hp xs i x hx1, hp ys i y hy1, Result.andThen_ok, run_equalIn_int w d e k k x y he]
      by_cases hxy : x = y
      · subst hxy
        simp only [BEq.rfl, Bool.not_true, Bool.false_eq_true, if_false, Sem.run_pure, Result.andThen_ok]
        refine ih (i + 1) (by omega) ?_
        rw [List.take_add_one, List.take_add_one, hx1, hy1, htk]
      · have hne : (x == y) = false := by simpa using hxy
        have hn : xs ≠ ys := fun e => by rw [e, hy1] at hx1; exact hxy (Option.some.inj hx1).symm
        simp only [hne, Bool.not_false, if_true, Sem.run_pure, Result.andThen_ok, hn, if_false]
  have := key n 0 (by omega) (by simp)
  simp only [Std.Legacy.Range.forIn_eq_forIn_range', Std.Legacy.Range.size]
  have hn : (n - 0 + 1 - 1) / 1 = n := by simp
  rw [hn, this]
  by_cases hxy : xs = ys <;> simp [hxy]

variable {L : Operand → Option Value} {C : World → Prop} {x y : Operand} {t t' : TypeId}
theorem run_guardB {op : BinOp} {x y : Operand} {xs ys : Array Value} (hm : P.eqGuardType P.depth t = false) (w : World) : (eqGuard op t x y (.agg xs) (.agg ys)).run P w = .ok () w := run_eqGuard_agg w op t x y xs ys hm
theorem EqIn.at {m : Nat} {u v : Value} {r : Bool} (h : EqIn P t m u v r) (hm : m ≤ 10000) (w : World) : (Op.equalIn 10000 t u v).run P w = .ok r w := by
  have := h (10000 - m) w
  rwa [show 10000 - m + m = 10000 by omega] at this
theorem q_eqlG {m : Nat} {xs ys : Array Value} {r : Bool} (hg : P.eqGuardType P.depth t = false) (he : EqIn P t m (.agg xs) (.agg ys) r) (hm : m ≤ 10000) (ex : L x = some (.agg xs)) (ey : L y = some (.agg ys)) : Q1 P L (.binOp .eql t x y t') C (.bool r) :=
  fun ρ h w' _ dst ty pos af g => by
    simp only [execOp, h x _ ex, h y _ ey]
    rw [Sem.run_bind, Sem.run_bind, run_guardB hg]
    simp [run_eql_struct, he.at hm]
theorem q_neqG {m : Nat} {xs ys : Array Value} {r : Bool} (hg : P.eqGuardType P.depth t = false) (he : EqIn P t m (.agg xs) (.agg ys) r) (hm : m ≤ 10000) (ex : L x = some (.agg xs)) (ey : L y = some (.agg ys)) : Q1 P L (.binOp .neq t x y t') C (.bool (!r)) :=
  fun ρ h w' _ dst ty pos af g => by
    simp only [execOp, h x _ ex, h y _ ey]
    rw [Sem.run_bind, Sem.run_bind, run_guardB hg]
    simp [run_neq_struct, he.at hm]

/-! ### 2. The types -/
def eI (x : Int) : List Value := [.int .i64 x]
def eU (x : Int) : List Value := [.int .u32 x]
def eF (b : Bool) : List Value := [.bool b]
def eS (s : ByteArray) : List Value := [.string s]

structure ProcM where
  regs : List Int
  pc : Int
  st : Int
  prio : Int
  wait : Int
  obj : Int
  deriving DecidableEq
def eProc (p : ProcM) : List Value := p.regs.map (Value.int .u32) ++ [.int .u32 p.pc, .int .i64 p.st, .int .i64 p.prio, .int .i64 p.wait, .int .i64 p.obj]
structure TimerM where
  proc : Int
  due : Int
  deriving DecidableEq
def eTimer (t : TimerM) : List Value := [.int .i64 t.proc, .int .i64 t.due]
structure PageM where
  rights : Int
  dirty : Bool
  data : List Int
  deriving DecidableEq
def ePage (p : PageM) : List Value := .int .i64 p.rights :: .bool p.dirty :: p.data.map (Value.int .u8)
structure PortM where
  msgs : List ByteArray
  age : Int
  deriving DecidableEq
structure StateM' where
  id : Int
  frame : Int
  epoch : Int
  procs : List ProcM
  ready : List Int
  timers : List TimerM
  up : List Bool
  sems : List Int
  ports : List PortM
  pages : List PageM
  deriving DecidableEq

/-- A slice that came in or was made: it reads as xs, and its bytes are few enough. -/
def lim : Nat := 140737488351232
structure Sl {α : Type} (w : World) (k bytes : Nat) (R : World → List Value → α → Prop) (v : Value) (xs : List α) : Prop where
  r : SlR w k R v xs
  b : xs.length * bytes ≤ lim
theorem Sl.agr {α : Type} {w w' : World} {k bytes : Nat} {R : World → List Value → α → Prop} {v : Value} {xs : List α} (hR : Mono R) (h : Sl w k bytes R v xs) (e : Agr w w') : Sl w' k bytes R v xs := ⟨h.r.agr hR e, h.b⟩
theorem Sl.ext {α : Type} {w w' : World} {k bytes : Nat} {R : World → List Value → α → Prop} {v : Value} {xs : List α} (hR : Mono R) (h : Sl w k bytes R v xs) (e : Ext w w') : Sl w' k bytes R v xs := ⟨h.r.ext hR e, h.b⟩

def RPort (w : World) (cs : List Value) (p : PortM) : Prop := ∃ v, cs = [v, .int .i64 p.age] ∧ Sl w 1 16 (Flat eS) v p.msgs
theorem RPort.mono : Mono RPort := fun w w' cs p e ⟨v, h1, h2⟩ => ⟨v, h1, h2.agr (Flat.mono _) e⟩

def IsState (w : World) (v : Value) (s : StateM') : Prop :=
  ∃ v3 v4 v5 v6 v7 v8 v9, v = .agg #[.int .i64 s.id, .int .i64 s.frame, .int .i64 s.epoch, v3, v4, v5, v6, v7, v8, v9] ∧
    Sl w 21 104 (Flat eProc) v3 s.procs ∧ Sl w 1 8 (Flat eI) v4 s.ready ∧ Sl w 2 16 (Flat eTimer) v5 s.timers ∧ Sl w 1 1 (Flat eF) v6 s.up ∧ Sl w 1 8 (Flat eI) v7 s.sems ∧ Sl w 2 32 RPort v8 s.ports ∧ Sl w 66 80 (Flat ePage) v9 s.pages
theorem IsState.agr {w w' : World} {v : Value} {s : StateM'} (h : IsState w v s) (e : Agr w w') : IsState w' v s := by
  obtain ⟨v3, v4, v5, v6, v7, v8, v9, h0, h3, h4, h5, h6, h7, h8, h9⟩ := h
  exact ⟨v3, v4, v5, v6, v7, v8, v9, h0, h3.agr (Flat.mono _) e, h4.agr (Flat.mono _) e, h5.agr (Flat.mono _) e, h6.agr (Flat.mono _) e, h7.agr (Flat.mono _) e, h8.agr RPort.mono e, h9.agr (Flat.mono _) e⟩
theorem IsState.ext {w w' : World} {v : Value} {s : StateM'} (h : IsState w v s) (e : Ext w w') : IsState w' v s := by
  obtain ⟨v3, v4, v5, v6, v7, v8, v9, h0, h3, h4, h5, h6, h7, h8, h9⟩ := h
  exact ⟨v3, v4, v5, v6, v7, v8, v9, h0, h3.ext (Flat.mono _) e, h4.ext (Flat.mono _) e, h5.ext (Flat.mono _) e, h6.ext (Flat.mono _) e, h7.ext (Flat.mono _) e, h8.ext RPort.mono e, h9.ext (Flat.mono _) e⟩

/-! '==' of them -/
theorem eqIn_timer {T I : TypeId} (hT : structB P T = some [(I, 0), (I, 1)]) (hI : P.underlying I = some (.int .i64)) (ha : aggB P I = some false) (x y : TimerM) : EqIn P T 2 (.agg (eTimer x).toArray) (.agg (eTimer y).toArray) (decide (x = y)) := by
  have h := eqIn_struct (m := 1) hT (eqFs_cons (part_one (cs := eTimer x) ha rfl) (part_one (cs := eTimer y) ha rfl) (eqIn_int hI) (eqFs_cons (part_one (cs := eTimer x) ha rfl) (part_one (cs := eTimer y) ha rfl) (eqIn_int hI) eqFs_nil))
  have e : decide (x = y) = (decide (x.proc = y.proc) && (decide (x.due = y.due) && true)) := by
    cases x; cases y; simp [Bool.and_comm, Bool.decide_and]
  rw [e]; exact h
theorem eqIn_page {T I B A U : TypeId} (hT : structB P T = some [(I, 0), (B, 1), (A, 2)]) (hI : P.underlying I = some (.int .i64)) (ha : aggB P I = some false) (hB : P.underlying B = some .bool) (hab : aggB P B = some false)
    (hA : P.underlying A = some (.array 64 U)) (haA : aggB P A = some true) (hsA : sizeB P A = some 64) (hU : P.underlying U = some (.int .u8)) (hsU : sizeB P U = some 1) (haU : aggB P U = some false) (x y : PageM) (hx : (ePage x).length = 66) (hy : (ePage y).length = 66) :
    EqIn P T 3 (.agg (ePage x).toArray) (.agg (ePage y).toArray) (decide (x = y)) := by
  have hdx : x.data.length = 64 := by simpa [ePage] using hx
  have hdy : y.data.length = 64 := by simpa [ePage] using hy
  have p1 : ∀ z : PageM, z.data.length = 64 → ((ePage z).drop 2).take 64 = z.data.map (Value.int .u8) := fun z hz => by
    simp only [ePage, List.drop_succ_cons, List.drop_zero]
    exact List.take_of_length_le (by simp [hz])
  have h := eqIn_struct (m := 2) hT (eqFs_cons (part_one (cs := ePage x) ha rfl) (part_one (cs := ePage y) ha rfl) ((eqIn_int hI).mono (by omega))
    (eqFs_cons (part_one (cs := ePage x) hab rfl) (part_one (cs := ePage y) hab rfl) ((eqIn_bool hB).mono (by omega))
      (eqFs_cons (part_agg (cs := ePage x) haA hsA (p1 x hdx)) (part_agg (cs := ePage y) haA hsA (p1 y hdy)) (eqIn_ints hA hsU haU hU hdx hdy) eqFs_nil)))
  have e : decide (x = y) = (decide (x.rights = y.rights) && (decide (x.dirty = y.dirty) && (decide (x.data = y.data) && true))) := by
    cases x; cases y; simp [Bool.decide_and]
  rw [e]; exact h
theorem eqIn_proc {T I U A : TypeId} (hT : structB P T = some [(A, 0), (U, 16), (I, 17), (I, 18), (I, 19), (I, 20)]) (hI : P.underlying I = some (.int .i64)) (ha : aggB P I = some false)
    (hA : P.underlying A = some (.array 16 U)) (haA : aggB P A = some true) (hsA : sizeB P A = some 16) (hU : P.underlying U = some (.int .u32)) (hsU : sizeB P U = some 1) (haU : aggB P U = some false) (x y : ProcM) (hx : (eProc x).length = 21) (hy : (eProc y).length = 21) :
    EqIn P T 3 (.agg (eProc x).toArray) (.agg (eProc y).toArray) (decide (x = y)) := by
  have hdx : x.regs.length = 16 := by simpa [eProc] using hx
  have hdy : y.regs.length = 16 := by simpa [eProc] using hy
  have p1 : ∀ z : ProcM, z.regs.length = 16 → ((eProc z).drop 0).take 16 = z.regs.map (Value.int .u32) := fun z hz => by
    simp only [eProc, List.drop_zero]
    rw [List.take_append_of_le_length (by simp [hz])]
    exact List.take_of_length_le (by simp [hz])
  have p2 : ∀ (z : ProcM) (j : Nat), z.regs.length = 16 → (eProc z)[16 + j]? = ([.int .u32 z.pc, .int .i64 z.st, .int .i64 z.prio, .int .i64 z.wait, .int .i64 z.obj] : List Value)[j]? := fun z j hz => by
    simp only [eProc]
    rw [List.getElem?_append_right (by simp [hz])]
    simp [hz]
  have h := eqIn_struct (m := 2) hT (eqFs_cons (part_agg (cs := eProc x) haA hsA (p1 x hdx)) (part_agg (cs := eProc y) haA hsA (p1 y hdy)) (eqIn_ints hA hsU haU hU hdx hdy)
    (eqFs_cons (part_one (cs := eProc x) haU (p2 x 0 hdx)) (part_one (cs := eProc y) haU (p2 y 0 hdy)) ((eqIn_int hU).mono (by omega))
    (eqFs_cons (part_one (cs := eProc x) ha (p2 x 1 hdx)) (part_one (cs := eProc y) ha (p2 y 1 hdy)) ((eqIn_int hI).mono (by omega))
    (eqFs_cons (part_one (cs := eProc x) ha (p2 x 2 hdx)) (part_one (cs := eProc y) ha (p2 y 2 hdy)) ((eqIn_int hI).mono (by omega))
    (eqFs_cons (part_one (cs := eProc x) ha (p2 x 3 hdx)) (part_one (cs := eProc y) ha (p2 y 3 hdy)) ((eqIn_int hI).mono (by omega))
    (eqFs_cons (part_one (cs := eProc x) ha (p2 x 4 hdx)) (part_one (cs := eProc y) ha (p2 y 4 hdy)) ((eqIn_int hI).mono (by omega)) eqFs_nil))))))
  have e : decide (x = y) = (decide (x.regs = y.regs) && (decide (x.pc = y.pc) && (decide (x.st = y.st) && (decide (x.prio = y.prio) && (decide (x.wait = y.wait) && (decide (x.obj = y.obj) && true)))))) := by
    cases x; cases y; simp [Bool.decide_and]
  rw [e]; exact h

/-! ### 3. Elements -/
theorem take_snoc {α : Type} {xs : List α} {i : Nat} {x : α} (h : xs[i]? = some x) : xs.take (i + 1) = xs.take i ++ [x] := by
  rw [List.take_add_one, h]; rfl
theorem eq_of_take {α : Type} {xs ys : List α} {i : Nat} (h : xs.take i = ys.take i) (h1 : xs.length ≤ i) (h2 : ys.length ≤ i) : xs = ys := by
  rwa [List.take_of_length_le h1, List.take_of_length_le h2] at h
theorem SlR.addr {α : Type} {w : World} {k : Nat} {R : World → List Value → α → Prop} {A : Option Addr} {n c : Nat} {xs : List α} (h : SlR w k R (.slice A n c) xs) {i : Nat} (hi : i < xs.length) : ∃ ad, A = some ad := by
  obtain ⟨A', c', h1, h2, h3, h4, h5⟩ := h
  cases h1
  cases A with
  | none => obtain ⟨rfl, _⟩ := h4 rfl; simp at hi
  | some ad => exact ⟨ad, rfl⟩
theorem SlR.at {α : Type} {w : World} {k : Nat} {R : World → List Value → α → Prop} {v : Value} {xs : List α} (h : SlR w k R v xs) {i : Nat} (hi : i < xs.length) : ∃ x, xs[i]? = some x := ⟨_, List.getElem?_eq_getElem hi⟩
theorem SlR.elen {α : Type} {enc : α → List Value} {w : World} {k : Nat} {ad : Addr} {n c : Nat} {xs : List α} (h : SlR w k (Flat enc) (.slice (some ad) n c) xs) {i : Nat} {x : α} (hx : xs[i]? = some x) : (enc x).length = k := by
  obtain ⟨cs, h1, h2, _⟩ := h.el hx
  have h2' : cs = enc x := h2
  rw [← h2']; exact h1
theorem SlR.lens {α : Type} {enc : α → List Value} {w : World} {k : Nat} {v : Value} {xs : List α} (h : SlR w k (Flat enc) v xs) : ∀ x ∈ xs, (enc x).length = k := fun x hx => by
  obtain ⟨i, hi, rfl⟩ := List.mem_iff_getElem.1 hx
  obtain ⟨A, c, rfl, h2, h3, h4, h5⟩ := id h
  obtain ⟨ad, rfl⟩ := h.addr hi
  exact h.elen (List.getElem?_eq_getElem hi)
/-- An element whose cells are known, as a whole. -/
theorem ldEl {w : World} {T k i : Nat} {ad : Addr} {cs : List Value} (ht : aggB P T = some true) (hs : sizeB P T = some k) (hl : cs.length = k) (hc : ∀ j u, cs[j]? = some u → w.cell? (ad.add (i * k + j)) = some u) : LdX P T w (ad.add (i * k)) (.agg cs.toArray) :=
  LdX.agg ht (by rw [hs, hl]) fun j u hu => by rw [add_add]; exact hc j u hu
end
end Go.Proofs.YtnhjohcgnmogaaaDoor
