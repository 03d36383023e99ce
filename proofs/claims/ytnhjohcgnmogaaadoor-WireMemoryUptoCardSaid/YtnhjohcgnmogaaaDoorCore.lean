/- Rules by which the walks of this seat step through Go functions: frames as lists of known slots, one rule an operation. No program is named here. -/
import Derived.WalkKit
import Derived.OrdersHeld
import Derived.Deep.Quiet
import Derived.KernelRfl
set_option linter.unusedVariables false
set_option linter.unusedSimpArgs false
set_option linter.unusedSectionVars false
namespace Go.Proofs.YtnhjohcgnmogaaaDoor
open Go Go.RowKit

/-! ### 1. Frames: what is known of a frame's slots -/
/-- The newest entry of a slot; an entry without value: nothing is known. -/
def lk : List (Nat × Option Value) → Nat → Option Value
  | [], _ => none
  | p :: l, t => bif Nat.beq p.1 t then p.2 else lk l t

def lkc : List (Nat × (Nat × Bool) × Value) → Nat × Bool → Nat → Option Value
  | [], _, _ => none
  | p :: l, g, t => bif Nat.beq p.1 t then (bif Nat.beq p.2.1.1 g.1 && (p.2.1.2 == g.2) then some p.2.2 else none) else lkc l g t

structure Has (a : Act) (n : Nat) (l : List (Nat × Option Value)) : Prop where
  size : a.tmps.size = n
  defers : a.defers = []
  val : ∀ t v, lk l t = some v → a.tmps[t]? = some v

structure HasC (ops : Array Oper) (a : Act) (n : Nat) (l : List (Nat × Option Value)) (lc : List (Nat × (Nat × Bool) × Value)) : Prop where
  has : Has a n l
  valc : ∀ g t v, yielded ops a.tmps g.1 = some g.2 → lkc lc g t = some v → a.tmps[t]? = some v

def lo (l : List (Nat × Option Value)) : Operand → Option Value
  | .tmp t => lk l t
  | .const v => some v
  | .global g => some (.pointer (some ⟨g, 0, none⟩))
  | .func f => some (.func (.func f) #[] #[])

def loc (l : List (Nat × Option Value)) (lc : List (Nat × (Nat × Bool) × Value)) (g : Nat × Bool) : Operand → Option Value
  | .tmp t => match lk l t with
    | some v => some v
    | none => lkc lc g t
  | .const v => some v
  | .global g => some (.pointer (some ⟨g, 0, none⟩))
  | .func f => some (.func (.func f) #[] #[])

theorem act_tmp {a : Act} {t : Nat} {v : Value} (h : a.tmps[t]? = some v) : a.eval (.tmp t) = v := by
  simp [Act.eval, h]

theorem Has.eval {a : Act} {n : Nat} {l : List (Nat × Option Value)} (h : Has a n l) (x : Operand) (v : Value) (e : lo l x = some v) : a.eval x = v := by
  cases x with
  | tmp t => exact act_tmp (h.val t v e)
  | const u => simpa [lo, Act.eval] using e
  | global g => simpa [lo, Act.eval] using e
  | func f => simpa [lo, Act.eval] using e

theorem HasC.eval {ops : Array Oper} {a : Act} {n : Nat} {l : List (Nat × Option Value)} {lc : List (Nat × (Nat × Bool) × Value)} (h : HasC ops a n l lc) (g : Nat × Bool) (hg : yielded ops a.tmps g.1 = some g.2) (x : Operand) (v : Value)
    (e : loc l lc g x = some v) : a.eval x = v := by
  cases x with
  | tmp t =>
    simp only [loc] at e
    split at e
    · rename_i u hu
      cases e
      exact act_tmp (h.has.val t _ hu)
    · exact act_tmp (h.valc g t v hg e)
  | const u => simpa [loc, Act.eval] using e
  | global g => simpa [loc, Act.eval] using e
  | func f => simpa [loc, Act.eval] using e

theorem getElem?_put (a : Act) (d : Nat) (v : Value) (hd : d < a.tmps.size) (t : Nat) : (a.put (some d) v).tmps[t]? = if d = t then some v else a.tmps[t]? := by
  simp only [Act.put]
  by_cases h : d = t
  · subst h; simp [hd]
  · simp [h, Array.getElem?_setIfInBounds_ne h]

theorem Has.put {a : Act} {n : Nat} {l : List (Nat × Option Value)} (h : Has a n l) (d : Nat) (v : Value) (hd : Nat.blt d n = true) : Has (a.put (some d) v) n ((d, some v) :: l) where
  size := by simp [Act.put, h.size]
  defers := h.defers
  val := by
    have hlt : d < a.tmps.size := by rw [h.size]; simpa [Nat.blt_eq] using hd
    intro t u e
    rw [getElem?_put a d v hlt]
    simp only [lk] at e
    by_cases hdt : d = t
    · subst hdt
      simp only [Nat.beq_refl, cond_true] at e
      simpa using e
    · have hb : Nat.beq d t = false := by
        cases hq : Nat.beq d t with
        | false => rfl
        | true => exact absurd (Nat.eq_of_beq_eq_true hq) hdt
      rw [hb] at e
      rw [if_neg hdt]
      exact h.val t u e

/-- A write of which nothing is told. -/
theorem Has.putX {a : Act} {n : Nat} {l : List (Nat × Option Value)} (h : Has a n l) (d : Nat) (v : Value) (hd : Nat.blt d n = true) : Has (a.put (some d) v) n ((d, none) :: l) where
  size := by simp [Act.put, h.size]
  defers := h.defers
  val := by
    have hlt : d < a.tmps.size := by rw [h.size]; simpa [Nat.blt_eq] using hd
    intro t u e
    rw [getElem?_put a d v hlt]
    simp only [lk] at e
    by_cases hdt : d = t
    · subst hdt
      simp only [Nat.beq_refl, cond_true] at e
      cases e
    · have hb : Nat.beq d t = false := by
        cases hq : Nat.beq d t with
        | false => rfl
        | true => exact absurd (Nat.eq_of_beq_eq_true hq) hdt
      rw [hb] at e
      rw [if_neg hdt]
      exact h.val t u e

theorem Has.put_none {a : Act} {n : Nat} {l : List (Nat × Option Value)} (h : Has a n l) (v : Value) : Has (a.put none v) n l := h

/-- What l' tells is told by l. -/
def Sub : List (Nat × Value) → List (Nat × Option Value) → Prop
  | [], _ => True
  | p :: l', l => lk l p.1 = some p.2 ∧ Sub l' l

def ent (l : List (Nat × Value)) : List (Nat × Option Value) := l.map fun p => (p.1, some p.2)

theorem lk_ent_sub : ∀ (l' : List (Nat × Value)) (l : List (Nat × Option Value)), Sub l' l → ∀ t v, lk (ent l') t = some v → lk l t = some v
  | [], l, _, t, v, e => by simp [ent, lk] at e
  | p :: l', l, hs, t, v, e => by
    simp only [ent, List.map_cons, lk] at e
    cases hq : Nat.beq p.1 t with
    | true =>
      rw [hq] at e
      simp only [cond_true] at e
      have := Nat.eq_of_beq_eq_true hq
      rw [← this, ← e]
      exact hs.1
    | false =>
      rw [hq] at e
      exact lk_ent_sub l' l hs.2 t v e

/-- The frame told anew, by the slots that go on being read. -/
theorem Has.sub {a : Act} {n : Nat} {l : List (Nat × Option Value)} (h : Has a n l) (l' : List (Nat × Value)) (hs : Sub l' l) : Has a n (ent l') :=
  ⟨h.size, h.defers, fun t v e => h.val t v (lk_ent_sub l' l hs t v e)⟩

theorem Has.c {a : Act} {n : Nat} {l : List (Nat × Option Value)} (h : Has a n l) (ops : Array Oper) : HasC ops a n l [] :=
  ⟨h, fun g t v _ e => by simp [lkc] at e⟩

/-- The guards' own slots are other ones than d. -/
def okc (ops : Array Oper) (d : Nat) : List (Nat × (Nat × Bool) × Value) → Bool
  | [] => true
  | p :: l => (match (ops[p.2.1.1]?).bind (·.dst) with | some t => !(Nat.beq t d) | none => true) && !(Nat.beq p.1 d) && okc ops d l

theorem lkc_mem : ∀ (lc : List (Nat × (Nat × Bool) × Value)) (g : Nat × Bool) (t : Nat) (v : Value), lkc lc g t = some v → ∃ p ∈ lc, p.1 = t ∧ p.2.1 = g ∧ p.2.2 = v
  | [], g, t, v, e => by simp [lkc] at e
  | p :: l, g, t, v, e => by
    simp only [lkc] at e
    cases hq : Nat.beq p.1 t with
    | true =>
      rw [hq] at e
      simp only [cond_true] at e
      cases hr : (Nat.beq p.2.1.1 g.1 && (p.2.1.2 == g.2)) with
      | true =>
        rw [hr] at e
        simp only [cond_true, Option.some.injEq] at e
        simp only [Bool.and_eq_true, beq_iff_eq] at hr
        exact ⟨p, List.mem_cons_self, Nat.eq_of_beq_eq_true hq, Prod.ext (Nat.eq_of_beq_eq_true hr.1) hr.2, e⟩
      | false => rw [hr] at e; cases e
    | false =>
      rw [hq] at e
      obtain ⟨q, hm, h⟩ := lkc_mem l g t v e
      exact ⟨q, List.mem_cons_of_mem _ hm, h⟩

theorem okc_mem {ops : Array Oper} {d : Nat} : ∀ {lc : List (Nat × (Nat × Bool) × Value)}, okc ops d lc = true → ∀ p ∈ lc, (ops[p.2.1.1]?).bind (·.dst) ≠ some d
  | [], _, p, hp => by cases hp
  | q :: l, h, p, hp => by
    simp only [okc, Bool.and_eq_true] at h
    rcases List.mem_cons.1 hp with rfl | hp
    · intro hd
      rw [hd] at h
      simp at h
    · exact okc_mem h.2 p hp
theorem okc_ne {ops : Array Oper} {d : Nat} : ∀ {lc : List (Nat × (Nat × Bool) × Value)}, okc ops d lc = true → ∀ p ∈ lc, p.1 ≠ d
  | [], _, p, hp => by cases hp
  | q :: l, h, p, hp => by
    simp only [okc, Bool.and_eq_true] at h
    rcases List.mem_cons.1 hp with rfl | hp
    · intro hd
      rw [hd, Nat.beq_refl] at h
      simp at h
    · exact okc_ne h.2 p hp

theorem yielded_put {ops : Array Oper} {a : Act} {d : Nat} {v : Value} {j : Nat} (h : (ops[j]?).bind (·.dst) ≠ some d) : yielded ops (a.put (some d) v).tmps j = yielded ops a.tmps j := by
  unfold yielded
  cases ht : (ops[j]?).bind (·.dst) with
  | none => rfl
  | some t =>
    have hne : d ≠ t := fun e => h (by rw [ht, e])
    simp [Act.put, Array.getElem?_setIfInBounds_ne hne]

/-- An unguarded write beside guarded ones. -/
theorem HasC.put {ops : Array Oper} {a : Act} {n : Nat} {l : List (Nat × Option Value)} {lc : List (Nat × (Nat × Bool) × Value)} (h : HasC ops a n l lc) (d : Nat) (v : Value) (hd : Nat.blt d n = true) (hk : okc ops d lc = true) :
    HasC ops (a.put (some d) v) n ((d, some v) :: l) lc := by
  refine ⟨h.has.put d v hd, fun g t u hg e => ?_⟩
  have hlt : d < a.tmps.size := by rw [h.has.size]; simpa [Nat.blt_eq] using hd
  obtain ⟨p, hp, h1, h2, h3⟩ := lkc_mem lc g t u e
  have htd : t ≠ d := fun e => okc_ne hk p hp (h1.trans e)
  rw [getElem?_put a d v hlt, if_neg (fun h => htd h.symm)]
  rw [yielded_put (by have := okc_mem hk p hp; rw [h2] at this; exact this)] at hg
  exact h.valc g t u hg e

/-- A guarded operation's slot: its value is known where the guard says yes. -/
theorem HasC.putg {ops : Array Oper} {a : Act} {n : Nat} {l : List (Nat × Option Value)} {lc : List (Nat × (Nat × Bool) × Value)} (h : HasC ops a n l lc) (g : Nat × Bool) (d : Nat) (v u : Value) (hd : Nat.blt d n = true) (hk : okc ops d lc = true)
    (hg : (match (ops[g.1]?).bind (·.dst) with | some t => !(Nat.beq t d) | none => true) = true) (hu : yielded ops a.tmps g.1 = some g.2 → u = v) :
    HasC ops (a.put (some d) u) n ((d, none) :: l) ((d, g, v) :: lc) := by
  refine ⟨h.has.putX d u hd, fun g' t x hg' e => ?_⟩
  have hlt : d < a.tmps.size := by rw [h.has.size]; simpa [Nat.blt_eq] using hd
  have hne : (ops[g.1]?).bind (·.dst) ≠ some d := by
    intro hq
    rw [hq] at hg
    simp at hg
  rw [getElem?_put a d u hlt]
  simp only [lkc] at e
  cases hq : Nat.beq d t with
  | true =>
    rw [hq] at e
    simp only [cond_true] at e
    cases hr : (Nat.beq g.1 g'.1 && (g.2 == g'.2)) with
    | true =>
      rw [hr] at e
      simp only [cond_true, Option.some.injEq] at e
      simp only [Bool.and_eq_true, beq_iff_eq] at hr
      have hgg : g = g' := Prod.ext (Nat.eq_of_beq_eq_true hr.1) hr.2
      subst hgg
      rw [if_pos (Nat.eq_of_beq_eq_true hq), ← e]
      rw [yielded_put hne] at hg'
      rw [hu hg']
    | false => rw [hr] at e; cases e
  | false =>
    rw [hq] at e
    have hdt : d ≠ t := fun e => by rw [e, Nat.beq_refl] at hq; cases hq
    rw [if_neg hdt]
    obtain ⟨p, hp, h1, h2, h3⟩ := lkc_mem lc g' t x e
    rw [yielded_put (by have := okc_mem hk p hp; rw [h2] at this; exact this)] at hg'
    exact h.valc g' t x hg' e

/-! ### 2. Worlds -/
abbrev Ext (w w' : World) : Prop := Below w.heap.size w w'

theorem Ext.rfl' {w : World} : Ext w w := Below.refl _ _
theorem Ext.trans' {a b c : World} (h : Ext a b) (k : Ext b c) : Ext a c := Below.trans h (k.mono h.size)
theorem Ext.drew' (w : World) : Ext w w.drew := (Below.refl _ _).drew
theorem Ext.alloc' (w : World) (o : Obj) : Ext w (w.alloc o) := (Below.refl _ _).alloc (Nat.le_refl _) o

/-- What was there is there. -/
def Agr (w w' : World) : Prop := ∀ k, k < w.heap.size → w'.heap[k]? = w.heap[k]?
theorem Ext.agr {w w' : World} (e : Ext w w') : Agr w w' := fun k hk => e.block k hk
theorem cell_agr {w w' : World} {ad : Addr} {v : Value} (h : w.cell? ad = some v) (e : Agr w w') : w'.cell? ad = some v := by
  have hl := World.block_lt_of_cell? w ad h
  have := e ad.block hl
  unfold World.cell? at h ⊢
  rw [this]; exact h

/-- A block of cells that may be written. -/
def Blk (w : World) (b : Nat) (cs : List Value) (T : TypeId) : Prop := ∃ fr : Nat × Nat, w.heap[b]? = some (.cells cs.toArray T fr) ∧ ∀ j, j < cs.length → fr.1 ≤ j → fr.2 ≤ j

theorem Blk.lt {w : World} {b : Nat} {cs : List Value} {T : TypeId} (h : Blk w b cs T) : b < w.heap.size := by
  obtain ⟨fr, h1, _⟩ := h
  exact (Array.getElem?_eq_some_iff.1 h1).1
theorem Blk.ext {w w' : World} {b : Nat} {cs : List Value} {T : TypeId} (h : Blk w b cs T) (e : Ext w w') : Blk w' b cs T := by
  have hl := h.lt
  obtain ⟨fr, h1, h2⟩ := h
  exact ⟨fr, (e.block b hl).trans h1, h2⟩
theorem Blk.cell {w : World} {b : Nat} {cs : List Value} {T : TypeId} (h : Blk w b cs T) (j : Nat) : w.cell? ⟨b, j, none⟩ = cs[j]? := by
  obtain ⟨fr, h1, _⟩ := h
  rw [cell_of_row w b j _ T fr h1]; simp
theorem Blk.frozen {w : World} {b : Nat} {cs : List Value} {T : TypeId} (h : Blk w b cs T) {j : Nat} (hj : j < cs.length) : w.frozen? ⟨b, j, none⟩ = false := by
  obtain ⟨⟨lo, hi⟩, h1, h2⟩ := h
  have := h2 j hj
  simp only [World.frozen?, h1, Bool.and_eq_false_iff, decide_eq_false_iff_not]
  simp only at this
  by_cases hlo : lo ≤ j
  · right; have := this hlo; omega
  · left; exact hlo
theorem Blk.new (w : World) (cs : List Value) (T : TypeId) : Blk (w.alloc (.cells cs.toArray T)) w.heap.size cs T := ⟨(0, 0), heap_alloc_new w _, fun j _ _ => Nat.zero_le j⟩
theorem Blk.set {w : World} {b : Nat} {cs : List Value} {T : TypeId} (h : Blk w b cs T) (i : Nat) (v : Value) : Blk (w.setCell ⟨b, i, none⟩ v) b (cs.set i v) T := by
  obtain ⟨fr, h1, h2⟩ := h
  refine ⟨fr, ?_, by simpa using h2⟩
  rw [setCell_eq_setRow w b i cs.toArray T fr v h1, setRow_heap w b cs.toArray _ T fr h1]
  simp

theorem plain_add (b j : Nat) : (⟨b, 0, none⟩ : Addr).add j = ⟨b, j, none⟩ := by unfold Addr.add; split <;> simp_all
theorem plain_add' (b o j : Nat) : (⟨b, o, none⟩ : Addr).add j = ⟨b, o + j, none⟩ := by unfold Addr.add; split <;> simp_all
theorem add_add (a : Addr) (m n : Nat) : (a.add m).add n = a.add (m + n) := by
  unfold Addr.add
  by_cases hm : m = 0 <;> by_cases hn : n = 0 <;> simp [hm, hn, Nat.add_assoc]
theorem add_block (a : Addr) (m : Nat) : (a.add m).block = a.block := by unfold Addr.add; split <;> rfl

/-- The type's values lie in several cells. -/
def aggB (P : Program) (t : TypeId) : Option Bool :=
  match P.underlying t with
  | some (.struct _) | some (.array _ _) => some true
  | some _ => some false
  | none => none
def sizeB (P : Program) (t : TypeId) : Option Nat := (P.info? t).map (·.size)

section
variable {P : Program}

theorem run_isAgg {t : TypeId} {b : Bool} (h : aggB P t = some b) (w : World) : (isAgg t).run P w = .ok b w := by
  unfold aggB at h
  cases hu : P.underlying t with
  | none => simp [hu] at h
  | some d =>
    simp only [hu] at h
    unfold isAgg
    rw [Sem.run_bind, run_underlying hu w]
    cases d <;> simp at h <;> subst h <;> simp

theorem run_sizeOf {t : TypeId} {n : Nat} (h : sizeB P t = some n) (w : World) : (sizeOf t).run P w = .ok n w := by
  unfold sizeB at h
  cases hi : P.info? t with
  | none => simp [hi] at h
  | some i =>
    simp [hi] at h
    simp [sizeOf, typeInfo, hi, h]

/-- A variable of type t at ad holds v. -/
def Ld (P : Program) (t : TypeId) (w : World) (ad : Addr) (v : Value) : Prop := (loadVar t ad).run P w = .ok v w
/-- .. and in every world of a class. -/
def LdC (P : Program) (t : TypeId) (C : World → Prop) (ad : Addr) (v : Value) : Prop := ∀ w', C w' → Ld P t w' ad v
/-- .. in every world that only has more blocks. -/
abbrev LdX (P : Program) (t : TypeId) (w : World) (ad : Addr) (v : Value) : Prop := LdC P t (Ext w) ad v

theorem Ld.one {t : TypeId} {w : World} {ad : Addr} {v : Value} (ht : aggB P t = some false) (hc : w.cell? ad = some v) : Ld P t w ad v := by
  simp [Ld, loadVar, run_isAgg ht, hc]

theorem Ld.agg {t : TypeId} {w : World} {ad : Addr} {cs : List Value} (ht : aggB P t = some true) (hs : sizeB P t = some cs.length) (hc : ∀ j v, cs[j]? = some v → w.cell? (ad.add j) = some v) : Ld P t w ad (.agg cs.toArray) := by
  have hl := run_loadCells_list (P := P) w ad cs hc
  simp [Ld, loadVar, run_isAgg ht, run_sizeOf hs, hl]

theorem cell_ext {w w' : World} {ad : Addr} {v : Value} (h : w.cell? ad = some v) (e : Ext w w') : w'.cell? ad = some v := (e.cell (World.block_lt_of_cell? w ad h)).trans h

theorem LdX.one {t : TypeId} {w : World} {ad : Addr} {v : Value} (ht : aggB P t = some false) (hc : w.cell? ad = some v) : LdX P t w ad v := fun w' e => Ld.one ht (cell_ext hc e)
theorem LdX.agg {t : TypeId} {w : World} {ad : Addr} {cs : List Value} (ht : aggB P t = some true) (hs : sizeB P t = some cs.length) (hc : ∀ j v, cs[j]? = some v → w.cell? (ad.add j) = some v) : LdX P t w ad (.agg cs.toArray) :=
  fun w' e => Ld.agg ht hs fun j v hj => cell_ext (hc j v hj) e
theorem LdX.ext {t : TypeId} {w w' : World} {ad : Addr} {v : Value} (h : LdX P t w ad v) (e : Ext w w') : LdX P t w' ad v := fun w'' e' => h w'' (e.trans' e')

/-- A field of one cell of a local struct. -/
theorem Blk.ld {t : TypeId} {w : World} {b : Nat} {cs : List Value} {T : TypeId} (h : Blk w b cs T) {j : Nat} {v : Value} (ht : aggB P t = some false) (hj : cs[j]? = some v) : LdX P t w ⟨b, j, none⟩ v :=
  LdX.one ht ((h.cell j).trans hj)
/-- A local struct as a whole. -/
theorem Blk.ldAll {t : TypeId} {w : World} {b : Nat} {cs : List Value} {T : TypeId} (h : Blk w b cs T) (ht : aggB P t = some true) (hs : sizeB P t = some cs.length) : LdX P t w ⟨b, 0, none⟩ (.agg cs.toArray) :=
  LdX.agg ht hs fun j v hj => by rw [plain_add]; exact (h.cell j).trans hj
/-- A field of several cells of a local struct. -/
theorem Blk.ldPart {t : TypeId} {w : World} {b : Nat} {cs : List Value} {T : TypeId} (h : Blk w b cs T) (j n : Nat) (ht : aggB P t = some true) (hs : sizeB P t = some n) (hn : j + n ≤ cs.length) : LdX P t w ⟨b, j, none⟩ (.agg ((cs.drop j).take n).toArray) :=
  LdX.agg ht (by rw [hs]; simp; omega) fun i v hi => by
    rw [plain_add', h.cell]
    have hi' := hi
    rw [List.getElem?_take] at hi'
    split at hi'
    · simpa using hi'
    · cases hi'

/-! ### 3. Operations that leave the world alone -/
def QuietR (P : Program) (ρ : Operand → Value) (op : Op) (C : World → Prop) (v : Value) : Prop :=
  ∀ w', C w' → ∀ dst ty pos af g, (execOp ρ ⟨dst, op, ty, pos, af, g⟩).run P w' = .ok (.value v) w'
/-- In every world of the class C the operation yields v, whatever the operands that L doesn't tell. -/
def Q1 (P : Program) (L : Operand → Option Value) (op : Op) (C : World → Prop) (v : Value) : Prop :=
  ∀ ρ : Operand → Value, (∀ x u, L x = some u → ρ x = u) → QuietR P ρ op C v

variable {L : Operand → Option Value} {C : World → Prop}

theorem q_move {x : Operand} {v : Value} (e : L x = some v) : Q1 P L (.move x) C v := fun ρ h w' _ dst ty pos af g => by simp [execOp, h x v e]
theorem q_assign {x : Operand} {v : Value} (e : L x = some v) : Q1 P L (.assign x) C v := fun ρ h w' _ dst ty pos af g => by simp [execOp, h x v e]

/-- Where field k of struct s begins, if it has cells. -/
def fOff (P : Program) (s k : Nat) : Option Nat :=
  match P.underlying s with
  | some (.struct fs) => match fs[k]? with
    | some f => match P.info? f.type with
      | some i => if i.size = 0 then none else some f.offset
      | none => none
    | none => none
  | _ => none

theorem run_fieldAt {s k off : Nat} (h : fOff P s k = some off) (ad : Addr) (w : World) : (Instr.fieldAt s (.pointer (some ad)) k).run P w = .ok (.pointer (some (ad.add off))) w := by
  unfold fOff at h
  cases hu : P.underlying s with
  | none => simp [hu] at h
  | some d =>
    cases d with
    | struct fs =>
      simp only [hu] at h
      cases hf : fs[k]? with
      | none => simp [hf] at h
      | some f =>
        simp only [hf] at h
        cases hi : P.info? f.type with
        | none => simp [hi] at h
        | some i =>
          simp only [hi] at h
          by_cases hz : i.size = 0
          · simp [hz] at h
          · rw [if_neg hz] at h
            cases h
            simp [Instr.fieldAt, run_underlying hu, hf, Instr.sureAddr, fieldPlace, sizeOf, typeInfo, hi, hz]
    | _ => simp [hu] at h

theorem q_fieldAddr {x : Operand} {s k off : Nat} {ad : Addr} (e : L x = some (.pointer (some ad))) (hf : fOff P s k = some off) : Q1 P L (.fieldAddr s x k) C (.pointer (some (ad.add off))) :=
  fun ρ h w' _ dst ty pos af g => by simp [execOp, h x _ e, run_fieldAt hf]
/-- .. of a local struct. -/
theorem q_fieldAddr0 {x : Operand} {s k off b : Nat} (e : L x = some (.pointer (some ⟨b, 0, none⟩))) (hf : fOff P s k = some off) : Q1 P L (.fieldAddr s x k) C (.pointer (some ⟨b, off, none⟩)) := by
  have := q_fieldAddr (P := P) (C := C) e hf
  rwa [plain_add] at this
theorem q_load {x : Operand} {t : TypeId} {ad : Addr} {v : Value} (e : L x = some (.pointer (some ad))) (hl : LdC P t C ad v) : Q1 P L (.load t x) C v :=
  fun ρ h w' hw dst ty pos af g => by
    have := hl w' hw
    unfold Ld at this
    simp [execOp, h x _ e, Instr.loadAt, Instr.sureAddr, this]
theorem q_nilCheck {x : Operand} {ad : Addr} (e : L x = some (.pointer (some ad))) : Q1 P L (.nilCheck x) C (.pointer (some ad)) :=
  fun ρ h w' _ dst ty pos af g => by simp [execOp, h x _ e]
theorem q_not {x : Operand} {t : TypeId} {b : Bool} (e : L x = some (.bool b)) : Q1 P L (.unOp .not t x) C (.bool (!b)) :=
  fun ρ h w' _ dst ty pos af g => by simp [execOp, h x _ e, Op.unary]
/-- A part of a tuple. -/
def getV : List Value → Nat → Option Value
  | [], _ => none
  | v :: _, 0 => some v
  | _ :: vs, i + 1 => getV vs i
theorem getV_eq : ∀ (vs : List Value) (i : Nat), getV vs i = vs[i]?
  | [], _ => rfl
  | v :: _, 0 => rfl
  | _ :: vs, i + 1 => getV_eq vs i
theorem q_extract {x : Operand} {vs : List Value} {i : Nat} {v : Value} (e : L x = some (.tuple vs.toArray)) (hi : getV vs i = some v) : Q1 P L (.extract x i) C v :=
  fun ρ h w' _ dst ty pos af g => by
    rw [getV_eq] at hi
    simp [execOp, h x _ e, Instr.extract, hi]
theorem q_pick {c x y : Operand} {b : Bool} {u v : Value} (ec : L c = some (.bool b)) (ex : L x = some u) (ey : L y = some v) : Q1 P L (.pick c x y) C (if b then u else v) :=
  fun ρ h w' _ dst ty pos af g => by simp [execOp, h c _ ec, h x _ ex, h y _ ey, asBool]

theorem guard_int (op : BinOp) (t : TypeId) (x y : Operand) (k k' : IntKind) (a b : Int) (w : World) : (eqGuard op t x y (.int k a) (.int k' b)).run P w = .ok () w := by
  cases op <;> simp [eqGuard]

section ints
variable {x y : Operand} {t t' : TypeId} {k : IntKind} {a b : Int} (ex : L x = some (.int k a)) (ey : L y = some (.int k b))
include ex ey
theorem q_eql : Q1 P L (.binOp .eql t x y t') C (.bool (a == b)) := fun ρ h w' _ dst ty pos af g => by simp [execOp, h x _ ex, h y _ ey, guard_int, binOp, Op.intCmp]
theorem q_neq : Q1 P L (.binOp .neq t x y t') C (.bool (a != b)) := fun ρ h w' _ dst ty pos af g => by simp [execOp, h x _ ex, h y _ ey, guard_int, binOp, Op.intCmp]
theorem q_lss : Q1 P L (.binOp .lss t x y t') C (.bool (decide (a < b))) := fun ρ h w' _ dst ty pos af g => by simp [execOp, h x _ ex, h y _ ey, guard_int, binOp, Op.intCmp]
theorem q_leq : Q1 P L (.binOp .leq t x y t') C (.bool (decide (a ≤ b))) := fun ρ h w' _ dst ty pos af g => by simp [execOp, h x _ ex, h y _ ey, guard_int, binOp, Op.intCmp]
theorem q_gtr : Q1 P L (.binOp .gtr t x y t') C (.bool (decide (b < a))) := fun ρ h w' _ dst ty pos af g => by simp [execOp, h x _ ex, h y _ ey, guard_int, binOp, Op.intCmp]
theorem q_geq : Q1 P L (.binOp .geq t x y t') C (.bool (decide (b ≤ a))) := fun ρ h w' _ dst ty pos af g => by simp [execOp, h x _ ex, h y _ ey, guard_int, binOp, Op.intCmp]
theorem q_addW : Q1 P L (.binOp .add t x y t') C (.int k (k.wrap (a + b))) := fun ρ h w' _ dst ty pos af g => by simp [execOp, h x _ ex, h y _ ey, guard_int, binOp, Op.intArith]
theorem q_subW : Q1 P L (.binOp .sub t x y t') C (.int k (k.wrap (a - b))) := fun ρ h w' _ dst ty pos af g => by simp [execOp, h x _ ex, h y _ ey, guard_int, binOp, Op.intArith]
theorem q_mulW : Q1 P L (.binOp .mul t x y t') C (.int k (k.wrap (a * b))) := fun ρ h w' _ dst ty pos af g => by simp [execOp, h x _ ex, h y _ ey, guard_int, binOp, Op.intArith]
theorem q_quoW (hb : b ≠ 0) : Q1 P L (.binOp .quo t x y t') C (.int k (k.wrap (a.tdiv b))) := fun ρ h w' _ dst ty pos af g => by simp [execOp, h x _ ex, h y _ ey, guard_int, binOp, Op.intDiv, hb]
theorem q_remW (hb : b ≠ 0) : Q1 P L (.binOp .rem t x y t') C (.int k (a.tmod b)) := fun ρ h w' _ dst ty pos af g => by simp [execOp, h x _ ex, h y _ ey, guard_int, binOp, Op.intDiv, hb]
end ints

theorem q_fieldAddrO {x : Operand} {s k off b o : Nat} (e : L x = some (.pointer (some ⟨b, o, none⟩))) (hf : fOff P s k = some off) : Q1 P L (.fieldAddr s x k) C (.pointer (some ⟨b, o + off, none⟩)) := by
  have := q_fieldAddr (P := P) (C := C) e hf
  rwa [plain_add'] at this

/-- An int64's range. -/
def I64 (z : Int) : Prop := -9223372036854775808 ≤ z ∧ z ≤ 9223372036854775807
theorem wrap64_eq {z : Int} (h : I64 z) : IntKind.i64.wrap z = z := by
  obtain ⟨h1, h2⟩ := h
  exact IntWalk.i64_in z (by omega)
end
end Go.Proofs.YtnhjohcgnmogaaaDoor
