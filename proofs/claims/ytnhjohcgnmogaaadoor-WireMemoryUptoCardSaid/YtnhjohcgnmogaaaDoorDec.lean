/- Loops as functions over what they carry; small words of the printed models. No program is named here. -/
import Derived.Test.YtnhjohcgnmogaaaDoorOld
set_option linter.unusedVariables false
set_option linter.unusedSimpArgs false
set_option linter.unusedSectionVars false
namespace Go.Proofs.YtnhjohcgnmogaaaDoor
open Go Go.RowKit

/-! ### 1. Loops -/
section
variable {σ ρ : Type} {b : σ → Option (σ ⊕ ρ)}
/-- At most so many rounds. -/
def iterN (b : σ → Option (σ ⊕ ρ)) : Nat → σ → Option ρ
  | 0, _ => none
  | n + 1, s => match b s with
    | none => none
    | some (.inl s') => iterN b n s'
    | some (.inr r) => some r
theorem iterN_succ {r : ρ} : ∀ {n : Nat} {s : σ}, iterN b n s = some r → iterN b (n + 1) s = some r
  | 0, s, h => by cases h
  | n + 1, s, h => by
    unfold iterN at h ⊢
    cases hb : b s with
    | none => rw [hb] at h; cases h
    | some o =>
      rw [hb] at h
      cases o with
      | inl s' => exact iterN_succ (n := n) h
      | inr z => exact h
theorem iterN_mono {r : ρ} {n m : Nat} {s : σ} (h : iterN b n s = some r) (hm : n ≤ m) : iterN b m s = some r := by
  induction hm with
  | refl => exact h
  | step _ ih => exact iterN_succ ih
theorem iterN_uni {r r' : ρ} {n m : Nat} {s : σ} (h : iterN b n s = some r) (k : iterN b m s = some r') : r = r' := by
  have h1 := iterN_mono h (Nat.le_max_left n m)
  have h2 := iterN_mono k (Nat.le_max_right n m)
  rw [h1] at h2
  exact Option.some.inj h2
open Classical in
/-- As many rounds as it takes. -/
noncomputable def iter (b : σ → Option (σ ⊕ ρ)) (s : σ) : Option ρ := if h : ∃ r n, iterN b n s = some r then some h.choose else none
theorem iter_some {r : ρ} {s : σ} (h : iter b s = some r) : ∃ n, iterN b n s = some r := by
  unfold iter at h
  split at h
  · rename_i hx
    have := hx.choose_spec
    rw [← Option.some.inj h]
    exact this
  · cases h
theorem iter_of {r : ρ} {n : Nat} {s : σ} (h : iterN b n s = some r) : iter b s = some r := by
  unfold iter
  have hx : ∃ r n, iterN b n s = some r := ⟨r, n, h⟩
  rw [dif_pos hx]
  obtain ⟨m, hm⟩ := hx.choose_spec
  rw [iterN_uni hm h]
theorem iter_inl {s s' : σ} (h : b s = some (.inl s')) : iter b s = iter b s' := by
  cases hq : iter b s' with
  | some r =>
    obtain ⟨n, hn⟩ := iter_some hq
    exact iter_of (n := n + 1) (by unfold iterN; rw [h]; exact hn)
  | none =>
    cases hp : iter b s with
    | none => rfl
    | some r =>
      obtain ⟨n, hn⟩ := iter_some hp
      cases n with
      | zero => cases hn
      | succ n =>
        unfold iterN at hn
        rw [h] at hn
        rw [iter_of hn] at hq
        cases hq
theorem iter_inr {s : σ} {r : ρ} (h : b s = some (.inr r)) : iter b s = some r := iter_of (n := 1) (by unfold iterN; rw [h])
/-- What is so behind each round, and where it ends. -/
theorem iter_inv (I : σ → Prop) (μ : σ → Nat) (Q : ρ → Prop) (h : ∀ s, I s → (∃ s', b s = some (.inl s') ∧ I s' ∧ μ s' < μ s) ∨ ∃ r, b s = some (.inr r) ∧ Q r) {s : σ} (hs : I s) : ∃ r, iter b s = some r ∧ Q r := by
  generalize hn : μ s = n
  induction n using Nat.strongRecOn generalizing s with
  | ind n ih =>
    rcases h s hs with ⟨s', h1, h2, h3⟩ | ⟨r, h1, h2⟩
    · obtain ⟨r, hr, hq⟩ := ih (μ s') (by omega) h2 rfl
      exact ⟨r, (iter_inl h1).trans hr, hq⟩
    · exact ⟨r, iter_inr h1, h2⟩
/-- What a round comes to. -/
def Nx (b : σ → Option (σ ⊕ ρ)) (m : Nat) (r : ρ) : σ ⊕ ρ → Prop
  | .inl s' => iterN b m s' = some r
  | .inr z => z = r
theorem iterN_step {r : ρ} : ∀ {n : Nat} {s : σ}, iterN b n s = some r → ∃ m o, n = m + 1 ∧ b s = some o ∧ Nx b m r o
  | 0, s, h => by cases h
  | n + 1, s, h => by
    unfold iterN at h
    cases hb : b s with
    | none => rw [hb] at h; cases h
    | some o =>
      rw [hb] at h
      cases o with
      | inl s' => exact ⟨n, .inl s', rfl, rfl, h⟩
      | inr z => exact ⟨n, .inr z, rfl, rfl, Option.some.inj h⟩
end

/-! ### 2. Words -/
section
variable {α β : Type} {r : β}
theorem bindS {o : Option α} {f : α → Option β} (h : o.bind f = some r) : ∃ x, o = some x ∧ f x = some r := by
  cases o with
  | none => cases h
  | some x => exact ⟨x, rfl, h⟩
theorem condT {c : Bool} {x y : Option β} (h : (bif c then x else y) = some r) (hc : c = true) : x = some r := by rw [hc] at h; exact h
theorem condF {c : Bool} {x y : Option β} (h : (bif c then x else y) = some r) (hc : c = false) : y = some r := by rw [hc] at h; exact h
/-- An element; none outside. -/
def rdI (xs : List α) (z : Int) : Option α := if 0 ≤ z then xs[z.toNat]? else none
theorem rdI_some {xs : List α} {z : Int} {x : α} (h : rdI xs z = some x) : 0 ≤ z ∧ z < xs.length ∧ xs[z.toNat]? = some x := by
  unfold rdI at h
  split at h
  · rename_i h0
    have := (List.getElem?_eq_some_iff.1 h).1
    exact ⟨h0, by omega, h⟩
  · cases h
theorem rdI_nat (xs : List α) (i : Nat) : rdI xs (i : Int) = xs[i]? := by simp [rdI]
/-- Only where p holds. -/
def chk (p : Prop) [Decidable p] (o : Option β) : Option β := if p then o else none
theorem chkS {p : Prop} [Decidable p] {o : Option β} (h : chk p o = some r) : p ∧ o = some r := by
  unfold chk at h
  split at h
  · rename_i hp; exact ⟨hp, h⟩
  · cases h
theorem chk_pos {p : Prop} [Decidable p] {o : Option β} (h : p) : chk p o = o := if_pos h
/-- A byte of a text. -/
def rdS (s : ByteArray) (z : Int) : Option Int := if h : 0 ≤ z ∧ z.toNat < s.size then some ((s[z.toNat]'h.2).toNat : Int) else none
theorem rdS_some {s : ByteArray} {z x : Int} (h : rdS s z = some x) : ∃ (h0 : 0 ≤ z) (h1 : z.toNat < s.size), x = ((s[z.toNat]'h1).toNat : Int) := by
  unfold rdS at h
  split at h
  · rename_i hp; exact ⟨hp.1, hp.2, (Option.some.inj h).symm⟩
  · cases h
theorem natI {α : Type} {xs : List α} {i : Nat} {x : α} (h : xs[i]? = some x) : i < xs.length := (List.getElem?_eq_some_iff.1 h).1
end

/-! ### 3. Guards that are known -/
section
variable {P : Program} {ops : Array Oper} {Q : Exit → Act → World → Prop} {Qp : Act → Prop} {rest : List Oper} {a : Act} {n : Nat} {l : List (Nat × Option Value)} {w : World}
  {ty : TypeId} {pos : String} {af : Array Edge} {op : Op} {d : Nat}
theorem unwanted {j t : Nat} {want b : Bool} {dst : Option Nat} (H : Has a n l) (hj : (ops[j]?).bind (·.dst) = some t) (ht : lk l t = some (.bool b)) (hb : b ≠ want) : ¬ Region.wanted ⟨dst, op, ty, pos, af, some (j, want)⟩ (yielded ops a.tmps) = true := fun hw => by
  have hy : yielded ops a.tmps j = some b := yielded_of H hj ht
  have := (wanted_iff (o := ⟨dst, op, ty, pos, af, some (j, want)⟩) rfl).1 hw
  simp only at this
  rw [hy] at this
  exact hb (Option.some.inj this)
theorem unwantedU {j t : Nat} {want : Bool} {dst : Option Nat} (H : Has a n l) (hj : (ops[j]?).bind (·.dst) = some t) (ht : lk l t = some undef) : ¬ Region.wanted ⟨dst, op, ty, pos, af, some (j, want)⟩ (yielded ops a.tmps) = true := fun hw => by
  have hv := H.val t _ ht
  have := (wanted_iff (o := ⟨dst, op, ty, pos, af, some (j, want)⟩) rfl).1 hw
  simp only [yielded, hj, Option.bind_some, hv, undef] at this
  cases this
theorem n_noU {j t : Nat} {want : Bool} (H : Has a n l) (hj : (ops[j]?).bind (·.dst) = some t) (ht : lk l t = some undef) (hd : Nat.blt d n = true) (h : ∀ a', Has a' n ((d, some undef) :: l) → wpList P ops Q rest a' w) :
    wpList P ops Q (⟨some d, op, ty, pos, af, some (j, want)⟩ :: rest) a w := by
  refine wpList_step fun K hK => ?_
  rw [if_neg (unwantedU H hj ht)]
  exact hK _ _ (h _ (H.put d undef hd))
theorem qq_noU {j t : Nat} {want : Bool} (H : Has a n l) (hj : (ops[j]?).bind (·.dst) = some t) (ht : lk l t = some undef) (hd : Nat.blt d n = true) (h : ∀ a', Has a' n ((d, some undef) :: l) → wpQuiet P ops (Ext w) Qp rest a') :
    wpQuiet P ops (Ext w) Qp (⟨some d, op, ty, pos, af, some (j, want)⟩ :: rest) a := by
  refine wpQuiet_step fun K hK => ?_
  rw [if_neg (unwantedU H hj ht)]
  exact hK _ (h _ (H.put d undef hd))
theorem n_no {j t : Nat} {want b : Bool} (H : Has a n l) (hj : (ops[j]?).bind (·.dst) = some t) (ht : lk l t = some (.bool b)) (hb : b ≠ want) (hd : Nat.blt d n = true) (h : ∀ a', Has a' n ((d, some undef) :: l) → wpList P ops Q rest a' w) :
    wpList P ops Q (⟨some d, op, ty, pos, af, some (j, want)⟩ :: rest) a w := by
  refine wpList_step fun K hK => ?_
  rw [if_neg (unwanted H hj ht hb)]
  exact hK _ _ (h _ (H.put d undef hd))
theorem n_no0 {j t : Nat} {want b : Bool} (H : Has a n l) (hj : (ops[j]?).bind (·.dst) = some t) (ht : lk l t = some (.bool b)) (hb : b ≠ want) (h : ∀ a', Has a' n l → wpList P ops Q rest a' w) :
    wpList P ops Q (⟨none, op, ty, pos, af, some (j, want)⟩ :: rest) a w := by
  refine wpList_step fun K hK => ?_
  rw [if_neg (unwanted H hj ht hb)]
  exact hK _ _ (h _ H)
theorem n_yes {dst : Option Nat} {j t : Nat} {want : Bool} (H : Has a n l) (hj : (ops[j]?).bind (·.dst) = some t) (ht : lk l t = some (.bool want))
    (h : wpList P ops Q (⟨dst, op, ty, pos, af, none⟩ :: rest) a w) : wpList P ops Q (⟨dst, op, ty, pos, af, some (j, want)⟩ :: rest) a w :=
  nc_yes (H.c ops) hj ht h
theorem qq_no {j t : Nat} {want b : Bool} (H : Has a n l) (hj : (ops[j]?).bind (·.dst) = some t) (ht : lk l t = some (.bool b)) (hb : b ≠ want) (hd : Nat.blt d n = true) (h : ∀ a', Has a' n ((d, some undef) :: l) → wpQuiet P ops (Ext w) Qp rest a') :
    wpQuiet P ops (Ext w) Qp (⟨some d, op, ty, pos, af, some (j, want)⟩ :: rest) a := by
  refine wpQuiet_step fun K hK => ?_
  rw [if_neg (unwanted H hj ht hb)]
  exact hK _ (h _ (H.put d undef hd))
theorem qq_yes {dst : Option Nat} {j t : Nat} {want : Bool} (H : Has a n l) (hj : (ops[j]?).bind (·.dst) = some t) (ht : lk l t = some (.bool want))
    (h : wpQuiet P ops (Ext w) Qp (⟨dst, op, ty, pos, af, none⟩ :: rest) a) : wpQuiet P ops (Ext w) Qp (⟨dst, op, ty, pos, af, some (j, want)⟩ :: rest) a := by
  have hy : yielded ops a.tmps j = some want := yielded_of H hj ht
  have hw : Region.wanted ⟨dst, op, ty, pos, af, some (j, want)⟩ (yielded ops a.tmps) = true := (wanted_iff (g := (j, want)) (o := ⟨dst, op, ty, pos, af, some (j, want)⟩) rfl).2 hy
  have hw2 : Region.wanted ⟨dst, op, ty, pos, af, none⟩ (yielded ops a.tmps) = true := by simp [Region.wanted]
  have h' : if Region.wanted ⟨dst, op, ty, pos, af, none⟩ (yielded ops a.tmps) then Oper.quiet P ⟨dst, op, ty, pos, af, none⟩ a (Ext w) (wpQuiet P ops (Ext w) Qp rest) else wpQuiet P ops (Ext w) Qp rest (a.put dst undef) := h
  rw [if_pos hw2] at h'
  refine wpQuiet_step fun K hK => ?_
  rw [if_pos hw]
  obtain ⟨v, h1, h2⟩ := h'
  exact ⟨v, fun w' hw' => by have := h1 w' hw'; unfold Oper.quietAt at this ⊢; rw [execOp_guard]; exact this, hK _ h2⟩
end

/-! ### 4. Operations -/
section
variable {P : Program} {L : Operand → Option Value} {C : World → Prop} {x y z : Operand} {t t' : TypeId} {v : Value} {A : Option Addr} {ad : Addr} {n c i j : Nat}
theorem q_lenV {T e : TypeId} (ht : P.underlying T = some (.slice e)) (ex : L x = some v) (hv : v = .slice A n c) : Q1 P L (.call { callee := .builtin .len, args := #[x], argTypes := #[T] }) C (.int .i64 n) := q_lenSl ht (hv ▸ ex)
theorem q_ixV {T e k : Nat} {q : IntKind} (ht : P.underlying T = some (.slice e)) (hk : sizeB P e = some k) (ex : L x = some v) (hv : v = .slice A n c) (hA : A = some ad) (ey : L y = some (.int q ((i : Nat) : Int))) (hn : i < n) :
    Q1 P L (.indexAddr T x y) C (.pointer (some (ad.add (i * k)))) := by
  have := q_indexAddr (C := C) ht hk (show L x = some (.slice (some ad) n c) by rw [ex, hv, hA]) ey (by omega) (by omega)
  exact q_cast this (by simp)
theorem q_ixVI {T e k : Nat} {q : IntKind} {z : Int} (ht : P.underlying T = some (.slice e)) (hk : sizeB P e = some k) (ex : L x = some v) (hv : v = .slice A n c) (hA : A = some ad) (ey : L y = some (.int q z)) (h0 : 0 ≤ z) (hn : z < n) :
    Q1 P L (.indexAddr T x y) C (.pointer (some (ad.add (z.toNat * k)))) :=
  q_indexAddr ht hk (show L x = some (.slice (some ad) n c) by rw [ex, hv, hA]) ey h0 hn
theorem q_incr (ex : L x = some (.int .i64 ((i : Nat) : Int))) (ey : L y = some (.int .i64 ((j : Nat) : Int))) (h : i + j ≤ 9223372036854775807) : Q1 P L (.binOp .add t x y t') C (.int .i64 ((i + j : Nat) : Int)) :=
  q_cast (q_add ex ey (by constructor <;> omega)) (by simp)
section
variable (ex : L x = some (.int .i64 ((i : Nat) : Int))) (ey : L y = some (.int .i64 ((j : Nat) : Int)))
include ex ey
theorem q_lssN : Q1 P L (.binOp .lss t x y t') C (.bool (decide (i < j))) := q_cast (q_lss ex ey) (by simp)
theorem q_leqN : Q1 P L (.binOp .leq t x y t') C (.bool (decide (i ≤ j))) := q_cast (q_leq ex ey) (by simp)
theorem q_gtrN : Q1 P L (.binOp .gtr t x y t') C (.bool (decide (j < i))) := q_cast (q_gtr ex ey) (by simp)
theorem q_geqN : Q1 P L (.binOp .geq t x y t') C (.bool (decide (j ≤ i))) := q_cast (q_geq ex ey) (by simp)
theorem q_eqlN : Q1 P L (.binOp .eql t x y t') C (.bool (decide (i = j))) := q_cast (q_eql ex ey) (by congr 1; rw [Bool.eq_iff_iff]; simp; omega)
theorem q_neqN : Q1 P L (.binOp .neq t x y t') C (.bool (!decide (i = j))) := q_cast (q_neq ex ey) (by congr 1; rw [Bool.eq_iff_iff]; simp; omega)
end
section
variable {k : IntKind} {a b : Int} (ex : L x = some (.int k a)) (ey : L y = some (.int k b))
include ex ey
theorem q_eqlD : Q1 P L (.binOp .eql t x y t') C (.bool (decide (a = b))) := q_cast (q_eql ex ey) (by congr 1)
theorem q_neqD : Q1 P L (.binOp .neq t x y t') C (.bool (!decide (a = b))) := q_cast (q_neq ex ey) (by congr 1)
end
theorem q_negW {k : IntKind} {a : Int} (ex : L x = some (.int k a)) : Q1 P L (.unOp .neg t x) C (.int k (k.wrap (0 - a))) := fun ρ h w' _ dst ty pos af g => by simp [execOp, h x _ ex, Op.unary, Op.intArith]
abbrev notK (k : IntKind) (a : Int) : Int := k.wrap ((BitVec.ofInt k.bits (if k.signed then -1 else k.max) ^^^ BitVec.ofInt k.bits a).toNat : Int)
theorem q_compl {k : IntKind} {a : Int} (ex : L x = some (.int k a)) : Q1 P L (.unOp .xor t x) C (.int k (notK k a)) := fun ρ h w' _ dst ty pos af g => by simp [execOp, h x _ ex, Op.unary, Op.intBits, notK]
theorem q_ixS {T : TypeId} {s : ByteArray} {q : IntKind} {z u : Int} (ht : P.underlying T = some .string) (ex : L x = some (.string s)) (ey : L y = some (.int q z)) (h : rdS s z = some u) : Q1 P L (.index T x y) C (.int .u8 u) := by
  obtain ⟨h0, h1, rfl⟩ := rdS_some h
  exact q_indexS ht ex ey h0 h1
end
section
variable {P : Program} {w : World} {α : Type} {e : α → List Value} {R : World → List Value → α → Prop} {k : Nat} {v : Value} {A : Option Addr} {ad : Addr} {n c i : Nat} {xs : List α} {x : α} {T : TypeId} {u : Value}
theorem SlR.formV (h : SlR w k R v xs) : ∃ A c, v = .slice A xs.length c ∧ xs.length ≤ c ∧ c ≤ 9223372036854775807 := by
  obtain ⟨A, c, h1, h2, h3, _⟩ := h.form
  exact ⟨A, c, h1, h2, h3⟩
theorem SlR.adV (h : SlR w k R v xs) (hv : v = .slice A n c) (hx : xs[i]? = some x) : ∃ ad, A = some ad := by
  subst hv
  obtain ⟨A', c', h1, h2, h3, h4, h5⟩ := id h
  cases h1
  exact h.addr (List.getElem?_eq_some_iff.1 hx).1
theorem SlR.ldOneV (h : SlR w 1 (Flat e) v xs) (hv : v = .slice A n c) (hA : A = some ad) (ht : aggB P T = some false) (hx : xs[i]? = some x) (he : e x = [u]) : LdX P T w (ad.add (i * 1)) u := by
  subst hv; subst hA
  exact h.ldOne ht hx he
theorem SlR.ldAggV (h : SlR w k (Flat e) v xs) (hv : v = .slice A n c) (hA : A = some ad) (ht : aggB P T = some true) (hs : sizeB P T = some k) (hx : xs[i]? = some x) : LdX P T w (ad.add (i * k)) (.agg (e x).toArray) := by
  subst hv; subst hA
  exact h.ldAgg ht hs hx
theorem SlR.ldCellV {j : Nat} (h : SlR w k (Flat e) v xs) (hv : v = .slice A n c) (hA : A = some ad) (ht : aggB P T = some false) (hx : xs[i]? = some x) (he : (e x)[j]? = some u) : LdX P T w ((ad.add (i * k)).add j) u := by
  subst hv; subst hA
  exact h.ldCell ht hx he
theorem SlR.ldPartV {j m : Nat} {ds : List Value} (h : SlR w k (Flat e) v xs) (hv : v = .slice A n c) (hA : A = some ad) (ht : aggB P T = some true) (hs : sizeB P T = some m) (hx : xs[i]? = some x) (hd : ((e x).drop j).take m = ds) (hl : ds.length = m) : LdX P T w ((ad.add (i * k)).add j) (.agg ds.toArray) := by
  subst hv; subst hA
  obtain ⟨cs, h1, h2, h3⟩ := h.el hx
  have h2' : cs = e x := h2
  subst h2'
  refine LdX.agg ht (by rw [hs, hl]) fun q u hu => ?_
  rw [add_add, add_add]
  refine h3 (j + q) u ?_
  rw [← hd, List.getElem?_take] at hu
  split at hu
  · simpa using hu
  · cases hu
end
section
variable {P : Program} {w : World} {α : Type} {e : α → List Value} {R : World → List Value → α → Prop} {k : Nat} {v : Value} {A : Option Addr} {ad : Addr} {n c i : Nat} {xs : List α} {x : α} {T : TypeId} {u : Value}
theorem SlR.nil (w : World) (k : Nat) (R : World → List Value → α → Prop) : SlR w k R (.slice none 0 0) [] := ⟨none, 0, rfl, Nat.le_refl _, Nat.zero_le _, fun _ => ⟨rfl, rfl⟩, fun ad h => by cases h⟩
theorem SlR.elV (h : SlR w k R v xs) (hv : v = .slice A n c) (hA : A = some ad) (hx : xs[i]? = some x) : ∃ cs : List Value, cs.length = k ∧ R w cs x ∧ ∀ j u, cs[j]? = some u → w.cell? (ad.add (i * k + j)) = some u := by
  subst hv; subst hA
  exact h.el hx
/-- A cell of an element whose cells are known. -/
theorem ldElC {j : Nat} {cs : List Value} (ht : aggB P T = some false) (hc : ∀ j u, cs[j]? = some u → w.cell? (ad.add (i * k + j)) = some u) (hj : cs[j]? = some v) : LdX P T w ((ad.add (i * k)).add j) v :=
  LdX.one ht (by rw [add_add]; exact hc j v hj)
theorem Src.str (w : World) (s : ByteArray) : Src w 1 (.string s) s.data.toList.length (s.data.toList.flatMap eB) := .inr (.inr ⟨s, rfl, rfl, by simp, eB_map _⟩)
theorem Src.nil (w : World) (k : Nat) {e : α → List Value} : Src w k (.slice none 0 0) ([] : List α).length (([] : List α).flatMap e) := .inl ⟨0, rfl, rfl, rfl⟩
theorem St.blkOwnL {fp : Nat → Prop} {w0 : World} {rs : List Rs} {b : Nat} {cs : List Value} {e : α → List Value} {k : Nat} (xs : List α) (h : St fp w0 w (blkR b cs T :: rs)) (hc : cs = xs.flatMap e) (hn : cs.length = xs.length * k) (hm : xs.length ≤ maxLen) :
    St fp w0 w (ownR T k (.slice (some ⟨b, 0, none⟩) xs.length xs.length) xs.length (xs.flatMap e) :: rs) := by
  subst hc
  exact h.blkOwn xs.length k hn hm
theorem wrap_byte_i64 (x : UInt8) : Value.int .i64 (IntKind.i64.wrap (x.toNat : Int)) = .int .i64 (x.toNat : Int) := by
  rw [wrap64_eq]
  have := x.toNat_lt
  constructor <;> omega
theorem wrap_byte_u32 (x : UInt8) : Value.int .u32 (IntKind.u32.wrap (x.toNat : Int)) = .int .u32 (x.toNat : Int) := by
  have := x.toNat_lt
  have e : IntKind.u32.wrap (x.toNat : Int) = (x.toNat : Int) := by
    show (x.toNat : Int) % _ = _
    exact Int.emod_eq_of_lt (by omega) (by show (x.toNat : Int) < 4294967296; omega)
  rw [e]
theorem wrap_byte_u64 (x : UInt8) : Value.int .u64 (IntKind.u64.wrap (x.toNat : Int)) = .int .u64 (x.toNat : Int) := by
  have := x.toNat_lt
  have e : IntKind.u64.wrap (x.toNat : Int) = (x.toNat : Int) := by
    show (x.toNat : Int) % _ = _
    exact Int.emod_eq_of_lt (by omega) (by show (x.toNat : Int) < 18446744073709551616; omega)
  rw [e]
theorem flat_take (hl : ∀ z : α, (e z).length = k) : ∀ (xs : List α) (i j : Nat) (x : α) (u : Value), xs[i]? = some x → j < k → ∀ x', e x' = (e x).set j u → (xs.flatMap e).set (i * k + j) u = (xs.set i x').flatMap e
  | [], i, j, x, u, h, _, _, _ => by simp at h
  | y :: ys, 0, j, x, u, h, hj, x', hx => by
    simp only [List.getElem?_cons_zero, Option.some.injEq] at h
    subst h
    simp only [List.flatMap_cons, List.set_cons_zero, Nat.zero_mul, Nat.zero_add]
    rw [List.set_append_left _ _ (by rw [hl]; exact hj), hx]
  | y :: ys, i + 1, j, x, u, h, hj, x', hx => by
    simp only [List.getElem?_cons_succ] at h
    simp only [List.flatMap_cons, List.set_cons_succ]
    rw [List.set_append_right _ _ (by rw [hl, Nat.succ_mul]; omega), hl]
    have e1 : (i + 1) * k + j - k = i * k + j := by rw [Nat.succ_mul]; omega
    rw [e1, flat_take hl ys i j x u h hj x' hx]
theorem flat_splice (hl : ∀ z : α, (e z).length = k) (x' : α) : ∀ (xs : List α) (i : Nat), i < xs.length → (xs.flatMap e).take (i * k) ++ e x' ++ (xs.flatMap e).drop (i * k + (e x').length) = (xs.set i x').flatMap e
  | [], i, h => by simp at h
  | y :: ys, 0, h => by
    simp only [List.flatMap_cons, List.set_cons_zero, Nat.zero_mul, Nat.zero_add, List.take_zero, List.nil_append]
    rw [hl, List.drop_append_of_le_length (by rw [hl]; exact Nat.le_refl _), List.drop_eq_nil_of_le (by rw [hl]; exact Nat.le_refl _), List.nil_append]
  | y :: ys, i + 1, h => by
    have ih := flat_splice hl x' ys i (by simpa using h)
    simp only [List.flatMap_cons, List.set_cons_succ]
    rw [← ih]
    have e1 : (i + 1) * k = (e y).length + i * k := by rw [hl, Nat.succ_mul]; omega
    rw [e1, List.take_length_add_append, Nat.add_assoc, List.drop_length_add_append]
    simp only [List.append_assoc]
end
section
variable {P : Program} {ops : Array Oper} {Q : Exit → Act → World → Prop} {rest : List Oper} {a : Act} {n : Nat} {l : List (Nat × Option Value)} {w : World}
  {ty : TypeId} {pos : String} {af : Array Edge} {d : Nat} {v u : Value}
theorem Has.know {b c : Bool} (H : Has a n l) (t : Nat) (ht : lk l t = some (.bool b)) (e : b = c) : Has a n ((t, some (.bool c)) :: l) := by
  subst e
  refine ⟨H.size, H.defers, fun s v hv => ?_⟩
  simp only [lk] at hv
  cases hq : Nat.beq t s with
  | true =>
    rw [hq] at hv
    obtain rfl := Nat.eq_of_beq_eq_true hq
    simp only [cond_true, Option.some.injEq] at hv
    rw [← hv]
    exact H.val t _ ht
  | false => rw [hq] at hv; exact H.val s v hv
theorem c_condKT {c : Operand} {x y : Code} (H : Has a n l) (e : lo l c = some (.bool true)) (h : x.wp P Q a w) : (Code.cond c x y).wp P Q a w := c_cond H e (fun _ => h) (fun h => by cases h)
theorem c_condKF {c : Operand} {x y : Code} (H : Has a n l) (e : lo l c = some (.bool false)) (h : y.wp P Q a w) : (Code.cond c x y).wp P Q a w := c_cond H e (fun h => by cases h) (fun _ => h)
theorem n_app {α : Type} {e : α → List Value} {xs ys : List α} {x y : Operand} {t t' E k bytes : Nat} {z : List Value} {d' : TypeDesc} (H : Has a n l) (ex : lo l x = some v) (ey : lo l y = some u)
    (ht : P.underlying t = some (.slice E)) (ht' : P.underlying t' = some d') (hd' : ∀ q, d' ≠ .int q) (hE : ElemOk P E k bytes z) (hv : Own w E k v xs.length (xs.flatMap e)) (hx : Src w k u ys.length (ys.flatMap e)) (h1 : ∀ z, ∀ c ∈ e z, c.oneCell' = true)
    (hb : (xs.length + ys.length) * bytes ≤ 140737488355328) (h63 : xs.length + ys.length ≤ maxLen) (hd : Nat.blt d n = true)
    (h : ∀ v' w', Own w' E k v' (xs ++ ys).length ((xs ++ ys).flatMap e) → Chg (blks v) w w' → (blks v' = blks v ∨ ∃ b, blks v' = [b] ∧ w.heap.size ≤ b) → ∀ a', Has a' n ((d, some v') :: l) → wpList P ops Q rest a' w') :
    wpList P ops Q (⟨some d, .call { callee := .builtin .append, args := #[x, y], argTypes := #[t, t'] }, ty, pos, af, none⟩ :: rest) a w :=
  n_append H ex ey ht ht' hd' hE hv hx (flat_one h1 ys) hb h63 hd fun v' w' hO hC hb _ a' H' => h v' w' (by rw [List.length_append, List.flatMap_append]; exact hO) hC hb a' H'
theorem n_makeL {α : Type} {e : α → List Value} {z0 : α} {x y : Operand} {T E k bytes : Nat} {z : List Value} {q1 q2 : IntKind} {L C : Nat} (H : Has a n l) (ht : P.underlying T = some (.slice E)) (hE : ElemOk P E k bytes z) (hz : e z0 = z)
    (ex : lo l x = some (.int q1 L)) (ey : lo l y = some (.int q2 C)) (hLC : L ≤ C) (hb : C * bytes ≤ 140737488355328) (hm : C ≤ maxLen) (hd : Nat.blt d n = true)
    (h : ∀ b w', Own w' E k (.slice (some ⟨b, 0, none⟩) L C) (List.replicate L z0).length ((List.replicate L z0).flatMap e) → Ext w w' → w.heap.size = b → ∀ a', Has a' n ((d, some (.slice (some ⟨b, 0, none⟩) L C)) :: l) → wpList P ops Q rest a' w') :
    wpList P ops Q (⟨some d, .makeSlice T x y, ty, pos, af, none⟩ :: rest) a w :=
  n_make H ht hE ex ey hLC hb hm hd fun b w' hO he hs a' H' => h b w' (by rw [List.length_replicate, List.flatMap, List.map_replicate, hz]; exact hO) he hs a' H'
section
variable {α : Type} {e : α → List Value} {xs : List α} {x' x0 : α} {x y : Operand} {t E k i j n0 c : Nat} {A : Option Addr} {ad : Addr}
theorem n_storeEl (H : Has a n l) (ex : lo l x = some (.pointer (some (ad.add (i * k))))) (ey : lo l y = some u) (hs : sizeB P t = some k) (hO : Own w E k v xs.length (xs.flatMap e)) (hv : v = .slice A n0 c) (hA : A = some ad) (hi : i < xs.length)
    (hu : u.cells = (e x').toArray) (h1 : ∀ c ∈ e x', c.oneCell' = true) (hl : ∀ z, (e z).length = k)
    (h : ∀ w', Own w' E k v (xs.set i x').length ((xs.set i x').flatMap e) → Chg (blks v) w w' → ∀ a', Has a' n l → wpList P ops Q rest a' w') :
    wpList P ops Q (⟨none, .store t x y, ty, pos, af, none⟩ :: rest) a w := by
  rcases hO with ⟨rfl, h0, _⟩ | ⟨b, cap, cs, rfl, hB, h2, h3, h4, h5, h6⟩
  · omega
  · cases hv; cases hA
    rw [plain_add] at ex
    have hik : i * k + k ≤ xs.length * k := by
      have := Nat.mul_le_mul_right k (show i + 1 ≤ xs.length from hi)
      rwa [Nat.succ_mul] at this
    have hc := Nat.mul_le_mul_right k h2
    refine n_store (vs := e x') H ex ey hu (by rw [hs, hl]) hB (by rw [hl]; omega) h1 fun w' hB' hC _ a' H' => ?_
    refine h w' ?_ (by simpa [blks] using hC) a' H'
    have := Own.splice (vs := e x') (o := i * k) h2 h3 h4 h6 h5 (by rw [hl]; omega) hB'
    rw [flat_splice hl x' xs i hi] at this
    rw [List.length_set]
    exact this
theorem n_storeElC (H : Has a n l) (ex : lo l x = some (.pointer (some ((ad.add (i * k)).add j)))) (ey : lo l y = some u) (hs : sizeB P t = some 1) (hO : Own w E k v xs.length (xs.flatMap e)) (hv : v = .slice A n0 c) (hA : A = some ad) (hx : xs[i]? = some x0)
    (hu : e x' = (e x0).set j u) (hl : ∀ z, (e z).length = k) (hj : j < k) (h1 : u.oneCell' = true)
    (h : ∀ w', Own w' E k v (xs.set i x').length ((xs.set i x').flatMap e) → Chg (blks v) w w' → ∀ a', Has a' n l → wpList P ops Q rest a' w') :
    wpList P ops Q (⟨none, .store t x y, ty, pos, af, none⟩ :: rest) a w := by
  have hi := (List.getElem?_eq_some_iff.1 hx).1
  rcases id hO with ⟨rfl, h0, _⟩ | ⟨b, cap, cs, rfl, hB, h2, h3, h4, h5, h6⟩
  · omega
  · cases hv; cases hA
    rw [plain_add, plain_add'] at ex
    have hik : i * k + k ≤ xs.length * k := by
      have := Nat.mul_le_mul_right k (show i + 1 ≤ xs.length from hi)
      rwa [Nat.succ_mul] at this
    refine n_storeE1 H ex ey hs h1 hO (by omega) fun w' hO' hC a' H' => h w' ?_ (by simpa [blks] using hC) a' H'
    rw [flat_take hl xs i j x0 u hx hj x' hu] at hO'
    rw [List.length_set]
    exact hO'
end
end
/-- A place round a variable's value; none round anything else. -/
def errAt (p : Int) : ErrM → Option ErrM
  | .v g => some (.pl p g)
  | _ => none
theorem errAt_some {p : Int} {e r : ErrM} (h : errAt p e = some r) : ∃ g, e = .v g ∧ r = .pl p g := by
  cases e with
  | v g => exact ⟨g, rfl, (Option.some.inj h).symm⟩
  | nil => cases h
  | pl _ _ => cases h
theorem fill1 {place : Nat → Option (Nat × Nat)} {i off : Nat} {v : Value} {zs : List Value} {rest : List (Nat × Value)} (h : v.oneCell' = true) (hp : place i = some (off, 1)) (hl : off < zs.length) :
    Instr.fill place zs.toArray ((i, v) :: rest) = Instr.fill place (zs.set off v).toArray rest := by
  rw [Instr.fill, hp]
  simp only [cells_one h]
  have : ¬ (off + 1 > zs.length) := by omega
  simp [this, List.zipIdx]
/-! ### 5. Bits -/
abbrev bitAnd (k : IntKind) (a b : Int) : Int := k.wrap ((BitVec.ofInt k.bits a &&& BitVec.ofInt k.bits b).toNat : Int)
abbrev bitOr (k : IntKind) (a b : Int) : Int := k.wrap ((BitVec.ofInt k.bits a ||| BitVec.ofInt k.bits b).toNat : Int)
abbrev bitXor (k : IntKind) (a b : Int) : Int := k.wrap ((BitVec.ofInt k.bits a ^^^ BitVec.ofInt k.bits b).toNat : Int)
abbrev shL (k : IntKind) (a b : Int) : Int := k.wrap (a * 2 ^ (min b.toNat k.bits))
abbrev shR (k : IntKind) (a b : Int) : Int := a.fdiv (2 ^ (min b.toNat k.bits))
/-! ### 6. Drawn orders -/
section
variable {P : Program} {ops : Array Oper} {Q : Exit → Act → World → Prop} {a : Act} {n : Nat} {l : List (Nat × Option Value)} {w : World} {B : List Nat} {k0 h0 : Nat}
  {op : Op} {ty : TypeId} {pos : String} {af : Array Edge} {d fuel : Nat} {v : Value} {listed : Array Bool} {j t : Nat} {want b : Bool}
/-- An operation whose guard says no. -/
theorem k_no (i : Nat) (H : Has a n l) (hi : ops[i]? = some ⟨some d, op, ty, pos, af, some (j, want)⟩) (hj : (ops[j]?).bind (·.dst) = some t) (ht : lk l t = some (.bool b)) (hn : b ≠ want) (hd : Nat.blt d n = true) (hs : Region.noSelect ops = true) (hf : Region.free .any ops listed i = true)
    (hr : (Region.ready .any ops listed).contains i = true) (hb : (!(Nat.beq i k0) && (Nat.beq listed.size ops.size)) = true) (hQ : ∀ c a w, Q (.panic c) (a.put (some d) undef) w → Q (.panic c) a w)
    (h : ∀ a', Has a' n ((d, some undef) :: l) → wpK P ops Q k0 (ChgF B h0 w) fuel (listed.setIfInBounds i true) a' w) : wpK P ops Q k0 (ChgF B h0 w) (fuel + 1) listed a w := by
  simp only [Bool.and_eq_true, Bool.not_eq_true'] at hb
  obtain ⟨h2, h4⟩ := hb
  exact wpK_firstT (oi := ⟨some d, op, ty, pos, af, some (j, want)⟩) (v := undef) hi (Region.noSelect_spec hs) hQ (fun e => by rw [e, Nat.beq_refl] at h2; cases h2) fuel listed a w (Nat.eq_of_beq_eq_true h4) (Region.free_spec hi hf) (by simpa using hr)
    (.inr ⟨by simpa using unwanted (dst := some d) (op := op) (ty := ty) (pos := pos) (af := af) H hj ht hn, rfl⟩) (fun _ => ChgF.refl _ _ _) (h _ (H.put d undef hd))
theorem k_noU (i : Nat) (H : Has a n l) (hi : ops[i]? = some ⟨some d, op, ty, pos, af, some (j, want)⟩) (hj : (ops[j]?).bind (·.dst) = some t) (ht : lk l t = some undef) (hd : Nat.blt d n = true) (hs : Region.noSelect ops = true) (hf : Region.free .any ops listed i = true)
    (hr : (Region.ready .any ops listed).contains i = true) (hb : (!(Nat.beq i k0) && (Nat.beq listed.size ops.size)) = true) (hQ : ∀ c a w, Q (.panic c) (a.put (some d) undef) w → Q (.panic c) a w)
    (h : ∀ a', Has a' n ((d, some undef) :: l) → wpK P ops Q k0 (ChgF B h0 w) fuel (listed.setIfInBounds i true) a' w) : wpK P ops Q k0 (ChgF B h0 w) (fuel + 1) listed a w := by
  simp only [Bool.and_eq_true, Bool.not_eq_true'] at hb
  obtain ⟨h2, h4⟩ := hb
  exact wpK_firstT (oi := ⟨some d, op, ty, pos, af, some (j, want)⟩) (v := undef) hi (Region.noSelect_spec hs) hQ (fun e => by rw [e, Nat.beq_refl] at h2; cases h2) fuel listed a w (Nat.eq_of_beq_eq_true h4) (Region.free_spec hi hf) (by simpa using hr)
    (.inr ⟨by simpa using unwantedU (dst := some d) (op := op) (ty := ty) (pos := pos) (af := af) (want := want) H hj ht, rfl⟩) (fun _ => ChgF.refl _ _ _) (h _ (H.put d undef hd))
theorem k_qg (i : Nat) (H : Has a n l) (hi : ops[i]? = some ⟨some d, op, ty, pos, af, some (j, want)⟩) (hj : (ops[j]?).bind (·.dst) = some t) (ht : lk l t = some (.bool want)) (q : Q1 P (lo l) op (Ext w) v) (hd : Nat.blt d n = true) (hr : Region.ready .any ops listed = [i])
    (h : ∀ a', Has a' n ((d, some v) :: l) → wpK P ops Q k0 (ChgF B h0 w) fuel (listed.setIfInBounds i true) a' w) : wpK P ops Q k0 (ChgF B h0 w) (fuel + 1) listed a w := by
  refine kg_one i hi (wanted_known H hj ht) hr ?_
  unfold Oper.wp
  rw [q a.eval H.eval w Ext.rfl' (some d) ty pos af _]
  exact ⟨.inl (ChgF.refl _ _ _), h _ (H.put d v hd)⟩
end
end Go.Proofs.YtnhjohcgnmogaaaDoor
