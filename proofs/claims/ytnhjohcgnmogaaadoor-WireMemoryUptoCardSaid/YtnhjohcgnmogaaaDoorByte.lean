/- Bytes: lists of them, their cells, numbers in bytes. No program is named here. -/
import Derived.Test.YtnhjohcgnmogaaaDoorErr
import Derived.Lib.SlBytesConst
set_option linter.unusedVariables false
set_option linter.unusedSimpArgs false
set_option linter.unusedSectionVars false
namespace Go.Proofs.YtnhjohcgnmogaaaDoor
open Go Go.RowKit

theorem eB_one (x : UInt8) : ∀ u ∈ eB x, u.oneCell' = true := by simp [eB]
theorem eB_len (x : UInt8) : (eB x).length = 1 := rfl
theorem eB_flen (xs : List UInt8) : (xs.flatMap eB).length = xs.length := by
  induction xs with
  | nil => rfl
  | cons x xs ih => simp [List.flatMap_cons, eB, ih]
theorem eB_map (xs : List UInt8) : xs.flatMap eB = xs.map fun b => Value.int .u8 (b.toNat : Int) := by
  induction xs with
  | nil => rfl
  | cons x xs ih => simp [List.flatMap_cons, eB, ih]
/-- byte(z). -/
def byteOf (z : Int) : UInt8 := UInt8.ofNat (z % 256).toNat
theorem wrap8 (z : Int) : IntKind.u8.wrap z = ((byteOf z).toNat : Int) := by
  have h : IntKind.u8.wrap z = z % 256 := by simp [IntKind.wrap, IntKind.bits, IntKind.signed]
  rw [h, byteOf, UInt8.toNat_ofNat']
  omega
theorem byteOf_toNat (z : Int) : ((byteOf z).toNat : Int) = z % 256 := by
  rw [byteOf, UInt8.toNat_ofNat']; omega
theorem byteOf_self (b : UInt8) : byteOf (b.toNat : Int) = b := by
  apply UInt8.toNat_inj.1
  have h := b.toNat_lt
  have := byteOf_toNat (b.toNat : Int)
  omega
theorem eB_wrap (z : Int) : eB (byteOf z) = [.int .u8 (IntKind.u8.wrap z)] := by rw [wrap8]; rfl
theorem eB_lit {z : Int} (h0 : 0 ≤ z) (h1 : z < 256) : eB (byteOf z) = [.int .u8 z] := by
  have := byteOf_toNat z
  simp only [eB]
  congr 2
  omega
/-- The first bytes of a number, the highest first. -/
def beDown (n : Int) : Nat → List UInt8
  | 0 => []
  | k + 1 => byteOf (n.fdiv (2 ^ (8 * k))) :: beDown n k
theorem beDown_len (n : Int) : ∀ k, (beDown n k).length = k
  | 0 => rfl
  | k + 1 => by simp [beDown, beDown_len n k]
theorem ldByte {P : Program} {w : World} {ad : Addr} {n c : Nat} {xs : List UInt8} {T : TypeId} (h : SlR w 1 (Flat eB) (.slice (some ad) n c) xs) (ht : aggB P T = some false) {i : Nat} {x : UInt8} (hx : xs[i]? = some x) :
    LdX P T w (ad.add (i * 1)) (.int .u8 (x.toNat : Int)) := h.ldOne ht hx rfl
section
variable {w : World} {b T : Nat}
theorem Blk.src1 {z : Int} (h : Blk w b [.int .u8 (IntKind.u8.wrap z)] T) : Src w 1 (.slice (some ⟨b, 0, none⟩) 1 1) [byteOf z].length ([byteOf z].flatMap eB) := by
  have e : [byteOf z].flatMap eB = [.int .u8 (IntKind.u8.wrap z)] := by simp [eB_wrap]
  rw [e]
  exact (Own.ofBlk (n := 1) (k := 1) h rfl (by simp [maxLen])).src
theorem Blk.src1l {z : Int} (h : Blk w b [.int .u8 z] T) (h0 : 0 ≤ z) (h1 : z < 256) : Src w 1 (.slice (some ⟨b, 0, none⟩) 1 1) [byteOf z].length ([byteOf z].flatMap eB) := by
  have e : [byteOf z].flatMap eB = [.int .u8 z] := by simp [eB_lit h0 h1]
  rw [e]
  exact (Own.ofBlk (n := 1) (k := 1) h rfl (by simp [maxLen])).src
theorem Own.srcB {E n : Nat} {v : Value} {xs : List UInt8} (h : Own w E 1 v n (xs.flatMap eB)) (hn : n = xs.length) : Src w 1 v xs.length (xs.flatMap eB) := hn ▸ h.src
theorem SlR.srcB {v : Value} {xs : List UInt8} (h : SlR w 1 (Flat eB) v xs) : Src w 1 v xs.length (xs.flatMap eB) := h.src (fun _ _ => rfl)
theorem SlR.srcB' {A : Option Addr} {n c : Nat} {xs : List UInt8} (h : SlR w 1 (Flat eB) (.slice A n c) xs) : Src w 1 (.slice A n c) xs.length (xs.flatMap eB) := h.src (fun _ _ => rfl)
theorem Own.slB {E n : Nat} {v : Value} {xs : List UInt8} (h : Own w E 1 v n (xs.flatMap eB)) (hn : n = xs.length) : SlR w 1 (Flat eB) v xs := h.slr hn (fun _ _ => rfl)
end
/-- A number out of its bytes, the highest first. -/
def beNat (l : List UInt8) : Int := l.foldl (fun n b => n * 256 + (b.toNat : Int)) 0
theorem beNat_snoc (l : List UInt8) (b : UInt8) : beNat (l ++ [b]) = beNat l * 256 + (b.toNat : Int) := by simp [beNat]
theorem beNat_lt : ∀ (n : Nat) (l : List UInt8), l.length = n → 0 ≤ beNat l ∧ beNat l < 256 ^ n := by
  intro n
  induction n with
  | zero => intro l h; rw [List.eq_nil_of_length_eq_zero h]; simp [beNat]
  | succ n ih =>
    intro l h
    obtain ⟨l', b, rfl⟩ : ∃ l' b, l = l' ++ [b] := ⟨l.dropLast, l.getLast (by intro e; rw [e] at h; simp at h), (List.dropLast_concat_getLast _).symm⟩
    have hl : l'.length = n := by simpa using h
    obtain ⟨h1, h2⟩ := ih l' hl
    rw [beNat_snoc, Int.pow_succ]
    have := b.toNat_lt
    omega
/-- 'n << 8 | x'. -/
theorem or8 {n x : Int} (h0 : 0 ≤ n) (h1 : n < 16777216) (x0 : 0 ≤ x) (x1 : x < 256) {z : Nat} (hz : min z IntKind.i64.bits = 8) :
    IntKind.i64.wrap ((BitVec.ofInt IntKind.i64.bits (IntKind.i64.wrap (n * 2 ^ (min z IntKind.i64.bits))) ||| BitVec.ofInt IntKind.i64.bits x).toNat : Int) = n * 256 + x := by
  have w1 : IntKind.i64.wrap (n * 256) = n * 256 := wrap64_eq ⟨by omega, by omega⟩
  have w2 : IntKind.i64.wrap (n * 256 + x) = n * 256 + x := wrap64_eq ⟨by omega, by omega⟩
  have hb : IntKind.i64.bits = 64 := rfl
  rw [hz, show (2 : Int) ^ 8 = 256 from rfl, w1, hb]
  have e1 : BitVec.ofInt 64 (n * 256) = BitVec.ofNat 64 (2 ^ 8 * n.toNat) := by
    rw [show n * 256 = ((2 ^ 8 * n.toNat : Nat) : Int) from by omega, BitVec.ofInt_natCast]
  have e2 : BitVec.ofInt 64 x = BitVec.ofNat 64 x.toNat := by
    rw [show x = ((x.toNat : Nat) : Int) from by omega, BitVec.ofInt_natCast, Int.toNat_natCast]
  have e3 : (BitVec.ofNat 64 (2 ^ 8 * n.toNat) ||| BitVec.ofNat 64 x.toNat).toNat = 2 ^ 8 * n.toNat + x.toNat := by
    rw [BitVec.toNat_or, BitVec.toNat_ofNat, BitVec.toNat_ofNat, Nat.mod_eq_of_lt (by omega), Nat.mod_eq_of_lt (by omega), ← Nat.two_pow_add_eq_or_of_lt (by omega)]
  rw [e1, e2, e3, show (((2 ^ 8 * n.toNat + x.toNat : Nat)) : Int) = n * 256 + x from by omega, w2]
theorem SlR.take {α : Type} {w : World} {k : Nat} {R : World → List Value → α → Prop} {A : Option Addr} {n c : Nat} {xs : List α} (h : SlR w k R (.slice A n c) xs) (m : Nat) (hm : m ≤ n) : SlR w k R (.slice A m c) (xs.take m) := by
  obtain ⟨A', c', h1, h2, h3, h4, h5⟩ := h
  cases h1
  have hl : (xs.take m).length = m := by simp; omega
  refine ⟨A, c, by rw [hl], by omega, h3, fun ha => ⟨by rw [(h4 ha).1]; simp, (h4 ha).2⟩, fun ad ha i x hx => ?_⟩
  rw [List.getElem?_take] at hx
  split at hx
  · exact h5 ad ha i x hx
  · cases hx
/-- xs[lo:hi]: a value, and what it reads as. -/
theorem sub_sl {α : Type} (k : Nat) (R : World → List Value → α → Prop) (A : Option Addr) (n c : Nat) (xs : List α) {lo hi : Int} (h0 : 0 ≤ lo) (h1 : lo ≤ hi) (h2 : hi ≤ n) :
    ∃ A' c', Value.slice (if c = lo.toNat then A else A.map (·.add (lo.toNat * k))) (hi.toNat - lo.toNat) (c - lo.toNat) = .slice A' (hi.toNat - lo.toNat) c' ∧
      ∀ w, SlR w k R (.slice A n c) xs → SlR w k R (.slice A' (hi.toNat - lo.toNat) c') ((xs.drop lo.toNat).take (hi.toNat - lo.toNat)) :=
  ⟨_, _, rfl, fun w h => (h.drop lo.toNat (by omega)).take _ (by omega)⟩
/-- A load in a drawn region that writes nothing old. -/
theorem LdX.k0 {P : Program} {t : TypeId} {w : World} {ad : Addr} {v : Value} (h : LdX P t w ad v) : LdC P t (ChgF [] w.heap.size w) ad v :=
  fun w' hw' => h w' ⟨hw'.os, hw'.tape, hw'.output, hw'.size, fun k hk => hw'.block k hk hk (by simp)⟩
theorem LdC.k0 {P : Program} {t : TypeId} {w : World} {ad : Addr} {v : Value} (h : LdC P t (Ext w) ad v) : LdC P t (ChgF [] w.heap.size w) ad v := LdX.k0 h
/-- What a resource of the rest says behind a call. -/
theorem restBlk {w : World} {b T : Nat} {cs : List Value} (h : ∃ f, (blkR b cs T).P w f) : Blk w b cs T := by obtain ⟨f, h, _⟩ := h; exact h
theorem restOwn {w : World} {E k n : Nat} {v : Value} {xs : List Value} (h : ∃ f, (ownR E k v n xs).P w f) : Own w E k v n xs := by obtain ⟨f, h, _⟩ := h; exact h
theorem restAny {w : World} {F : World → Prop} (h : ∃ f, (anyR F).P w f) : F w := by obtain ⟨f, h⟩ := h; exact Foot.now h

section
variable {P : Program} {ops : Array Oper} {Q : Exit → Act → World → Prop} {rest : List Oper} {a : Act} {n : Nat} {l : List (Nat × Option Value)} {w : World}
  {ty : TypeId} {pos : String} {af : Array Edge} {d : Nat}
/-- A store of one cell into an owned slice. -/
theorem n_storeE1 {x y : Operand} {t E k b cap o : Nat} {u : Value} {m : Nat} {xs : List Value} (H : Has a n l) (ex : lo l x = some (.pointer (some ⟨b, o, none⟩))) (ey : lo l y = some u) (hs : sizeB P t = some 1) (h1 : u.oneCell' = true)
    (hO : Own w E k (.slice (some ⟨b, 0, none⟩) m cap) m xs) (ho : o < m * k)
    (h : ∀ w', Own w' E k (.slice (some ⟨b, 0, none⟩) m cap) m (xs.set o u) → Chg [b] w w' → ∀ a', Has a' n l → wpList P ops Q rest a' w') :
    wpList P ops Q (⟨none, .store t x y, ty, pos, af, none⟩ :: rest) a w := by
  obtain ⟨cs, hb, h2, h3, h4, h5, h6⟩ := hO.blk
  have hc : m * k ≤ cap * k := Nat.mul_le_mul_right k h2
  refine n_store1 H ex ey hs hb (by omega) h1 fun w' hB hC hz a' H' => h w' ?_ hC a' H'
  refine Own.ofBlk' hB h2 h3 (by simpa using h4) ?_ (by simpa using h5)
  rw [List.take_set, h6]
/-- []byte("..") of a constant: a literal's row, and its mark. -/
theorem n_bytesConst {T E k len d1 d2 : Nat} {ps : List (Nat × Operand)} {vs : List (Nat × Value)} {zs cs : List Value} {ty2 : TypeId} {pos2 : String} {af2 : Array Edge} (H : Has a n l) (ht : P.underlying T = some (.slice E)) (he : P.underlying E = some (.int .u8)) (hk : sizeB P E = some k) (hz : zeroB P E = some zs) (hle : Nat.ble (len * k) 16777216 = true)
    (hzl : zs.length = k) (e : loP (lo l) ps = some vs) (hf : Instr.fill (fun i => some (i * k, k)) ((List.replicate len zs).flatten).toArray vs = some cs.toArray) (hd1 : Nat.blt d1 n = true) (hd2 : Nat.blt d2 n = true)
    (h : ∀ b w', Blk w' b cs E → Ext w w' → w.heap.size = b → ∀ a', Has a' n ((d2, some (.slice (some ⟨b, 0, none⟩) len len)) :: (d1, some (.slice (some ⟨b, 0, none⟩) len len)) :: l) → wpList P ops Q rest a' w') :
    wpList P ops Q (⟨some d1, .buildSlice T len ps.toArray, ty, pos, af, none⟩ :: ⟨some d2, .convert T T (.tmp d1), ty2, pos2, af2, none⟩ :: rest) a w := by
  refine n_run (w' := w.alloc (.cells cs.toArray E)) H (fun ρ hρ => run_bs ht hk hz hle hzl e hf ρ hρ) hd1 fun a1 H1 => ?_
  have hc := Lib.run_convert_bytes_const (P := P) w T E cs.toArray len len ht he
  refine n_run (v := .slice (some ⟨w.heap.size, 0, none⟩) len len) (w' := w.alloc (.cells cs.toArray E (cs.toArray.size, cs.toArray.size + 1))) H1 (fun ρ hρ => ?_) hd2 fun a2 H2 => ?_
  · have := hρ (.tmp d1) (.slice (some ⟨w.heap.size, 0, none⟩) len len) (by simp [lo, lk])
    simp [execOp, this, hc]
  · refine h w.heap.size _ ⟨(cs.toArray.size, cs.toArray.size + 1), heap_alloc_new w _, fun j hj hle => ?_⟩ (Ext.alloc' _ _) rfl a2 H2
    simp at hle
    omega
theorem run_make {T E k bytes : Nat} {z : List Value} {q1 q2 : IntKind} {L C : Nat} (ht : P.underlying T = some (.slice E)) (hE : ElemOk P E k bytes z) (hLC : L ≤ C) (hb : C * bytes ≤ 140737488355328) (hm : C ≤ maxLen) (w : World) :
    (Instr.makeSlice T (.int q1 L) (.int q2 C)).run P w = .ok (.slice (some ⟨w.heap.size, 0, none⟩) L C) (w.alloc (.cells ((List.replicate C z).flatten).toArray E)) := by
  obtain ⟨hsz, hz0, hby, hzl, hk⟩ := hE
  obtain ⟨i, hi, hi1⟩ : ∃ i, P.info? E = some i ∧ i.size = k := by
    unfold sizeB at hsz
    cases hq : P.info? E with
    | none => simp [hq] at hsz
    | some i => exact ⟨i, rfl, by simpa [hq] using hsz⟩
  have hby' : i.bytes = bytes := by simpa [hi] using hby
  obtain ⟨zv, hzv, hzc⟩ := run_zero hz0 w
  have e1 : IntKind.i64.wrap (C : Int) = C := wrap64_eq (by simp only [maxLen] at hm; constructor <;> omega)
  have e2 : IntKind.i64.wrap (L : Int) = L := wrap64_eq (by simp only [maxLen] at hm; constructor <;> omega)
  have e3 : ¬ ((C : Int) < 0) := by omega
  have e4 : ¬ ((L : Int) < 0) := by omega
  have e5 : ¬ ((C : Int) < (L : Int)) := by omega
  have e6 : ¬ ((281474976710656 : Int) < (bytes : Int) * (C : Int)) := by
    have : bytes * C ≤ 140737488355328 := by rw [Nat.mul_comm]; exact hb
    have h2 : ((bytes * C : Nat) : Int) = (bytes : Int) * (C : Int) := by simp
    omega
  have hr : ∀ n w', (askRoom n).run P w' = .ok () w' := fun n w' => by unfold askRoom; split <;> simp [mark, Sem.run]
  have hzz := zeros_eq hzl C
  have ha : ∀ (q : IntKind) (z : Int), (asInt (.int q z)).run P w = .ok z w := fun q z => by simp [asInt, asIntOf]
  have hti : (typeInfo E).run P w = .ok i w := by simp [typeInfo, hi]
  unfold Instr.makeSlice
  simp only [Sem.run_bind, run_underlying ht, Result.andThen_ok, ha, hti, Sem.run_pure, hby', e1, e2]
  rw [if_neg (by simp [e3, e4, e5]; omega)]
  simp only [Sem.run_bind, hr, Result.andThen_ok, run_sizeOf hsz, Sem.run_pure, Int.toNat_natCast]
  by_cases h0 : C * k = 0
  · have hC : C = 0 := by
      rcases Nat.mul_eq_zero.1 h0 with h | h
      · exact h
      · omega
    subst hC
    simp [newRow]
    rw [show Array.range 0 = (#[] : Array Nat) from by simp [Array.range]]
    simp
  · rw [if_neg h0]
    simp only [Sem.run_bind, hzv, Result.andThen_ok, Sem.run_pure, hzc]
    rw [hzz]
    simp [newRow]
/-- make([]T, n) and make([]T, 0, n). -/
theorem n_make {x y : Operand} {T E k bytes : Nat} {z : List Value} {q1 q2 : IntKind} {L C : Nat} (H : Has a n l) (ht : P.underlying T = some (.slice E)) (hE : ElemOk P E k bytes z) (ex : lo l x = some (.int q1 L)) (ey : lo l y = some (.int q2 C)) (hLC : L ≤ C)
    (hb : C * bytes ≤ 140737488355328) (hm : C ≤ maxLen) (hd : Nat.blt d n = true)
    (h : ∀ b w', Own w' E k (.slice (some ⟨b, 0, none⟩) L C) L ((List.replicate L z).flatten) → Ext w w' → w.heap.size = b → ∀ a', Has a' n ((d, some (.slice (some ⟨b, 0, none⟩) L C)) :: l) → wpList P ops Q rest a' w') :
    wpList P ops Q (⟨some d, .makeSlice T x y, ty, pos, af, none⟩ :: rest) a w := by
  have hz := hE.zlen
  refine n_run (w' := w.alloc (.cells ((List.replicate C z).flatten).toArray E)) H (fun ρ hρ => by simp [execOp, hρ x _ ex, hρ y _ ey, run_make ht hE hLC hb hm w]) hd (h w.heap.size _ ?_ (Ext.alloc' _ _) rfl)
  refine .inr ⟨w.heap.size, C, (List.replicate C z).flatten, rfl, Blk.new w _ E, hLC, hm, rep_len hz C, rep_len hz L, ?_⟩
  have e : C = L + (C - L) := by omega
  rw [e, ← List.replicate_append_replicate, List.flatten_append, List.take_append_of_le_length (by rw [rep_len hz]; exact Nat.le_refl _), List.take_of_length_le (by rw [rep_len hz]; exact Nat.le_refl _)]
end
section
variable {P : Program} {ops : Array Oper} {Q : Exit → Act → World → Prop} {a : Act} {n : Nat} {l : List (Nat × Option Value)} {w : World} {B : List Nat} {k0 h0 : Nat}
  {ty : TypeId} {pos : String} {af : Array Edge} {d fuel : Nat} {listed : Array Bool}
theorem own_make {T E k bytes : Nat} {z : List Value} {q1 q2 : IntKind} {L C : Nat} (hE : ElemOk P E k bytes z) (hLC : L ≤ C) (hm : C ≤ maxLen) (w : World) : Own (w.alloc (.cells ((List.replicate C z).flatten).toArray E)) E k (.slice (some ⟨w.heap.size, 0, none⟩) L C) L ((List.replicate L z).flatten) := by
  have hz := hE.zlen
  refine .inr ⟨w.heap.size, C, (List.replicate C z).flatten, rfl, Blk.new w _ E, hLC, hm, rep_len hz C, rep_len hz L, ?_⟩
  have e : C = L + (C - L) := by omega
  rw [e, ← List.replicate_append_replicate, List.flatten_append, List.take_append_of_le_length (by rw [rep_len hz]; exact Nat.le_refl _), List.take_of_length_le (by rw [rep_len hz]; exact Nat.le_refl _)]
theorem k_make (i : Nat) {x y : Operand} {T E k bytes : Nat} {z : List Value} {q1 q2 : IntKind} {L C : Nat} (H : Has a n l) (hi : ops[i]? = some ⟨some d, .makeSlice T x y, ty, pos, af, none⟩) (ht : P.underlying T = some (.slice E)) (hE : ElemOk P E k bytes z) (ex : lo l x = some (.int q1 L)) (ey : lo l y = some (.int q2 C)) (hLC : L ≤ C)
    (hb : C * bytes ≤ 140737488355328) (hm : C ≤ maxLen) (hd : Nat.blt d n = true) (hr : Region.ready .any ops listed = [i])
    (h : ∀ b w', Own w' E k (.slice (some ⟨b, 0, none⟩) L C) L ((List.replicate L z).flatten) → Ext w w' → w.heap.size = b → ∀ a', Has a' n ((d, some (.slice (some ⟨b, 0, none⟩) L C)) :: l) → wpK P ops Q k0 (ChgF B h0 w') fuel (listed.setIfInBounds i true) a' w') : wpK P ops Q k0 (ChgF B h0 w) (fuel + 1) listed a w :=
  k_run i (w' := w.alloc (.cells ((List.replicate C z).flatten).toArray E)) H hi (fun ρ hρ => by simp [execOp, hρ x _ ex, hρ y _ ey, run_make ht hE hLC hb hm w]) hd hr (.inl (ChgF.of_ext (Ext.alloc' _ _))) (h w.heap.size _ (own_make (q1 := q1) (q2 := q2) (T := T) hE hLC hm w) (Ext.alloc' _ _) rfl)
theorem kk_make (i : Nat) {x y : Operand} {T E k bytes : Nat} {z : List Value} {q1 q2 : IntKind} {L C : Nat} (H : Has a n l) (hi : ops[i]? = some ⟨some d, .makeSlice T x y, ty, pos, af, none⟩) (ht : P.underlying T = some (.slice E)) (hE : ElemOk P E k bytes z) (ex : lo l x = some (.int q1 L)) (ey : lo l y = some (.int q2 C)) (hLC : L ≤ C)
    (hb : C * bytes ≤ 140737488355328) (hm : C ≤ maxLen) (hd : Nat.blt d n = true)
    (h : ∀ b w', Own w' E k (.slice (some ⟨b, 0, none⟩) L C) L ((List.replicate L z).flatten) → Ext w w' → w.heap.size = b → ∀ a', Has a' n ((d, some (.slice (some ⟨b, 0, none⟩) L C)) :: l) → wpK P ops Q k0 (ChgF B h0 w') fuel (listed.setIfInBounds i true) a' w') : wpKi P ops Q k0 (ChgF B h0 w) fuel listed i a w :=
  kk_run i (w' := w.alloc (.cells ((List.replicate C z).flatten).toArray E)) H hi (fun ρ hρ => by simp [execOp, hρ x _ ex, hρ y _ ey, run_make ht hE hLC hb hm w]) hd (.inl (ChgF.of_ext (Ext.alloc' _ _))) (h w.heap.size _ (own_make (q1 := q1) (q2 := q2) (T := T) hE hLC hm w) (Ext.alloc' _ _) rfl)
end
end Go.Proofs.YtnhjohcgnmogaaaDoor
