/- Plain laws (those that a smaller set of models bears). -/
import Derived.Test.YtnhjohcgnmogaaaDoorBtD
set_option linter.unusedVariables false
set_option linter.unusedSimpArgs false
set_option linter.unusedSectionVars false
namespace Go.Proofs.YtnhjohcgnmogaaaDoor
open Go Go.RowKit



/-! ### Loops -/
section
variable {α ε σ ρ : Type}
/-- The first that is found along a list. -/
def firstE (f : Nat → α → Option ε) : Nat → List α → Option ε
  | _, [] => none
  | k, x :: r => match f k x with
    | some e => some e
    | none => firstE f (k + 1) r
theorem firstE_congr {f g : Nat → α → Option ε} : ∀ (l : List α) (k : Nat), (∀ i x, l[i]? = some x → f (k + i) x = g (k + i) x) → firstE f k l = firstE g k l
  | [], _, _ => rfl
  | x :: r, k, h => by
    have h0 : f k x = g k x := h 0 x rfl
    have h1 := firstE_congr r (k + 1) fun i y hy => (show k + (i + 1) = k + 1 + i by omega) ▸ h (i + 1) y (by simpa using hy)
    rw [firstE, firstE, h0, h1]
theorem firstE_map {ε' : Type} {f : Nat → α → Option ε} {g : Nat → α → Option ε'} {m : ε → ε'} : ∀ (l : List α) (k : Nat), (∀ i x, l[i]? = some x → g (k + i) x = (f (k + i) x).map m) → firstE g k l = (firstE f k l).map m
  | [], _, _ => rfl
  | x :: r, k, h => by
    have h0 : g k x = (f k x).map m := h 0 x rfl
    have h1 := firstE_map (m := m) r (k + 1) fun i y hy => (show k + (i + 1) = k + 1 + i by omega) ▸ h (i + 1) y (by simpa using hy)
    rw [firstE, firstE, h0, h1]
    cases f k x <;> rfl
/-- What an end of a loop that seeks comes to. -/
def fin (o : Option ε) : Unit ⊕ ε := match o with
  | none => .inl ()
  | some e => .inr e
/-- .. of a round. -/
def nxt (s : σ) (o : Option ε) : σ ⊕ (Unit ⊕ ε) := match o with
  | none => .inl s
  | some e => .inr (.inr e)
theorem nxt_some (s : σ) (e : ε) : nxt s (some e) = .inr (.inr e) := rfl
theorem nxt_none (s : σ) : nxt s (none : Option ε) = .inl s := rfl
theorem nxt_ite (s : σ) (c : Prop) [Decidable c] (a b : Option ε) : nxt s (if c then a else b) = if c then nxt s a else nxt s b := by split <;> rfl
/-- A loop over a list that stops at the first that is found; the state beside the index depends on the index alone. -/
theorem iter_listS {L : σ × Nat → Option ((σ × Nat) ⊕ (Unit ⊕ ε))} {l : List α} {st : Nat → σ} {f : Nat → α → Option ε}
    (h : ∀ i x, i < l.length → l[i]? = some x → L (st i, i) = some (nxt (st (i + 1), i + 1) (f i x))) (h2 : L (st l.length, l.length) = some (.inr (.inl ()))) :
    iter L (st 0, 0) = some (fin (firstE f 0 l)) := by
  have key : ∀ m k, k + m = l.length → iter L (st k, k) = some (fin (firstE f k (l.drop k))) := by
    intro m
    induction m with
    | zero =>
      intro k hk
      obtain rfl : k = l.length := by omega
      rw [iter_inr h2, List.drop_length]; rfl
    | succ m ih =>
      intro k hk
      have hlt : k < l.length := by omega
      have hx : l[k]? = some l[k] := List.getElem?_eq_getElem hlt
      have hd : l.drop k = l[k] :: l.drop (k + 1) := List.drop_eq_getElem_cons hlt
      have hs := h k _ hlt hx
      rw [hd]
      cases hf : f k l[k] with
      | none => rw [hf] at hs; rw [iter_inl hs, ih (k + 1) (by omega), firstE, hf]
      | some e => rw [hf] at hs; rw [iter_inr hs, firstE, hf]; rfl
  simpa using key l.length 0 (by omega)
theorem iter_list {L : Nat → Option (Nat ⊕ (Unit ⊕ ε))} {l : List α} {f : Nat → α → Option ε}
    (h : ∀ i x, i < l.length → l[i]? = some x → L i = some (nxt (i + 1) (f i x))) (h2 : L l.length = some (.inr (.inl ()))) :
    iter L 0 = some (fin (firstE f 0 l)) := by
  have key : ∀ m k, k + m = l.length → iter L k = some (fin (firstE f k (l.drop k))) := by
    intro m
    induction m with
    | zero =>
      intro k hk
      obtain rfl : k = l.length := by omega
      rw [iter_inr h2, List.drop_length]; rfl
    | succ m ih =>
      intro k hk
      have hlt : k < l.length := by omega
      have hx : l[k]? = some l[k] := List.getElem?_eq_getElem hlt
      have hd : l.drop k = l[k] :: l.drop (k + 1) := List.drop_eq_getElem_cons hlt
      have hs := h k _ hlt hx
      rw [hd]
      cases hf : f k l[k] with
      | none => rw [hf] at hs; rw [iter_inl hs, ih (k + 1) (by omega), firstE, hf]
      | some e => rw [hf] at hs; rw [iter_inr hs, firstE, hf]; rfl
  simpa using key l.length 0 (by omega)
/-- A loop over a list that takes all of it. -/
theorem iter_fold {L : σ × Nat → Option ((σ × Nat) ⊕ σ)} {l : List α} {g : σ → α → σ} {I : σ → Nat → Prop} {z : σ} (h0 : I z 0)
    (h : ∀ i x z, i < l.length → l[i]? = some x → I z i → L (z, i) = some (.inl (g z x, i + 1)) ∧ I (g z x) (i + 1)) (h2 : ∀ z, I z l.length → L (z, l.length) = some (.inr z)) :
    iter L (z, 0) = some (l.foldl g z) ∧ I (l.foldl g z) l.length := by
  have key : ∀ m k z, k + m = l.length → I z k → iter L (z, k) = some ((l.drop k).foldl g z) ∧ I ((l.drop k).foldl g z) l.length := by
    intro m
    induction m with
    | zero =>
      intro k z hk hI
      obtain rfl : k = l.length := by omega
      rw [iter_inr (h2 z hI), List.drop_length]; exact ⟨rfl, hI⟩
    | succ m ih =>
      intro k z hk hI
      have hlt : k < l.length := by omega
      have hx : l[k]? = some l[k] := List.getElem?_eq_getElem hlt
      have hd : l.drop k = l[k] :: l.drop (k + 1) := List.drop_eq_getElem_cons hlt
      have hs := h k _ z hlt hx hI
      rw [hd, iter_inl hs.1, List.foldl_cons]
      exact ih (k + 1) _ (by omega) hs.2
  simpa using key l.length 0 z (by omega) h0
end
/-! ### Codes -/
theorem cRange : (ErrM.v gRange).code = 4 := by decide
theorem cLength : (ErrM.v gLength).code = 5 := by decide
theorem cKind : (ErrM.v gKind).code = 7 := by decide
theorem cPlan : (ErrM.v gPlan).code = 8 := by decide
theorem cSize : (ErrM.v gSize).code = 11 := by decide
theorem cArg : (ErrM.v gArg).code = 12 := by decide
theorem cBusy : (ErrM.v gBusy).code = 14 := by decide
theorem cNone : (ErrM.v gNone).code = 17 := by decide
theorem cNil : ErrM.nil.code = 0 := rfl
theorem cPl (p : Int) (g : Nat) : (ErrM.pl p g).code = (ErrM.v g).code := rfl
theorem pPl (p : Int) (g : Nat) : (ErrM.pl p g).place = p := rfl
theorem pV (g : Nat) : (ErrM.v g).place = -1 := rfl
theorem pNil : ErrM.nil.place = -1 := rfl
theorem code_zero {e : ErrM} : e.code = 0 ↔ e = .nil := by
  cases e with
  | nil => simp [cNil]
  | v g => simp only [ErrM.code, ErrM.g?, codeG]; constructor <;> intro h <;> first | omega | cases h
  | pl p g => simp only [ErrM.code, ErrM.g?, codeG]; constructor <;> intro h <;> first | omega | cases h
/-! ### Ports -/
/-! ### The rules of a plan -/
def orN (o : Option ErrM) : ErrM := o.getD .nil
def sSem (i : Nat) (x : Int) : Option ErrM := if x < 0 ∨ 255 < x then some (.pl i gRange) else none
def orE (a b : ErrM) : ErrM := if a = .nil then b else a
theorem orE_nil (a : ErrM) : orE a .nil = a := by unfold orE; split <;> simp_all
/-! ### The document's -/


/-! ### The writer -/
/-- A writer that is not spoilt, with so much put. -/
abbrev wr (b : List UInt8) : GWireWriter := ⟨b, .nil⟩
theorem put_wr (a b : List UInt8) (h : a.length + b.length ≤ 100000000) : g_wire_Writer_put (wr a) b = some (wr (a ++ b)) := by
  have hc : (a.length + b.length) * 1 ≤ 140737488355328 := by omega
  simp only [g_wire_Writer_put, decide_true, cond_true, chk, hc, if_true]
/-- A number's bytes, the highest first. -/
def be (n : Int) : Nat → List UInt8
  | 0 => []
  | k + 1 => byteOf (shR .i64 n (((8 * k : Nat) : Int))) :: be n k
theorem be_len (n : Int) : ∀ k, (be n k).length = k
  | 0 => rfl
  | k + 1 => by rw [be, List.length_cons, be_len n k]
theorem num_loop (n : Int) : ∀ (k : Nat) (a : List UInt8), k ≤ 4 → a.length + k ≤ 1000000 → iter (g_wire_Writer_num_L2 n) (((k : Nat) : Int) - 1, a, .nil) = some (a ++ be n k, .nil)
  | 0, a, _, _ => by
    have h : ¬ (0 : Int) ≤ ((0 : Nat) : Int) - 1 := by omega
    rw [be, List.append_nil]
    exact iter_inr (by simp only [g_wire_Writer_num_L2, h, decide_false, cond_false])
  | k + 1, a, hk, ha => by
    have e0 : ((k + 1 : Nat) : Int) - 1 = (k : Int) := by omega
    have e1 : (0 : Int) ≤ (k : Int) := by omega
    have e2 : IntKind.i64.wrap (8 * (k : Int)) = ((8 * k : Nat) : Int) := by rw [wrap64_eq ⟨by omega, by omega⟩]; omega
    have e3 : (0 : Int) ≤ ((8 * k : Nat) : Int) := by omega
    have e4 : IntKind.i64.wrap ((k : Int) - 1) = (k : Int) - 1 := wrap64_eq ⟨by omega, by omega⟩
    have hp := put_wr a [byteOf (shR .i64 n ((8 * k : Nat) : Int))] (by simp; omega)
    have hs : g_wire_Writer_num_L2 n ((k : Int), a, .nil) = some (.inl ((k : Int) - 1, a ++ [byteOf (shR .i64 n ((8 * k : Nat) : Int))], .nil)) := by
      simp only [g_wire_Writer_num_L2, e1, e2, e3, e4, hp, decide_true, cond_true, chk, if_true, Option.bind_some]
    rw [e0, iter_inl hs, num_loop n k _ (by omega) (by simp; omega), be, List.append_assoc, List.singleton_append]
theorem most1 : g_wire_most 1 = some 255 := by
  have h : (0 : Int) ≤ IntKind.i64.wrap (8 * 1) := by decide
  simp only [g_wire_most, chk, h, if_true]; rfl
theorem most2 : g_wire_most 2 = some 65535 := by
  have h : (0 : Int) ≤ IntKind.i64.wrap (8 * 2) := by decide
  simp only [g_wire_most, chk, h, if_true]; rfl
theorem most4 : g_wire_most 4 = some 4294967295 := by
  have h : (0 : Int) ≤ IntKind.i64.wrap (8 * 4) := by decide
  simp only [g_wire_most, chk, h, if_true]; rfl
theorem num_wr {n m : Int} {k : Nat} (hm : g_wire_most (k : Int) = some m) (a : List UInt8) (hk : k ≤ 4) (ha : a.length ≤ 900000) (h0 : 0 ≤ n) (h1 : n ≤ m) : g_wire_Writer_num (wr a) n (k : Int) = some (wr (a ++ be n k)) := by
  have e1 : ¬ n < 0 := by omega
  have e2 : ¬ m < n := by omega
  have e3 : IntKind.i64.wrap ((k : Int) - 1) = (k : Int) - 1 := wrap64_eq ⟨by omega, by omega⟩
  simp only [g_wire_Writer_num, g_wire_Writer_num_J3, hm, e1, e2, e3, num_loop n k a hk (by omega), decide_false, cond_false, Option.bind_some]
/-! ### The check sum -/
def sStep (z : Int) : Int := if bitAnd .u32 z 1 = 1 then bitXor .u32 (shR .u32 z 1) 3988292384 else shR .u32 z 1
theorem crc_step (z : Int) : g_crc_step z = some (sStep z) := by
  unfold g_crc_step sStep
  by_cases h : bitAnd .u32 z 1 = 1 <;> simp [h]
def sTab (z : Int) : Int := sStep (sStep (sStep (sStep (sStep (sStep (sStep (sStep z)))))))
theorem crc_row (z : Int) : iter g_crc_table_L3 (z, 0) = some (sTab z) := by
  have hs : ∀ z (i : Nat), i < 8 → g_crc_table_L3 (z, i) = some (.inl (sStep z, i + 1)) := fun z i h => by
    simp only [g_crc_table_L3, h, crc_step, decide_true, cond_true, Option.bind_some]
  rw [iter_inl (hs _ 0 (by omega)), iter_inl (hs _ 1 (by omega)), iter_inl (hs _ 2 (by omega)), iter_inl (hs _ 3 (by omega)), iter_inl (hs _ 4 (by omega)), iter_inl (hs _ 5 (by omega)), iter_inl (hs _ 6 (by omega)), iter_inl (hs _ 7 (by omega))]
  exact iter_inr (by simp [g_crc_table_L3]; rfl)
def tabTo (k : Nat) : Vector Int 256 := Vector.ofFn fun j : Fin 256 => if j.val < k then sTab (IntKind.u32.wrap (j.val : Int)) else 0
theorem tabTo_get (k i : Nat) (h : i < 256) : (tabTo k)[i] = if i < k then sTab (IntKind.u32.wrap (i : Int)) else 0 := by simp [tabTo]
theorem crc_table : g_crc_table = some (tabTo 256) := by
  have key : ∀ (m k : Nat) (y : Vector Int 256), k + m = 256 → (∀ (j : Nat) (h : j < 256), j < k → y[j] = sTab (IntKind.u32.wrap (j : Int))) → iter g_crc_table_L4 (k, y) = some (tabTo 256) := by
    intro m
    induction m with
    | zero =>
      intro k y hk hy
      obtain rfl : k = 256 := by omega
      have e : y = tabTo 256 := by
        apply Vector.ext
        intro i hi
        rw [hy i hi hi, tabTo_get _ _ hi, if_pos hi]
      rw [e]
      exact iter_inr (by simp [g_crc_table_L4])
    | succ m ih =>
      intro k y hk hy
      have hlt : k < 256 := by omega
      have hr : rdV y (k : Int) = some y[k] := by rw [rdV_nat]; simp [hlt]
      have hs : g_crc_table_L4 (k, y) = some (.inl (k + 1, y.setIfInBounds k (sTab (IntKind.u32.wrap (k : Int))))) := by
        simp only [g_crc_table_L4, hlt, crc_row, hr, decide_true, cond_true, Option.bind_some, Int.toNat_natCast]
      rw [iter_inl hs]
      refine ih (k + 1) _ (by omega) fun j h hj => ?_
      rw [Vector.getElem_setIfInBounds h]
      by_cases e : k = j
      · subst e; simp
      · rw [if_neg e]; exact hy j h (by omega)
  unfold g_crc_table
  rw [key 256 0 _ rfl (fun j h hj => absurd hj (Nat.not_lt_zero _))]
  rfl
def sMove (z : Int) (c : UInt8) : Int := bitXor .u32 (sTab (IntKind.u32.wrap (bitXor .u8 (IntKind.u8.wrap z) (c.toNat : Int)))) (shR .u32 z 8)
theorem xor8 (a b : Int) : 0 ≤ bitXor .u8 a b ∧ bitXor .u8 a b < 256 := by
  unfold bitXor
  generalize ((BitVec.ofInt IntKind.u8.bits a ^^^ BitVec.ofInt IntKind.u8.bits b).toNat : Int) = z
  have h : IntKind.u8.wrap z = z % 256 := by simp [IntKind.wrap, IntKind.signed, IntKind.bits]
  rw [h]; omega
theorem crc_move (z : Int) (b : List UInt8) : g_crc_move z b = some (b.foldl sMove z) := by
  by_cases h : b.length = 0
  · have : b = [] := List.length_eq_zero_iff.1 h
    subst this
    simp [g_crc_move]
  have hL := iter_fold (L := g_crc_move_L1 b (tabTo 256)) (l := b) (g := sMove) (I := fun _ _ => True) (z := z) trivial (fun i x z hi hx _ => ⟨by
    obtain ⟨h0, h1⟩ := xor8 (IntKind.u8.wrap z) (x.toNat : Int)
    have hr : rdV (tabTo 256) (bitXor .u8 (IntKind.u8.wrap z) (x.toNat : Int)) = some (sTab (IntKind.u32.wrap (bitXor .u8 (IntKind.u8.wrap z) (x.toNat : Int)))) := by
      unfold rdV
      rw [if_pos h0]
      have hlt : (bitXor .u8 (IntKind.u8.wrap z) (x.toNat : Int)).toNat < 256 := by omega
      rw [Vector.getElem?_eq_getElem hlt, tabTo_get _ _ hlt, if_pos hlt, Int.toNat_of_nonneg h0]
    simp only [g_crc_move_L1, hi, hx, hr, decide_true, cond_true, Option.bind_some, sMove], trivial⟩) (fun z _ => by simp [g_crc_move_L1])
  simp only [g_crc_move, h, crc_table, hL.1, decide_false, cond_false, Option.bind_some]
def sSum (b : List UInt8) : Int := notK .u32 (b.foldl sMove (notK .u32 0))
theorem crc_Sum (b : List UInt8) : g_crc_Sum b = some (sSum b) := by
  simp only [g_crc_Sum, g_crc_More, crc_move, Option.bind_some, notK]; rfl



theorem take_oneK {α : Type} {l : List α} {i : Nat} {x : α} (h : l[i]? = some x) : l.take (i + 1) = l.take i ++ [x] := by rw [List.take_add_one, h]; rfl
section
variable {σ ρ α : Type}
theorem iter_ruleK {L : σ → Option (σ ⊕ ρ)} (I : σ → Prop) (Q : ρ → Prop) (μ : σ → Nat)
    (h : ∀ s, I s → (∃ s', L s = some (.inl s') ∧ I s' ∧ μ s' < μ s) ∨ (∃ r, L s = some (.inr r) ∧ Q r)) {s : σ} (h0 : I s) : ∃ r, iter L s = some r ∧ Q r := by
  have key : ∀ n s, μ s < n → I s → ∃ r, iter L s = some r ∧ Q r := by
    intro n
    induction n with
    | zero => intro s hs; omega
    | succ n ih =>
      intro s hs hI
      rcases h s hI with ⟨s', h1, h2, h3⟩ | ⟨r, h1, h2⟩
      · obtain ⟨r, h4, h5⟩ := ih s' (by omega) h2
        exact ⟨r, (iter_inl h1).trans h4, h5⟩
      · exact ⟨r, iter_inr h1, h2⟩
  exact key _ s (Nat.lt_succ_self _) h0
theorem orN_noneK {f : Nat → α → Option ErrM} (hf : ∀ i x, f i x ≠ some .nil) : ∀ {l : List α} {k : Nat}, orN (firstE f k l) = .nil → ∀ i x, l[i]? = some x → f (k + i) x = none
  | [], _, _, i, x, hx => by simp at hx
  | y :: r, k, h, i, x, hx => by
    cases hy : f k y with
    | some e =>
      simp only [firstE, hy, orN, Option.getD_some] at h
      subst h; exact absurd hy (hf k y)
    | none =>
      simp only [firstE, hy] at h
      cases i with
      | zero =>
        have : y = x := by simpa using hx
        subst this; exact hy
      | succ j =>
        have := orN_noneK hf h j x (by simpa using hx)
        rwa [show k + 1 + j = k + (j + 1) by omega] at this
end
theorem orE_nilK {a b : ErrM} (h : orE a b = .nil) : a = .nil ∧ b = .nil := by
  unfold orE at h
  by_cases c : a = .nil
  · rw [if_pos c] at h; exact ⟨c, h⟩
  · rw [if_neg c] at h; exact absurd h c
/-! ### What a plan boots -/
/-! ### The bytes of a plan -/
def flagB (b : Bool) : List UInt8 := if b = true then [byteOf 1] else [byteOf 0]
theorem done_wr (a : List UInt8) (ha : a.length ≤ 900000) : g_wire_Writer_Done (wr a) = some (a, .nil, wr a) := by
  have c : (([] : List UInt8).length + a.length) * 1 ≤ 140737488355328 := by simp; omega
  simp only [g_wire_Writer_Done, g_slices_Clone_byte, chk, c, if_true, Option.bind_some, decide_true, Bool.not_true, cond_false, List.nil_append]
def recB (t : Int) (b : List UInt8) : List UInt8 := be t 1 ++ (be (b.length : Int) 2 ++ b)
theorem recB_len (t : Int) (b : List UInt8) : (recB t b).length = 3 + b.length := by simp [recB, be_len]; omega
theorem record_wr {t : Int} (a b : List UInt8) (ha : a.length ≤ 500000) (h0 : 1 ≤ t) (h1 : t ≤ 255) (hb : b.length ≤ 65535) : g_wire_Writer_Record (wr a) t b = some (wr (a ++ recB t b)) := by
  have e1 : ¬ t < 1 := by omega
  have e2 : ¬ 255 < t := by omega
  have e3 : ¬ 65535 < b.length := by omega
  have n1 : g_wire_Writer_num (wr a) t 1 = some (wr (a ++ be t 1)) := num_wr (k := 1) most1 a (by omega) (by omega) (by omega) h1
  have n2 : g_wire_Writer_num (wr (a ++ be t 1)) (b.length : Int) 2 = some (wr (a ++ be t 1 ++ be (b.length : Int) 2)) := num_wr (k := 2) most2 _ (by omega) (by simp [be_len]; omega) (by omega) (by omega)
  have n3 := put_wr (a ++ be t 1 ++ be (b.length : Int) 2) b (by simp [be_len]; omega)
  simp only [g_wire_Writer_Record, g_wire_Writer_Record_J1, most1, e1, e2, e3, n1, n2, n3, decide_false, cond_false, Option.bind_some]
  simp only [recB, List.append_assoc]
theorem iter_app {α : Type} {L : Nat × List UInt8 × ErrM → Option ((Nat × List UInt8 × ErrM) ⊕ (List UInt8 × ErrM))} {l : List α} {f : α → List UInt8} (B M : Nat)
    (h : ∀ i x a, i < l.length → l[i]? = some x → a.length ≤ M → L (i, a, .nil) = some (.inl (i + 1, a ++ f x, .nil))) (h2 : ∀ a, L (l.length, a, .nil) = some (.inr (a, .nil)))
    (hB : ∀ x ∈ l, (f x).length ≤ B) (a : List UInt8) (ha : a.length + l.length * B ≤ M) : iter L (0, a, .nil) = some (a ++ l.flatMap f, .nil) := by
  have key : ∀ m k a, k + m = l.length → a.length + m * B ≤ M → iter L (k, a, .nil) = some (a ++ (l.drop k).flatMap f, .nil) := by
    intro m
    induction m with
    | zero =>
      intro k a hk _
      obtain rfl : k = l.length := by omega
      rw [iter_inr (h2 a), List.drop_length]; simp
    | succ m ih =>
      intro k a hk ha
      have hlt : k < l.length := by omega
      have hx : l[k]? = some l[k] := List.getElem?_eq_getElem hlt
      have hd : l.drop k = l[k] :: l.drop (k + 1) := List.drop_eq_getElem_cons hlt
      have hb := hB l[k] (List.getElem_mem hlt)
      rw [Nat.succ_mul] at ha
      rw [iter_inl (h k _ a hlt hx (by omega)), ih (k + 1) _ (by omega) (by rw [List.length_append]; omega), hd, List.flatMap_cons, List.append_assoc]
  simpa using key l.length 0 a (by omega) ha
def semB (x : Int) : List UInt8 := be x 1
theorem flagB_len (b : Bool) : (flagB b).length = 1 := by cases b <;> rfl
theorem flat_len {α : Type} {f : α → List UInt8} {B : Nat} : ∀ {l : List α}, (∀ x ∈ l, (f x).length ≤ B) → (l.flatMap f).length ≤ l.length * B
  | [], _ => by simp
  | x :: l, h => by
    have h1 := h x (List.mem_cons_self ..)
    have h2 := flat_len (l := l) fun y hy => h y (List.mem_cons_of_mem _ hy)
    rw [List.flatMap_cons, List.length_append, List.length_cons, Nat.succ_mul]; omega
def magicB : List UInt8 := [byteOf 70, byteOf 80, byteOf 76, byteOf 78]
def sLaid (z : Int) : List UInt8 := [byteOf z, byteOf (shR .u32 z 8), byteOf (shR .u32 z 16), byteOf (shR .u32 z 24)]
theorem crc_Seal (b : List UInt8) (h : b.length ≤ 100000000) : g_crc_Seal b = some (b ++ sLaid (sSum b)) := by
  have c1 : (([] : List UInt8).length + b.length) * 1 ≤ 140737488355328 := by simp; omega
  have c2 : (([] ++ b).length + (sLaid (sSum b)).length) * 1 ≤ 140737488355328 := by simp [sLaid]; omega
  have e : g_crc_laid (sSum b) = some (sLaid (sSum b)) := rfl
  simp only [g_crc_Seal, g_bytes_Clone, crc_Sum, e, chk, c1, c2, if_true, Option.bind_some]
  rfl
/-! ### The fixed answers -/


def polyN : Nat := 3988292384
def stepN (x : Nat) : Nat := if x % 2 = 1 then (x / 2) ^^^ polyN else x / 2
def itN : Nat → Nat → Nat
  | 0, x => x
  | k + 1, x => itN k (stepN x)
theorem xor_half (a b : Nat) : (a ^^^ b) / 2 = (a / 2) ^^^ (b / 2) := by
  apply Nat.eq_of_testBit_eq
  intro i
  rw [Nat.testBit_xor, Nat.testBit_div_two, Nat.testBit_div_two, Nat.testBit_div_two, Nat.testBit_xor]
theorem xor_odd (a b : Nat) : (a ^^^ b) % 2 = (a + b) % 2 := by
  have h0 := Nat.testBit_xor a b 0
  rw [Nat.testBit_zero, Nat.testBit_zero, Nat.testBit_zero] at h0
  have hm : (a + b) % 2 = (a % 2 + b % 2) % 2 := Nat.add_mod a b 2
  have hz := Nat.mod_two_eq_zero_or_one (a ^^^ b)
  generalize (a ^^^ b) % 2 = z at *
  rcases Nat.mod_two_eq_zero_or_one a with ha | ha <;> rcases Nat.mod_two_eq_zero_or_one b with hb | hb <;> rw [ha, hb] at h0 hm <;> rw [hm] <;> rcases hz with rfl | rfl <;> simp at h0 ⊢
theorem stepN_xor (a b : Nat) : stepN (a ^^^ b) = stepN a ^^^ stepN b := by
  unfold stepN
  rw [xor_half, xor_odd]
  rcases Nat.mod_two_eq_zero_or_one a with ha | ha <;> rcases Nat.mod_two_eq_zero_or_one b with hb | hb
  · rw [if_neg (by omega), if_neg (by omega), if_neg (by omega)]
  · rw [if_pos (by omega), if_neg (by omega), if_pos (by omega), Nat.xor_assoc]
  · rw [if_pos (by omega), if_pos (by omega), if_neg (by omega), Nat.xor_assoc, Nat.xor_assoc, Nat.xor_comm polyN]
  · rw [if_neg (by omega), if_pos (by omega), if_pos (by omega), Nat.xor_assoc, ← Nat.xor_assoc polyN, Nat.xor_comm polyN (b / 2), Nat.xor_assoc (b / 2), Nat.xor_self, Nat.xor_zero]
theorem itN_xor : ∀ (k a b : Nat), itN k (a ^^^ b) = itN k a ^^^ itN k b
  | 0, _, _ => rfl
  | k + 1, a, b => by rw [itN, stepN_xor, itN_xor k]; rfl
theorem itN_add : ∀ (j k x : Nat), itN (j + k) x = itN k (itN j x)
  | 0, k, x => by rw [Nat.zero_add]; rfl
  | j + 1, k, x => by rw [Nat.succ_add, itN, itN_add j k]; rfl
theorem itN_shl : ∀ (k x : Nat), itN k (2 ^ k * x) = x
  | 0, x => by rw [Nat.pow_zero, Nat.one_mul]; rfl
  | k + 1, x => by
    have e : 2 ^ (k + 1) * x = 2 * (2 ^ k * x) := by rw [Nat.pow_succ]; rw [Nat.mul_comm (2 ^ k) 2, Nat.mul_assoc]
    have h : stepN (2 ^ (k + 1) * x) = 2 ^ k * x := by
      unfold stepN
      rw [if_neg (by rw [e]; omega), e, Nat.mul_div_cancel_left _ (by decide)]
    rw [itN, h, itN_shl k x]
theorem stepN_lt {x : Nat} (h : x < 4294967296) : stepN x < 4294967296 := by
  unfold stepN
  split
  · exact Nat.xor_lt_two_pow (n := 32) (by omega) (by decide)
  · omega
theorem itN_lt : ∀ (k : Nat) {x : Nat}, x < 4294967296 → itN k x < 4294967296
  | 0, _, h => h
  | k + 1, _, h => itN_lt k (stepN_lt h)
theorem stepN_ne {x : Nat} (h : x < 4294967296) (h0 : x ≠ 0) : stepN x ≠ 0 := by
  unfold stepN
  split
  · intro e
    have ht : ((x / 2) ^^^ polyN).testBit 31 = true := by
      rw [Nat.testBit_xor, Nat.testBit_lt_two_pow (show x / 2 < 2 ^ 31 by omega)]
      decide
    rw [e] at ht
    simp at ht
  · omega
theorem itN_ne : ∀ (k : Nat) {x : Nat}, x < 4294967296 → x ≠ 0 → itN k x ≠ 0
  | 0, _, _, h0 => h0
  | k + 1, _, h, h0 => itN_ne k (stepN_lt h) (stepN_ne h h0)
/-- A burst does not step to nothing. -/
theorem burst_ne (k at_ m : Nat) (hm : m < 4294967296) (h0 : m ≠ 0) : itN k (2 ^ at_ * m) ≠ 0 := by
  by_cases h : at_ ≤ k
  · have e : k = at_ + (k - at_) := by omega
    rw [e, itN_add, itN_shl]
    exact itN_ne _ hm h0
  · have e : 2 ^ at_ * m = 2 ^ k * (2 ^ (at_ - k) * m) := by
      rw [← Nat.mul_assoc, ← Nat.pow_add, show k + (at_ - k) = at_ by omega]
    rw [e, itN_shl]
    exact Nat.mul_ne_zero (Nat.pos_iff_ne_zero.1 (Nat.two_pow_pos _)) h0
/-! ### Bytes as one number, the lowest first -/
def numN : List UInt8 → Nat
  | [] => 0
  | c :: r => c.toNat ^^^ (2 ^ 8 * numN r)
theorem numN_app : ∀ (a b : List UInt8), numN (a ++ b) = numN a ^^^ (2 ^ (8 * a.length) * numN b)
  | [], b => by simp [numN]
  | c :: r, b => by
    rw [List.cons_append, numN, numN_app r b, numN, List.length_cons, Nat.xor_assoc]
    congr 1
    rw [show 8 * (r.length + 1) = 8 + 8 * r.length by omega, Nat.pow_add, Nat.mul_assoc]
    exact mul_xor 8 _ _
where
  mul_xor (k a b : Nat) : 2 ^ k * (a ^^^ b) = (2 ^ k * a) ^^^ (2 ^ k * b) := by
    apply Nat.eq_of_testBit_eq
    intro i
    rw [Nat.testBit_xor, Nat.testBit_two_pow_mul, Nat.testBit_two_pow_mul, Nat.testBit_two_pow_mul, Nat.testBit_xor]
    cases decide (i ≥ k) <;> simp
def moveN (z : Nat) (c : UInt8) : Nat := itN 8 (z ^^^ c.toNat)
theorem fold_num : ∀ (l : List UInt8) (z : Nat), l.foldl moveN z = itN (8 * l.length) (z ^^^ numN l)
  | [], z => by simp [numN, itN]
  | c :: r, z => by
    rw [List.foldl_cons, fold_num r, numN, List.length_cons, show 8 * (r.length + 1) = 8 + 8 * r.length by omega, itN_add]
    congr 1
    rw [← Nat.xor_assoc, itN_xor, itN_shl]
    rfl
theorem moveN_lt {z : Nat} (c : UInt8) (h : z < 4294967296) : moveN z c < 4294967296 := itN_lt 8 (Nat.xor_lt_two_pow (n := 32) h (by have := c.toNat_lt; omega))
/-! ### The program's words -/
theorem wrap_u32 {x : Nat} (h : x < 4294967296) : IntKind.u32.wrap (x : Int) = (x : Int) := by
  have : IntKind.u32.wrap (x : Int) = (x : Int) % 4294967296 := by simp [IntKind.wrap, IntKind.signed, IntKind.bits]
  rw [this]; omega
theorem wrap_u8n (x : Nat) : IntKind.u8.wrap (x : Int) = ((x % 256 : Nat) : Int) := by
  have : IntKind.u8.wrap (x : Int) = (x : Int) % 256 := by simp [IntKind.wrap, IntKind.signed, IntKind.bits]
  rw [this]; omega
theorem bitXor_nat {a b : Nat} (ha : a < 4294967296) (hb : b < 4294967296) : bitXor .u32 (a : Int) (b : Int) = ((a ^^^ b : Nat) : Int) := by
  have h : (BitVec.ofInt IntKind.u32.bits (a : Int) ^^^ BitVec.ofInt IntKind.u32.bits (b : Int)).toNat = a ^^^ b := by
    rw [show IntKind.u32.bits = 32 from rfl, BitVec.toNat_xor, BitVec.ofInt_natCast, BitVec.ofInt_natCast, BitVec.toNat_ofNat, BitVec.toNat_ofNat, Nat.mod_eq_of_lt (by omega), Nat.mod_eq_of_lt (by omega)]
  unfold bitXor
  rw [h]
  exact wrap_u32 (Nat.xor_lt_two_pow (n := 32) ha hb)
theorem bitXor_nat8 {a b : Nat} (ha : a < 256) (hb : b < 256) : bitXor .u8 (a : Int) (b : Int) = ((a ^^^ b : Nat) : Int) := by
  have h : (BitVec.ofInt IntKind.u8.bits (a : Int) ^^^ BitVec.ofInt IntKind.u8.bits (b : Int)).toNat = a ^^^ b := by
    rw [show IntKind.u8.bits = 8 from rfl, BitVec.toNat_xor, BitVec.ofInt_natCast, BitVec.ofInt_natCast, BitVec.toNat_ofNat, BitVec.toNat_ofNat, Nat.mod_eq_of_lt (by omega), Nat.mod_eq_of_lt (by omega)]
  unfold bitXor
  rw [h, wrap_u8n, Nat.mod_eq_of_lt (Nat.xor_lt_two_pow (n := 8) ha hb)]
theorem bitAnd1_nat {a : Nat} (ha : a < 4294967296) : bitAnd .u32 (a : Int) 1 = ((a % 2 : Nat) : Int) := by
  have h : (BitVec.ofInt IntKind.u32.bits (a : Int) &&& BitVec.ofInt IntKind.u32.bits 1).toNat = a % 2 := by
    rw [show IntKind.u32.bits = 32 from rfl, BitVec.toNat_and, BitVec.ofInt_natCast, show (1 : Int) = ((1 : Nat) : Int) from rfl, BitVec.ofInt_natCast, BitVec.toNat_ofNat, BitVec.toNat_ofNat, Nat.mod_eq_of_lt (by omega), show 1 % 2 ^ 32 = 1 from by decide, Nat.and_one_is_mod]
  unfold bitAnd
  rw [h]
  exact wrap_u32 (by omega)
theorem shR_nat (a k : Nat) (hk : k ≤ 32) : shR .u32 (a : Int) (k : Int) = ((a / 2 ^ k : Nat) : Int) := by
  unfold shR
  rw [Int.toNat_natCast, show min k IntKind.u32.bits = k from Nat.min_eq_left hk, Int.fdiv_eq_ediv_of_nonneg _ (Int.le_of_lt (Int.pow_pos (by decide)))]
  simp
theorem sStep_nat {x : Nat} (h : x < 4294967296) : sStep (x : Int) = (stepN x : Int) := by
  unfold sStep stepN
  have h1 := shR_nat x 1 (by decide)
  rw [bitAnd1_nat h, show (1 : Int) = ((1 : Nat) : Int) from rfl, h1, Nat.pow_one]
  by_cases e : x % 2 = 1
  · rw [if_pos (by omega), if_pos e]
    exact bitXor_nat (by omega) (by decide)
  · rw [if_neg (by omega), if_neg e]
theorem sTab_nat {x : Nat} (h : x < 4294967296) : sTab (x : Int) = (itN 8 x : Int) := by
  unfold sTab
  have l1 := stepN_lt h
  have l2 := stepN_lt l1
  have l3 := stepN_lt l2
  have l4 := stepN_lt l3
  have l5 := stepN_lt l4
  have l6 := stepN_lt l5
  have l7 := stepN_lt l6
  rw [sStep_nat h, sStep_nat l1, sStep_nat l2, sStep_nat l3, sStep_nat l4, sStep_nat l5, sStep_nat l6, sStep_nat l7]
  rfl
theorem split8 (z : Nat) : z = (z % 256) ^^^ (2 ^ 8 * (z / 256)) := by
  apply Nat.eq_of_testBit_eq
  intro i
  rw [Nat.testBit_xor, show (256 : Nat) = 2 ^ 8 from rfl, Nat.testBit_mod_two_pow, Nat.testBit_two_pow_mul, Nat.testBit_div_two_pow]
  by_cases h : i < 8
  · simp [h, show ¬ 8 ≤ i by omega]
  · simp [h, show 8 ≤ i by omega, show i - 8 + 8 = i by omega]
theorem sMove_nat {z : Nat} (c : UInt8) (h : z < 4294967296) : sMove (z : Int) c = (moveN z c : Int) := by
  have hc := c.toNat_lt
  have hx : (z % 256) ^^^ c.toNat < 256 := Nat.xor_lt_two_pow (n := 8) (by omega) (by omega)
  have hs : shR .u32 (z : Int) 8 = ((z / 256 : Nat) : Int) := shR_nat z 8 (by decide)
  unfold sMove
  rw [wrap_u8n, bitXor_nat8 (by omega) (by omega), wrap_u32 (by omega), sTab_nat (by omega), hs, bitXor_nat (itN_lt 8 (by omega)) (by omega)]
  congr 1
  unfold moveN
  conv => rhs; rw [split8 z, Nat.xor_assoc, Nat.xor_comm _ c.toNat, ← Nat.xor_assoc, itN_xor, itN_shl]
theorem fold_nat : ∀ (l : List UInt8) {z : Nat}, z < 4294967296 → l.foldl sMove (z : Int) = ((l.foldl moveN z : Nat) : Int) ∧ l.foldl moveN z < 4294967296
  | [], _, h => ⟨rfl, h⟩
  | c :: r, z, h => by
    rw [List.foldl_cons, List.foldl_cons, sMove_nat c h]
    exact fold_nat r (moveN_lt c h)
def regN (b : List UInt8) : Nat := b.foldl moveN 4294967295
theorem regN_lt (b : List UInt8) : regN b < 4294967296 := (fold_nat b (by decide)).2
theorem notK_nat {r : Nat} (h : r < 4294967296) : notK .u32 (r : Int) = ((4294967295 ^^^ r : Nat) : Int) := by
  have e : notK .u32 (r : Int) = bitXor .u32 ((4294967295 : Nat) : Int) (r : Int) := rfl
  rw [e]
  exact bitXor_nat (by decide) h
def sumN (b : List UInt8) : Nat := 4294967295 ^^^ regN b
theorem sumN_lt (b : List UInt8) : sumN b < 4294967296 := Nat.xor_lt_two_pow (n := 32) (by decide) (regN_lt b)
theorem sSum_nat (b : List UInt8) : sSum b = ((sumN b : Nat) : Int) := by
  unfold sSum
  have h0 : notK .u32 0 = ((4294967295 : Nat) : Int) := by decide
  obtain ⟨h1, h2⟩ := fold_nat b (z := 4294967295) (by decide)
  rw [h0, h1]
  exact notK_nat (regN_lt b)
def laidB (z : Int) : List UInt8 := [byteOf z, byteOf (shR .u32 z 8), byteOf (shR .u32 z 16), byteOf (shR .u32 z 24)]
theorem byteOf_nat (x : Nat) : (byteOf (x : Int)).toNat = x % 256 := by
  have := byteOf_toNat (x : Int)
  omega
theorem laid_num {s : Nat} (h : s < 4294967296) : numN (laidB (s : Int)) = s := by
  have e1 : shR .u32 (s : Int) 8 = ((s / 256 : Nat) : Int) := shR_nat s 8 (by decide)
  have e2 : shR .u32 (s : Int) 16 = ((s / 65536 : Nat) : Int) := shR_nat s 16 (by decide)
  have e3 : shR .u32 (s : Int) 24 = ((s / 16777216 : Nat) : Int) := shR_nat s 24 (by decide)
  unfold laidB
  rw [e1, e2, e3]
  simp only [numN, byteOf_nat, Nat.mul_zero, Nat.xor_zero]
  have a1 := split8 s
  have a2 := split8 (s / 256)
  have a3 := split8 (s / 65536)
  have d1 : s / 256 / 256 = s / 65536 := by omega
  have d2 : s / 65536 / 256 = s / 16777216 := by omega
  have d3 : s / 16777216 % 256 = s / 16777216 := by omega
  rw [d1] at a2
  rw [d2] at a3
  rw [d3, ← a3, ← a2, ← a1]
/-- Sealed bytes: the last four are the sum of those ahead of them. -/
def Opens (s : List UInt8) : Prop := 4 ≤ s.length ∧ s.drop (s.length - 4) = laidB (sSum (s.take (s.length - 4)))
theorem opens_num {s : List UInt8} (h : Opens s) : itN (8 * (s.length - 4)) (4294967295 ^^^ numN s) = 4294967295 := by
  obtain ⟨h4, h⟩ := h
  have e : s = s.take (s.length - 4) ++ s.drop (s.length - 4) := (List.take_append_drop _ _).symm
  have hl : (s.take (s.length - 4)).length = s.length - 4 := by rw [List.length_take]; omega
  generalize hin : s.take (s.length - 4) = a at *
  rw [h] at e
  have hr := regN_lt a
  have hn : numN s = numN a ^^^ (2 ^ (8 * a.length) * sumN a) := by
    conv => lhs; rw [e]
    rw [numN_app, sSum_nat, laid_num (sumN_lt a)]
  rw [hn, ← hl, ← Nat.xor_assoc, itN_xor, itN_shl, ← fold_num]
  show regN a ^^^ (4294967295 ^^^ regN a) = _
  rw [← Nat.xor_assoc, Nat.xor_comm (regN a), Nat.xor_assoc, Nat.xor_self, Nat.xor_zero]
theorem seal_opens (b : List UInt8) : Opens (b ++ laidB (sSum b)) := by
  have h4 : (laidB (sSum b)).length = 4 := rfl
  have hl : (b ++ laidB (sSum b)).length - 4 = b.length := by rw [List.length_append, h4]; omega
  refine ⟨by rw [List.length_append, h4]; omega, ?_⟩
  rw [hl, List.drop_left, List.take_left]
/-- A burst of at most 32 bits in sealed bytes is told. -/
theorem burst_told {s s' : List UInt8} {k m : Nat} (h : Opens s) (h' : Opens s') (hl : s'.length = s.length) (hn : numN s' = numN s ^^^ (2 ^ k * m)) (hm : m < 4294967296) : m = 0 := by
  by_cases h0 : m = 0
  · exact h0
  · have e1 := opens_num h
    have e2 := opens_num h'
    rw [hl, hn, ← Nat.xor_assoc, itN_xor, e1] at e2
    have e3 : itN (8 * (s.length - 4)) (2 ^ k * m) = 0 := by
      have := congrArg (4294967295 ^^^ ·) e2
      simp only [← Nat.xor_assoc, Nat.xor_self, Nat.zero_xor] at this
      exact this
    exact absurd e3 (burst_ne _ _ _ hm h0)



/-- A place within its bound, the bound within the bytes. -/
structure OkCur (c : GWireCursor) : Prop where
  a0 : 0 ≤ c.at_
  ab : c.at_ ≤ c.bound_
  bl : c.bound_ ≤ ((c.b_.length : Nat) : Int)
  sz : c.b_.length ≤ 140737488355328
theorem cur_eta (c : GWireCursor) : (⟨c.b_, c.at_, c.bound_⟩ : GWireCursor) = c := rfl
/-- The bytes from a place on, so many. -/
def cut (b : List UInt8) (a n : Nat) : List UInt8 := (b.drop a).take n
theorem cut_len {b : List UInt8} {a n : Nat} (h : a + n ≤ b.length) : (cut b a n).length = n := by
  rw [cut, List.length_take, List.length_drop]; omega
theorem cur_Left (c : GWireCursor) (h : OkCur c) : g_wire_Cursor_Left c = some (c.bound_ - c.at_, c) := by
  obtain ⟨h1, h2, h3, h4⟩ := h
  have e : IntKind.i64.wrap (c.bound_ - c.at_) = c.bound_ - c.at_ := wrap64_eq ⟨by omega, by omega⟩
  simp only [cur_eta, g_wire_Cursor_Left, e]
theorem cur_peek (c : GWireCursor) (off w : Nat) (hw : w ≤ 4) (h : OkCur c) (ho : c.at_ + (off : Int) + (w : Int) ≤ ((c.b_.length : Nat) : Int)) :
    g_wire_Cursor_peek c (off : Int) (w : Int) = some (beNat (cut c.b_ (c.at_.toNat + off) w), c) := by
  obtain ⟨h1, h2, h3, h4⟩ := h
  have e1 : IntKind.i64.wrap (c.at_ + (off : Int)) = c.at_ + (off : Int) := wrap64_eq ⟨by omega, by omega⟩
  have e2 : IntKind.i64.wrap (c.at_ + (off : Int) + (w : Int)) = c.at_ + (off : Int) + (w : Int) := wrap64_eq ⟨by omega, by omega⟩
  have e3 : (c.at_ + (off : Int)).toNat = c.at_.toNat + off := by omega
  have e4 : (c.at_ + (off : Int) + (w : Int)).toNat - (c.at_.toNat + off) = w := by omega
  have hc : (c.b_.drop (c.at_.toNat + off)).take w = cut c.b_ (c.at_.toNat + off) w := rfl
  have hl := cut_len (b := c.b_) (a := c.at_.toNat + off) (n := w) (by omega)
  have hch : 0 ≤ c.at_ + (off : Int) ∧ c.at_ + (off : Int) ≤ c.at_ + (off : Int) + (w : Int) ∧ c.at_ + (off : Int) + (w : Int) ≤ ((c.b_.length : Nat) : Int) := ⟨by omega, by omega, ho⟩
  have hL : iter (g_wire_Cursor_peek_L1 c (off : Int) (w : Int)) (0, 0) = some (beNat (cut c.b_ (c.at_.toNat + off) w)) := by
    generalize hl0 : cut c.b_ (c.at_.toNat + off) w = l at *
    have key : ∀ m k, k + m = l.length → iter (g_wire_Cursor_peek_L1 c (off : Int) (w : Int)) (beNat (l.take k), k) = some (beNat l) := by
      intro m
      induction m with
      | zero =>
        intro k hk
        have e : l.take k = l := List.take_of_length_le (by omega)
        rw [e]
        exact iter_inr (by simp only [cur_eta, g_wire_Cursor_peek_L1, e1, e2, e3, e4, hc, hl0, show ¬ k < l.length by omega, decide_false, cond_false])
      | succ m ih =>
        intro k hk
        have hlt : k < l.length := by omega
        have hx : l[k]? = some l[k] := List.getElem?_eq_getElem hlt
        obtain ⟨b0, b1⟩ := beNat_lt k (l.take k) (by rw [List.length_take]; omega)
        have hk3 : k ≤ 3 := by omega
        have hb : beNat (l.take k) < 16777216 := by
          have : (256 : Int) ^ k ≤ 256 ^ 3 := by
            rcases (by omega : k = 0 ∨ k = 1 ∨ k = 2 ∨ k = 3) with rfl | rfl | rfl | rfl <;> decide
          have h3 : (256 : Int) ^ 3 = 16777216 := by decide
          omega
        have hcx := (l[k]).toNat_lt
        have ho8 := or8 (z := (8 : Int).toNat) b0 hb (x := ((l[k]).toNat : Int)) (by omega) (by omega) rfl
        have es : beNat (l.take (k + 1)) = beNat (l.take k) * 256 + ((l[k]).toNat : Int) := by rw [List.take_add_one, hx]; exact beNat_snoc _ _
        have hs : g_wire_Cursor_peek_L1 c (off : Int) (w : Int) (beNat (l.take k), k) = some (.inl (beNat (l.take (k + 1)), k + 1)) := by
          simp only [cur_eta, g_wire_Cursor_peek_L1, e1, e2, e3, e4, hc, hl0, hlt, hx, decide_true, cond_true, Option.bind_some, es]
          exact congrArg (fun z => some (Sum.inl (z, k + 1))) ho8
        rw [iter_inl hs]
        exact ih (k + 1) (by omega)
    have := key l.length 0 (by omega)
    simpa [beNat] using this
  simp only [cur_eta, g_wire_Cursor_peek, e1, e2, chk, hch, and_self, if_true, hL, Option.bind_some]
/-! ### A record -/
theorem cur_head (c : GWireCursor) (h : OkCur c) : g_wire_Cursor_head c = some (if c.bound_ - c.at_ < 3 then (0, 0, .pl c.at_ gShort, c) else (beNat (cut c.b_ c.at_.toNat 1), beNat (cut c.b_ (c.at_.toNat + 1) 2), .nil, c)) := by
  have ha : g_wire_at c.at_ (.v gShort) = some (.pl c.at_ gShort) := rfl
  by_cases hc : c.bound_ - c.at_ < 3
  · simp only [cur_eta, g_wire_Cursor_head, cur_Left c h, hc, ha, decide_true, cond_true, Option.bind_some, if_true]
  · have p1 := cur_peek c 0 1 (by omega) h (by have := h.bl; omega)
    have p2 := cur_peek c 1 2 (by omega) h (by have := h.bl; omega)
    rw [Nat.add_zero] at p1
    simp only [cur_eta, g_wire_Cursor_head, cur_Left c h, hc, decide_false, cond_false, Option.bind_some, if_false]
    rw [show g_wire_Cursor_peek c 0 1 = _ from p1]
    simp only [Option.bind_some]
    rw [show g_wire_Cursor_peek c 1 2 = _ from p2]
    rfl
theorem beNat2 {b : List UInt8} (hb : b.length ≤ 2) : 0 ≤ beNat b ∧ beNat b ≤ 65535 := by
  obtain ⟨h1, h2⟩ := beNat_lt b.length b rfl
  have : (256 : Int) ^ b.length ≤ 256 ^ 2 := by
    rcases (by omega : b.length = 0 ∨ b.length = 1 ∨ b.length = 2) with e | e | e <;> rw [e] <;> decide
  have h3 : (256 : Int) ^ 2 = 65536 := by decide
  omega
theorem cut_le (b : List UInt8) (a n : Nat) : (cut b a n).length ≤ n := by rw [cut, List.length_take]; omega
/-- What the next record comes to: tag, cursor, error, where it goes on. -/
def nextS (c : GWireCursor) : Int × Option GWireCursor × ErrM × GWireCursor :=
  if c.bound_ - c.at_ < 3 then (0, none, .pl c.at_ gShort, c)
  else if beNat (cut c.b_ c.at_.toNat 1) = 0 then (0, none, .pl c.at_ gTag, c)
  else if c.bound_ - c.at_ - 3 < beNat (cut c.b_ (c.at_.toNat + 1) 2) then (0, none, .pl (c.at_ + 1) gLength, c)
  else (beNat (cut c.b_ c.at_.toNat 1), some ⟨c.b_, c.at_ + 3, c.at_ + 3 + beNat (cut c.b_ (c.at_.toNat + 1) 2)⟩, .nil, ⟨c.b_, c.at_ + 3 + beNat (cut c.b_ (c.at_.toNat + 1) 2), c.bound_⟩)
theorem cur_enter (c : GWireCursor) (n : Int) (h : OkCur c) (h3 : 3 ≤ c.bound_ - c.at_) (n0 : 0 ≤ n) (n1 : n ≤ 65535) :
    g_wire_Cursor_enter c n = some (if c.bound_ - c.at_ - 3 < n then (none, .pl (c.at_ + 1) gLength, c) else (some ⟨c.b_, c.at_ + 3, c.at_ + 3 + n⟩, .nil, ⟨c.b_, c.at_ + 3 + n, c.bound_⟩)) := by
  have ok := h
  obtain ⟨k1, k2, k3, k4⟩ := h
  have w1 : IntKind.i64.wrap (c.bound_ - c.at_ - 3) = c.bound_ - c.at_ - 3 := wrap64_eq ⟨by omega, by omega⟩
  have w2 : IntKind.i64.wrap (c.at_ + 1) = c.at_ + 1 := wrap64_eq ⟨by omega, by omega⟩
  have w3 : IntKind.i64.wrap (c.at_ + 3) = c.at_ + 3 := wrap64_eq ⟨by omega, by omega⟩
  have w4 : IntKind.i64.wrap (c.at_ + 3 + n) = c.at_ + 3 + n := wrap64_eq ⟨by omega, by omega⟩
  have ha : g_wire_at (c.at_ + 1) (.v gLength) = some (.pl (c.at_ + 1) gLength) := rfl
  by_cases hc : c.bound_ - c.at_ - 3 < n
  · simp only [cur_eta, g_wire_Cursor_enter, cur_Left c ok, w1, w2, hc, ha, decide_true, cond_true, Option.bind_some, if_true]
  · simp only [cur_eta, g_wire_Cursor_enter, cur_Left c ok, w1, w3, w4, hc, decide_false, cond_false, Option.bind_some, if_false]
theorem cur_Next (c : GWireCursor) (h : OkCur c) : g_wire_Cursor_Next c = some (nextS c) := by
  have hg : g_wire_at c.at_ (.v gTag) = some (.pl c.at_ gTag) := rfl
  unfold nextS
  by_cases hc : c.bound_ - c.at_ < 3
  · have : ¬ (ErrM.pl c.at_ gShort = ErrM.nil) := fun h => by cases h
    simp only [cur_eta, g_wire_Cursor_Next, cur_head c h, hc, if_true, Option.bind_some, this, decide_false, Bool.not_false, cond_true]
  · have hn := beNat2 (cut_le c.b_ (c.at_.toNat + 1) 2)
    have he := cur_enter c (beNat (cut c.b_ (c.at_.toNat + 1) 2)) h (by omega) hn.1 hn.2
    by_cases ht : beNat (cut c.b_ c.at_.toNat 1) = 0
    · simp only [cur_eta, g_wire_Cursor_Next, cur_head c h, hc, ht, hg, if_true, if_false, Option.bind_some, decide_true, Bool.not_true, cond_true, cond_false]
    · by_cases hl : c.bound_ - c.at_ - 3 < beNat (cut c.b_ (c.at_.toNat + 1) 2)
      · have : ¬ (ErrM.pl (c.at_ + 1) gLength = ErrM.nil) := fun h => by cases h
        rw [if_pos hl] at he
        simp only [cur_eta, g_wire_Cursor_Next, cur_head c h, hc, ht, hl, he, this, if_true, if_false, Option.bind_some, decide_true, decide_false, Bool.not_true, Bool.not_false, cond_true, cond_false]
      · rw [if_neg hl] at he
        simp only [cur_eta, g_wire_Cursor_Next, cur_head c h, hc, ht, hl, he, if_false, Option.bind_some, decide_true, decide_false, Bool.not_true, cond_false]
theorem nextS_ok {c : GWireCursor} (h : OkCur c) : OkCur (nextS c).2.2.2 ∧ (nextS c).2.2.2.b_ = c.b_ ∧ (nextS c).2.2.2.bound_ = c.bound_ ∧ (∀ d, (nextS c).2.1 = some d → OkCur d ∧ d.b_ = c.b_ ∧ c.at_ + 3 = d.at_ ∧ d.bound_ = (nextS c).2.2.2.at_) ∧ ((nextS c).2.2.1 = .nil → ∃ d, (nextS c).2.1 = some d) := by
  have ok := h
  obtain ⟨k1, k2, k3, k4⟩ := h
  have hn := beNat2 (cut_le c.b_ (c.at_.toNat + 1) 2)
  unfold nextS
  split
  · exact ⟨ok, rfl, rfl, (fun d h => by cases h), (fun h => by cases h)⟩
  · split
    · exact ⟨ok, rfl, rfl, (fun d h => by cases h), (fun h => by cases h)⟩
    · split
      · exact ⟨ok, rfl, rfl, (fun d h => by cases h), (fun h => by cases h)⟩
      · refine ⟨⟨by simp only; omega, by simp only; omega, k3, k4⟩, rfl, rfl, fun d hd => ?_, fun _ => ⟨_, rfl⟩⟩
        cases hd
        exact ⟨⟨by simp only; omega, by simp only; omega, by simp only; omega, k4⟩, rfl, rfl, rfl⟩



/-- Within its bound the cursor has just these bytes left. -/
structure Sees (c : GWireCursor) (l : List UInt8) : Prop where
  ok : OkCur c
  eq : cut c.b_ c.at_.toNat (c.bound_ - c.at_).toNat = l
theorem Sees.left {c : GWireCursor} {l : List UInt8} (h : Sees c l) : c.bound_ - c.at_ = ((l.length : Nat) : Int) := by
  obtain ⟨⟨h1, h2, h3, h4⟩, he⟩ := h
  have := cut_len (b := c.b_) (a := c.at_.toNat) (n := (c.bound_ - c.at_).toNat) (by omega)
  rw [he] at this; omega
theorem cut_app {b l r : List UInt8} {a n : Nat} (h : cut b a n = l ++ r) : cut b a l.length = l := by
  have h1 : (cut b a n).take l.length = l := by rw [h]; simp
  have hn : l.length ≤ n := by
    have := congrArg List.length h
    have h2 := cut_le b a n
    rw [List.length_append] at this; omega
  rw [cut, List.take_take, Nat.min_eq_left hn] at h1
  exact h1
theorem cut_rest {b l r : List UInt8} {a n : Nat} (h : cut b a n = l ++ r) : cut b (a + l.length) (n - l.length) = r := by
  have h1 : (cut b a n).drop l.length = r := by rw [h]; simp
  rw [cut, List.drop_take, List.drop_drop] at h1
  exact h1
/-- The cursor behind the first bytes. -/
theorem Sees.behind {c : GWireCursor} {l r : List UInt8} (h : Sees c (l ++ r)) : Sees ⟨c.b_, c.at_ + ((l.length : Nat) : Int), c.bound_⟩ r := by
  have hl := h.left
  rw [List.length_append] at hl
  obtain ⟨⟨h1, h2, h3, h4⟩, he⟩ := h
  refine ⟨⟨by simp only; omega, by simp only; omega, h3, h4⟩, ?_⟩
  have := cut_rest he
  simp only
  rw [show (c.at_ + ((l.length : Nat) : Int)).toNat = c.at_.toNat + l.length by omega, show (c.bound_ - (c.at_ + ((l.length : Nat) : Int))).toNat = (c.bound_ - c.at_).toNat - l.length by omega]
  exact this
theorem Sees.part {c : GWireCursor} {l r : List UInt8} (h : Sees c (l ++ r)) : Sees ⟨c.b_, c.at_, c.at_ + ((l.length : Nat) : Int)⟩ l := by
  have hl := h.left
  rw [List.length_append] at hl
  obtain ⟨⟨h1, h2, h3, h4⟩, he⟩ := h
  refine ⟨⟨h1, by simp only; omega, by simp only; omega, h4⟩, ?_⟩
  have := cut_app he
  simp only
  rw [show (c.at_ + ((l.length : Nat) : Int) - c.at_).toNat = l.length by omega]
  exact this
theorem beNat_from : ∀ (l : List UInt8) (z : Int), l.foldl (fun n b => n * 256 + (b.toNat : Int)) z = z * 256 ^ l.length + beNat l
  | [], z => by simp [beNat]
  | c :: r, z => by
    have h1 := beNat_from r (z * 256 + (c.toNat : Int))
    have h2 := beNat_from r (0 * 256 + (c.toNat : Int))
    have e : beNat (c :: r) = (0 * 256 + (c.toNat : Int)) * 256 ^ r.length + beNat r := h2
    rw [List.foldl_cons, h1, e, List.length_cons, Int.pow_succ]
    generalize (256 : Int) ^ r.length = t
    rw [Int.add_mul, Int.add_mul, Int.mul_assoc, Int.mul_comm 256 t, Int.zero_mul, Int.zero_mul]
    omega
theorem beNat_cons (c : UInt8) (r : List UInt8) : beNat (c :: r) = (c.toNat : Int) * 256 ^ r.length + beNat r := by
  rw [beNat, List.foldl_cons, beNat_from]; simp
theorem shR_nat64 (a k : Nat) (hk : k ≤ 64) : shR .i64 (a : Int) (k : Int) = ((a / 2 ^ k : Nat) : Int) := by
  unfold shR
  rw [Int.toNat_natCast, show min k IntKind.i64.bits = k from Nat.min_eq_left hk, Int.fdiv_eq_ediv_of_nonneg _ (Int.le_of_lt (Int.pow_pos (by decide)))]
  simp
theorem beNat_mod (n : Nat) : ∀ k, k ≤ 8 → beNat (be (n : Int) k) = ((n % 256 ^ k : Nat) : Int)
  | 0, _ => by simp [be, beNat, Nat.mod_one]
  | k + 1, hk => by
    have hb := byteOf_toNat (((n / 2 ^ (8 * k) : Nat) : Int))
    have e2 : (2 : Nat) ^ (8 * k) = 256 ^ k := by rw [Nat.pow_mul]
    rw [be, beNat_cons, be_len, beNat_mod n k (by omega), shR_nat64 _ _ (by omega), hb, e2, Nat.pow_succ, Nat.mod_mul]
    have e3 : (((n / 256 ^ k : Nat) : Int)) % 256 = ((n / 256 ^ k % 256 : Nat) : Int) := by omega
    rw [e3, Int.natCast_add, Int.natCast_mul, Int.natCast_pow, Int.mul_comm, Int.add_comm]
    rfl
theorem beNat_be {n : Int} {k : Nat} {m : Int} (hk : k ≤ 8) (h0 : 0 ≤ n) (h1 : n ≤ m) (hm : m < 256 ^ k) : beNat (be n k) = n := by
  obtain ⟨j, rfl⟩ := Int.eq_ofNat_of_zero_le h0
  rw [beNat_mod j k hk, Nat.mod_eq_of_lt]
  have : (j : Int) < ((256 ^ k : Nat) : Int) := by rw [Int.natCast_pow]; exact Int.lt_of_le_of_lt h1 hm
  omega
/-! ### What the cursor's calls come to -/
abbrev adv (c : GWireCursor) (k : Int) : GWireCursor := ⟨c.b_, c.at_ + k, c.bound_⟩
def rangedS (c : GWireCursor) (k : Nat) (lo hi : Int) : Int × ErrM × GWireCursor :=
  if c.bound_ - c.at_ < (k : Int) then (0, .pl c.at_ gShort, c)
  else if beNat (cut c.b_ c.at_.toNat k) < lo ∨ hi < beNat (cut c.b_ c.at_.toNat k) then (0, .pl c.at_ gRange, c)
  else (beNat (cut c.b_ c.at_.toNat k), .nil, adv c k)
def flagS (c : GWireCursor) : Bool × ErrM × GWireCursor := (decide ((rangedS c 1 0 1).1 = 1), (rangedS c 1 0 1).2.1, (rangedS c 1 0 1).2.2)
theorem rangedS_ok {c : GWireCursor} {k : Nat} {lo hi : Int} (h : OkCur c) : OkCur (rangedS c k lo hi).2.2 ∧ (rangedS c k lo hi).2.2.b_ = c.b_ ∧ (rangedS c k lo hi).2.2.bound_ = c.bound_ ∧ c.at_ ≤ (rangedS c k lo hi).2.2.at_ := by
  have ok := h
  obtain ⟨k1, k2, k3, k4⟩ := h
  unfold rangedS; split
  · exact ⟨ok, rfl, rfl, Int.le_refl _⟩
  · split
    · exact ⟨ok, rfl, rfl, Int.le_refl _⟩
    · exact ⟨⟨by simp only; omega, by simp only; omega, k3, k4⟩, rfl, rfl, by simp only; omega⟩
def rawS (c : GWireCursor) (n : Nat) : List UInt8 × ErrM × GWireCursor :=
  if c.bound_ - c.at_ < (n : Int) then ([], .pl c.at_ gShort, c) else (cut c.b_ c.at_.toNat n, .nil, adv c n)
theorem rawS_ok {c : GWireCursor} {n : Nat} (h : OkCur c) : OkCur (rawS c n).2.2 ∧ (rawS c n).2.2.b_ = c.b_ ∧ (rawS c n).2.2.bound_ = c.bound_ ∧ c.at_ ≤ (rawS c n).2.2.at_ ∧ (rawS c n).1.length ≤ n := by
  have ok := h
  obtain ⟨k1, k2, k3, k4⟩ := h
  unfold rawS; split
  · exact ⟨ok, rfl, rfl, Int.le_refl _, Nat.zero_le _⟩
  · exact ⟨⟨by simp only; omega, by simp only; omega, k3, k4⟩, rfl, rfl, by simp only; omega, cut_le _ _ _⟩
def endS (c : GWireCursor) : ErrM × GWireCursor := if 0 < c.bound_ - c.at_ then (.pl c.at_ gRest, c) else (.nil, c)
theorem endS_2 (c : GWireCursor) : (endS c).2 = c := by unfold endS; split <;> rfl
/-! ### Over bytes that are known -/
theorem Sees.num {c : GWireCursor} {n : Int} {k : Nat} {r : List UInt8} {lo hi : Int} (h : Sees c (be n k ++ r)) (hk : k ≤ 4) (h0 : lo ≤ n) (h1 : n ≤ hi) (l0 : 0 ≤ n) (l1 : hi < 256 ^ k) : rangedS c k lo hi = (n, .nil, adv c k) ∧ Sees (adv c k) r := by
  have hl := h.left
  rw [List.length_append, be_len] at hl
  have hb := h.behind
  rw [be_len] at hb
  refine ⟨?_, hb⟩
  have hc := cut_app h.eq
  rw [be_len] at hc
  unfold rangedS
  rw [if_neg (by omega), hc, beNat_be (m := hi) (by omega) l0 h1 l1, if_neg (by omega)]
theorem Sees.num0 {c : GWireCursor} {n : Int} {k : Nat} {lo hi : Int} (h : Sees c (be n k)) (hk : k ≤ 4) (h0 : lo ≤ n) (h1 : n ≤ hi) (l0 : 0 ≤ n) (l1 : hi < 256 ^ k) : rangedS c k lo hi = (n, .nil, adv c k) ∧ Sees (adv c k) [] :=
  Sees.num (r := []) (by rw [List.append_nil]; exact h) hk h0 h1 l0 l1
theorem flagB_be (b : Bool) : flagB b = be (if b = true then 1 else 0) 1 := by cases b <;> rfl
theorem Sees.flag {c : GWireCursor} {b : Bool} {r : List UInt8} (h : Sees c (flagB b ++ r)) : flagS c = (b, .nil, adv c 1) ∧ Sees (adv c 1) r := by
  rw [flagB_be] at h
  obtain ⟨h1, h2⟩ := h.num (lo := 0) (hi := 1) (by omega) (by split <;> omega) (by split <;> omega) (by split <;> omega) (by decide)
  refine ⟨?_, h2⟩
  unfold flagS
  rw [h1]
  cases b <;> rfl
theorem Sees.raw {c : GWireCursor} {l : List UInt8} (h : Sees c l) : rawS c (c.bound_ - c.at_).toNat = (l, .nil, adv c l.length) ∧ Sees (adv c l.length) [] := by
  have hl := h.left
  have hb := Sees.behind (l := l) (r := []) (by rw [List.append_nil]; exact h)
  refine ⟨?_, hb⟩
  unfold rawS
  rw [if_neg (by omega), h.eq, hl, Int.toNat_natCast]
theorem Sees.ended {c : GWireCursor} (h : Sees c []) : endS c = (.nil, c) := by
  have hl := h.left
  unfold endS
  rw [if_neg (by rw [hl]; simp)]
/-- The next record. -/
theorem Sees.next {c : GWireCursor} {t : Int} {b r : List UInt8} (h : Sees c (recB t b ++ r)) (h0 : 1 ≤ t) (h1 : t ≤ 255) (hb : b.length ≤ 65535) :
    ∃ d, nextS c = (t, some d, .nil, adv c (3 + (b.length : Int))) ∧ Sees d b ∧ d.b_ = c.b_ ∧ Sees (adv c (3 + (b.length : Int))) r := by
  have hl := h.left
  rw [List.length_append, recB_len] at hl
  have e : recB t b ++ r = be t 1 ++ (be (b.length : Int) 2 ++ (b ++ r)) := by simp only [recB, List.append_assoc]
  rw [e] at h
  have c1 := cut_app h.eq
  rw [be_len] at c1
  have k1 := h.behind
  rw [be_len] at k1
  have c2 := cut_app k1.eq
  rw [be_len] at c2
  have k2 := k1.behind
  rw [be_len] at k2
  have k3 := k2.part
  have k4 := k2.behind
  have ha := h.ok.a0
  have n1 : beNat (cut c.b_ c.at_.toNat 1) = t := by rw [c1]; exact beNat_be (m := 255) (by omega) (by omega) h1 (by decide)
  have n2 : beNat (cut c.b_ (c.at_.toNat + 1) 2) = (b.length : Int) := by
    have : (c.at_ + ((1 : Nat) : Int)).toNat = c.at_.toNat + 1 := by omega
    simp only [this] at c2
    rw [c2]; exact beNat_be (m := 65535) (by omega) (by omega) (by omega) (by decide)
  refine ⟨⟨c.b_, c.at_ + 3, c.at_ + 3 + (b.length : Int)⟩, ?_, ?_, rfl, ?_⟩
  · unfold nextS
    rw [if_neg (by omega), n1, n2, if_neg (by omega), if_neg (by omega)]
    simp only [adv, Int.add_assoc]
  · have : c.at_ + ((1 : Nat) : Int) + ((2 : Nat) : Int) = c.at_ + 3 := by omega
    simpa only [this] using k3
  · have : c.at_ + ((1 : Nat) : Int) + ((2 : Nat) : Int) + (b.length : Int) = c.at_ + (3 + (b.length : Int)) := by omega
    simpa only [this] using k4

end Go.Proofs.YtnhjohcgnmogaaaDoor
