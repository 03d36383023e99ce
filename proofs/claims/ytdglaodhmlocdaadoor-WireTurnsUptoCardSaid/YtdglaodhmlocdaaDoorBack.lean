/- What was put into a writer is read back (written by wip/tools) -/
import Derived.Test.YtdglaodhmlocdaaDoorLaw02
set_option linter.unusedVariables false
set_option linter.unusedSimpArgs false
set_option maxRecDepth 10000
namespace Go.Proofs.YtdglaodhmlocdaaDoor
open Go Go.RowKit


/-- fits. -/
def fitsM (o : OpM) : Bool :=
  if o.kind = 1 ∨ o.kind = 2 then decide ((0 ≤ o.n ∧ o.n ≤ 255) ∨ (o.kind = 2 ∧ 0 ≤ o.n ∧ o.n ≤ 65535)) else if o.kind = 3 then decide (0 ≤ o.n ∧ o.n ≤ 4294967295) else
  if o.kind = 6 then decide (o.s.size ≤ 65535) else if o.kind = 7 then decide (1 ≤ o.n ∧ o.n ≤ 255 ∧ o.s.size ≤ 65535) else decide (o.kind = 4 ∨ o.kind = 5)
/-- What a put writes. -/
def encM (o : OpM) : List UInt8 :=
  if o.kind = 1 then beDown o.n 1 else if o.kind = 2 then beDown o.n 2 else if o.kind = 3 then beDown o.n 4 else if o.kind = 4 then beDown (and1 o.n) 1 else
  if o.kind = 5 then o.s.data.toList else if o.kind = 6 then beDown o.s.size 2 ++ o.s.data.toList else beDown o.n 1 ++ (beDown o.s.size 2 ++ o.s.data.toList)
theorem bsize (s : ByteArray) : s.data.toList.length = s.size := rfl
theorem encM_len (o : OpM) : (encM o).length ≤ o.s.size + 7 := by
  have h := bsize o.s
  unfold encM
  repeat' split
  all_goals (try simp only [List.length_append, beDown_len]); omega
theorem num_fit {x : List UInt8} {n k : Int} (h0 : 0 ≤ n) (h1 : n ≤ mostW k) : (⟨x, .nil⟩ : WM).num n k = ⟨x ++ beDown n k.toNat, .nil⟩ := by
  unfold WM.num; rw [if_neg (by omega)]; rfl
theorem app_fit {x : List UInt8} {o : OpM} (h : fitsM o = true) : (⟨x, .nil⟩ : WM).app o = ⟨x ++ encM o, .nil⟩ := by
  have m1 : mostW 1 = 255 := rfl
  have m2 : mostW 2 = 65535 := rfl
  have m4 : mostW 4 = 4294967295 := rfl
  have hs := bsize o.s
  have ha := and1_in o.n
  unfold fitsM at h
  unfold WM.app encM
  by_cases k1 : o.kind = 1
  · rw [if_pos (.inl k1)] at h; simp only [decide_eq_true_eq] at h; rw [if_pos k1, if_pos k1, num_fit (by omega) (by omega)]; rfl
  by_cases k2 : o.kind = 2
  · rw [if_pos (.inr k2)] at h; simp only [decide_eq_true_eq] at h; rw [if_neg k1, if_neg k1, if_pos k2, if_pos k2, num_fit (by omega) (by omega)]; rfl
  rw [if_neg (by omega)] at h
  rw [if_neg k1, if_neg k1, if_neg k2, if_neg k2]
  by_cases k3 : o.kind = 3
  · rw [if_pos k3] at h; simp only [decide_eq_true_eq] at h; rw [if_pos k3, if_pos k3, num_fit (by omega) (by omega)]; rfl
  rw [if_neg k3] at h
  rw [if_neg k3, if_neg k3]
  by_cases k4 : o.kind = 4
  · rw [if_pos k4, if_pos k4, num_fit (by omega) (by omega)]; rfl
  rw [if_neg k4, if_neg k4]
  by_cases k5 : o.kind = 5
  · rw [if_pos k5, if_pos k5]; rfl
  rw [if_neg k5, if_neg k5]
  by_cases k6 : o.kind = 6
  · rw [if_pos k6] at h; simp only [decide_eq_true_eq] at h
    rw [if_pos k6, if_pos k6]
    unfold WM.text
    rw [if_neg (by omega), num_fit (by omega) (by omega)]
    simp [WM.put]
  rw [if_neg k6] at h
  rw [if_neg k6, if_neg k6]
  by_cases k7 : o.kind = 7
  · rw [if_pos k7] at h; simp only [decide_eq_true_eq] at h
    rw [if_pos k7]
    unfold WM.record
    rw [if_neg (by omega), if_neg (by omega), num_fit (by omega) (by omega), num_fit (by omega) (by omega)]
    simp [WM.put]
  · rw [if_neg k7] at h; simp [k4, k5] at h
/-- All that is put. -/
def allM (l : List OpM) : List UInt8 := (l.filter fitsM).flatMap encM
theorem allM_snoc {l : List OpM} {i : Nat} {o : OpM} (h : l[i]? = some o) : allM (l.take (i + 1)) = allM (l.take i) ++ (if fitsM o = true then encM o else []) := by
  rw [take_snoc h, allM, List.filter_append, List.flatMap_append]
  unfold allM
  by_cases hf : fitsM o = true
  · simp [hf]
  · simp [hf]
theorem allM_cons (o : OpM) (r : List OpM) : allM (o :: r) = (if fitsM o = true then encM o else []) ++ allM r := by
  unfold allM
  by_cases hf : fitsM o = true
  · simp [hf]
  · simp [hf]
theorem allM_len : ∀ l : List OpM, (allM l).length ≤ bulkO l
  | [] => Nat.zero_le _
  | o :: r => by
    have h1 := allM_len r
    have h2 := encM_len o
    rw [allM_cons]
    simp only [bulkO, List.map_cons, List.sum_cons, List.length_append] at *
    split
    · omega
    · simp; omega
theorem allM_take (l : List OpM) (i : Nat) : (allM (l.take i)).length ≤ (allM l).length := by
  have e : allM l = allM (l.take i) ++ allM (l.drop i) := by
    unfold allM
    rw [← List.flatMap_append, ← List.filter_append, List.take_append_drop]
  rw [e]; simp
/-- one. -/
def oneM (bs : List UInt8) (a d : Nat) (o : OpM) : Int × Bool × Nat :=
  if o.kind = 1 then ((rangedM bs a d 1 0 255).2.1.code, (rangedM bs a d 1 0 255).1 == o.n, (rangedM bs a d 1 0 255).2.2) else
  if o.kind = 2 then ((rangedM bs a d 2 0 65535).2.1.code, (rangedM bs a d 2 0 65535).1 == o.n, (rangedM bs a d 2 0 65535).2.2) else
  if o.kind = 3 then ((rangedM bs a d 4 0 4294967295).2.1.code, (rangedM bs a d 4 0 4294967295).1 == o.n, (rangedM bs a d 4 0 4294967295).2.2) else
  if o.kind = 4 then ((flagM bs a d).2.1.code, (flagM bs a d).1 == (and1 o.n == 1), (flagM bs a d).2.2) else
  if o.kind = 5 then ((rawM bs a d o.s.size).2.1.code, decide (strB (rawM bs a d o.s.size).1 = o.s), (rawM bs a d o.s.size).2.2) else
  if o.kind = 6 then ((textM bs a d 65535).2.1.code, decide ((textM bs a d 65535).1 = o.s), (textM bs a d 65535).2.2) else
  match (recordM bs a d o.n).1 with
  | none => ((recordM bs a d o.n).2.1.code, false, (recordM bs a d o.n).2.2)
  | some x => (0, decide (strB ((bs.drop x.1).take (x.2 - x.1)) = o.s), (recordM bs a d o.n).2.2)
def rereadM (bs : List UInt8) : List OpM → Nat → Int × Bool × Nat
  | [], a => (0, true, a)
  | o :: r, a => if fitsM o = true then (if (oneM bs a bs.length o).1 ≠ 0 ∨ (oneM bs a bs.length o).2.1 = false then oneM bs a bs.length o else rereadM bs r (oneM bs a bs.length o).2.2) else rereadM bs r a
theorem beNat_cons (b : UInt8) (l : List UInt8) : beNat (b :: l) = (b.toNat : Int) * 256 ^ l.length + beNat l := by
  have key : ∀ (l : List UInt8) (z : Int), l.foldl (fun n b => n * 256 + (b.toNat : Int)) z = z * 256 ^ l.length + beNat l := by
    intro l
    induction l with
    | nil => intro z; simp [beNat]
    | cons x r ih =>
      intro z
      have e : beNat (x :: r) = (0 * 256 + (x.toNat : Int)) * 256 ^ r.length + beNat r := ih _
      rw [List.foldl_cons, ih, e, List.length_cons, Int.pow_succ, Int.zero_mul, Int.zero_add, Int.add_mul, Int.mul_assoc, Int.mul_comm 256, Int.add_assoc]
  have e : beNat (b :: l) = (0 * 256 + (b.toNat : Int)) * 256 ^ l.length + beNat l := key l _
  rw [e, Int.zero_mul, Int.zero_add]
theorem beNat_one (n : Int) (h0 : 0 ≤ n) (h1 : n ≤ 255) : beNat (beDown n 1) = n := by
  have h := byteOf_toNat (n.fdiv (2 ^ (8 * 0)))
  have e : n.fdiv (2 ^ (8 * 0)) = n := by simp
  simp only [beDown]
  rw [beNat_cons, h, e]
  simp [beNat]; omega
theorem fdiv_pow (n : Int) (k : Nat) (m : Int) (hm : m = 2 ^ k) (hp : 0 < m) : n.fdiv (2 ^ k) = n / m := by
  rw [← hm, Int.fdiv_eq_ediv_of_nonneg _ (by omega)]
theorem beNat_two (n : Int) (h0 : 0 ≤ n) (h1 : n ≤ 65535) : beNat (beDown n 2) = n := by
  have e1 : n.fdiv (2 ^ (8 * 1)) = n / 256 := fdiv_pow n _ 256 (by decide) (by decide)
  have e0 : n.fdiv (2 ^ (8 * 0)) = n := by simp
  simp only [beDown]
  rw [beNat_cons, beNat_cons, byteOf_toNat, byteOf_toNat, e1, e0]
  simp [beNat]; omega
theorem beNat_four (n : Int) (h0 : 0 ≤ n) (h1 : n ≤ 4294967295) : beNat (beDown n 4) = n := by
  have e3 : n.fdiv (2 ^ (8 * 3)) = n / 16777216 := fdiv_pow n _ 16777216 (by decide) (by decide)
  have e2 : n.fdiv (2 ^ (8 * 2)) = n / 65536 := fdiv_pow n _ 65536 (by decide) (by decide)
  have e1 : n.fdiv (2 ^ (8 * 1)) = n / 256 := fdiv_pow n _ 256 (by decide) (by decide)
  have e0 : n.fdiv (2 ^ (8 * 0)) = n := by simp
  simp only [beDown]
  rw [beNat_cons, beNat_cons, beNat_cons, beNat_cons, byteOf_toNat, byteOf_toNat, byteOf_toNat, byteOf_toNat, e3, e2, e1, e0]
  simp [beNat]; omega
theorem drop_at {bs u v : List UInt8} {a : Nat} (h : bs.drop a = u ++ v) : bs.drop (a + u.length) = v := by
  rw [← List.drop_drop, h, List.drop_left]
theorem len_at {bs u : List UInt8} {a : Nat} (h : bs.drop a = u) (hu : 0 < u.length) : bs.length = a + u.length := by
  have := congrArg List.length h
  rw [List.length_drop] at this
  omega
theorem peek_at {bs u v : List UInt8} {a k : Nat} (h : bs.drop a = u ++ v) (hk : u.length = k) : peekN bs a k = beNat u := by
  unfold peekN; rw [h, ← hk, List.take_left]
theorem ranged_full {bs t : List UInt8} {a k : Nat} {n hi : Int} (hk : k = 1 ∨ k = 2 ∨ k = 4) (h : bs.drop a = beDown n k ++ t) (hn : beNat (beDown n k) = n) (h0 : 0 ≤ n) (h1 : n ≤ hi) : rangedM bs a bs.length (k : Nat) 0 hi = (n, .nil, a + k) := by
  have hl := len_at h (by simp [beDown_len]; omega)
  have hp := peek_at h (beDown_len n k)
  simp only [List.length_append, beDown_len] at hl
  unfold rangedM
  rw [if_neg (by omega), if_neg (by omega), show ((k : Nat) : Int).toNat = k by omega, hp, hn, if_neg (by omega)]
theorem ranged_cut {bs : List UInt8} {a k : Nat} {hi : Int} (hk : k = 1 ∨ k = 2 ∨ k = 4) (h : bs.length < a + k) : (rangedM bs a bs.length (k : Nat) 0 hi).2.1.code = 1 := by
  unfold rangedM
  rw [if_neg (by omega), if_pos (by omega)]; rfl
theorem one_full {bs t : List UInt8} {a : Nat} {o : OpM} (hf : fitsM o = true) (hab : a ≤ bs.length) (h : bs.drop a = encM o ++ t) : oneM bs a bs.length o = (0, true, a + (encM o).length) := by
  have ha := and1_in o.n
  have hs := bsize o.s
  unfold fitsM at hf
  by_cases k1 : o.kind = 1
  · rw [if_pos (.inl k1)] at hf; simp only [decide_eq_true_eq] at hf
    have e : encM o = beDown o.n 1 := by unfold encM; rw [if_pos k1]
    rw [e] at h ⊢
    have r := ranged_full (k := 1) (hi := 255) (.inl rfl) h (beNat_one _ (by omega) (by omega)) (by omega) (by omega)
    unfold oneM
    rw [if_pos k1, show (1 : Int) = ((1 : Nat) : Int) from rfl, r, beDown_len]
    simp [ErrM.code, ErrM.g?]
  by_cases k2 : o.kind = 2
  · rw [if_pos (.inr k2)] at hf; simp only [decide_eq_true_eq] at hf
    have e : encM o = beDown o.n 2 := by unfold encM; rw [if_neg k1, if_pos k2]
    rw [e] at h ⊢
    have r := ranged_full (k := 2) (hi := 65535) (.inr (.inl rfl)) h (beNat_two _ (by omega) (by omega)) (by omega) (by omega)
    unfold oneM
    rw [if_neg k1, if_pos k2, show (2 : Int) = ((2 : Nat) : Int) from rfl, r, beDown_len]
    simp [ErrM.code, ErrM.g?]
  rw [if_neg (by omega)] at hf
  by_cases k3 : o.kind = 3
  · rw [if_pos k3] at hf; simp only [decide_eq_true_eq] at hf
    have e : encM o = beDown o.n 4 := by unfold encM; rw [if_neg k1, if_neg k2, if_pos k3]
    rw [e] at h ⊢
    have r := ranged_full (k := 4) (hi := 4294967295) (.inr (.inr rfl)) h (beNat_four _ (by omega) (by omega)) (by omega) (by omega)
    unfold oneM
    rw [if_neg k1, if_neg k2, if_pos k3, show (4 : Int) = ((4 : Nat) : Int) from rfl, r, beDown_len]
    simp [ErrM.code, ErrM.g?]
  rw [if_neg k3] at hf
  by_cases k4 : o.kind = 4
  · have e : encM o = beDown (and1 o.n) 1 := by unfold encM; rw [if_neg k1, if_neg k2, if_neg k3, if_pos k4]
    rw [e] at h ⊢
    have r := ranged_full (k := 1) (hi := 1) (.inl rfl) h (beNat_one _ (by omega) (by omega)) (by omega) (by omega)
    unfold oneM flagM
    rw [if_neg k1, if_neg k2, if_neg k3, if_pos k4, show rangedM bs a bs.length 1 0 1 = _ from r, beDown_len]
    simp [ErrM.code, ErrM.g?]
  by_cases k5 : o.kind = 5
  · have e : encM o = o.s.data.toList := by unfold encM; rw [if_neg k1, if_neg k2, if_neg k3, if_neg k4, if_pos k5]
    rw [e] at h ⊢
    have hl : o.s.size + t.length ≤ bs.length - a := by
      have := congrArg List.length h
      rw [List.length_drop, List.length_append, hs] at this
      omega
    have r : rawM bs a bs.length o.s.size = (o.s.data.toList, .nil, a + o.s.size) := by
      unfold rawM
      · rw [if_neg (by omega), if_neg (by omega), h, show ((o.s.size : Nat) : Int).toNat = o.s.data.toList.length by omega, List.take_left]; rfl
    unfold oneM
    rw [if_neg k1, if_neg k2, if_neg k3, if_neg k4, if_pos k5, r, hs]
    simp [ErrM.code, ErrM.g?, strB_toList]
  by_cases k6 : o.kind = 6
  · rw [if_pos k6] at hf; simp only [decide_eq_true_eq] at hf
    have e : encM o = beDown o.s.size 2 ++ o.s.data.toList := by unfold encM; rw [if_neg k1, if_neg k2, if_neg k3, if_neg k4, if_neg k5, if_pos k6]
    rw [e] at h ⊢
    rw [List.append_assoc] at h
    have hl := len_at h (by simp [beDown_len]; omega)
    simp only [List.length_append, beDown_len, hs] at hl
    have hp := peek_at h (beDown_len _ 2)
    rw [beNat_two _ (by omega) (by omega)] at hp
    have hd := drop_at h
    rw [beDown_len] at hd
    have r : textM bs a bs.length 65535 = (o.s, .nil, a + (2 + o.s.size)) := by
      unfold textM
      rw [if_neg (by omega), hp, if_neg (by omega), if_neg (by omega), hd, show ((o.s.size : Nat) : Int).toNat = o.s.data.toList.length by omega, List.take_left, strB_toList, hs, Nat.add_assoc]
    unfold oneM
    rw [if_neg k1, if_neg k2, if_neg k3, if_neg k4, if_neg k5, if_pos k6, r, List.length_append, beDown_len, hs]
    simp [ErrM.code, ErrM.g?]
  · rw [if_neg k6] at hf
    have k7 : o.kind = 7 := by
      by_cases k7 : o.kind = 7
      · exact k7
      · rw [if_neg k7] at hf; simp [k4, k5] at hf
    rw [if_pos k7] at hf; simp only [decide_eq_true_eq] at hf
    have e : encM o = beDown o.n 1 ++ (beDown o.s.size 2 ++ o.s.data.toList) := by unfold encM; rw [if_neg k1, if_neg k2, if_neg k3, if_neg k4, if_neg k5, if_neg k6]
    rw [e] at h ⊢
    rw [List.append_assoc, List.append_assoc] at h
    have hl := len_at h (by simp [beDown_len]; omega)
    simp only [List.length_append, beDown_len, hs] at hl
    have hp1 := peek_at h (beDown_len _ 1)
    rw [beNat_one _ (by omega) (by omega)] at hp1
    have hd1 := drop_at h
    rw [beDown_len] at hd1
    have hp2 := peek_at hd1 (beDown_len _ 2)
    rw [beNat_two _ (by omega) (by omega)] at hp2
    have hd2 := drop_at hd1
    rw [beDown_len] at hd2
    have r : recordM bs a bs.length o.n = (some (a + 3, a + 3 + o.s.size), .nil, a + 3 + o.s.size) := by
      unfold recordM
      rw [if_neg (by omega), hp1, if_neg (by omega), hp2, if_neg (by omega), show ((o.s.size : Nat) : Int).toNat = o.s.size by omega]
    unfold oneM
    rw [if_neg k1, if_neg k2, if_neg k3, if_neg k4, if_neg k5, if_neg k6, r]
    dsimp only
    rw [show a + 3 = a + 1 + 2 from rfl, hd2, show a + 1 + 2 + o.s.size - (a + 1 + 2) = o.s.data.toList.length by omega, List.take_left, strB_toList]
    simp only [List.length_append, beDown_len, hs, decide_true]
    congr 2
    omega
theorem one_cut {bs : List UInt8} {a m : Nat} {o : OpM} (hf : fitsM o = true) (h : bs.drop a = (encM o).take m) (hm : m < (encM o).length) (hab : a ≤ bs.length) : (oneM bs a bs.length o).1 = 1 ∨ (oneM bs a bs.length o).1 = 5 := by
  have hs := bsize o.s
  have hl : bs.length = a + m := by
    have := congrArg List.length h
    rw [List.length_drop, List.length_take] at this
    omega
  unfold fitsM at hf
  by_cases k1 : o.kind = 1
  · have e : encM o = beDown o.n 1 := by unfold encM; rw [if_pos k1]
    rw [e, beDown_len] at hm
    unfold oneM
    rw [if_pos k1]
    exact .inl (ranged_cut (k := 1) (.inl rfl) (by omega))
  by_cases k2 : o.kind = 2
  · have e : encM o = beDown o.n 2 := by unfold encM; rw [if_neg k1, if_pos k2]
    rw [e, beDown_len] at hm
    unfold oneM
    rw [if_neg k1, if_pos k2]
    exact .inl (ranged_cut (k := 2) (.inr (.inl rfl)) (by omega))
  rw [if_neg (by omega)] at hf
  by_cases k3 : o.kind = 3
  · have e : encM o = beDown o.n 4 := by unfold encM; rw [if_neg k1, if_neg k2, if_pos k3]
    rw [e, beDown_len] at hm
    unfold oneM
    rw [if_neg k1, if_neg k2, if_pos k3]
    exact .inl (ranged_cut (k := 4) (.inr (.inr rfl)) (by omega))
  rw [if_neg k3] at hf
  by_cases k4 : o.kind = 4
  · have e : encM o = beDown (and1 o.n) 1 := by unfold encM; rw [if_neg k1, if_neg k2, if_neg k3, if_pos k4]
    rw [e, beDown_len] at hm
    unfold oneM flagM
    rw [if_neg k1, if_neg k2, if_neg k3, if_pos k4]
    exact .inl (ranged_cut (k := 1) (.inl rfl) (by omega))
  by_cases k5 : o.kind = 5
  · have e : encM o = o.s.data.toList := by unfold encM; rw [if_neg k1, if_neg k2, if_neg k3, if_neg k4, if_pos k5]
    rw [e, hs] at hm
    unfold oneM rawM
    rw [if_neg k1, if_neg k2, if_neg k3, if_neg k4, if_pos k5, if_neg (by omega), if_pos (by omega)]
    exact .inl rfl
  by_cases k6 : o.kind = 6
  · rw [if_pos k6] at hf; simp only [decide_eq_true_eq] at hf
    have e : encM o = beDown o.s.size 2 ++ o.s.data.toList := by unfold encM; rw [if_neg k1, if_neg k2, if_neg k3, if_neg k4, if_neg k5, if_pos k6]
    rw [e] at h hm
    simp only [List.length_append, beDown_len, hs] at hm
    unfold oneM
    rw [if_neg k1, if_neg k2, if_neg k3, if_neg k4, if_neg k5, if_pos k6]
    unfold textM
    by_cases h2 : m < 2
    · rw [if_pos (by omega)]; exact .inl rfl
    · rw [List.take_append, beDown_len, List.take_of_length_le (by rw [beDown_len]; omega)] at h
      have hp := peek_at h (beDown_len _ 2)
      rw [beNat_two _ (by omega) (by omega)] at hp
      rw [if_neg (by omega), hp, if_neg (by omega), if_pos (by omega)]
      exact .inl rfl
  · rw [if_neg k6] at hf
    have k7 : o.kind = 7 := by
      by_cases k7 : o.kind = 7
      · exact k7
      · rw [if_neg k7] at hf; simp [k4, k5] at hf
    rw [if_pos k7] at hf; simp only [decide_eq_true_eq] at hf
    have e : encM o = beDown o.n 1 ++ (beDown o.s.size 2 ++ o.s.data.toList) := by unfold encM; rw [if_neg k1, if_neg k2, if_neg k3, if_neg k4, if_neg k5, if_neg k6]
    rw [e] at h hm
    simp only [List.length_append, beDown_len, hs] at hm
    unfold oneM
    rw [if_neg k1, if_neg k2, if_neg k3, if_neg k4, if_neg k5, if_neg k6]
    by_cases h3 : m < 3
    · have r : recordM bs a bs.length o.n = (none, .pl a 1, a) := by
        unfold recordM
        rw [if_pos (by omega)]
      rw [r]; exact .inl rfl
    · rw [List.take_append, beDown_len, List.take_of_length_le (by rw [beDown_len]; omega), List.take_append, beDown_len, List.take_of_length_le (l := beDown _ 2) (by rw [beDown_len]; omega)] at h
      have hp1 := peek_at h (beDown_len _ 1)
      rw [beNat_one _ (by omega) (by omega)] at hp1
      have hd1 := drop_at h
      rw [beDown_len] at hd1
      have hp2 := peek_at hd1 (beDown_len _ 2)
      rw [beNat_two _ (by omega) (by omega)] at hp2
      have r : recordM bs a bs.length o.n = (none, .pl (a + 1 : Nat) 4, a) := by
        unfold recordM
        rw [if_neg (by omega), hp1, if_neg (by omega), hp2, if_pos (by omega)]
      rw [r]; exact .inr rfl
theorem reread_full {bs t : List UInt8} : ∀ {l : List OpM} {a : Nat}, a ≤ bs.length → bs.drop a = allM l ++ t → rereadM bs l a = (0, true, a + (allM l).length)
  | [], a, _, _ => rfl
  | o :: r, a, hab, h => by
    unfold rereadM
    rw [allM_cons] at h ⊢
    by_cases hf : fitsM o = true
    · rw [if_pos hf] at h ⊢
      rw [if_pos hf]
      rw [List.append_assoc] at h
      have h1 := one_full hf hab h
      have h3 := congrArg List.length h
      rw [List.length_drop, List.length_append] at h3
      rw [h1, if_neg (by simp), reread_full (by first | omega | (dsimp only; omega)) (drop_at h), List.length_append, Nat.add_assoc]
    · rw [if_neg hf] at h ⊢
      rw [if_neg hf]
      exact reread_full hab h
theorem reread_cut {bs : List UInt8} : ∀ {l : List OpM} {a m : Nat}, bs.drop a = (allM l).take m → m < (allM l).length → a ≤ bs.length → (rereadM bs l a).1 = 1 ∨ (rereadM bs l a).1 = 5
  | [], a, m, _, hm, _ => by simp [allM] at hm
  | o :: r, a, m, h, hm, ha => by
    unfold rereadM
    rw [allM_cons] at h hm
    by_cases hf : fitsM o = true
    · rw [if_pos hf] at h hm
      rw [if_pos hf]
      by_cases hl : m < (encM o).length
      · rw [List.take_append_of_le_length (by omega)] at h
        have h1 := one_cut hf h hl ha
        rw [if_pos (.inl (by omega))]
        exact h1
      · rw [List.take_append, List.take_of_length_le (by omega)] at h
        have h1 := one_full hf ha h
        have h2 := drop_at h
        have h3 := congrArg List.length h
        rw [List.length_drop, List.length_append] at h3
        rw [List.length_append] at hm
        rw [h1, if_neg (by simp)]
        exact reread_cut h2 (by omega) (by first | omega | (dsimp only; omega))
    · rw [if_neg hf] at h hm
      rw [if_neg hf]
      exact reread_cut h hm ha
end Go.Proofs.YtdglaodhmlocdaaDoor
