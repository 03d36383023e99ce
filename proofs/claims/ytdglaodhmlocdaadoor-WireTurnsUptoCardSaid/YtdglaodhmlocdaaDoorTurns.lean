/- There and back: the plain laws (written by wip/tools) -/
import Derived.Test.YtdglaodhmlocdaaDoorRecs
import Derived.Test.YtdglaodhmlocdaaDoorBack
set_option linter.unusedVariables false
set_option linter.unusedSimpArgs false
set_option maxRecDepth 10000
namespace Go.Proofs.YtdglaodhmlocdaaDoor
open Go Go.RowKit


/-- A record as it is written. -/
def encK (k : Int × List UInt8) : List UInt8 := beDown k.1 1 ++ (beDown k.2.length 2 ++ k.2)
def okK (k : Int × List UInt8) : Prop := 1 ≤ k.1 ∧ k.1 ≤ 255 ∧ k.2.length ≤ 65535
theorem record_nil {x : WM} {t : Int} {b : List UInt8} (h : (x.record t b).err = .nil) : x.err = .nil ∧ okK (t, b) ∧ x.record t b = ⟨x.buf ++ encK (t, b), .nil⟩ := by
  have sp : ∀ g, (x.spoil g).err ≠ .nil := fun g => by
    unfold WM.spoil
    split
    · intro h; cases h
    · assumption
  unfold WM.record at h ⊢
  by_cases h1 : t < 1 ∨ 255 < t
  · rw [if_pos h1] at h; exact absurd h (sp _)
  rw [if_neg h1] at h ⊢
  by_cases h2 : 65535 < b.length
  · rw [if_pos h2] at h; exact absurd h (sp _)
  rw [if_neg h2] at h ⊢
  have hx : x.err = .nil := by
    by_cases hx : x.err = .nil
    · exact hx
    · exfalso
      have m1 : mostW 1 = 255 := rfl
      have m2 : mostW 2 = 65535 := rfl
      have e1 : x.num t 1 = x := by unfold WM.num; rw [if_neg (by omega)]; unfold WM.put; rw [if_neg hx]
      rw [e1] at h
      have e2 : x.num b.length 2 = x := by unfold WM.num; rw [if_neg (by omega)]; unfold WM.put; rw [if_neg hx]
      rw [e2] at h
      unfold WM.put at h; rw [if_neg hx] at h; exact hx h
  refine ⟨hx, ⟨by simp only; omega, by simp only; omega, by simp only; omega⟩, ?_⟩
  obtain ⟨buf, err⟩ := x
  simp only at hx
  subst hx
  have m1 : mostW 1 = 255 := rfl
  have m2 : mostW 2 = 65535 := rfl
  rw [num_fit (by omega) (by omega), num_fit (by omega) (by omega)]
  simp [WM.put, encK]
theorem join_nil : ∀ {ks : List (Int × List UInt8)} {x : WM}, (ks.foldl (fun x k => x.record k.1 k.2) x).err = .nil → x.err = .nil ∧ (∀ k ∈ ks, okK k) ∧ ks.foldl (fun x k => x.record k.1 k.2) x = ⟨x.buf ++ ks.flatMap encK, .nil⟩
  | [], x, h => ⟨h, fun k hk => (by cases hk), by cases x; simp at h ⊢; exact h⟩
  | k :: ks, x, h => by
    rw [List.foldl_cons] at h ⊢
    obtain ⟨h1, h2, h3⟩ := join_nil h
    obtain ⟨g1, g2, g3⟩ := record_nil h1
    refine ⟨g1, fun y hy => ?_, ?_⟩
    · rcases List.mem_cons.1 hy with rfl | hy
      · exact g2
      · exact h2 y hy
    · rw [h3, g3]; simp
theorem join_ok : ∀ {ks : List (Int × List UInt8)} {b : List UInt8}, (∀ k ∈ ks, okK k) → ks.foldl (fun x k => x.record k.1 k.2) (⟨b, .nil⟩ : WM) = ⟨b ++ ks.flatMap encK, .nil⟩
  | [], b, _ => by simp
  | k :: ks, b, h => by
    have hk := h k List.mem_cons_self
    have m1 : mostW 1 = 255 := rfl
    have m2 : mostW 2 = 65535 := rfl
    obtain ⟨k1, k2, k3⟩ := hk
    have e : (⟨b, .nil⟩ : WM).record k.1 k.2 = ⟨b ++ encK k, .nil⟩ := by
      unfold WM.record
      rw [if_neg (by omega), if_neg (by omega), num_fit (by omega) (by omega), num_fit (by omega) (by omega)]
      simp [WM.put, encK]
    rw [List.foldl_cons, e, join_ok fun y hy => h y (List.mem_cons_of_mem _ hy)]
    simp
theorem next_full {bs t : List UInt8} {a : Nat} {k : Int × List UInt8} (hk : okK k) (h : bs.drop a = encK k ++ t) : nextM bs a bs.length = (k.1, some (a + 3, a + 3 + k.2.length), .nil, a + 3 + k.2.length) ∧ recordM bs a bs.length k.1 = (some (a + 3, a + 3 + k.2.length), .nil, a + 3 + k.2.length) ∧ (bs.drop (a + 3)).take k.2.length = k.2 ∧ bs.drop (a + 3 + k.2.length) = t ∧ a + 3 + k.2.length ≤ bs.length := by
  obtain ⟨k1, k2, k3⟩ := hk
  unfold encK at h
  rw [List.append_assoc, List.append_assoc] at h
  have hl := len_at h (by simp [beDown_len]; omega)
  simp only [List.length_append, beDown_len] at hl
  have hp1 := peek_at h (beDown_len _ 1)
  rw [beNat_one _ (by omega) (by omega)] at hp1
  have hd1 := drop_at h
  rw [beDown_len] at hd1
  have hp2 := peek_at hd1 (beDown_len _ 2)
  rw [beNat_two _ (by omega) (by omega)] at hp2
  have hd2 := drop_at hd1
  rw [beDown_len] at hd2
  have hd3 := drop_at hd2
  refine ⟨?_, ?_, ?_, hd3, by omega⟩
  · unfold nextM
    rw [if_neg (by omega), hp1, if_neg (by omega), hp2, if_neg (by omega), show ((k.2.length : Nat) : Int).toNat = k.2.length by omega]
  · unfold recordM
    rw [if_neg (by omega), hp1, if_neg (by omega), hp2, if_neg (by omega), show ((k.2.length : Nat) : Int).toNat = k.2.length by omega]
  · rw [show a + 3 = a + 1 + 2 from rfl, hd2, List.take_left]
theorem split_full {bs : List UInt8} : ∀ {ks : List (Int × List UInt8)} {a f : Nat} {acc : List (Int × List UInt8)}, (∀ k ∈ ks, okK k) → bs.drop a = ks.flatMap encK → a ≤ bs.length → bs.length - a < f → splitF bs f a acc = (acc ++ ks, .nil)
  | [], a, f, acc, _, h, ha, hf => by
    obtain ⟨f, rfl⟩ : ∃ g, f = g + 1 := ⟨f - 1, by omega⟩
    have := congrArg List.length h
    simp at this
    rw [splitF, if_pos (by omega), List.append_nil]
  | k :: ks, a, f, acc, hk, h, ha, hf => by
    obtain ⟨f, rfl⟩ : ∃ g, f = g + 1 := ⟨f - 1, by omega⟩
    rw [List.flatMap_cons] at h
    obtain ⟨h1, _, h3, h4, h5⟩ := next_full (hk k List.mem_cons_self) h
    rw [splitF, if_neg (by omega), h1]
    dsimp only
    rw [show a + 3 + k.2.length - (a + 3) = k.2.length by omega, h3, split_full (fun y hy => hk y (List.mem_cons_of_mem _ hy)) h4 h5 (by omega)]
    simp
theorem exp_full {bs : List UInt8} : ∀ {ks : List (Int × List UInt8)} {a : Nat} {acc : List (List UInt8)}, (∀ k ∈ ks, okK k) → bs.drop a = ks.flatMap encK → a ≤ bs.length → expF bs (ks.map (·.1)) a acc = (acc ++ ks.map (·.2), .nil)
  | [], a, acc, _, h, ha => by
    have := congrArg List.length h
    simp at this
    have he : endM a bs.length = .nil := by unfold endM; rw [if_neg (by omega)]
    rw [List.map_nil, expF, if_pos he]; simp
  | k :: ks, a, acc, hk, h, ha => by
    rw [List.flatMap_cons] at h
    obtain ⟨_, h1, h3, h4, h5⟩ := next_full (hk k List.mem_cons_self) h
    rw [List.map_cons, expF, h1]
    dsimp only
    rw [show a + 3 + k.2.length - (a + 3) = k.2.length by omega, h3, exp_full (fun y hy => hk y (List.mem_cons_of_mem _ hy)) h4 h5]
    simp
theorem be_one (x : UInt8) : beDown (x.toNat : Int) 1 = [x] := by
  have e : (x.toNat : Int).fdiv (2 ^ (8 * 0)) = x.toNat := by simp
  simp only [beDown, e, byteOf_self]
theorem be_two (x y : UInt8) : beDown ((x.toNat : Int) * 256 + y.toNat) 2 = [x, y] := by
  have hx := x.toNat_lt
  have hy := y.toNat_lt
  have e1 : ((x.toNat : Int) * 256 + y.toNat).fdiv (2 ^ (8 * 1)) = x.toNat := by rw [fdiv_pow _ _ 256 (by decide) (by decide)]; omega
  have e0 : ((x.toNat : Int) * 256 + y.toNat).fdiv (2 ^ (8 * 0)) = (x.toNat : Int) * 256 + y.toNat := by simp
  have hb : byteOf ((x.toNat : Int) * 256 + y.toNat) = y := by
    apply UInt8.toNat_inj.1
    have := byteOf_toNat ((x.toNat : Int) * 256 + y.toNat)
    omega
  simp only [beDown, e1, e0, byteOf_self, hb]
theorem take_back {bs : List UInt8} {a : Nat} (h : a + 3 ≤ bs.length) : bs.drop a = beDown (peekN bs a 1) 1 ++ (beDown (peekN bs (a + 1) 2) 2 ++ bs.drop (a + 3)) := by
  obtain ⟨x, hx⟩ : ∃ x, bs[a]? = some x := ⟨_, List.getElem?_eq_getElem (by omega)⟩
  obtain ⟨y, hy⟩ : ∃ x, bs[a + 1]? = some x := ⟨_, List.getElem?_eq_getElem (by omega)⟩
  obtain ⟨z, hz⟩ : ∃ x, bs[a + 2]? = some x := ⟨_, List.getElem?_eq_getElem (by omega)⟩
  have d1 := drop_cons hx
  have d2 := drop_cons hy
  have d3 := drop_cons hz
  have p1 : peekN bs a 1 = x.toNat := by unfold peekN; rw [d1]; simp [beNat]
  have p2 : peekN bs (a + 1) 2 = (y.toNat : Int) * 256 + z.toNat := by unfold peekN; rw [d2, d3]; simp [beNat]
  rw [p1, p2, be_one, be_two, d1, d2, d3]; rfl
theorem split_back {bs : List UInt8} : ∀ {f a : Nat} {acc ks : List (Int × List UInt8)}, splitF bs f a acc = (ks, .nil) → a ≤ bs.length → bs.length - a < f → ∃ l, ks = acc ++ l ∧ (∀ k ∈ l, okK k) ∧ bs.drop a = l.flatMap encK
  | 0, a, acc, ks, _, _, hf => by omega
  | f + 1, a, acc, ks, h, ha, hf => by
    rw [splitF] at h
    by_cases hl : bs.length ≤ a
    · rw [if_pos hl] at h
      cases h
      exact ⟨[], by simp, fun k hk => (by cases hk), by rw [List.drop_eq_nil_of_le hl]; rfl⟩
    rw [if_neg hl] at h
    rcases nextM_form ha (Nat.le_refl bs.length) with ⟨hn, he⟩ | ⟨x, hx, he, hp, h1, h2, h3⟩
    · rw [hn] at h
      simp only [Prod.mk.injEq] at h
      exact absurd h.2 he
    · rw [hx] at h
      simp only [hp] at h
      obtain ⟨l, e1, e2, e3⟩ := split_back h h2 (by omega)
      unfold nextM at hx hp
      by_cases g1 : (bs.length : Int) - a < 3
      · rw [if_pos g1] at hx; cases hx
      by_cases g2 : peekN bs a 1 = 0
      · rw [if_neg g1, if_pos g2] at hx; cases hx
      by_cases g3 : (bs.length : Int) - a - 3 < peekN bs (a + 1) 2
      · rw [if_neg g1, if_neg g2, if_pos g3] at hx; cases hx
      rw [if_neg g1, if_neg g2, if_neg g3] at hx
      have q1 := peekN_lt (bs := bs) (a := a) (k := 1) (by omega)
      have q2 := peekN_lt (bs := bs) (a := a + 1) (k := 2) (by omega)
      cases hx
      have e4 : (nextM bs a bs.length).1 = peekN bs a 1 := by unfold nextM; rw [if_neg g1, if_neg g2, if_neg g3]
      rw [e4] at e1
      dsimp only at e1 e3 h2 h3
      rw [show a + 3 + (peekN bs (a + 1) 2).toNat - (a + 3) = (peekN bs (a + 1) 2).toNat by omega] at e1
      have hbl : ((bs.drop (a + 3)).take (peekN bs (a + 1) 2).toNat).length = (peekN bs (a + 1) 2).toNat := by simp; omega
      refine ⟨(peekN bs a 1, (bs.drop (a + 3)).take (peekN bs (a + 1) 2).toNat) :: l, by rw [e1]; simp, fun k hk => ?_, ?_⟩
      · rcases List.mem_cons.1 hk with rfl | hk
        · exact ⟨by dsimp only; omega, by dsimp only; omega, by dsimp only; rw [hbl]; omega⟩
        · exact e2 k hk
      · rw [List.flatMap_cons, encK, hbl, show (((peekN bs (a + 1) 2).toNat : Nat) : Int) = peekN bs (a + 1) 2 by omega, List.append_assoc, List.append_assoc, ← e3, show bs.drop (a + 3 + (peekN bs (a + 1) 2).toNat) = (bs.drop (a + 3)).drop (peekN bs (a + 1) 2).toNat by rw [List.drop_drop]]
        dsimp only
        rw [List.take_append_drop]
        exact take_back (by omega)
theorem hexD_inv : ∀ n : Fin 256, 0 ≤ digitM (UInt8.ofNat n.val) → hexD (digitM (UInt8.ofNat n.val)).toNat = UInt8.ofNat n.val := by decide +kernel
theorem digit_inv {b : UInt8} (h : 0 ≤ digitM b) : hexD (digitM b).toNat = b := by
  have := hexD_inv ⟨b.toNat, b.toNat_lt⟩
  simp only [UInt8.ofNat_toNat] at this
  exact this h
theorem hexM_digits : ∀ (bs : List UInt8), ∀ y ∈ hexM bs, 0 ≤ digitM y
  | [], y, hy => by simp [hexM] at hy
  | b :: bs, y, hy => by
    have hb := b.toNat_lt
    have e : hexM (b :: bs) = hexD (b.toNat / 16) :: hexD (b.toNat % 16) :: hexM bs := by simp [hexM]
    rw [e] at hy
    rcases List.mem_cons.1 hy with rfl | hy
    · rw [digit_some (by omega)]; omega
    rcases List.mem_cons.1 hy with rfl | hy
    · rw [digit_some (by omega)]; omega
    · exact hexM_digits bs y hy
theorem pairs_hex : ∀ (bs : List UInt8), pairsM (hexM bs) = bs
  | [] => rfl
  | b :: bs => by
    have hb := b.toNat_lt
    have e : hexM (b :: bs) = hexD (b.toNat / 16) :: hexD (b.toNat % 16) :: hexM bs := by simp [hexM]
    rw [e, pairsM, pairs_hex bs, digit_some (by omega), digit_some (by omega), show (((b.toNat / 16 : Nat) : Int) * 16 + ((b.toNat % 16 : Nat) : Int)) = (b.toNat : Int) by omega, byteOf_self]
theorem unhex_hex (bs : List UInt8) : unhexM (hexM bs) = (bs, .nil) := by
  have hn := badM_no (l := hexM bs) fun j y _ hy => hexM_digits bs y (List.mem_of_getElem? hy)
  unfold unhexM
  rw [if_neg hn, hexM_len, if_neg (by omega), pairs_hex]
theorem hex_pairs : ∀ (n : Nat) (l : List UInt8), l.length = 2 * n → (∀ y ∈ l, 0 ≤ digitM y) → hexM (pairsM l) = l
  | 0, l, h, _ => by rw [List.eq_nil_of_length_eq_zero h]; rfl
  | n + 1, [], h, _ => by simp at h
  | n + 1, [x], h, _ => by simp at h; omega
  | n + 1, x :: y :: l, h, hd => by
    have hx := hd x (by simp)
    have hy := hd y (by simp)
    have lx := digit_lt x
    have ly := digit_lt y
    have ih := hex_pairs n l (by simp at h; omega) fun z hz => hd z (by simp [hz])
    have hb := byteOf_toNat (digitM x * 16 + digitM y)
    have e : hexM (pairsM (x :: y :: l)) = hexD ((byteOf (digitM x * 16 + digitM y)).toNat / 16) :: hexD ((byteOf (digitM x * 16 + digitM y)).toNat % 16) :: hexM (pairsM l) := by simp [pairsM, hexM]
    rw [e, ih, show (byteOf (digitM x * 16 + digitM y)).toNat / 16 = (digitM x).toNat by omega, show (byteOf (digitM x * 16 + digitM y)).toNat % 16 = (digitM y).toNat by omega, digit_inv hx, digit_inv hy]
theorem unhex_back {l c : List UInt8} (h : unhexM l = (c, .nil)) : hexM c = l := by
  unfold unhexM at h
  by_cases h1 : badM l < l.length
  · rw [if_pos h1] at h; cases h
  rw [if_neg h1] at h
  by_cases h2 : l.length % 2 = 1
  · rw [if_pos h2] at h; cases h
  rw [if_neg h2] at h
  cases h
  refine hex_pairs (l.length / 2) l (by omega) fun y hy => ?_
  by_cases hn : 0 ≤ digitM y
  · exact hn
  · exact absurd (List.findIdx_lt_length_of_exists ⟨y, hy, by simp; omega⟩) h1
theorem enc_len (ks : List (Int × List UInt8)) : (ks.flatMap encK).length = (ks.map fun k => k.2.length + 3).sum := by
  induction ks with
  | nil => rfl
  | cons k r ih => simp [encK, beDown_len, ih]; omega
theorem bulkR_key (xs : List RecM) : bulkR xs = ((xs.map RecM.key).map fun k => k.2.length + 3).sum := by simp [bulkR, RecM.key, Function.comp_def]
end Go.Proofs.YtdglaodhmlocdaaDoor
