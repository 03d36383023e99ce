/- WireMemory (written by wip/tools) -/
import Derived.Test.YtnhjohcgnmogaaaDoorWApart
set_option linter.unusedVariables false
set_option linter.unusedSimpArgs false
set_option maxRecDepth 10000
namespace Go.Proofs.YtnhjohcgnmogaaaDoor
open Go Go.RowKit
theorem ag24 : aggB Tryd.prog 24 = some false := by kernel_rfl
theorem ag26 : aggB Tryd.prog 26 = some true := by kernel_rfl
theorem el3 : ElemOk Tryd.prog 3 1 8 [.int .i64 0] := ⟨by kernel_rfl, by kernel_rfl, by kernel_rfl, rfl, by decide⟩
theorem en10 : entersB Tryd.prog 10 = true := by kernel_rfl
theorem en11 : entersB Tryd.prog 11 = true := by kernel_rfl
theorem en12 : entersB Tryd.prog 12 = true := by kernel_rfl
theorem en13 : entersB Tryd.prog 13 = true := by kernel_rfl
theorem en14 : entersB Tryd.prog 14 = true := by kernel_rfl
theorem en15 : entersB Tryd.prog 15 = true := by kernel_rfl
theorem en16 : entersB Tryd.prog 16 = true := by kernel_rfl
theorem en17 : entersB Tryd.prog 17 = true := by kernel_rfl
theorem en18 : entersB Tryd.prog 18 = true := by kernel_rfl
theorem en20 : entersB Tryd.prog 20 = true := by kernel_rfl
theorem en21 : entersB Tryd.prog 21 = true := by kernel_rfl
theorem en7 : entersB Tryd.prog 7 = true := by kernel_rfl
theorem en8 : entersB Tryd.prog 8 = true := by kernel_rfl
theorem en9 : entersB Tryd.prog 9 = true := by kernel_rfl
theorem fo26_0 : fOff Tryd.prog 26 0 = some 0 := by kernel_rfl
theorem fo26_1 : fOff Tryd.prog 26 1 = some 1 := by kernel_rfl
theorem fo26_2 : fOff Tryd.prog 26 2 = some 2 := by kernel_rfl
theorem sz24 : sizeB Tryd.prog 24 = some 1 := by kernel_rfl
theorem sz26 : sizeB Tryd.prog 26 = some 4 := by kernel_rfl
theorem ze3 : zeroB Tryd.prog 3 = some [.int .i64 0] := by kernel_rfl

theorem hexD_inv : ∀ n : Fin 256, 0 ≤ digitM (UInt8.ofNat n.val) → hexD (digitM (UInt8.ofNat n.val)).toNat = UInt8.ofNat n.val := by decide +kernel
theorem digit_inv {b : UInt8} (h : 0 ≤ digitM b) : hexD (digitM b).toNat = b := by
  have := hexD_inv ⟨b.toNat, b.toNat_lt⟩
  simp only [UInt8.ofNat_toNat] at this
  exact this h
theorem hexM_digits : ∀ (bs : List UInt8), ∀ y ∈ hexM bs, 0 ≤ digitM y
  | [], y, hy => by simp [hexM] at hy
  | b :: bs, y, hy => by
    have hb := b.toNat_lt
    have e : hexM (b :: bs) = hexD (b.toNat / 16) :: hexD (b.toNat % 16) :: hexM bs := by simp [hexM]
    rw [e] at hy
    rcases List.mem_cons.1 hy with rfl | hy
    · rw [digit_some (by omega)]; omega
    rcases List.mem_cons.1 hy with rfl | hy
    · rw [digit_some (by omega)]; omega
    · exact hexM_digits bs y hy
theorem pairs_hex : ∀ (bs : List UInt8), pairsM (hexM bs) = bs
  | [] => rfl
  | b :: bs => by
    have hb := b.toNat_lt
    have e : hexM (b :: bs) = hexD (b.toNat / 16) :: hexD (b.toNat % 16) :: hexM bs := by simp [hexM]
    rw [e, pairsM, pairs_hex bs, digit_some (by omega), digit_some (by omega), show (((b.toNat / 16 : Nat) : Int) * 16 + ((b.toNat % 16 : Nat) : Int)) = (b.toNat : Int) by omega, byteOf_self]
theorem unhex_hex (bs : List UInt8) : unhexM (hexM bs) = (bs, .nil) := by
  have hn := badM_no (l := hexM bs) fun j y _ hy => hexM_digits bs y (List.mem_of_getElem? hy)
  unfold unhexM
  rw [if_neg hn, hexM_len, if_neg (by omega), pairs_hex]
theorem hex_pairs : ∀ (n : Nat) (l : List UInt8), l.length = 2 * n → (∀ y ∈ l, 0 ≤ digitM y) → hexM (pairsM l) = l
  | 0, l, h, _ => by rw [List.eq_nil_of_length_eq_zero h]; rfl
  | n + 1, [], h, _ => by simp at h
  | n + 1, [x], h, _ => by simp at h; omega
  | n + 1, x :: y :: l, h, hd => by
    have hx := hd x (by simp)
    have hy := hd y (by simp)
    have lx := digit_lt x
    have ly := digit_lt y
    have ih := hex_pairs n l (by simp at h; omega) fun z hz => hd z (by simp [hz])
    have hb := byteOf_toNat (digitM x * 16 + digitM y)
    have e : hexM (pairsM (x :: y :: l)) = hexD ((byteOf (digitM x * 16 + digitM y)).toNat / 16) :: hexD ((byteOf (digitM x * 16 + digitM y)).toNat % 16) :: hexM (pairsM l) := by simp [pairsM, hexM]
    rw [e, ih, show (byteOf (digitM x * 16 + digitM y)).toNat / 16 = (digitM x).toNat by omega, show (byteOf (digitM x * 16 + digitM y)).toNat % 16 = (digitM y).toNat by omega, digit_inv hx, digit_inv hy]
theorem unhex_back {l c : List UInt8} (h : unhexM l = (c, .nil)) : hexM c = l := by
  unfold unhexM at h
  by_cases h1 : badM l < l.length
  · rw [if_pos h1] at h; cases h
  rw [if_neg h1] at h
  by_cases h2 : l.length % 2 = 1
  · rw [if_pos h2] at h; cases h
  rw [if_neg h2] at h
  cases h
  refine hex_pairs (l.length / 2) l (by omega) fun y hy => ?_
  by_cases hn : 0 ≤ digitM y
  · exact hn
  · exact absurd (List.findIdx_lt_length_of_exists ⟨y, hy, by simp; omega⟩) h1
theorem bulkR_key (xs : List RecM) : bulkR xs = ((xs.map RecM.key).map fun k => k.2.length + 3).sum := by simp [bulkR, RecM.key, Function.comp_def]
section
variable {fp : Nat → Prop} {w0 w : World} {rs : List Rs}
theorem St.bodyAdd {n : Nat} {xs : List RecM} {r : RecM} (h : St fp w0 w (ownR 5 1 r.q n (r.body.flatMap eB) :: starR (xs.map bodyR) :: rs)) (hn : n = r.body.length) : St fp w0 w (starR ((xs ++ [r]).map bodyR) :: rs) := by
  subst hn; exact St.starAdd (f := bodyR) (c := r) h
theorem St.starApp {α : Type} {f : α → Rs} {xs ys : List α} (h : St fp w0 w (starR (ys.map f) :: starR (xs.map f) :: rs)) : St fp w0 w (starR ((xs ++ ys).map f) :: rs) := by
  have h1 := h.star
  have h2 : St fp w0 w (starR (xs.map f) :: (ys.map f ++ rs)) := h1.perm List.perm_middle
  have h3 := h2.star
  rw [List.map_append]
  exact St.fold _ (by rw [List.append_assoc]; exact h3)
theorem St.starRecs {i : Nat} {ys : List RecM} (h : St fp w0 w rs) (hi : rs[i]? = some (starR (ys.map bodyR))) : RecsIn w ys := fun r hr => by
  obtain ⟨j, hj⟩ := List.mem_iff_getElem?.1 hr
  have h1 := (h.pick i hi).starAt hj
  exact (h1.own 0 rfl).slB rfl
theorem recsOne {ys : List RecM} (h : RecsIn w ys) : ∀ u ∈ ys.flatMap eBod, u.oneCell' = true := fun u hu => by
  obtain ⟨r, hr, hu⟩ := List.mem_flatMap.1 hu
  simp only [eBod, List.mem_singleton] at hu
  subst hu
  exact (h r hr).one
end
theorem Own.preB {w : World} {E cap n : Nat} {A : Option Addr} {xs ys : List UInt8} (h : Own w E 1 (.slice A n cap) n ((xs ++ ys).flatMap eB)) (hn : n = (xs ++ ys).length) : SlR w 1 (Flat eB) (.slice A xs.length cap) xs := by
  have := (h.slB hn).take xs.length (by rw [hn]; simp)
  rwa [List.take_left] at this
theorem Own.preI {w : World} {E cap n : Nat} {A : Option Addr} {xs ys : List Int} (h : Own w E 1 (.slice A n cap) n ((xs ++ ys).flatMap eI)) (hn : n = (xs ++ ys).length) : SlR w 1 (Flat eI) (.slice A xs.length cap) xs := by
  have := ((h.slr hn (fun _ _ => rfl) : SlR _ 1 (Flat eI) _ _).take xs.length (by rw [hn]; simp))
  rwa [List.take_left] at this
theorem at_app {α : Type} (xs : List α) (a : α) (l : List α) : (xs ++ a :: l)[xs.length]? = some a := by simp
theorem at_app1 {α : Type} (xs : List α) (a b : α) (l : List α) : (xs ++ a :: b :: l)[xs.length + 1]? = some b := by simp
theorem eB_set2 {us m : List UInt8} {j : Nat} (hj : j < us.length) (b : UInt8) : ((us ++ m).flatMap eB).set (j * 1) (.int .u8 (b.toNat : Int)) = (us.set j b ++ m).flatMap eB := by
  rw [eB_set (by simp; omega), List.set_append_left _ _ hj]
/-- Bodies of no more than so many bytes. -/
def Small (l : List RecM) : Prop := ∀ r ∈ l, r.body.length ≤ 1099511627776
theorem Small.nil : Small [] := fun r h => by cases h
theorem Small.app {a b : List RecM} (h : Small a) (k : Small b) : Small (a ++ b) := fun r hr => (List.mem_append.1 hr).elim (h r) (k r)
theorem Small.two {a b : RecM} (h : a.body.length ≤ 1099511627776) (k : b.body.length ≤ 1099511627776) {l : List RecM} (hl : Small l) : Small (l ++ [a] ++ [b]) := (hl.app fun r hr => by rw [List.mem_singleton.1 hr]; exact h).app fun r hr => by rw [List.mem_singleton.1 hr]; exact k
theorem splitF_small {bs : List UInt8} : ∀ (f a : Nat) (acc : List (Int × List UInt8)), (∀ k ∈ acc, k.2.length ≤ bs.length) → (splitF bs f a acc).1.length ≤ acc.length + f ∧ ∀ k ∈ (splitF bs f a acc).1, k.2.length ≤ bs.length
  | 0, a, acc, h => ⟨Nat.le_refl _, h⟩
  | f + 1, a, acc, h => by
    unfold splitF
    split
    · exact ⟨by dsimp only; omega, h⟩
    · split
      · exact ⟨by simp, fun k hk => by cases hk⟩
      · next x _ =>
        have := splitF_small f (nextM bs a bs.length).2.2.2 (acc ++ [((nextM bs a bs.length).1, (bs.drop x.1).take (x.2 - x.1))]) (fun k hk => by
          rcases List.mem_append.1 hk with hk | hk
          · exact h k hk
          · rw [List.mem_singleton.1 hk]; simp only [List.length_take, List.length_drop]; omega)
        exact ⟨Nat.le_trans this.1 (by simp; omega), this.2⟩
theorem split_small (bs : List UInt8) (h : bs.length ≤ 1048576) {zs : List RecM} (hz : zs.map RecM.key = (splitM bs).1) : zs.length ≤ 1048577 ∧ Small zs := by
  have := splitF_small (bs := bs) (bs.length + 1) 0 [] (fun k hk => by cases hk)
  rw [show splitF bs (bs.length + 1) 0 [] = splitM bs from rfl, ← hz] at this
  refine ⟨by have := this.1; simp at this; omega, fun r hr => ?_⟩
  have := this.2 r.key (List.mem_map_of_mem hr)
  simp only [RecM.key] at this
  omega
theorem expF_small {bs : List UInt8} : ∀ (ts : List Int) (a : Nat) (acc : List (List UInt8)), (∀ k ∈ acc, k.length ≤ bs.length) → (expF bs ts a acc).1.length ≤ acc.length + ts.length ∧ ∀ k ∈ (expF bs ts a acc).1, k.length ≤ bs.length
  | [], a, acc, h => by
    unfold expF
    split
    · exact ⟨by simp, h⟩
    · exact ⟨by simp, fun k hk => by cases hk⟩
  | t :: ts, a, acc, h => by
    unfold expF
    split
    · exact ⟨by simp, fun k hk => by cases hk⟩
    · next x _ =>
      have := expF_small ts (recordM bs a bs.length t).2.2 (acc ++ [(bs.drop x.1).take (x.2 - x.1)]) (fun k hk => by
        rcases List.mem_append.1 hk with hk | hk
        · exact h k hk
        · rw [List.mem_singleton.1 hk]; simp only [List.length_take, List.length_drop]; omega)
      exact ⟨Nat.le_trans this.1 (by simp; omega), this.2⟩
theorem exp_small {bs : List UInt8} {ts : List Int} (h : bs.length ≤ 1048576) (ht : ts.length ≤ 1048576) {zs : List RecM} (hz : zs.map RecM.body = (expM bs ts).1) : zs.length ≤ 1048576 ∧ Small zs := by
  have := expF_small (bs := bs) ts 0 [] (fun k hk => by cases hk)
  rw [show expF bs ts 0 [] = expM bs ts from rfl, ← hz] at this
  refine ⟨by have := this.1; simp at this; omega, fun r hr => ?_⟩
  have := this.2 r.body (List.mem_map_of_mem hr)
  omega
theorem join_small {xs : List RecM} (h : bulkR xs ≤ 16777216) : (joinM (xs.map RecM.key)).out.length ≤ 1099511627776 := by
  have h1 : ∀ i, i ≤ xs.length → (joinM ((xs.take i).map RecM.key)).buf.length ≤ bulkR (xs.take i) := by
    intro i
    induction i with
    | zero => intro _; simp [joinM]
    | succ i ih =>
      intro hi
      obtain ⟨r, hx⟩ : ∃ r, xs[i]? = some r := ⟨_, List.getElem?_eq_getElem (by omega)⟩
      have := ih (by omega)
      have h2 := record_len (joinM ((xs.take i).map RecM.key)) r.tag r.body
      rw [joinM_snoc hx, bulkR_snoc hx]
      omega
  have h2 := h1 xs.length (Nat.le_refl _)
  rw [List.take_length] at h2
  have h3 : ∀ x : WM, x.out.length ≤ x.buf.length := fun x => by unfold WM.out; split <;> simp
  have := h3 (joinM (xs.map RecM.key))
  omega
set_option maxHeartbeats 2000000 in
theorem split_o {w : World} {A : Nat → Addr} {v : Value} {bs : List UInt8} (hG : EV A w) (hb : ∀ w', Ext w w' → SlR w' 1 (Flat eB) v bs) (hz : bs.length ≤ 16777216) : Calls Tryd.prog 13 [v].toArray w (Ret fun r w' => ∃ vo e, ∃ ys : List RecM, ∃ n er, n = ys.length ∧ (ys.map RecM.key, er) = splitM bs ∧ r = .tuple #[vo, e] ∧ St NB w w' [ownR 54 2 vo n (ys.flatMap eRec), starR (ys.map bodyR), erR A e er]) := by
  have hS := St.begin NB w
  obtain ⟨A9, c9, hv9, _⟩ := (hb w Ext.rfl').form
  subst hv9
  refine enter Tryd.func13 rfl rfl rfl ?_
  intro a H
  dsimp only [enumL, Nat.zero_add, Nat.reduceAdd] at H
  refine wp_seq ?_
  refine wp_region_lit ?_
  refine n_q H (q_assign rfl) rfl ?_
  clear H a; intro a H
  refine n_q H (q_assign rfl) rfl ?_
  clear H a; intro a H
  refine n_nil ?_
  refine then_normal ?_
  refine wp_seq ?_
  refine wp_region_lit ?_
  refine n_q H (q_assign rfl) rfl ?_
  clear H a; intro a H
  refine n_nil ?_
  refine then_normal ?_
  refine wp_seq ?_
  refine wp_seq ?_
  refine wp_region_lit ?_
  refine n_q H (q_move rfl) rfl ?_
  clear H a; intro a H
  refine n_call H rfl en37 (open_w (bs := bs) (fun w' e => hb w' (hS.x.trans e)) (by omega)) rfl ?_
  clear H a; intro v3 w1 hv a H
  obtain ⟨q1, v2, n2, rfl, hn2, hE2⟩ := hv
  replace hS := hS.new hE2
  simp only [List.cons_append, List.nil_append] at hS
  refine n_q H (q_assign rfl) rfl ?_
  clear H a; intro a H
  refine n_nil ?_
  refine then_normal ?_
  refine wp_block ?_
  replace hS := hS.starNil bodyR
  replace hS := hS.nilOwn 54 2
  replace hS := hS.pick 1 rfl
  dsimp only [List.eraseIdx] at hS
  replace hS := hS.pick 1 rfl
  dsimp only [List.eraseIdx] at hS
  replace hS := hS.pick 3 rfl
  dsimp only [List.eraseIdx] at hS
  replace hS := hS.pick 3 rfl
  dsimp only [List.eraseIdx] at hS
  refine c_loop (σ := Nat × Value × List RecM) (fun (ca, vb, ys) => [(4, vb), (5, .pointer (some ⟨q1, 0, none⟩))]) (fun (ca, vb, ys) wl => (ca ≤ bs.length ∧ ys.length ≤ ca ∧ ∃ f, bs.length - ca < f ∧ splitM bs = splitF bs f ca (ys.map RecM.key)) ∧ St NB w wl [cuR q1 v2 ca bs.length, ownR 5 1 v2 n2 (bs.flatMap eB), ownR 54 2 vb ys.length (ys.flatMap eRec), starR (ys.map bodyR)]) (fun (ca, vb, ys) => bs.length - ca) (0, .slice none 0 0, []) H ⟨rfl, rfl, trivial⟩ ⟨⟨Nat.zero_le _, Nat.le_refl _, _, Nat.lt_succ_self _, rfl⟩, hS⟩ ?_
  clear H hS; clear a; intro xx a w4 H hR
  obtain ⟨ca, vb, ys⟩ := xx
  simp only [ent, List.map_cons, List.map_nil] at H
  try dsimp only at hR
  obtain ⟨⟨ha, hya, f, hf, hsp⟩, hS⟩ := hR; try clear hR
  refine wp_seq ?_
  refine wp_seq ?_
  refine wp_region_lit ?_
  refine n_q H (q_move rfl) rfl ?_
  clear H a; intro a H
  refine n_call H rfl en40 (cLeft_w ha (by omega) (hS.blk 0 rfl)) rfl ?_
  clear H a; intro v7 w5 hv a H
  obtain ⟨rfl, hE6⟩ := hv
  replace hS := hS.ext hE6
  refine n_q H (q_gtr rfl rfl) rfl ?_
  clear H a; intro a H
  refine n_nil ?_
  refine then_normal ?_
  refine c_cond H rfl (fun hc13 => ?_) (fun hc13 => ?_)
  · skip
    have ha2 : ca < bs.length := by simp at hc13; omega
    refine wp_skip ?_
    refine then_normal ?_
    refine wp_block ?_
    refine wp_seq ?_
    refine wp_region_lit ?_
    refine n_q H (q_move rfl) rfl ?_
    clear H a; intro a H
    obtain ⟨fp16, hG16, hK16, hR16, hF16⟩ := hS.frame1
    refine n_call H rfl en50 (next_w (fun w' hw => hG.ext (hK16 _ hw).ext) (fun w' hw => (restOwn (hR16 0 _ rfl _ hw)).slB hn2) ha (Nat.le_refl _) (by omega) hG16) rfl ?_
    clear H a; intro v10 w8 hv a H
    obtain ⟨q16, u16, rfl, hE9⟩ := hv
    replace hS := hF16 _ _ hE9
    simp only [List.cons_append, List.nil_append] at hS
    clear hG16 hK16 hR16 hF16
    refine n_q H (q_move rfl) rfl ?_
    clear H a; intro a H
    refine n_q H (q_extract rfl rfl) rfl ?_
    clear H a; intro a H
    refine n_q H (q_extract rfl rfl) rfl ?_
    clear H a; intro a H
    refine n_q H (q_extract rfl rfl) rfl ?_
    clear H a; intro a H
    refine n_q H (q_assign rfl) rfl ?_
    clear H a; intro a H
    refine n_q H (q_assign rfl) rfl ?_
    clear H a; intro a H
    refine n_q H (q_assign rfl) rfl ?_
    clear H a; intro a H
    refine n_nil ?_
    refine then_normal ?_
    refine wp_seq ?_
    refine wp_seq ?_
    refine wp_region_lit ?_
    refine n_q H (q_move rfl) rfl ?_
    clear H a; intro a H
    refine n_q H (q_nnilI Tryd.underlying33 rfl rfl (hS.any 1 rfl).form) rfl ?_
    clear H a; intro a H
    refine n_nil ?_
    refine then_normal ?_
    refine c_cond H rfl (fun hc21 => ?_) (fun hc21 => ?_)
    · skip
      have hne : (nextM bs ca bs.length).2.2.1 ≠ .nil := by rw [((hS.any 1 rfl)).isNil] at hc21; simpa using hc21
      have hq : (nextM bs ca bs.length).2.1 = none := by
        rcases nextM_form ha (Nat.le_refl _) with h | ⟨x, _, he, _⟩
        · exact h.1
        · exact absurd he hne
      refine wp_seq ?_
      refine wp_region_lit ?_
      refine n_q H (q_move rfl) rfl ?_
      clear H a; intro a H
      refine n_q H (q_assign rfl) rfl ?_
      clear H a; intro a H
      refine n_q H (q_assign rfl) rfl ?_
      clear H a; intro a H
      refine n_nil ?_
      refine then_normal ?_
      refine wp_ret ?_
      refine then_ret ?_
      refine block_ret ?_
      refine then_ret ?_
      refine block_ret ?_
      refine then_ret ?_
      replace hS := hS.starNil bodyR
      replace hS := hS.nilOwn 54 2
      replace hS := hS.pick 3 rfl
      dsimp only [List.eraseIdx] at hS
      replace hS := hS.pick 2 rfl
      dsimp only [List.eraseIdx] at hS
      replace hS := hS.pick 2 rfl
      dsimp only [List.eraseIdx] at hS
      replace hS := hS.take 3
      simp only [List.take_succ_cons, List.take_zero] at hS
      refine ret2 H (.inr rfl) rfl rfl rfl ?_
      exact ⟨_, _, [], _, _, rfl, by rw [hsp]; obtain ⟨f, rfl⟩ : ∃ g, f = g + 1 := ⟨f - 1, by omega⟩; rw [splitF, if_neg (by omega), hq]; rfl, rfl, hS⟩
    · skip
      have he : (nextM bs ca bs.length).2.2.1 = .nil := by rw [((hS.any 1 rfl)).isNil] at hc21; simpa using hc21
      obtain ⟨x, hq, hx0, hx1⟩ : ∃ x, (nextM bs ca bs.length).2.1 = some x ∧ (nextM bs ca bs.length).2.2.2 = x.2 ∧ (x.1 ≤ x.2 ∧ x.2 ≤ bs.length ∧ ca < x.2) := by
        rcases nextM_form ha (Nat.le_refl _) with h | ⟨x, h1, _, h2, h3⟩
        · exact absurd he h.2
        · exact ⟨x, h1, h2, h3⟩
      replace hS := hS.pick 2 rfl
      dsimp only [List.eraseIdx] at hS
      rw [hq] at hS
      obtain ⟨bq, hq16, hS3⟩ := hS.ncGet
      replace hS := hS3
      clear hS3
      subst hq16
      refine wp_skip ?_
      refine then_normal ?_
      refine wp_region_lit ?_
      refine n_q H (q_move rfl) rfl ?_
      clear H a; intro a H
      refine n_q H (q_move rfl) rfl ?_
      clear H a; intro a H
      refine n_q H (q_move rfl) rfl ?_
      clear H a; intro a H
      obtain ⟨fp26, hG26, hK26, hR26, hF26⟩ := hS.frame1
      refine n_call H rfl en51 (body_w (fun w' hw => hG.ext (hK26 _ hw).ext) (fun w' hw => (restOwn (hR26 2 _ rfl _ hw)).slB hn2) hx1.1 hx1.2.1 (by omega) hG26) rfl ?_
      clear H a; intro v26 w11 hv a H
      obtain ⟨n26, hn26, hE12⟩ := hv
      replace hS := hF26 _ _ hE12
      simp only [List.cons_append, List.nil_append] at hS
      clear hG26 hK26 hR26 hF26
      obtain ⟨A26, c26, hv26, _⟩ := (hS.own 1 rfl).form
      subst hv26
      refine n_q H (q_build (cs := [.int .i64 (nextM bs ca bs.length).1, .slice A26 n26 c26]) ze54 bd54 pl54 rfl (by kernel_rfl)) rfl ?_
      clear H a; intro a H
      refine n_buildSlice H Tryd.underlying36 sz54 ze54 rfl rfl rfl (cs := [.int .i64 (nextM bs ca bs.length).1, .slice A26 n26 c26]) (by kernel_rfl) rfl ?_
      clear H; intro b28 w13 hN hE14 hs_b28; clear a; intro a H
      replace hS := hS.newBlk hN hE14 hs_b28; clear hN hE14
      replace hS := hS.pick 6 rfl
      dsimp only [List.eraseIdx] at hS
      refine n_append H rfl rfl Tryd.underlying36 Tryd.underlying36 (by simp) el54 (hS.own 0 rfl) (show Src _ 2 _ 1 (([⟨(nextM bs ca bs.length).1, .slice A26 n26 c26, (bs.drop x.1).take (x.2 - x.1)⟩] : List RecM).flatMap eRec) from (Own.ofBlk (n := 1) (k := 2) (hS.blk 1 rfl) rfl (by simp [maxLen])).src) (by simp [eRec, Value.oneCell']) (by omega) (by simp only [maxLen]; omega) rfl ?_
      clear H; intro v29 w15 hN hC16 hb29 hnil29; clear a; intro a H
      replace hS := hS.setOwn hN hC16 hb29; clear hN
      rw [← List.flatMap_append] at hS
      refine n_q H (q_assign rfl) rfl ?_
      clear H a; intro a H
      refine n_nil ?_
      refine block_normal ?_
      refine then_normal ?_
      replace hS := hS.pick 6 rfl
      dsimp only [List.eraseIdx] at hS
      replace hS := hS.pick 5 rfl
      dsimp only [List.eraseIdx] at hS
      replace hS := hS.pick 2 rfl
      dsimp only [List.eraseIdx] at hS
      replace hS := hS.pick 7 rfl
      dsimp only [List.eraseIdx] at hS
      replace hS := hS.pick 6 rfl
      dsimp only [List.eraseIdx] at hS
      replace hS := hS.take 5
      simp only [List.take_succ_cons, List.take_zero] at hS
      skip
      replace hS := St.bodyAdd (r := ⟨(nextM bs ca bs.length).1, .slice A26 n26 c26, (bs.drop x.1).take (x.2 - x.1)⟩) hS hn26
      replace hS := hS.pick 1 rfl
      dsimp only [List.eraseIdx] at hS
      replace hS := hS.pick 3 rfl
      dsimp only [List.eraseIdx] at hS
      replace hS := hS.pick 3 rfl
      dsimp only [List.eraseIdx] at hS
      exact round (x.2, v29, ys ++ [⟨(nextM bs ca bs.length).1, .slice A26 n26 c26, (bs.drop x.1).take (x.2 - x.1)⟩]) H ⟨rfl, rfl, trivial⟩ ⟨⟨hx1.2.1, by simp; omega, f - 1, by omega, by rw [hsp]; obtain ⟨f, rfl⟩ : ∃ g, f = g + 1 := ⟨f - 1, by omega⟩; rw [splitF, if_neg (by omega), hq]; simp [he, hx0, RecM.key]⟩, by simpa [hx0] using hS⟩ (by first | omega | (dsimp only; omega))
  · skip
    have ha2 : bs.length ≤ ca := by simp at hc13; omega
    refine wp_exit ?_
    refine then_exit ?_
    refine then_exit ?_
    refine block_exit ?_
    refine then_normal ?_
    refine wp_seq ?_
    refine wp_region_lit ?_
    refine n_q H (q_move rfl) rfl ?_
    clear H a; intro a H
    refine n_q H (q_assign rfl) rfl ?_
    clear H a; intro a H
    refine n_q H (q_assign rfl) rfl ?_
    clear H a; intro a H
    refine n_nil ?_
    refine then_normal ?_
    refine wp_ret ?_
    replace hS := hS.noErr (A := A)
    replace hS := hS.pick 4 rfl
    dsimp only [List.eraseIdx] at hS
    replace hS := hS.pick 4 rfl
    dsimp only [List.eraseIdx] at hS
    replace hS := hS.take 3
    simp only [List.take_succ_cons, List.take_zero] at hS
    refine ret2 H (.inr rfl) rfl rfl rfl ?_
    exact ⟨_, _, ys, _, _, rfl, by rw [hsp]; obtain ⟨f, rfl⟩ : ∃ g, f = g + 1 := ⟨f - 1, by omega⟩; rw [splitF, if_pos ha2], rfl, hS⟩

set_option maxHeartbeats 2000000 in
theorem expect_o {w : World} {A : Nat → Addr} {v vt : Value} {bs : List UInt8} {tags : List Int} (hG : EV A w) (hb : ∀ w', Ext w w' → SlR w' 1 (Flat eB) v bs) (ht : SlR w 1 (Flat eI) vt tags) (hz : bs.length ≤ 16777216) (htl : tags.length ≤ 16777216) : Calls Tryd.prog 16 [v, vt].toArray w (Ret fun r w' => ∃ vo e, ∃ ys : List RecM, ∃ n er, n = ys.length ∧ (ys.map RecM.body, er) = expM bs tags ∧ r = .tuple #[vo, e] ∧ St NB w w' [ownR 23 1 vo n (ys.flatMap eBod), starR (ys.map bodyR), erR A e er]) := by
  have hS := St.begin NB w
  obtain ⟨A9, c9, hv9, _⟩ := (hb w Ext.rfl').form
  subst hv9
  obtain ⟨AT, cT, rfl, hlT, hmT, hnT⟩ := ht.form
  refine enter Tryd.func16 rfl rfl rfl ?_
  intro a H
  dsimp only [enumL, Nat.zero_add, Nat.reduceAdd] at H
  refine wp_seq ?_
  refine wp_region_lit ?_
  refine n_q H (q_assign rfl) rfl ?_
  clear H a; intro a H
  refine n_q H (q_assign rfl) rfl ?_
  clear H a; intro a H
  refine n_nil ?_
  refine then_normal ?_
  refine wp_seq ?_
  refine wp_region_lit ?_
  refine n_q H (q_move rfl) rfl ?_
  clear H a; intro a H
  refine n_call H rfl en37 (open_w (bs := bs) (fun w' e => hb w' (hS.x.trans e)) (by omega)) rfl ?_
  clear H a; intro v3 w1 hv a H
  obtain ⟨q1, v2, n2, rfl, hn2, hE2⟩ := hv
  replace hS := hS.new hE2
  simp only [List.cons_append, List.nil_append] at hS
  refine n_q H (q_assign rfl) rfl ?_
  clear H a; intro a H
  refine n_nil ?_
  refine then_normal ?_
  refine wp_seq ?_
  refine wp_region_lit ?_
  refine n_q H (q_assign rfl) rfl ?_
  clear H a; intro a H
  refine n_nil ?_
  refine then_normal ?_
  refine wp_seq ?_
  refine wp_seq ?_
  refine wp_region_lit ?_
  refine n_q H (q_move rfl) rfl ?_
  clear H a; intro a H
  refine n_q H (q_lenSl Tryd.underlying24 rfl) rfl ?_
  clear H a; intro a H
  refine n_q H (q_move rfl) rfl ?_
  clear H a; intro a H
  refine n_nil ?_
  refine then_normal ?_
  refine wp_block ?_
  replace hS := hS.starNil bodyR
  replace hS := hS.nilOwn 23 1
  replace hS := hS.pick 1 rfl
  dsimp only [List.eraseIdx] at hS
  replace hS := hS.pick 1 rfl
  dsimp only [List.eraseIdx] at hS
  replace hS := hS.pick 3 rfl
  dsimp only [List.eraseIdx] at hS
  replace hS := hS.pick 3 rfl
  dsimp only [List.eraseIdx] at hS
  refine c_loop (σ := Nat × Nat × Value × List RecM) (fun (i, ca, vb, ys) => [(6, .pointer (some ⟨q1, 0, none⟩)), (7, vb), (15, .slice AT tags.length cT), (16, .int .i64 (tags.length : Nat)), (17, .int .i64 (i : Nat))]) (fun (i, ca, vb, ys) wl => (i ≤ tags.length ∧ ca ≤ bs.length ∧ ys.length = i ∧ expM bs tags = expF bs (tags.drop i) ca (ys.map RecM.body)) ∧ St NB w wl [cuR q1 v2 ca bs.length, ownR 5 1 v2 n2 (bs.flatMap eB), ownR 23 1 vb i (ys.flatMap eBod), starR (ys.map bodyR)]) (fun (i, ca, vb, ys) => tags.length - i) (0, 0, .slice none 0 0, []) H ⟨rfl, rfl, rfl, rfl, rfl, trivial⟩ ⟨⟨Nat.zero_le _, Nat.zero_le _, rfl, rfl⟩, hS⟩ ?_
  clear H hS; clear a; intro xx a w4 H hR
  obtain ⟨i, ca, vb, ys⟩ := xx
  simp only [ent, List.map_cons, List.map_nil] at H
  try dsimp only at hR
  obtain ⟨⟨hi, ha, hyl, hex⟩, hS⟩ := hR; try clear hR
  refine wp_seq ?_
  refine wp_region_lit ?_
  refine n_q H (q_lss rfl rfl) rfl ?_
  clear H a; intro a H
  refine n_nil ?_
  refine then_normal ?_
  refine wp_seq ?_
  refine c_cond H rfl (fun hc18 => ?_) (fun hc18 => ?_)
  · skip
    have hi1 : i < tags.length := by simp at hc18; omega
    obtain ⟨tg, hx⟩ := ht.at hi1
    obtain ⟨ad0, had⟩ := ht.addr hi1
    subst had
    refine wp_skip ?_
    refine then_normal ?_
    refine wp_seq ?_
    refine wp_block ?_
    refine wp_seq ?_
    refine wp_region_lit ?_
    refine n_q H (q_indexAddr Tryd.underlying24 sz3 rfl rfl (by omega) (by omega)) rfl ?_
    clear H a; intro a H
    refine n_q H (q_load rfl (LdX.ext ((ht.ldOne ag3 hx rfl)) hS.x)) rfl ?_
    clear H a; intro a H
    refine n_q H (q_assign rfl) rfl ?_
    clear H a; intro a H
    refine n_nil ?_
    refine then_normal ?_
    refine wp_seq ?_
    refine wp_region_lit ?_
    refine n_q H (q_move rfl) rfl ?_
    clear H a; intro a H
    refine n_q H (q_move rfl) rfl ?_
    clear H a; intro a H
    obtain ⟨fp24, hG24, hK24, hR24, hF24⟩ := hS.frame1
    refine n_call H rfl en38 (cRecord_w (t := tg) (fun w' hw => hG.ext (hK24 _ hw).ext) (fun w' hw => (restOwn (hR24 0 _ rfl _ hw)).slB hn2) ha (Nat.le_refl _) (by omega) hG24) rfl ?_
    clear H a; intro v7 w5 hv a H
    obtain ⟨q24, u24, rfl, hE6⟩ := hv
    replace hS := hF24 _ _ hE6
    simp only [List.cons_append, List.nil_append] at hS
    clear hG24 hK24 hR24 hF24
    refine n_q H (q_move rfl) rfl ?_
    clear H a; intro a H
    refine n_q H (q_extract rfl rfl) rfl ?_
    clear H a; intro a H
    refine n_q H (q_extract rfl rfl) rfl ?_
    clear H a; intro a H
    refine n_q H (q_assign rfl) rfl ?_
    clear H a; intro a H
    refine n_q H (q_assign rfl) rfl ?_
    clear H a; intro a H
    refine n_nil ?_
    refine then_normal ?_
    refine wp_seq ?_
    refine wp_seq ?_
    refine wp_region_lit ?_
    refine n_q H (q_move rfl) rfl ?_
    clear H a; intro a H
    refine n_q H (q_nnilI Tryd.underlying33 rfl rfl (hS.any 1 rfl).form) rfl ?_
    clear H a; intro a H
    refine n_nil ?_
    refine then_normal ?_
    refine c_cond H rfl (fun hc28 => ?_) (fun hc28 => ?_)
    · skip
      have hne : (recordM bs ca bs.length tg).2.1 ≠ .nil := by rw [((hS.any 1 rfl)).isNil] at hc28; simpa using hc28
      have hq : (recordM bs ca bs.length tg).1 = none := by
        rcases recordM_form2 (t := tg) ha (Nat.le_refl _) with h | ⟨x, _, he, _⟩
        · exact h.1
        · exact absurd he hne
      refine wp_seq ?_
      refine wp_region_lit ?_
      refine n_q H (q_move rfl) rfl ?_
      clear H a; intro a H
      refine n_q H (q_assign rfl) rfl ?_
      clear H a; intro a H
      refine n_q H (q_assign rfl) rfl ?_
      clear H a; intro a H
      refine n_nil ?_
      refine then_normal ?_
      refine wp_ret ?_
      refine then_ret ?_
      refine block_ret ?_
      refine then_ret ?_
      refine then_ret ?_
      refine block_ret ?_
      refine then_ret ?_
      replace hS := hS.starNil bodyR
      replace hS := hS.nilOwn 23 1
      replace hS := hS.pick 3 rfl
      dsimp only [List.eraseIdx] at hS
      replace hS := hS.pick 2 rfl
      dsimp only [List.eraseIdx] at hS
      replace hS := hS.pick 2 rfl
      dsimp only [List.eraseIdx] at hS
      replace hS := hS.take 3
      simp only [List.take_succ_cons, List.take_zero] at hS
      refine ret2 H (.inr rfl) rfl rfl rfl ?_
      exact ⟨_, _, [], _, _, rfl, by rw [hex, drop_cons hx, expF, hq]; rfl, rfl, hS⟩
    · skip
      have he : (recordM bs ca bs.length tg).2.1 = .nil := by rw [((hS.any 1 rfl)).isNil] at hc28; simpa using hc28
      obtain ⟨x, hq, hx0, hx1⟩ : ∃ x, (recordM bs ca bs.length tg).1 = some x ∧ (recordM bs ca bs.length tg).2.2 = x.2 ∧ (x.1 ≤ x.2 ∧ x.2 ≤ bs.length) := by
        rcases recordM_form2 (t := tg) ha (Nat.le_refl _) with h | ⟨x, h1, _, h2, h3⟩
        · exact absurd he h.2
        · exact ⟨x, h1, h2, h3⟩
      replace hS := hS.pick 2 rfl
      dsimp only [List.eraseIdx] at hS
      rw [hq] at hS
      obtain ⟨bq, hq24, hS3⟩ := hS.ncGet
      replace hS := hS3
      clear hS3
      subst hq24
      refine wp_skip ?_
      refine then_normal ?_
      refine wp_region_lit ?_
      refine n_q H (q_move rfl) rfl ?_
      clear H a; intro a H
      refine n_q H (q_move rfl) rfl ?_
      clear H a; intro a H
      obtain ⟨fp32, hG32, hK32, hR32, hF32⟩ := hS.frame1
      refine n_call H rfl en51 (body_w (fun w' hw => hG.ext (hK32 _ hw).ext) (fun w' hw => (restOwn (hR32 2 _ rfl _ hw)).slB hn2) hx1.1 hx1.2 (by omega) hG32) rfl ?_
      clear H a; intro v32 w8 hv a H
      obtain ⟨n32, hn32, hE9⟩ := hv
      replace hS := hF32 _ _ hE9
      simp only [List.cons_append, List.nil_append] at hS
      clear hG32 hK32 hR32 hF32
      obtain ⟨A32, c32, hv32, _⟩ := (hS.own 1 rfl).form
      subst hv32
      refine n_buildSlice H Tryd.underlying44 sz23 ze23 rfl rfl rfl (cs := [.slice A32 n32 c32]) (by kernel_rfl) rfl ?_
      clear H; intro b33 w10 hN hE11 hs_b33; clear a; intro a H
      replace hS := hS.newBlk hN hE11 hs_b33; clear hN hE11
      replace hS := hS.pick 6 rfl
      dsimp only [List.eraseIdx] at hS
      refine n_append H rfl rfl Tryd.underlying44 Tryd.underlying44 (by simp) el23 (hS.own 0 rfl) (show Src _ 1 _ 1 (([⟨0, .slice A32 n32 c32, (bs.drop x.1).take (x.2 - x.1)⟩] : List RecM).flatMap eBod) from (Own.ofBlk (n := 1) (k := 1) (hS.blk 1 rfl) rfl (by simp [maxLen])).src) (by simp [eBod, Value.oneCell']) (by omega) (by simp only [maxLen]; omega) rfl ?_
      clear H; intro v34 w12 hN hC13 hb34 hnil34; clear a; intro a H
      replace hS := hS.setOwn hN hC13 hb34; clear hN
      rw [← List.flatMap_append] at hS
      refine n_q H (q_assign rfl) rfl ?_
      clear H a; intro a H
      refine n_nil ?_
      refine block_normal ?_
      refine then_normal ?_
      refine wp_region_lit ?_
      refine n_q H (q_add rfl rfl (by constructor <;> omega)) rfl ?_
      clear H a; intro a H
      refine n_q H (q_move rfl) rfl ?_
      clear H a; intro a H
      refine n_nil ?_
      refine then_normal ?_
      replace hS := hS.pick 6 rfl
      dsimp only [List.eraseIdx] at hS
      replace hS := hS.pick 5 rfl
      dsimp only [List.eraseIdx] at hS
      replace hS := hS.pick 2 rfl
      dsimp only [List.eraseIdx] at hS
      replace hS := hS.pick 7 rfl
      dsimp only [List.eraseIdx] at hS
      replace hS := hS.pick 6 rfl
      dsimp only [List.eraseIdx] at hS
      replace hS := hS.take 5
      simp only [List.take_succ_cons, List.take_zero] at hS
      replace hS := St.bodyAdd (r := ⟨0, .slice A32 n32 c32, (bs.drop x.1).take (x.2 - x.1)⟩) hS hn32
      replace hS := hS.pick 1 rfl
      dsimp only [List.eraseIdx] at hS
      replace hS := hS.pick 3 rfl
      dsimp only [List.eraseIdx] at hS
      replace hS := hS.pick 3 rfl
      dsimp only [List.eraseIdx] at hS
      exact round (i + 1, x.2, v34, ys ++ [⟨0, .slice A32 n32 c32, (bs.drop x.1).take (x.2 - x.1)⟩]) H ⟨rfl, rfl, rfl, rfl, rfl, trivial⟩ ⟨⟨by omega, hx1.2, by simp; omega, by rw [hex, drop_cons hx, expF, hq]; simp [hx0]⟩, by simpa [hx0] using hS⟩ (by first | omega | (dsimp only; omega))
  · skip
    obtain rfl : i = tags.length := by simp at hc18; omega
    rw [List.drop_length, expF] at hex
    refine wp_exit ?_
    refine then_exit ?_
    refine then_exit ?_
    refine block_exit ?_
    refine then_normal ?_
    refine wp_seq ?_
    refine wp_seq ?_
    refine wp_region_lit ?_
    refine n_q H (q_move rfl) rfl ?_
    clear H a; intro a H
    obtain ⟨fp37, hG37, hK37, hR37, hF37⟩ := hS.frame1
    refine n_call H rfl en54 (cEnd_w (fun w' hw => hG.ext (hK37 _ hw).ext) (fun w' hw => (restOwn (hR37 0 _ rfl _ hw)).slB hn2) ha (Nat.le_refl _) (by omega) hG37) rfl ?_
    clear H a; intro u37 w14 hv a H
    obtain ⟨_, rfl, hE15⟩ := hv
    replace hS := hF37 _ _ hE15
    simp only [List.cons_append, List.nil_append] at hS
    clear hG37 hK37 hR37 hF37
    refine n_q H (q_assign rfl) rfl ?_
    clear H a; intro a H
    refine n_nil ?_
    refine then_normal ?_
    refine wp_seq ?_
    refine wp_region_lit ?_
    refine n_q H (q_move rfl) rfl ?_
    clear H a; intro a H
    refine n_q H (q_nnilI Tryd.underlying33 rfl rfl (hS.any 1 rfl).form) rfl ?_
    clear H a; intro a H
    refine n_nil ?_
    refine then_normal ?_
    refine c_cond H rfl (fun hc39 => ?_) (fun hc39 => ?_)
    · skip
      have hne : endM ca bs.length ≠ .nil := by rw [((hS.any 1 rfl)).isNil] at hc39; simpa using hc39
      rw [if_neg hne] at hex
      refine wp_seq ?_
      refine wp_region_lit ?_
      refine n_q H (q_move rfl) rfl ?_
      clear H a; intro a H
      refine n_q H (q_assign rfl) rfl ?_
      clear H a; intro a H
      refine n_q H (q_assign rfl) rfl ?_
      clear H a; intro a H
      refine n_nil ?_
      refine then_normal ?_
      refine wp_ret ?_
      refine then_ret ?_
      replace hS := hS.starNil bodyR
      replace hS := hS.nilOwn 23 1
      replace hS := hS.pick 3 rfl
      dsimp only [List.eraseIdx] at hS
      replace hS := hS.pick 2 rfl
      dsimp only [List.eraseIdx] at hS
      replace hS := hS.pick 2 rfl
      dsimp only [List.eraseIdx] at hS
      replace hS := hS.take 3
      simp only [List.take_succ_cons, List.take_zero] at hS
      refine ret2 H (.inr rfl) rfl rfl rfl ?_
      exact ⟨_, _, [], _, _, rfl, hex.symm, rfl, hS⟩
    · skip
      have he : endM ca bs.length = .nil := by rw [((hS.any 1 rfl)).isNil] at hc39; simpa using hc39
      rw [if_pos he] at hex
      refine wp_skip ?_
      refine then_normal ?_
      refine wp_seq ?_
      refine wp_region_lit ?_
      refine n_q H (q_move rfl) rfl ?_
      clear H a; intro a H
      refine n_q H (q_assign rfl) rfl ?_
      clear H a; intro a H
      refine n_q H (q_assign rfl) rfl ?_
      clear H a; intro a H
      refine n_nil ?_
      refine then_normal ?_
      refine wp_ret ?_
      replace hS := hS.noErr (A := A)
      replace hS := hS.pick 5 rfl
      dsimp only [List.eraseIdx] at hS
      replace hS := hS.pick 5 rfl
      dsimp only [List.eraseIdx] at hS
      replace hS := hS.take 3
      simp only [List.take_succ_cons, List.take_zero] at hS
      refine ret2 H (.inr rfl) rfl rfl rfl ?_
      exact ⟨_, _, ys, _, _, hyl.symm, hex.symm, rfl, hS⟩

set_option maxHeartbeats 4000000 in
theorem wireMemory_w {w : World} {A : Nat → Addr} {vr vB : Value} {AT : Option Addr} {cT : Nat} {xs : List RecM} {bs : List UInt8} {tg : List Int} {s : ByteArray} (hG : EV A w) (hH : HE w) (h : SlR w 2 (Flat eRec) vr xs) (hr : RecsIn w xs) (hB : SlR w 1 (Flat eB) vB bs) (hT : SlR w 1 (Flat eI) (.slice AT tg.length cT) tg) (hz : xs.length ≤ 1048576) (hb : ∀ r ∈ xs, r.body.length ≤ 1048576) (hbk : bulkR xs ≤ 16777216) (hbs : bs.length ≤ 1048576) (htg : tg.length ≤ 1048576) (hs : s.size ≤ 1048576) :
    Calls Tryd.prog 4 [.agg #[vr, vB, .slice AT tg.length cT, .string s]].toArray w (Ret fun r w' => r = .bool true ∧ Ext w w') := by
  have hS := St.begin NB w
  obtain ⟨AB, cB, rfl, hlB, hmB, hnB⟩ := hB.form
  have hlR : bs.length + 2 = (bs ++ [201, 202]).length := by simp
  have hlT : tg.length + 1 = (tg ++ [-77]).length := by simp
  refine enter Tryd.func4 rfl rfl rfl ?_
  intro a H
  dsimp only [enumL, Nat.zero_add, Nat.reduceAdd] at H
  refine wp_seq ?_
  refine wp_region_lit ?_
  refine n_box H rfl (cs := [vr, .slice AB bs.length cB, .slice AT tg.length cT, .string s]) rfl rfl ?_
  clear H; intro b1 w1 hN hE2 hs_b1; clear a; intro a H
  replace hS := hS.newBlk hN hE2 hs_b1; clear hN hE2
  refine n_q H (q_assign rfl) rfl ?_
  clear H a; intro a H
  refine n_nil ?_
  refine then_normal ?_
  refine wp_seq ?_
  refine wp_seq ?_
  refine wp_region_lit ?_
  refine n_call H rfl en7 (fixed_w (hG.ext hS.x) (hH.ext hS.x)) rfl ?_
  clear H a; intro v5 w3 hv a H
  obtain ⟨rfl, hE4⟩ := hv
  replace hS := hS.ext hE4
  refine n_q H (q_not rfl) rfl ?_
  clear H a; intro a H
  refine n_nil ?_
  refine then_normal ?_
  refine c_cond H rfl (fun hc30 => ?_) (fun hc30 => ?_)
  · skip
    cases hc30
  · skip
    refine wp_skip ?_
    refine then_normal ?_
    refine c_join (σ := Value) H (fun vR => [(1, .pointer (some ⟨b1, 0, none⟩)), (3, vR)]) (fun vR wl => St NB w wl [ownR 5 1 vR (bs.length + 2) ((bs ++ [201, 202]).flatMap eB), blkR b1 [vr, .slice AB bs.length cB, .slice AT tg.length cT, .string s] 26]) ?_ ?_
    · skip
      refine c_ord [] 10 (by kernel_rfl) ?_
      obtain ⟨w6, hw6⟩ : ∃ x, x = w3.drew := ⟨_, rfl⟩
      rw [← hw6]
      have hE7 : Ext w3 w6 := by rw [hw6]; exact Ext.drew' _
      clear hw6
      replace hS := hS.ext hE7
      refine k_take 0 H rfl (q_fieldAddr0 rfl fo26_1) rfl (by kernel_rfl) (by kernel_rfl) (by kernel_rfl) (by kernel_rfl) (fun _ _ _ h => h) ?_
      clear H a; intro a H
      refine k_take 1 H rfl (q_load rfl (LdC.k0 ((hS.blk 0 rfl).ld ag23 rfl))) rfl (by kernel_rfl) (by kernel_rfl) (by kernel_rfl) (by kernel_rfl) (fun _ _ _ h => h) ?_
      clear H a; intro a H
      refine k_take 2 H rfl (q_lenSl Tryd.underlying23 rfl) rfl (by kernel_rfl) (by kernel_rfl) (by kernel_rfl) (by kernel_rfl) (fun _ _ _ h => h) ?_
      clear H a; intro a H
      refine k_take 3 H rfl (q_add rfl rfl (by constructor <;> omega)) rfl (by kernel_rfl) (by kernel_rfl) (by kernel_rfl) (by kernel_rfl) (fun _ _ _ h => h) ?_
      clear H a; intro a H
      refine k_take 5 H rfl (q_fieldAddr0 rfl fo26_1) rfl (by kernel_rfl) (by kernel_rfl) (by kernel_rfl) (by kernel_rfl) (fun _ _ _ h => h) ?_
      clear H a; intro a H
      refine k_take 6 H rfl (q_load rfl (LdC.k0 ((hS.blk 0 rfl).ld ag23 rfl))) rfl (by kernel_rfl) (by kernel_rfl) (by kernel_rfl) (by kernel_rfl) (fun _ _ _ h => h) ?_
      clear H a; intro a H
      refine k_two 4 8 (by kernel_rfl) ?_ ?_
      · skip
        refine kk_make 4 (L := 0) (C := (bs.length + 2)) H rfl Tryd.underlying23 el5 rfl (congrArg (fun z => some (Value.int .i64 z)) (show (bs.length : Int) + 2 = ((bs.length + 2 : Nat) : Int) by omega)) (by omega) (by omega) (by simp only [maxLen]; omega) rfl ?_
        clear H; intro b35 w8 hN hE9 hs_b35; clear a; intro a H
        have hz_b35 := hE9.size
        replace hS := hS.newOwn hN hE9 (by simp [blks]; omega); clear hN hE9
        simp only [List.replicate_zero, List.flatten_nil] at hS
        refine k_two 7 8 (by kernel_rfl) ?_ ?_
        · skip
          refine kk_append 7 H rfl rfl rfl Tryd.underlying23 Tryd.underlying23 (by simp) el5 (hS.own 0 rfl) ((hB.ext (Flat.mono _) hS.x).srcB') (flat_one eB_one _) (by omega) (by simp only [maxLen]; omega) rfl (.inl (by simp [blks]; omega)) ?_
          clear H; intro v38 w10 hN hC11 hb38 hnil38; clear a; intro a H
          have hz38 := hC11.size
          replace hS := hS.setOwn hN hC11 hb38; clear hN
          simp only [Nat.zero_add, List.nil_append] at hS
          refine k_buildSlice 8 H rfl Tryd.underlying23 sz5 ze5 rfl rfl rfl (cs := [.int .u8 201, .int .u8 202]) (by kernel_rfl) rfl (by kernel_rfl) ?_
          clear H; intro b39 w12 hN hE13 hs_b39; clear a; intro a H
          have hz_b39 := hE13.size
          replace hS := hS.newBlk hN hE13 hs_b39; clear hN hE13
          replace hS := hS.pick 1 rfl
          dsimp only [List.eraseIdx] at hS
          refine k_append 9 H rfl rfl rfl Tryd.underlying23 Tryd.underlying23 (by simp) el5 (hS.own 0 rfl) (show Src _ 1 _ 2 (([201, 202] : List UInt8).flatMap eB) from (Own.ofBlk (n := 2) (k := 1) (hS.blk 1 rfl) rfl (by simp [maxLen])).src) (flat_one eB_one _) (by omega) (by simp only [maxLen]; omega) rfl (by kernel_rfl) (.inl (by intro c hc hl; rcases hb38 with e | ⟨bb, e, hl2⟩ <;> rw [e] at hc <;> simp [blks] at hc <;> omega)) ?_
          clear H; intro v40 w14 hN hC15 hb40 hnil40; clear a; intro a H
          have hz40 := hC15.size
          replace hS := hS.setOwn hN hC15 hb40; clear hN
          rw [← List.flatMap_append] at hS
          refine k_q 10 H rfl (q_assign rfl) rfl (by kernel_rfl) ?_
          clear H a; intro a H
          refine k_done (by kernel_rfl) ?_
          refine then_normal ?_
          replace hS := hS.pick 2 rfl
          dsimp only [List.eraseIdx] at hS
          replace hS := hS.pick 1 rfl
          dsimp only [List.eraseIdx] at hS
          replace hS := hS.take 2
          simp only [List.take_succ_cons, List.take_zero] at hS
          exact join v40 H ⟨rfl, rfl, trivial⟩ hS
        · skip
          refine kk_buildSlice 8 H rfl Tryd.underlying23 sz5 ze5 rfl rfl rfl (cs := [.int .u8 201, .int .u8 202]) (by kernel_rfl) rfl ?_
          clear H; intro b39 w16 hN hE17 hs_b39; clear a; intro a H
          have hz_b39 := hE17.size
          replace hS := hS.newBlk hN hE17 hs_b39; clear hN hE17
          replace hS := hS.pick 1 rfl
          dsimp only [List.eraseIdx] at hS
          refine k_append 7 H rfl rfl rfl Tryd.underlying23 Tryd.underlying23 (by simp) el5 (hS.own 0 rfl) ((hB.ext (Flat.mono _) hS.x).srcB') (flat_one eB_one _) (by omega) (by simp only [maxLen]; omega) rfl (by kernel_rfl) (.inl (by simp [blks]; omega)) ?_
          clear H; intro v38 w18 hN hC19 hb38 hnil38; clear a; intro a H
          have hz38 := hC19.size
          replace hS := hS.setOwn hN hC19 hb38; clear hN
          simp only [Nat.zero_add, List.nil_append] at hS
          refine k_append 9 H rfl rfl rfl Tryd.underlying23 Tryd.underlying23 (by simp) el5 (hS.own 0 rfl) (show Src _ 1 _ 2 (([201, 202] : List UInt8).flatMap eB) from (Own.ofBlk (n := 2) (k := 1) (hS.blk 1 rfl) rfl (by simp [maxLen])).src) (flat_one eB_one _) (by omega) (by simp only [maxLen]; omega) rfl (by kernel_rfl) (.inl (by intro c hc hl; rcases hb38 with e | ⟨bb, e, hl2⟩ <;> rw [e] at hc <;> simp [blks] at hc <;> omega)) ?_
          clear H; intro v40 w20 hN hC21 hb40 hnil40; clear a; intro a H
          have hz40 := hC21.size
          replace hS := hS.setOwn hN hC21 hb40; clear hN
          rw [← List.flatMap_append] at hS
          refine k_q 10 H rfl (q_assign rfl) rfl (by kernel_rfl) ?_
          clear H a; intro a H
          refine k_done (by kernel_rfl) ?_
          refine then_normal ?_
          replace hS := hS.pick 2 rfl
          dsimp only [List.eraseIdx] at hS
          replace hS := hS.pick 1 rfl
          dsimp only [List.eraseIdx] at hS
          replace hS := hS.take 2
          simp only [List.take_succ_cons, List.take_zero] at hS
          exact join v40 H ⟨rfl, rfl, trivial⟩ hS
      · skip
        refine kk_buildSlice 8 H rfl Tryd.underlying23 sz5 ze5 rfl rfl rfl (cs := [.int .u8 201, .int .u8 202]) (by kernel_rfl) rfl ?_
        clear H; intro b39 w22 hN hE23 hs_b39; clear a; intro a H
        have hz_b39 := hE23.size
        replace hS := hS.newBlk hN hE23 hs_b39; clear hN hE23
        refine k_make 4 (L := 0) (C := (bs.length + 2)) H rfl Tryd.underlying23 el5 rfl (congrArg (fun z => some (Value.int .i64 z)) (show (bs.length : Int) + 2 = ((bs.length + 2 : Nat) : Int) by omega)) (by omega) (by omega) (by simp only [maxLen]; omega) rfl (by kernel_rfl) ?_
        clear H; intro b35 w24 hN hE25 hs_b35; clear a; intro a H
        have hz_b35 := hE25.size
        replace hS := hS.newOwn hN hE25 (by simp [blks]; omega); clear hN hE25
        simp only [List.replicate_zero, List.flatten_nil] at hS
        refine k_append 7 H rfl rfl rfl Tryd.underlying23 Tryd.underlying23 (by simp) el5 (hS.own 0 rfl) ((hB.ext (Flat.mono _) hS.x).srcB') (flat_one eB_one _) (by omega) (by simp only [maxLen]; omega) rfl (by kernel_rfl) (.inl (by simp [blks]; omega)) ?_
        clear H; intro v38 w26 hN hC27 hb38 hnil38; clear a; intro a H
        have hz38 := hC27.size
        replace hS := hS.setOwn hN hC27 hb38; clear hN
        simp only [Nat.zero_add, List.nil_append] at hS
        refine k_append 9 H rfl rfl rfl Tryd.underlying23 Tryd.underlying23 (by simp) el5 (hS.own 0 rfl) (show Src _ 1 _ 2 (([201, 202] : List UInt8).flatMap eB) from (Own.ofBlk (n := 2) (k := 1) (hS.blk 1 rfl) rfl (by simp [maxLen])).src) (flat_one eB_one _) (by omega) (by simp only [maxLen]; omega) rfl (by kernel_rfl) (.inl (by intro c hc hl; rcases hb38 with e | ⟨bb, e, hl2⟩ <;> rw [e] at hc <;> simp [blks] at hc <;> omega)) ?_
        clear H; intro v40 w28 hN hC29 hb40 hnil40; clear a; intro a H
        have hz40 := hC29.size
        replace hS := hS.setOwn hN hC29 hb40; clear hN
        rw [← List.flatMap_append] at hS
        refine k_q 10 H rfl (q_assign rfl) rfl (by kernel_rfl) ?_
        clear H a; intro a H
        refine k_done (by kernel_rfl) ?_
        refine then_normal ?_
        replace hS := hS.pick 2 rfl
        dsimp only [List.eraseIdx] at hS
        replace hS := hS.pick 1 rfl
        dsimp only [List.eraseIdx] at hS
        replace hS := hS.take 2
        simp only [List.take_succ_cons, List.take_zero] at hS
        exact join v40 H ⟨rfl, rfl, trivial⟩ hS
    · clear H hS; clear a
      intro vR a w30 H hR
      simp only [ent, List.map_cons, List.map_nil] at H
      try dsimp only at hR
      have hS := hR; try clear hR
      obtain ⟨bR, cR, hvR⟩ := (hS.own 0 rfl).sm (by omega)
      subst hvR
      have hlc : bs.length + 2 ≤ cR := by obtain ⟨_, _, hq, h, _⟩ := (hS.own 0 rfl).form; cases hq; exact h
      refine wp_seq ?_
      refine wp_region_lit ?_
      refine n_q H (q_move rfl) rfl ?_
      clear H a; intro a H
      refine n_q H (q_fieldAddr0 rfl fo26_1) rfl ?_
      clear H a; intro a H
      refine n_q H (q_load rfl ((hS.blk 1 rfl).ld ag23 rfl)) rfl ?_
      clear H a; intro a H
      refine n_q H (q_lenSl Tryd.underlying23 rfl) rfl ?_
      clear H a; intro a H
      refine n_q H (q_cast (q_sliceTo (A := some ⟨bR, 0, none⟩) (n := bs.length + 2) (c := cR) Tryd.underlying23 sz5 rfl rfl (by omega) (by omega)) (show _ = Value.slice (some ⟨bR, 0, none⟩) bs.length cR by simp)) rfl ?_
      clear H a; intro a H
      refine n_q H (q_assign rfl) rfl ?_
      clear H a; intro a H
      refine n_nil ?_
      refine then_normal ?_
      refine c_join (σ := Value) H (fun vT => [(1, .pointer (some ⟨b1, 0, none⟩)), (3, .slice (some ⟨bR, 0, none⟩) (bs.length + 2) cR), (4, .slice (some ⟨bR, 0, none⟩) bs.length cR), (5, vT)]) (fun vT wl => St NB w wl [ownR 3 1 vT (tg.length + 1) ((tg ++ [-77]).flatMap eI), ownR 5 1 (.slice (some ⟨bR, 0, none⟩) (bs.length + 2) cR) (bs.length + 2) ((bs ++ [201, 202] : List UInt8).flatMap eB), blkR b1 [vr, .slice AB bs.length cB, .slice AT tg.length cT, .string s] 26]) ?_ ?_
      · skip
        refine c_ord [] 10 (by kernel_rfl) ?_
        obtain ⟨w31, hw31⟩ : ∃ x, x = w30.drew := ⟨_, rfl⟩
        rw [← hw31]
        have hE32 : Ext w30 w31 := by rw [hw31]; exact Ext.drew' _
        clear hw31
        replace hS := hS.ext hE32
        refine k_take 0 H rfl (q_fieldAddr0 rfl fo26_2) rfl (by kernel_rfl) (by kernel_rfl) (by kernel_rfl) (by kernel_rfl) (fun _ _ _ h => h) ?_
        clear H a; intro a H
        refine k_take 1 H rfl (q_load rfl (LdC.k0 ((hS.blk 1 rfl).ld ag24 rfl))) rfl (by kernel_rfl) (by kernel_rfl) (by kernel_rfl) (by kernel_rfl) (fun _ _ _ h => h) ?_
        clear H a; intro a H
        refine k_take 2 H rfl (q_lenSl Tryd.underlying24 rfl) rfl (by kernel_rfl) (by kernel_rfl) (by kernel_rfl) (by kernel_rfl) (fun _ _ _ h => h) ?_
        clear H a; intro a H
        refine k_take 3 H rfl (q_add rfl rfl (by constructor <;> omega)) rfl (by kernel_rfl) (by kernel_rfl) (by kernel_rfl) (by kernel_rfl) (fun _ _ _ h => h) ?_
        clear H a; intro a H
        refine k_take 5 H rfl (q_fieldAddr0 rfl fo26_2) rfl (by kernel_rfl) (by kernel_rfl) (by kernel_rfl) (by kernel_rfl) (fun _ _ _ h => h) ?_
        clear H a; intro a H
        refine k_take 6 H rfl (q_load rfl (LdC.k0 ((hS.blk 1 rfl).ld ag24 rfl))) rfl (by kernel_rfl) (by kernel_rfl) (by kernel_rfl) (by kernel_rfl) (fun _ _ _ h => h) ?_
        clear H a; intro a H
        refine k_two 4 8 (by kernel_rfl) ?_ ?_
        · skip
          refine kk_make 4 (L := 0) (C := (tg.length + 1)) H rfl Tryd.underlying24 el3 rfl (congrArg (fun z => some (Value.int .i64 z)) (show (tg.length : Int) + 1 = ((tg.length + 1 : Nat) : Int) by omega)) (by omega) (by omega) (by simp only [maxLen]; omega) rfl ?_
          clear H; intro b50 w33 hN hE34 hs_b50; clear a; intro a H
          have hz_b50 := hE34.size
          replace hS := hS.newOwn hN hE34 (by simp [blks]; omega); clear hN hE34
          simp only [List.replicate_zero, List.flatten_nil] at hS
          refine k_two 7 8 (by kernel_rfl) ?_ ?_
          · skip
            refine kk_append 7 H rfl rfl rfl Tryd.underlying24 Tryd.underlying24 (by simp) el3 (hS.own 0 rfl) (SlR.src (show SlR _ 1 (Flat eI) (.slice AT tg.length cT) tg from hT.ext (Flat.mono _) hS.x) (fun _ _ => rfl)) (flat_one eI_one _) (by omega) (by simp only [maxLen]; omega) rfl (.inl (by simp [blks]; omega)) ?_
            clear H; intro v53 w35 hN hC36 hb53 hnil53; clear a; intro a H
            have hz53 := hC36.size
            replace hS := hS.setOwn hN hC36 hb53; clear hN
            simp only [Nat.zero_add, List.nil_append] at hS
            refine k_buildSlice 8 H rfl Tryd.underlying24 sz3 ze3 rfl rfl rfl (cs := [.int .i64 (-77)]) (by kernel_rfl) rfl (by kernel_rfl) ?_
            clear H; intro b54 w37 hN hE38 hs_b54; clear a; intro a H
            have hz_b54 := hE38.size
            replace hS := hS.newBlk hN hE38 hs_b54; clear hN hE38
            replace hS := hS.pick 1 rfl
            dsimp only [List.eraseIdx] at hS
            refine k_append 9 H rfl rfl rfl Tryd.underlying24 Tryd.underlying24 (by simp) el3 (hS.own 0 rfl) (show Src _ 1 _ 1 (([-77] : List Int).flatMap eI) from (Own.ofBlk (n := 1) (k := 1) (hS.blk 1 rfl) rfl (by simp [maxLen])).src) (flat_one eI_one _) (by omega) (by simp only [maxLen]; omega) rfl (by kernel_rfl) (.inl (by intro c hc hl; rcases hb53 with e | ⟨bb, e, hl2⟩ <;> rw [e] at hc <;> simp [blks] at hc <;> omega)) ?_
            clear H; intro v55 w39 hN hC40 hb55 hnil55; clear a; intro a H
            have hz55 := hC40.size
            replace hS := hS.setOwn hN hC40 hb55; clear hN
            rw [← List.flatMap_append] at hS
            refine k_q 10 H rfl (q_assign rfl) rfl (by kernel_rfl) ?_
            clear H a; intro a H
            refine k_done (by kernel_rfl) ?_
            refine then_normal ?_
            replace hS := hS.pick 3 rfl
            dsimp only [List.eraseIdx] at hS
            replace hS := hS.pick 3 rfl
            dsimp only [List.eraseIdx] at hS
            replace hS := hS.pick 2 rfl
            dsimp only [List.eraseIdx] at hS
            replace hS := hS.take 3
            simp only [List.take_succ_cons, List.take_zero] at hS
            exact join v55 H ⟨rfl, rfl, rfl, rfl, trivial⟩ hS
          · skip
            refine kk_buildSlice 8 H rfl Tryd.underlying24 sz3 ze3 rfl rfl rfl (cs := [.int .i64 (-77)]) (by kernel_rfl) rfl ?_
            clear H; intro b54 w41 hN hE42 hs_b54; clear a; intro a H
            have hz_b54 := hE42.size
            replace hS := hS.newBlk hN hE42 hs_b54; clear hN hE42
            replace hS := hS.pick 1 rfl
            dsimp only [List.eraseIdx] at hS
            refine k_append 7 H rfl rfl rfl Tryd.underlying24 Tryd.underlying24 (by simp) el3 (hS.own 0 rfl) (SlR.src (show SlR _ 1 (Flat eI) (.slice AT tg.length cT) tg from hT.ext (Flat.mono _) hS.x) (fun _ _ => rfl)) (flat_one eI_one _) (by omega) (by simp only [maxLen]; omega) rfl (by kernel_rfl) (.inl (by simp [blks]; omega)) ?_
            clear H; intro v53 w43 hN hC44 hb53 hnil53; clear a; intro a H
            have hz53 := hC44.size
            replace hS := hS.setOwn hN hC44 hb53; clear hN
            simp only [Nat.zero_add, List.nil_append] at hS
            refine k_append 9 H rfl rfl rfl Tryd.underlying24 Tryd.underlying24 (by simp) el3 (hS.own 0 rfl) (show Src _ 1 _ 1 (([-77] : List Int).flatMap eI) from (Own.ofBlk (n := 1) (k := 1) (hS.blk 1 rfl) rfl (by simp [maxLen])).src) (flat_one eI_one _) (by omega) (by simp only [maxLen]; omega) rfl (by kernel_rfl) (.inl (by intro c hc hl; rcases hb53 with e | ⟨bb, e, hl2⟩ <;> rw [e] at hc <;> simp [blks] at hc <;> omega)) ?_
            clear H; intro v55 w45 hN hC46 hb55 hnil55; clear a; intro a H
            have hz55 := hC46.size
            replace hS := hS.setOwn hN hC46 hb55; clear hN
            rw [← List.flatMap_append] at hS
            refine k_q 10 H rfl (q_assign rfl) rfl (by kernel_rfl) ?_
            clear H a; intro a H
            refine k_done (by kernel_rfl) ?_
            refine then_normal ?_
            replace hS := hS.pick 3 rfl
            dsimp only [List.eraseIdx] at hS
            replace hS := hS.pick 3 rfl
            dsimp only [List.eraseIdx] at hS
            replace hS := hS.pick 2 rfl
            dsimp only [List.eraseIdx] at hS
            replace hS := hS.take 3
            simp only [List.take_succ_cons, List.take_zero] at hS
            exact join v55 H ⟨rfl, rfl, rfl, rfl, trivial⟩ hS
        · skip
          refine kk_buildSlice 8 H rfl Tryd.underlying24 sz3 ze3 rfl rfl rfl (cs := [.int .i64 (-77)]) (by kernel_rfl) rfl ?_
          clear H; intro b54 w47 hN hE48 hs_b54; clear a; intro a H
          have hz_b54 := hE48.size
          replace hS := hS.newBlk hN hE48 hs_b54; clear hN hE48
          refine k_make 4 (L := 0) (C := (tg.length + 1)) H rfl Tryd.underlying24 el3 rfl (congrArg (fun z => some (Value.int .i64 z)) (show (tg.length : Int) + 1 = ((tg.length + 1 : Nat) : Int) by omega)) (by omega) (by omega) (by simp only [maxLen]; omega) rfl (by kernel_rfl) ?_
          clear H; intro b50 w49 hN hE50 hs_b50; clear a; intro a H
          have hz_b50 := hE50.size
          replace hS := hS.newOwn hN hE50 (by simp [blks]; omega); clear hN hE50
          simp only [List.replicate_zero, List.flatten_nil] at hS
          refine k_append 7 H rfl rfl rfl Tryd.underlying24 Tryd.underlying24 (by simp) el3 (hS.own 0 rfl) (SlR.src (show SlR _ 1 (Flat eI) (.slice AT tg.length cT) tg from hT.ext (Flat.mono _) hS.x) (fun _ _ => rfl)) (flat_one eI_one _) (by omega) (by simp only [maxLen]; omega) rfl (by kernel_rfl) (.inl (by simp [blks]; omega)) ?_
          clear H; intro v53 w51 hN hC52 hb53 hnil53; clear a; intro a H
          have hz53 := hC52.size
          replace hS := hS.setOwn hN hC52 hb53; clear hN
          simp only [Nat.zero_add, List.nil_append] at hS
          refine k_append 9 H rfl rfl rfl Tryd.underlying24 Tryd.underlying24 (by simp) el3 (hS.own 0 rfl) (show Src _ 1 _ 1 (([-77] : List Int).flatMap eI) from (Own.ofBlk (n := 1) (k := 1) (hS.blk 1 rfl) rfl (by simp [maxLen])).src) (flat_one eI_one _) (by omega) (by simp only [maxLen]; omega) rfl (by kernel_rfl) (.inl (by intro c hc hl; rcases hb53 with e | ⟨bb, e, hl2⟩ <;> rw [e] at hc <;> simp [blks] at hc <;> omega)) ?_
          clear H; intro v55 w53 hN hC54 hb55 hnil55; clear a; intro a H
          have hz55 := hC54.size
          replace hS := hS.setOwn hN hC54 hb55; clear hN
          rw [← List.flatMap_append] at hS
          refine k_q 10 H rfl (q_assign rfl) rfl (by kernel_rfl) ?_
          clear H a; intro a H
          refine k_done (by kernel_rfl) ?_
          refine then_normal ?_
          replace hS := hS.pick 3 rfl
          dsimp only [List.eraseIdx] at hS
          replace hS := hS.pick 3 rfl
          dsimp only [List.eraseIdx] at hS
          replace hS := hS.pick 2 rfl
          dsimp only [List.eraseIdx] at hS
          replace hS := hS.take 3
          simp only [List.take_succ_cons, List.take_zero] at hS
          exact join v55 H ⟨rfl, rfl, rfl, rfl, trivial⟩ hS
      · clear H hS; clear a
        intro vT a w55 H hR
        simp only [ent, List.map_cons, List.map_nil] at H
        try dsimp only at hR
        have hS := hR; try clear hR
        obtain ⟨bT, cU, hvT⟩ := (hS.own 0 rfl).sm (by omega)
        subst hvT
        have hlu : tg.length + 1 ≤ cU := by obtain ⟨_, _, hq, h, _⟩ := (hS.own 0 rfl).form; cases hq; exact h
        refine wp_seq ?_
        refine wp_region_lit ?_
        refine n_q H (q_move rfl) rfl ?_
        clear H a; intro a H
        refine n_q H (q_fieldAddr0 rfl fo26_2) rfl ?_
        clear H a; intro a H
        refine n_q H (q_load rfl ((hS.blk 2 rfl).ld ag24 rfl)) rfl ?_
        clear H a; intro a H
        refine n_q H (q_lenSl Tryd.underlying24 rfl) rfl ?_
        clear H a; intro a H
        refine n_q H (q_cast (q_sliceTo (A := some ⟨bT, 0, none⟩) (n := tg.length + 1) (c := cU) Tryd.underlying24 sz3 rfl rfl (by omega) (by omega)) (show _ = Value.slice (some ⟨bT, 0, none⟩) tg.length cU by simp)) rfl ?_
        clear H a; intro a H
        refine n_q H (q_assign rfl) rfl ?_
        clear H a; intro a H
        refine n_nil ?_
        refine then_normal ?_
        refine wp_seq ?_
        refine wp_region_lit ?_
        refine n_q H (q_fieldAddr0 rfl fo26_0) rfl ?_
        clear H a; intro a H
        refine n_q H (q_load rfl ((hS.blk 2 rfl).ld ag22 rfl)) rfl ?_
        clear H a; intro a H
        refine n_call H rfl en10 (recs_w (h.ext (Flat.mono _) hS.x) (hr.ext hS.x) hz hb) rfl ?_
        clear H a; intro v63 w56 hv a H
        obtain ⟨ys, n63, hn63, hk63, hE57⟩ := hv
        replace hS := hS.new hE57
        simp only [List.cons_append, List.nil_append] at hS
        refine n_q H (q_assign rfl) rfl ?_
        clear H a; intro a H
        refine n_nil ?_
        refine then_normal ?_
        refine wp_seq ?_
        refine wp_region_lit ?_
        refine n_q H (q_fieldAddr0 rfl fo26_0) rfl ?_
        clear H a; intro a H
        refine n_q H (q_load rfl ((hS.blk 4 rfl).ld ag22 rfl)) rfl ?_
        clear H a; intro a H
        refine n_call H rfl en8 (rJoin_w (h.ext (Flat.mono _) hS.x) (hr.ext hS.x) hbk) rfl ?_
        clear H a; intro v60 w58 hv a H
        obtain ⟨v67, n67, hn67, rfl, hE59⟩ := hv
        replace hS := hS.new hE59
        simp only [List.cons_append, List.nil_append] at hS
        refine n_q H (q_move rfl) rfl ?_
        clear H a; intro a H
        refine n_q H (q_extract rfl rfl) rfl ?_
        clear H a; intro a H
        refine n_q H (q_extract rfl rfl) rfl ?_
        clear H a; intro a H
        refine n_alloc H ze29 rfl ?_
        clear H; intro b9 w61 hN hE62 hs_b9; clear a; intro a H
        replace hS := hS.newBlk hN hE62 hs_b9; clear hN hE62
        refine n_q H (q_assign rfl) rfl ?_
        clear H a; intro a H
        refine n_storeAll H rfl rfl (vs := [.int .i64 (joinM (xs.map RecM.key)).err.code, .int .i64 (joinM (xs.map RecM.key)).err.place]) rfl sz29 (hS.blk 0 rfl) rfl (by simp [Value.oneCell']) ?_
        clear H; intro w63 hN hC64 hz; clear a; intro a H
        replace hS := hS.setBlk hN hC64; clear hN hz
        refine n_nil ?_
        refine then_normal ?_
        refine wp_seq ?_
        refine wp_region_lit ?_
        refine n_q H (q_fieldAddr0 rfl fo26_1) rfl ?_
        clear H a; intro a H
        refine n_q H (q_load rfl ((hS.blk 6 rfl).ld ag23 rfl)) rfl ?_
        clear H a; intro a H
        refine n_call H rfl en12 (rSplit_w (bs := bs) (fun w' e => hB.ext (Flat.mono _) (Ext.trans' hS.x e)) (by omega)) rfl ?_
        clear H a; intro v67 w65 hv a H
        obtain ⟨v73, ss, n73, e73, hn73, hss, rfl, hE66⟩ := hv
        replace hS := hS.new hE66
        simp only [List.cons_append, List.nil_append] at hS
        obtain ⟨hss1, rfl⟩ : ss.map RecM.key = (splitM bs).1 ∧ e73 = (splitM bs).2 := by rw [← hss]; exact ⟨rfl, rfl⟩
        refine n_q H (q_move rfl) rfl ?_
        clear H a; intro a H
        refine n_q H (q_extract rfl rfl) rfl ?_
        clear H a; intro a H
        refine n_q H (q_extract rfl rfl) rfl ?_
        clear H a; intro a H
        refine n_alloc H ze29 rfl ?_
        clear H; intro b11 w68 hN hE69 hs_b11; clear a; intro a H
        replace hS := hS.newBlk hN hE69 hs_b11; clear hN hE69
        refine n_q H (q_assign rfl) rfl ?_
        clear H a; intro a H
        refine n_storeAll H rfl rfl (vs := [.int .i64 (splitM bs).2.code, .int .i64 (splitM bs).2.place]) rfl sz29 (hS.blk 0 rfl) rfl (by simp [Value.oneCell']) ?_
        clear H; intro w70 hN hC71 hz; clear a; intro a H
        replace hS := hS.setBlk hN hC71; clear hN hz
        refine n_nil ?_
        refine then_normal ?_
        refine wp_seq ?_
        refine wp_region_lit ?_
        refine n_q H (q_fieldAddr0 rfl fo26_1) rfl ?_
        clear H a; intro a H
        refine n_q H (q_load rfl ((hS.blk 9 rfl).ld ag23 rfl)) rfl ?_
        clear H a; intro a H
        refine n_q H (q_fieldAddr0 rfl fo26_2) rfl ?_
        clear H a; intro a H
        refine n_q H (q_load rfl ((hS.blk 9 rfl).ld ag24 rfl)) rfl ?_
        clear H a; intro a H
        refine n_call H rfl en15 (rExpect_w (bs := bs) (tags := tg) (fun w' e => hB.ext (Flat.mono _) (Ext.trans' hS.x e)) (hT.ext (Flat.mono _) hS.x) (by omega) (by omega)) rfl ?_
        clear H a; intro v74 w72 hv a H
        obtain ⟨v81, bl, nl, e81, hnl, hbl, rfl, hE73⟩ := hv
        replace hS := hS.new hE73
        simp only [List.cons_append, List.nil_append] at hS
        obtain ⟨hbl1, rfl⟩ : bl.map RecM.body = (expM bs tg).1 ∧ e81 = (expM bs tg).2 := by rw [← hbl]; exact ⟨rfl, rfl⟩
        obtain ⟨A81, c81, hv81, _⟩ := (hS.own 0 rfl).form
        subst hv81
        refine n_q H (q_move rfl) rfl ?_
        clear H a; intro a H
        refine n_q H (q_extract rfl rfl) rfl ?_
        clear H a; intro a H
        refine n_q H (q_extract rfl rfl) rfl ?_
        clear H a; intro a H
        refine n_alloc H ze29 rfl ?_
        clear H; intro b13 w75 hN hE76 hs_b13; clear a; intro a H
        replace hS := hS.newBlk hN hE76 hs_b13; clear hN hE76
        refine n_q H (q_assign rfl) rfl ?_
        clear H a; intro a H
        refine n_storeAll H rfl rfl (vs := [.int .i64 (expM bs tg).2.code, .int .i64 (expM bs tg).2.place]) rfl sz29 (hS.blk 0 rfl) rfl (by simp [Value.oneCell']) ?_
        clear H; intro w77 hN hC78 hz; clear a; intro a H
        replace hS := hS.setBlk hN hC78; clear hN hz
        refine n_nil ?_
        refine then_normal ?_
        refine wp_seq ?_
        refine wp_region_lit ?_
        refine n_q H (q_fieldAddr0 rfl fo26_1) rfl ?_
        clear H a; intro a H
        refine n_q H (q_load rfl ((hS.blk 12 rfl).ld ag23 rfl)) rfl ?_
        clear H a; intro a H
        refine n_call H rfl en20 (rHex_w (bs := bs) (fun w' e => hB.ext (Flat.mono _) (Ext.trans' hS.x e)) (by omega)) rfl ?_
        clear H a; intro v81 w79 hv a H
        obtain ⟨rfl, hE80⟩ := hv
        replace hS := hS.ext hE80
        refine n_call H rfl en17 (rUnhex_w (s := strB (hexM bs)) (by rw [strB_size, hexM_len]; omega)) rfl ?_
        clear H a; intro v84 w82 hv a H
        obtain ⟨v88, n88, hn88, rfl, hE83⟩ := hv
        replace hS := hS.new hE83
        simp only [List.cons_append, List.nil_append] at hS
        rw [show (unhexM (strB (hexM bs)).data.toList).1 = bs by rw [show (strB (hexM bs)).data.toList = hexM bs from rfl, unhex_hex]] at hS hn88
        refine n_q H (q_move rfl) rfl ?_
        clear H a; intro a H
        refine n_q H (q_extract rfl rfl) rfl ?_
        clear H a; intro a H
        refine n_q H (q_extract rfl rfl) rfl ?_
        clear H a; intro a H
        refine n_alloc H ze29 rfl ?_
        clear H; intro b15 w85 hN hE86 hs_b15; clear a; intro a H
        replace hS := hS.newBlk hN hE86 hs_b15; clear hN hE86
        refine n_q H (q_assign rfl) rfl ?_
        clear H a; intro a H
        refine n_storeAll H rfl rfl (vs := [.int .i64 (unhexM (strB (hexM bs)).data.toList).2.code, .int .i64 (unhexM (strB (hexM bs)).data.toList).2.place]) rfl sz29 (hS.blk 0 rfl) rfl (by simp [Value.oneCell']) ?_
        clear H; intro w87 hN hC88 hz; clear a; intro a H
        replace hS := hS.setBlk hN hC88; clear hN hz
        refine n_nil ?_
        refine then_normal ?_
        refine wp_seq ?_
        refine wp_region_lit ?_
        refine n_q H (q_assign rfl) rfl ?_
        clear H a; intro a H
        refine n_nil ?_
        refine then_normal ?_
        refine wp_seq ?_
        refine wp_seq ?_
        refine wp_region_lit ?_
        refine n_q H (q_assign rfl) rfl ?_
        clear H a; intro a H
        refine n_nil ?_
        refine then_normal ?_
        refine wp_block ?_
        replace hS := hS.starNil bodyR
        replace hS := hS.nilOwn 23 1
        replace hS := hS.pick 16 rfl
        dsimp only [List.eraseIdx] at hS
        replace hS := hS.pick 16 rfl
        dsimp only [List.eraseIdx] at hS
        replace hS := hS.pick 16 rfl
        dsimp only [List.eraseIdx] at hS
        replace hS := hS.pick 6 rfl
        dsimp only [List.eraseIdx] at hS
        replace hS := hS.pick 7 rfl
        dsimp only [List.eraseIdx] at hS
        replace hS := hS.pick 9 rfl
        dsimp only [List.eraseIdx] at hS
        replace hS := hS.pick 9 rfl
        dsimp only [List.eraseIdx] at hS
        replace hS := hS.pick 10 rfl
        dsimp only [List.eraseIdx] at hS
        replace hS := hS.pick 12 rfl
        dsimp only [List.eraseIdx] at hS
        replace hS := hS.pick 12 rfl
        dsimp only [List.eraseIdx] at hS
        replace hS := hS.pick 13 rfl
        dsimp only [List.eraseIdx] at hS
        replace hS := hS.pick 14 rfl
        dsimp only [List.eraseIdx] at hS
        replace hS := hS.pick 16 rfl
        dsimp only [List.eraseIdx] at hS
        replace hS := hS.pick 16 rfl
        dsimp only [List.eraseIdx] at hS
        replace hS := hS.pick 15 rfl
        dsimp only [List.eraseIdx] at hS
        replace hS := hS.pick 15 rfl
        dsimp only [List.eraseIdx] at hS
        replace hS := hS.take 16
        simp only [List.take_succ_cons, List.take_zero] at hS
        refine c_loop (σ := Nat × Value × List RecM) (fun (k, vA, zs) => [(1, .pointer (some ⟨b1, 0, none⟩)), (3, .slice (some ⟨bR, 0, none⟩) (bs.length + 2) cR), (4, .slice (some ⟨bR, 0, none⟩) bs.length cR), (5, .slice (some ⟨bT, 0, none⟩) (tg.length + 1) cU), (6, .slice (some ⟨bT, 0, none⟩) tg.length cU), (7, v63), (8, v67), (9, .pointer (some ⟨b9, 0, none⟩)), (10, v73), (11, .pointer (some ⟨b11, 0, none⟩)), (12, .slice A81 nl c81), (13, .pointer (some ⟨b13, 0, none⟩)), (14, v88), (16, vA), (17, .int .i64 (k : Nat))]) (fun (k, vA, zs) wl => (k ≤ 2 ∧ zs.length ≤ k * 2097155 ∧ Small zs) ∧ St NB w wl [ownR 23 1 vA zs.length (zs.flatMap eBod), starR (zs.map bodyR), ownR 54 2 v63 n63 (ys.flatMap eRec), anyR (fun w' => RecsIn w' ys), ownR 5 1 v67 n67 ((joinM (xs.map RecM.key)).out.flatMap eB), blkR b9 [.int .i64 (joinM (xs.map RecM.key)).err.code, .int .i64 (joinM (xs.map RecM.key)).err.place] 29, ownR 102 2 v73 n73 (ss.flatMap eRec), anyR (fun w' => RecsIn w' ss), blkR b11 [.int .i64 (splitM bs).2.code, .int .i64 (splitM bs).2.place] 29, ownR 23 1 (.slice A81 nl c81) nl (bl.flatMap eBod), anyR (fun w' => RecsIn w' bl), blkR b13 [.int .i64 (expM bs tg).2.code, .int .i64 (expM bs tg).2.place] 29, ownR 5 1 v88 n88 (bs.flatMap eB), ownR 3 1 (.slice (some ⟨bT, 0, none⟩) (tg.length + 1) cU) (tg.length + 1) ((tg ++ [-77] : List Int).flatMap eI), ownR 5 1 (.slice (some ⟨bR, 0, none⟩) (bs.length + 2) cR) (bs.length + 2) ((bs ++ [201, 202] : List UInt8).flatMap eB), blkR b1 [vr, .slice AB bs.length cB, .slice AT tg.length cT, .string s] 26]) (fun (k, vA, zs) => 2 - k) (0, .slice none 0 0, []) H ⟨rfl, rfl, rfl, rfl, rfl, rfl, rfl, rfl, rfl, rfl, rfl, rfl, rfl, rfl, rfl, trivial⟩ ⟨⟨by omega, Nat.zero_le _, Small.nil⟩, hS⟩ ?_
        clear H hS; clear a; intro xx a w89 H hR
        obtain ⟨k, vA, zs⟩ := xx
        simp only [ent, List.map_cons, List.map_nil] at H
        try dsimp only at hR
        obtain ⟨⟨hk2, hzl, hzb⟩, hS⟩ := hR; try clear hR
        refine wp_seq ?_
        refine wp_seq ?_
        refine wp_region_lit ?_
        refine n_q H (q_move rfl) rfl ?_
        clear H a; intro a H
        refine n_q H (q_lss rfl rfl) rfl ?_
        clear H a; intro a H
        refine n_nil ?_
        refine then_normal ?_
        refine c_cond H rfl (fun hc92 => ?_) (fun hc92 => ?_)
        · skip
          have hk1 : k < 2 := by simp at hc92; omega
          refine wp_skip ?_
          refine then_normal ?_
          refine wp_seq ?_
          refine wp_block ?_
          refine wp_seq ?_
          refine wp_region_lit ?_
          refine n_q H (q_move rfl) rfl ?_
          clear H a; intro a H
          refine n_call H rfl en9 (join_w (hG.ext hS.x) ((hS.own 2 rfl).slr hn63 (eRec_len _)) (hS.any 3 rfl) (by rw [bulkR_key, hk63, ← bulkR_key]; exact hbk)) rfl ?_
          clear H a; intro v92 w90 hv a H
          obtain ⟨v97, u97, n97, hn97, rfl, hE91⟩ := hv
          replace hS := hS.new hE91
          simp only [List.cons_append, List.nil_append] at hS
          rw [hk63] at hn97 hS
          obtain ⟨A97, c97, hv97, _⟩ := (hS.own 0 rfl).form
          subst hv97
          refine n_q H (q_move rfl) rfl ?_
          clear H a; intro a H
          refine n_q H (q_extract rfl rfl) rfl ?_
          clear H a; intro a H
          refine n_q H (q_extract rfl rfl) rfl ?_
          clear H a; intro a H
          refine n_q H (q_assign rfl) rfl ?_
          clear H a; intro a H
          refine n_q H (q_assign rfl) rfl ?_
          clear H a; intro a H
          refine n_nil ?_
          refine then_normal ?_
          refine wp_seq ?_
          refine wp_seq ?_
          refine wp_region_lit ?_
          refine n_c H (fun HC => ?_); clear H
          refine nc_q HC (q_move rfl) rfl (by kernel_rfl) ?_
          clear HC a; intro a HC
          refine nc_q HC (q_load rfl ((hS.blk 7 rfl).ldAll ag29 sz29)) rfl (by kernel_rfl) ?_
          clear HC a; intro a HC
          refine nc_call HC rfl en11 (same_self (hG.ext hS.x) (hH.ext hS.x) (hS.any 1 rfl)) rfl (by kernel_rfl) ?_
          clear HC a; intro v95 w93 hv a HC
          obtain ⟨rfl, hE94⟩ := hv
          replace hS := hS.ext hE94
          refine nc_q HC (q_not rfl) rfl (by kernel_rfl) ?_
          clear HC a; intro a HC
          refine nc_q HC (q_move rfl) rfl (by kernel_rfl) ?_
          clear HC a; intro a HC
          refine nc_yes HC rfl rfl ?_
          refine nc_q HC (q_move rfl) rfl (by kernel_rfl) ?_
          clear HC a; intro a HC
          refine nc_yes HC rfl rfl ?_
          refine nc_q HC (q_str Tryd.underlying23 Tryd.underlying5 Tryd.underlying9 rfl (fun w' e => ((hS.own 0 rfl).ext e).slB hn97)) rfl (by kernel_rfl) ?_
          clear HC a; intro a HC
          refine nc_yes HC rfl rfl ?_
          refine nc_q HC (q_move rfl) rfl (by kernel_rfl) ?_
          clear HC a; intro a HC
          refine nc_yes HC rfl rfl ?_
          refine nc_q HC (q_str Tryd.underlying23 Tryd.underlying5 Tryd.underlying9 rfl (fun w' e => ((hS.own 6 rfl).ext e).slB hn67)) rfl (by kernel_rfl) ?_
          clear HC a; intro a HC
          refine nc_yes HC rfl rfl ?_
          refine nc_q HC (q_cast (q_neqS rfl rfl) (show _ = Value.bool false by simp)) rfl (by kernel_rfl) ?_
          clear HC a; intro a HC
          refine nc_or (j := 4) HC rfl rfl rfl (by kernel_rfl) (by kernel_rfl) ?_
          clear HC a; intro a HC
          refine nc_q HC (q_move rfl) rfl (by kernel_rfl) ?_
          clear HC a; intro a HC
          refine nc_yes HC rfl rfl ?_
          refine nc_q HC (q_move rfl) rfl (by kernel_rfl) ?_
          clear HC a; intro a HC
          refine nc_yes HC rfl rfl ?_
          refine nc_q HC (q_fieldAddr0 rfl fo26_0) rfl (by kernel_rfl) ?_
          clear HC a; intro a HC
          refine nc_yes HC rfl rfl ?_
          refine nc_q HC (q_load rfl ((hS.blk 17 rfl).ld ag22 rfl)) rfl (by kernel_rfl) ?_
          clear HC a; intro a HC
          refine nc_yes HC rfl rfl ?_
          refine nc_call HC rfl en14 (sameRecs_w ((hS.own 4 rfl).slr hn63 (eRec_len _)) (hS.any 5 rfl) (h.ext (Flat.mono _) hS.x) (hr.ext hS.x)) rfl (by kernel_rfl) ?_
          clear HC a; intro v98 w96 hv a HC
          obtain ⟨rfl, hE97⟩ := hv
          replace hS := hS.ext hE97
          refine nc_yes HC rfl rfl ?_
          refine nc_q HC (q_cast (q_not rfl) (show _ = Value.bool false by rw [hk63]; simp)) rfl (by kernel_rfl) ?_
          clear HC a; intro a HC
          refine nc_or (j := 11) HC rfl rfl rfl (by kernel_rfl) (by kernel_rfl) ?_
          clear HC a; intro a HC
          have H := HC.has; clear HC
          refine n_nil ?_
          refine then_normal ?_
          refine c_cond H rfl (fun hc117 => ?_) (fun hc117 => ?_)
          · skip
            cases hc117
          · skip
            refine wp_skip ?_
            refine then_normal ?_
            refine wp_seq ?_
            refine wp_region_lit ?_
            refine n_q H (q_move rfl) rfl ?_
            clear H a; intro a H
            refine n_call H rfl en13 (split_o (bs := bs) (hG.ext hS.x) (fun w' e => Own.preB ((hS.own 16 rfl).ext e) hlR) (by omega)) rfl ?_
            clear H a; intro v101 w99 hv a H
            obtain ⟨v120, u120, zs1, n120, e120, hn120, hsp, rfl, hE100⟩ := hv
            replace hS := hS.new hE100
            simp only [List.cons_append, List.nil_append] at hS
            obtain ⟨hsp1, rfl⟩ : zs1.map RecM.key = (splitM bs).1 ∧ e120 = (splitM bs).2 := by rw [← hsp]; exact ⟨rfl, rfl⟩
            have hl120 := (split_small bs hbs hsp1).1
            obtain ⟨A120, c120, hv120, _⟩ := (hS.own 0 rfl).form
            subst hv120
            refine n_q H (q_move rfl) rfl ?_
            clear H a; intro a H
            refine n_q H (q_extract rfl rfl) rfl ?_
            clear H a; intro a H
            refine n_q H (q_extract rfl rfl) rfl ?_
            clear H a; intro a H
            refine n_q H (q_assign rfl) rfl ?_
            clear H a; intro a H
            refine n_q H (q_assign rfl) rfl ?_
            clear H a; intro a H
            refine n_nil ?_
            refine then_normal ?_
            refine wp_seq ?_
            refine wp_seq ?_
            refine wp_region_lit ?_
            refine n_c H (fun HC => ?_); clear H
            refine nc_q HC (q_move rfl) rfl (by kernel_rfl) ?_
            clear HC a; intro a HC
            refine nc_q HC (q_load rfl ((hS.blk 13 rfl).ldAll ag29 sz29)) rfl (by kernel_rfl) ?_
            clear HC a; intro a HC
            refine nc_call HC rfl en11 (same_self (hG.ext hS.x) (hH.ext hS.x) (hS.any 2 rfl)) rfl (by kernel_rfl) ?_
            clear HC a; intro v104 w102 hv a HC
            obtain ⟨rfl, hE103⟩ := hv
            replace hS := hS.ext hE103
            refine nc_q HC (q_not rfl) rfl (by kernel_rfl) ?_
            clear HC a; intro a HC
            refine nc_q HC (q_move rfl) rfl (by kernel_rfl) ?_
            clear HC a; intro a HC
            refine nc_yes HC rfl rfl ?_
            refine nc_q HC (q_move rfl) rfl (by kernel_rfl) ?_
            clear HC a; intro a HC
            refine nc_yes HC rfl rfl ?_
            refine nc_q HC (q_move rfl) rfl (by kernel_rfl) ?_
            clear HC a; intro a HC
            refine nc_yes HC rfl rfl ?_
            refine nc_call HC rfl en14 (sameRecs_w ((hS.own 0 rfl).slr hn120 (eRec_len _)) (hS.starRecs (i := 1) rfl) ((hS.own 11 rfl).slr hn73 (eRec_len _)) (hS.any 12 rfl)) rfl (by kernel_rfl) ?_
            clear HC a; intro v107 w105 hv a HC
            obtain ⟨rfl, hE106⟩ := hv
            replace hS := hS.ext hE106
            refine nc_yes HC rfl rfl ?_
            refine nc_q HC (q_cast (q_not rfl) (show _ = Value.bool false by rw [hsp1, hss1]; simp)) rfl (by kernel_rfl) ?_
            clear HC a; intro a HC
            refine nc_or (j := 4) HC rfl rfl rfl (by kernel_rfl) (by kernel_rfl) ?_
            clear HC a; intro a HC
            have H := HC.has; clear HC
            refine n_nil ?_
            refine then_normal ?_
            refine c_cond H rfl (fun hc132 => ?_) (fun hc132 => ?_)
            · skip
              cases hc132
            · skip
              refine wp_skip ?_
              refine then_normal ?_
              refine wp_seq ?_
              refine wp_region_lit ?_
              refine n_q H (q_move rfl) rfl ?_
              clear H a; intro a H
              refine n_q H (q_move rfl) rfl ?_
              clear H a; intro a H
              refine n_call H rfl en16 (expect_o (bs := bs) (tags := tg) (hG.ext hS.x) (fun w' e => Own.preB ((hS.own 19 rfl).ext e) hlR) (Own.preI (hS.own 18 rfl) hlT) (by omega) (by omega)) rfl ?_
              clear H a; intro v110 w108 hv a H
              obtain ⟨v136, u136, bm, nm, e136, hnm, hbm, rfl, hE109⟩ := hv
              replace hS := hS.new hE109
              simp only [List.cons_append, List.nil_append] at hS
              obtain ⟨hbm1, rfl⟩ : bm.map RecM.body = (expM bs tg).1 ∧ e136 = (expM bs tg).2 := by rw [← hbm]; exact ⟨rfl, rfl⟩
              have hl136 := (exp_small hbs htg hbm1).1
              obtain ⟨A136, c136, hv136, _⟩ := (hS.own 0 rfl).form
              subst hv136
              refine n_q H (q_move rfl) rfl ?_
              clear H a; intro a H
              refine n_q H (q_extract rfl rfl) rfl ?_
              clear H a; intro a H
              refine n_q H (q_extract rfl rfl) rfl ?_
              clear H a; intro a H
              refine n_q H (q_assign rfl) rfl ?_
              clear H a; intro a H
              refine n_q H (q_assign rfl) rfl ?_
              clear H a; intro a H
              refine n_nil ?_
              refine then_normal ?_
              refine wp_seq ?_
              refine wp_seq ?_
              refine wp_region_lit ?_
              refine n_c H (fun HC => ?_); clear H
              refine nc_q HC (q_move rfl) rfl (by kernel_rfl) ?_
              clear HC a; intro a HC
              refine nc_q HC (q_load rfl ((hS.blk 19 rfl).ldAll ag29 sz29)) rfl (by kernel_rfl) ?_
              clear HC a; intro a HC
              refine nc_call HC rfl en11 (same_self (hG.ext hS.x) (hH.ext hS.x) (hS.any 2 rfl)) rfl (by kernel_rfl) ?_
              clear HC a; intro v113 w111 hv a HC
              obtain ⟨rfl, hE112⟩ := hv
              replace hS := hS.ext hE112
              refine nc_q HC (q_not rfl) rfl (by kernel_rfl) ?_
              clear HC a; intro a HC
              refine nc_q HC (q_move rfl) rfl (by kernel_rfl) ?_
              clear HC a; intro a HC
              refine nc_yes HC rfl rfl ?_
              refine nc_q HC (q_move rfl) rfl (by kernel_rfl) ?_
              clear HC a; intro a HC
              refine nc_yes HC rfl rfl ?_
              refine nc_q HC (q_lenSl Tryd.underlying44 rfl) rfl (by kernel_rfl) ?_
              clear HC a; intro a HC
              refine nc_yes HC rfl rfl ?_
              refine nc_q HC (q_move rfl) rfl (by kernel_rfl) ?_
              clear HC a; intro a HC
              refine nc_yes HC rfl rfl ?_
              refine nc_q HC (q_lenSl Tryd.underlying44 rfl) rfl (by kernel_rfl) ?_
              clear HC a; intro a HC
              refine nc_yes HC rfl rfl ?_
              refine nc_q HC (q_cast (q_neq rfl rfl) (show _ = Value.bool false by rw [hnl, hnm, ← List.length_map (f := RecM.body), hbm1, ← hbl1, List.length_map]; simp)) rfl (by kernel_rfl) ?_
              clear HC a; intro a HC
              refine nc_or (j := 4) HC rfl rfl rfl (by kernel_rfl) (by kernel_rfl) ?_
              clear HC a; intro a HC
              have H := HC.has; clear HC
              refine n_nil ?_
              refine then_normal ?_
              refine c_cond H rfl (fun hc149 => ?_) (fun hc149 => ?_)
              · skip
                cases hc149
              · skip
                refine wp_skip ?_
                refine then_normal ?_
                refine wp_seq ?_
                refine wp_region_lit ?_
                refine n_q H (q_move rfl) rfl ?_
                clear H a; intro a H
                refine n_call H rfl en19 (hex_w (bs := bs) (fun w' e => Own.preB ((hS.own 22 rfl).ext e) hlR) (by omega)) rfl ?_
                clear H a; intro v116 w114 hv a H
                obtain ⟨rfl, hE115⟩ := hv
                replace hS := hS.ext hE115
                refine n_call H rfl en18 (unhex_w (s := strB (hexM bs)) (hG.ext hS.x) (by rw [strB_size, hexM_len]; omega)) rfl ?_
                clear H a; intro v119 w117 hv a H
                obtain ⟨v153, u153, n153, hn153, rfl, hE118⟩ := hv
                replace hS := hS.new hE118
                simp only [List.cons_append, List.nil_append] at hS
                rw [show (strB (hexM bs)).data.toList = hexM bs from rfl, unhex_hex] at hS hn153
                have hu153 : u153 = .nilIface := (hS.any 1 rfl)
                subst hu153
                obtain ⟨A153, c153, hv153, _⟩ := (hS.own 0 rfl).form
                subst hv153
                refine n_q H (q_move rfl) rfl ?_
                clear H a; intro a H
                refine n_q H (q_extract rfl rfl) rfl ?_
                clear H a; intro a H
                refine n_q H (q_extract rfl rfl) rfl ?_
                clear H a; intro a H
                refine n_q H (q_assign rfl) rfl ?_
                clear H a; intro a H
                refine n_q H (q_assign rfl) rfl ?_
                clear H a; intro a H
                refine n_nil ?_
                refine then_normal ?_
                refine wp_seq ?_
                refine wp_seq ?_
                refine wp_region_lit ?_
                refine n_c H (fun HC => ?_); clear H
                refine nc_q HC (q_move rfl) rfl (by kernel_rfl) ?_
                clear HC a; intro a HC
                refine nc_q HC (q_nnilI Tryd.underlying33 rfl rfl (.inl rfl)) rfl (by kernel_rfl) ?_
                clear HC a; intro a HC
                refine nc_q HC (q_move rfl) rfl (by kernel_rfl) ?_
                clear HC a; intro a HC
                refine nc_yes HC rfl rfl ?_
                refine nc_q HC (q_move rfl) rfl (by kernel_rfl) ?_
                clear HC a; intro a HC
                refine nc_yes HC rfl rfl ?_
                refine nc_q HC (q_str Tryd.underlying23 Tryd.underlying5 Tryd.underlying9 rfl (fun w' e => ((hS.own 0 rfl).ext e).slB hn153)) rfl (by kernel_rfl) ?_
                clear HC a; intro a HC
                refine nc_yes HC rfl rfl ?_
                refine nc_q HC (q_move rfl) rfl (by kernel_rfl) ?_
                clear HC a; intro a HC
                refine nc_yes HC rfl rfl ?_
                refine nc_q HC (q_str Tryd.underlying23 Tryd.underlying5 Tryd.underlying9 rfl (fun w' e => ((hS.own 22 rfl).ext e).slB hn88)) rfl (by kernel_rfl) ?_
                clear HC a; intro a HC
                refine nc_yes HC rfl rfl ?_
                refine nc_q HC (q_cast (q_neqS rfl rfl) (show _ = Value.bool false by simp)) rfl (by kernel_rfl) ?_
                clear HC a; intro a HC
                refine nc_or (j := 2) HC rfl rfl rfl (by kernel_rfl) (by kernel_rfl) ?_
                clear HC a; intro a HC
                have H := HC.has; clear HC
                refine n_nil ?_
                refine then_normal ?_
                refine c_cond H rfl (fun hc164 => ?_) (fun hc164 => ?_)
                · skip
                  cases hc164
                · skip
                  refine wp_skip ?_
                  refine then_normal ?_
                  refine wp_seq ?_
                  refine wp_region_lit ?_
                  refine n_q H (q_move rfl) rfl ?_
                  clear H a; intro a H
                  refine n_q H (q_move rfl) rfl ?_
                  clear H a; intro a H
                  refine n_q H (q_move rfl) rfl ?_
                  clear H a; intro a H
                  refine n_buildSlice H Tryd.underlying44 sz23 ze23 rfl rfl rfl (cs := [.slice A97 n97 c97, .slice A153 n153 c153]) (by kernel_rfl) rfl ?_
                  clear H; intro b168 w120 hN hE121 hs_b168; clear a; intro a H
                  replace hS := hS.newBlk hN hE121 hs_b168; clear hN hE121
                  replace hS := hS.pick 11 rfl
                  dsimp only [List.eraseIdx] at hS
                  refine n_append H rfl rfl Tryd.underlying44 Tryd.underlying44 (by simp) el23 (hS.own 0 rfl) (show Src _ 1 _ 2 (([⟨0, .slice A97 n97 c97, (joinM (xs.map RecM.key)).out⟩, ⟨0, .slice A153 n153 c153, bs⟩] : List RecM).flatMap eBod) from (Own.ofBlk (n := 2) (k := 1) (hS.blk 1 rfl) rfl (by simp [maxLen])).src) (by simp [eBod, Value.oneCell']) (by omega) (by simp only [maxLen]; omega) rfl ?_
                  clear H; intro v169 w122 hN hC123 hb169 hnil169; clear a; intro a H
                  replace hS := hS.setOwn hN hC123 hb169; clear hN
                  rw [show zs.flatMap eBod ++ ([⟨0, .slice A97 n97 c97, (joinM (xs.map RecM.key)).out⟩, ⟨0, .slice A153 n153 c153, bs⟩] : List RecM).flatMap eBod = (zs ++ [(⟨0, .slice A97 n97 c97, (joinM (xs.map RecM.key)).out⟩ : RecM)] ++ [(⟨0, .slice A153 n153 c153, bs⟩ : RecM)]).flatMap eBod by simp] at hS
                  replace hS := hS.pick 12 rfl
                  dsimp only [List.eraseIdx] at hS
                  replace hS := hS.pick 11 rfl
                  dsimp only [List.eraseIdx] at hS
                  replace hS := St.bodyAdd (r := ⟨0, .slice A97 n97 c97, (joinM (xs.map RecM.key)).out⟩) hS hn97
                  replace hS := hS.pick 3 rfl
                  dsimp only [List.eraseIdx] at hS
                  replace hS := St.bodyAdd (r := ⟨0, .slice A153 n153 c153, bs⟩) hS hn153
                  have hz2s : Small (zs ++ [⟨0, .slice A97 n97 c97, (joinM (xs.map RecM.key)).out⟩] ++ [⟨0, .slice A153 n153 c153, bs⟩]) := Small.two (join_small hbk) (by dsimp only; omega) hzb
                  obtain ⟨z2, hz2⟩ : ∃ z2, z2 = zs ++ [(⟨0, .slice A97 n97 c97, (joinM (xs.map RecM.key)).out⟩ : RecM)] ++ [⟨0, .slice A153 n153 c153, bs⟩] := ⟨_, rfl⟩
                  rw [← hz2] at hS hz2s
                  have hl2 : zs.length + 2 = z2.length := by rw [hz2]; simp
                  rw [hl2] at hS
                  refine n_q H (q_assign rfl) rfl ?_
                  clear H a; intro a H
                  refine n_nil ?_
                  refine then_normal ?_
                  refine wp_seq ?_
                  refine wp_seq ?_
                  refine wp_region_lit ?_
                  refine n_q H (q_assign rfl) rfl ?_
                  clear H a; intro a H
                  refine n_nil ?_
                  refine then_normal ?_
                  refine wp_block ?_
                  replace hS := hS.pick 24 rfl
                  dsimp only [List.eraseIdx] at hS
                  replace hS := hS.pick 24 rfl
                  dsimp only [List.eraseIdx] at hS
                  replace hS := hS.pick 24 rfl
                  dsimp only [List.eraseIdx] at hS
                  replace hS := hS.pick 24 rfl
                  dsimp only [List.eraseIdx] at hS
                  replace hS := hS.pick 24 rfl
                  dsimp only [List.eraseIdx] at hS
                  replace hS := hS.pick 24 rfl
                  dsimp only [List.eraseIdx] at hS
                  replace hS := hS.pick 24 rfl
                  dsimp only [List.eraseIdx] at hS
                  replace hS := hS.pick 24 rfl
                  dsimp only [List.eraseIdx] at hS
                  replace hS := hS.pick 24 rfl
                  dsimp only [List.eraseIdx] at hS
                  replace hS := hS.pick 24 rfl
                  dsimp only [List.eraseIdx] at hS
                  replace hS := hS.pick 24 rfl
                  dsimp only [List.eraseIdx] at hS
                  replace hS := hS.pick 24 rfl
                  dsimp only [List.eraseIdx] at hS
                  replace hS := hS.pick 24 rfl
                  dsimp only [List.eraseIdx] at hS
                  replace hS := hS.pick 24 rfl
                  dsimp only [List.eraseIdx] at hS
                  replace hS := hS.pick 19 rfl
                  dsimp only [List.eraseIdx] at hS
                  replace hS := hS.pick 19 rfl
                  dsimp only [List.eraseIdx] at hS
                  replace hS := hS.pick 22 rfl
                  dsimp only [List.eraseIdx] at hS
                  replace hS := hS.pick 22 rfl
                  dsimp only [List.eraseIdx] at hS
                  replace hS := hS.pick 18 rfl
                  dsimp only [List.eraseIdx] at hS
                  replace hS := hS.pick 19 rfl
                  dsimp only [List.eraseIdx] at hS
                  replace hS := hS.take 20
                  simp only [List.take_succ_cons, List.take_zero] at hS
                  refine c_loop (σ := Nat × Value) (fun (i, vA) => [(1, .pointer (some ⟨b1, 0, none⟩)), (3, .slice (some ⟨bR, 0, none⟩) (bs.length + 2) cR), (4, .slice (some ⟨bR, 0, none⟩) bs.length cR), (5, .slice (some ⟨bT, 0, none⟩) (tg.length + 1) cU), (6, .slice (some ⟨bT, 0, none⟩) tg.length cU), (7, v63), (8, v67), (9, .pointer (some ⟨b9, 0, none⟩)), (10, v73), (11, .pointer (some ⟨b11, 0, none⟩)), (12, .slice A81 nl c81), (13, .pointer (some ⟨b13, 0, none⟩)), (14, v88), (16, vA), (17, .int .i64 (k : Nat)), (20, .slice A120 n120 c120), (21, .slice A136 nm c136), (23, .int .i64 (i : Nat))]) (fun (i, vA) wl => i ≤ zs1.length ∧ St NB w wl [ownR 23 1 vA (z2.length + i) ((z2 ++ zs1.take i).flatMap eBod), starR ((z2 ++ zs1.take i).map bodyR), ownR 54 2 (.slice A120 n120 c120) n120 (zs1.flatMap eRec), starR ((zs1.drop i).map bodyR), ownR 23 1 (.slice A136 nm c136) nm (bm.flatMap eBod), starR (bm.map bodyR), ownR 54 2 v63 n63 (ys.flatMap eRec), anyR (fun w' => RecsIn w' ys), ownR 5 1 v67 n67 ((joinM (xs.map RecM.key)).out.flatMap eB), blkR b9 [.int .i64 (joinM (xs.map RecM.key)).err.code, .int .i64 (joinM (xs.map RecM.key)).err.place] 29, ownR 102 2 v73 n73 (ss.flatMap eRec), anyR (fun w' => RecsIn w' ss), blkR b11 [.int .i64 (splitM bs).2.code, .int .i64 (splitM bs).2.place] 29, ownR 23 1 (.slice A81 nl c81) nl (bl.flatMap eBod), anyR (fun w' => RecsIn w' bl), blkR b13 [.int .i64 (expM bs tg).2.code, .int .i64 (expM bs tg).2.place] 29, ownR 5 1 v88 n88 (bs.flatMap eB), ownR 3 1 (.slice (some ⟨bT, 0, none⟩) (tg.length + 1) cU) (tg.length + 1) ((tg ++ [-77] : List Int).flatMap eI), ownR 5 1 (.slice (some ⟨bR, 0, none⟩) (bs.length + 2) cR) (bs.length + 2) ((bs ++ [201, 202] : List UInt8).flatMap eB), blkR b1 [vr, .slice AB bs.length cB, .slice AT tg.length cT, .string s] 26]) (fun (i, vA) => zs1.length - i) (0, v169) H ⟨rfl, rfl, rfl, rfl, rfl, rfl, rfl, rfl, rfl, rfl, rfl, rfl, rfl, rfl, rfl, rfl, rfl, rfl, trivial⟩ ⟨Nat.zero_le _, by rw [List.take_zero, List.append_nil]; exact hS⟩ ?_
                  clear H hS; clear a; intro xx a w124 H hR
                  obtain ⟨i, vA⟩ := xx
                  simp only [ent, List.map_cons, List.map_nil] at H
                  try dsimp only at hR
                  obtain ⟨hi, hS⟩ := hR; try clear hR
                  refine wp_seq ?_
                  refine wp_seq ?_
                  refine wp_region_lit ?_
                  refine n_q H (q_move rfl) rfl ?_
                  clear H a; intro a H
                  refine n_q H (q_move rfl) rfl ?_
                  clear H a; intro a H
                  refine n_q H (q_lenSl Tryd.underlying36 rfl) rfl ?_
                  clear H a; intro a H
                  refine n_q H (q_lss rfl rfl) rfl ?_
                  clear H a; intro a H
                  refine n_nil ?_
                  refine then_normal ?_
                  refine c_cond H rfl (fun hc173 => ?_) (fun hc173 => ?_)
                  · skip
                    have hi1 : i < n120 := by simp at hc173; omega
                    obtain ⟨⟨rt, rq, rb⟩, hr1⟩ : ∃ r, zs1[i]? = some r := ⟨_, List.getElem?_eq_getElem (by omega)⟩
                    replace hS := hS.pick 3 rfl
                    dsimp only [List.eraseIdx] at hS
                    rw [drop_cons hr1] at hS
                    replace hS := St.starCons hS
                    dsimp only [bodyR] at hS
                    obtain ⟨Aq, cq, hvq, _⟩ := (hS.own 0 rfl).form
                    subst hvq
                    obtain ⟨b120, c61, hq60⟩ := (hS.own 4 rfl).sm (by omega)
                    cases hq60
                    refine wp_skip ?_
                    refine then_normal ?_
                    refine wp_seq ?_
                    refine wp_block ?_
                    refine wp_region_lit ?_
                    refine n_q H (q_move rfl) rfl ?_
                    clear H a; intro a H
                    refine n_q H (q_move rfl) rfl ?_
                    clear H a; intro a H
                    refine n_q H (q_move rfl) rfl ?_
                    clear H a; intro a H
                    refine n_q H (q_cast (q_indexAddr (ad := ⟨b120, 0, none⟩) (n := n120) (c := c120) Tryd.underlying36 sz54 rfl rfl (by omega) (by omega)) (show _ = Value.pointer (some ((⟨b120, 0, none⟩ : Addr).add (i * 2))) by rw [show (i : Int).toNat = i by omega])) rfl ?_
                    clear H a; intro a H
                    refine n_q H (q_fieldAddr rfl fo54_1) rfl ?_
                    clear H a; intro a H
                    refine n_q H (q_load rfl (((hS.own 4 rfl).slr hn120 (eRec_len _)).ldCell ag23 hr1 (j := 1) rfl)) rfl ?_
                    clear H a; intro a H
                    refine n_buildSlice H Tryd.underlying44 sz23 ze23 rfl rfl rfl (cs := [.slice Aq rb.length cq]) (by kernel_rfl) rfl ?_
                    clear H; intro b182 w125 hN hE126 hs_b182; clear a; intro a H
                    replace hS := hS.newBlk hN hE126 hs_b182; clear hN hE126
                    replace hS := hS.pick 3 rfl
                    dsimp only [List.eraseIdx] at hS
                    refine n_append H rfl rfl Tryd.underlying44 Tryd.underlying44 (by simp) el23 (hS.own 0 rfl) (show Src _ 1 _ 1 (([⟨rt, .slice Aq rb.length cq, rb⟩] : List RecM).flatMap eBod) from (Own.ofBlk (n := 1) (k := 1) (hS.blk 1 rfl) rfl (by simp [maxLen])).src) (by simp [eBod, Value.oneCell']) (by omega) (by simp only [maxLen]; omega) rfl ?_
                    clear H; intro v183 w127 hN hC128 hb183 hnil183; clear a; intro a H
                    replace hS := hS.setOwn hN hC128 hb183; clear hN
                    rw [← List.flatMap_append] at hS
                    replace hS := hS.pick 4 rfl
                    dsimp only [List.eraseIdx] at hS
                    replace hS := hS.pick 3 rfl
                    dsimp only [List.eraseIdx] at hS
                    replace hS := St.bodyAdd (r := ⟨rt, .slice Aq rb.length cq, rb⟩) hS rfl
                    refine n_q H (q_assign rfl) rfl ?_
                    clear H a; intro a H
                    refine n_nil ?_
                    refine block_normal ?_
                    refine then_normal ?_
                    refine wp_region_lit ?_
                    refine n_q H (q_move rfl) rfl ?_
                    clear H a; intro a H
                    refine n_q H (q_add rfl rfl (by constructor <;> omega)) rfl ?_
                    clear H a; intro a H
                    refine n_q H (q_assign rfl) rfl ?_
                    clear H a; intro a H
                    refine n_nil ?_
                    refine then_normal ?_
                    replace hS := hS.pick 20 rfl
                    dsimp only [List.eraseIdx] at hS
                    replace hS := hS.pick 20 rfl
                    dsimp only [List.eraseIdx] at hS
                    replace hS := hS.pick 20 rfl
                    dsimp only [List.eraseIdx] at hS
                    replace hS := hS.pick 20 rfl
                    dsimp only [List.eraseIdx] at hS
                    replace hS := hS.pick 20 rfl
                    dsimp only [List.eraseIdx] at hS
                    replace hS := hS.pick 20 rfl
                    dsimp only [List.eraseIdx] at hS
                    replace hS := hS.pick 20 rfl
                    dsimp only [List.eraseIdx] at hS
                    replace hS := hS.pick 20 rfl
                    dsimp only [List.eraseIdx] at hS
                    replace hS := hS.pick 20 rfl
                    dsimp only [List.eraseIdx] at hS
                    replace hS := hS.pick 20 rfl
                    dsimp only [List.eraseIdx] at hS
                    replace hS := hS.pick 20 rfl
                    dsimp only [List.eraseIdx] at hS
                    replace hS := hS.pick 20 rfl
                    dsimp only [List.eraseIdx] at hS
                    replace hS := hS.pick 20 rfl
                    dsimp only [List.eraseIdx] at hS
                    replace hS := hS.pick 20 rfl
                    dsimp only [List.eraseIdx] at hS
                    replace hS := hS.pick 20 rfl
                    dsimp only [List.eraseIdx] at hS
                    replace hS := hS.pick 20 rfl
                    dsimp only [List.eraseIdx] at hS
                    replace hS := hS.pick 19 rfl
                    dsimp only [List.eraseIdx] at hS
                    replace hS := hS.pick 20 rfl
                    dsimp only [List.eraseIdx] at hS
                    replace hS := hS.pick 18 rfl
                    dsimp only [List.eraseIdx] at hS
                    replace hS := hS.pick 19 rfl
                    dsimp only [List.eraseIdx] at hS
                    replace hS := hS.take 20
                    simp only [List.take_succ_cons, List.take_zero] at hS
                    exact round (i + 1, v183) H ⟨rfl, rfl, rfl, rfl, rfl, rfl, rfl, rfl, rfl, rfl, rfl, rfl, rfl, rfl, rfl, rfl, rfl, rfl, trivial⟩ ⟨by omega, by rw [take_snoc hr1, ← List.append_assoc]; exact hS⟩ (by first | omega | (dsimp only; omega))
                  · skip
                    obtain rfl : i = zs1.length := by simp at hc173; omega
                    rw [List.take_length] at hS
                    refine wp_exit ?_
                    refine then_exit ?_
                    refine then_exit ?_
                    refine block_exit ?_
                    refine then_normal ?_
                    refine wp_region_lit ?_
                    refine n_q H (q_move rfl) rfl ?_
                    clear H a; intro a H
                    refine n_q H (q_move rfl) rfl ?_
                    clear H a; intro a H
                    refine n_append H rfl rfl Tryd.underlying44 Tryd.underlying44 (by simp) el23 (hS.own 0 rfl) (hS.own 4 rfl).src (recsOne (hS.starRecs (i := 5) rfl)) (by omega) (by simp only [maxLen]; omega) rfl ?_
                    clear H; intro v186 w129 hN hC130 hb186 hnil186; clear a; intro a H
                    replace hS := hS.setOwn hN hC130 hb186; clear hN
                    rw [← List.flatMap_append] at hS
                    replace hS := hS.pick 1 rfl
                    dsimp only [List.eraseIdx] at hS
                    replace hS := hS.pick 5 rfl
                    dsimp only [List.eraseIdx] at hS
                    replace hS := St.starApp hS
                    refine n_q H (q_assign rfl) rfl ?_
                    clear H a; intro a H
                    refine n_nil ?_
                    refine block_normal ?_
                    refine then_normal ?_
                    refine wp_region_lit ?_
                    refine n_q H (q_move rfl) rfl ?_
                    clear H a; intro a H
                    refine n_q H (q_add rfl rfl (by constructor <;> omega)) rfl ?_
                    clear H a; intro a H
                    refine n_q H (q_assign rfl) rfl ?_
                    clear H a; intro a H
                    refine n_nil ?_
                    refine then_normal ?_
                    replace hS := hS.pick 18 rfl
                    dsimp only [List.eraseIdx] at hS
                    replace hS := hS.pick 18 rfl
                    dsimp only [List.eraseIdx] at hS
                    replace hS := hS.pick 18 rfl
                    dsimp only [List.eraseIdx] at hS
                    replace hS := hS.pick 18 rfl
                    dsimp only [List.eraseIdx] at hS
                    replace hS := hS.pick 18 rfl
                    dsimp only [List.eraseIdx] at hS
                    replace hS := hS.pick 18 rfl
                    dsimp only [List.eraseIdx] at hS
                    replace hS := hS.pick 18 rfl
                    dsimp only [List.eraseIdx] at hS
                    replace hS := hS.pick 18 rfl
                    dsimp only [List.eraseIdx] at hS
                    replace hS := hS.pick 18 rfl
                    dsimp only [List.eraseIdx] at hS
                    replace hS := hS.pick 18 rfl
                    dsimp only [List.eraseIdx] at hS
                    replace hS := hS.pick 18 rfl
                    dsimp only [List.eraseIdx] at hS
                    replace hS := hS.pick 18 rfl
                    dsimp only [List.eraseIdx] at hS
                    replace hS := hS.pick 18 rfl
                    dsimp only [List.eraseIdx] at hS
                    replace hS := hS.pick 18 rfl
                    dsimp only [List.eraseIdx] at hS
                    replace hS := hS.pick 14 rfl
                    dsimp only [List.eraseIdx] at hS
                    replace hS := hS.pick 15 rfl
                    dsimp only [List.eraseIdx] at hS
                    replace hS := hS.take 16
                    simp only [List.take_succ_cons, List.take_zero] at hS
                    exact round (k + 1, v186, (z2 ++ zs1) ++ bm) H ⟨rfl, rfl, rfl, rfl, rfl, rfl, rfl, rfl, rfl, rfl, rfl, rfl, rfl, rfl, rfl, trivial⟩ ⟨⟨by omega, by rw [List.length_append, List.length_append]; have := (split_small bs hbs hsp1).1; have := (exp_small hbs htg hbm1).1; omega, (hz2s.app (split_small bs hbs hsp1).2).app (exp_small hbs htg hbm1).2⟩, by rw [List.length_append, List.length_append, ← hnm]; exact hS⟩ (by first | omega | (dsimp only; omega))
        · skip
          obtain rfl : k = 2 := by simp at hc92; omega
          refine wp_exit ?_
          refine then_exit ?_
          refine then_exit ?_
          refine block_exit ?_
          refine then_normal ?_
          refine wp_seq ?_
          refine wp_seq ?_
          refine wp_region_lit ?_
          refine n_c H (fun HC => ?_); clear H
          refine nc_q HC (q_move rfl) rfl (by kernel_rfl) ?_
          clear HC a; intro a HC
          replace hS := hS.pick 1 rfl
          dsimp only [List.eraseIdx] at hS
          replace hS := hS.pick 1 rfl
          dsimp only [List.eraseIdx] at hS
          obtain ⟨fp188, hG188, hK188, hR188, hF188⟩ := hS.frame2
          refine nc_call HC rfl en21 (apart_w (by omega) hzb hG188) rfl (by kernel_rfl) ?_
          clear HC a; intro v133 w131 hv a HC
          obtain ⟨rfl, hE132⟩ := hv
          replace hS := hF188 _ _ hE132
          simp only [List.cons_append, List.nil_append] at hS
          clear hG188 hK188 hR188 hF188
          refine nc_q HC (q_not rfl) rfl (by kernel_rfl) ?_
          clear HC a; intro a HC
          refine nc_q HC (q_move rfl) rfl (by kernel_rfl) ?_
          clear HC a; intro a HC
          refine nc_yes HC rfl rfl ?_
          refine nc_q HC (q_move rfl) rfl (by kernel_rfl) ?_
          clear HC a; intro a HC
          refine nc_yes HC rfl rfl ?_
          refine nc_q HC (q_str Tryd.underlying23 Tryd.underlying5 Tryd.underlying9 rfl (fun w' e => Own.preB ((hS.own 12 rfl).ext e) hlR)) rfl (by kernel_rfl) ?_
          clear HC a; intro a HC
          refine nc_yes HC rfl rfl ?_
          refine nc_q HC (q_fieldAddr0 rfl fo26_1) rfl (by kernel_rfl) ?_
          clear HC a; intro a HC
          refine nc_yes HC rfl rfl ?_
          refine nc_q HC (q_load rfl ((hS.blk 13 rfl).ld ag23 rfl)) rfl (by kernel_rfl) ?_
          clear HC a; intro a HC
          refine nc_yes HC rfl rfl ?_
          refine nc_q HC (q_str Tryd.underlying23 Tryd.underlying5 Tryd.underlying9 rfl (fun w' e => hB.ext (Flat.mono _) (Ext.trans' hS.x e))) rfl (by kernel_rfl) ?_
          clear HC a; intro a HC
          refine nc_yes HC rfl rfl ?_
          refine nc_q HC (q_cast (q_neqS rfl rfl) (show _ = Value.bool false by simp)) rfl (by kernel_rfl) ?_
          clear HC a; intro a HC
          refine nc_or (j := 3) HC rfl rfl rfl (by kernel_rfl) (by kernel_rfl) ?_
          clear HC a; intro a HC
          refine nc_q HC (q_move rfl) rfl (by kernel_rfl) ?_
          clear HC a; intro a HC
          refine nc_yes HC rfl rfl ?_
          refine nc_q HC (q_move rfl) rfl (by kernel_rfl) ?_
          clear HC a; intro a HC
          refine nc_yes HC rfl rfl ?_
          refine nc_q HC (q_fieldAddr0 rfl fo26_1) rfl (by kernel_rfl) ?_
          clear HC a; intro a HC
          refine nc_yes HC rfl rfl ?_
          refine nc_q HC (q_load rfl ((hS.blk 13 rfl).ld ag23 rfl)) rfl (by kernel_rfl) ?_
          clear HC a; intro a HC
          refine nc_yes HC rfl rfl ?_
          refine nc_q HC (q_lenSl Tryd.underlying23 rfl) rfl (by kernel_rfl) ?_
          clear HC a; intro a HC
          refine nc_yes HC rfl rfl ?_
          refine nc_q HC (q_cast (q_indexAddr (ad := ⟨bR, 0, none⟩) (n := bs.length + 2) (c := cR) Tryd.underlying23 sz5 rfl rfl (by omega) (by omega)) (show _ = Value.pointer (some ((⟨bR, 0, none⟩ : Addr).add ((bs.length) * 1))) by rw [show (bs.length : Int).toNat = bs.length by omega])) rfl (by kernel_rfl) ?_
          clear HC a; intro a HC
          refine nc_yes HC rfl rfl ?_
          refine nc_q HC (q_load rfl (((hS.own 12 rfl).slB (xs := bs ++ [201, 202]) hlR).ldOne ag5 (at_app _ _ _) rfl)) rfl (by kernel_rfl) ?_
          clear HC a; intro a HC
          refine nc_yes HC rfl rfl ?_
          refine nc_q HC (q_cast (q_neq rfl rfl) (show _ = Value.bool false by simp)) rfl (by kernel_rfl) ?_
          clear HC a; intro a HC
          refine nc_or (j := 11) HC rfl rfl rfl (by kernel_rfl) (by kernel_rfl) ?_
          clear HC a; intro a HC
          refine nc_q HC (q_move rfl) rfl (by kernel_rfl) ?_
          clear HC a; intro a HC
          refine nc_yes HC rfl rfl ?_
          refine nc_q HC (q_move rfl) rfl (by kernel_rfl) ?_
          clear HC a; intro a HC
          refine nc_yes HC rfl rfl ?_
          refine nc_q HC (q_fieldAddr0 rfl fo26_1) rfl (by kernel_rfl) ?_
          clear HC a; intro a HC
          refine nc_yes HC rfl rfl ?_
          refine nc_q HC (q_load rfl ((hS.blk 13 rfl).ld ag23 rfl)) rfl (by kernel_rfl) ?_
          clear HC a; intro a HC
          refine nc_yes HC rfl rfl ?_
          refine nc_q HC (q_lenSl Tryd.underlying23 rfl) rfl (by kernel_rfl) ?_
          clear HC a; intro a HC
          refine nc_yes HC rfl rfl ?_
          refine nc_q HC (q_add rfl rfl (by constructor <;> omega)) rfl (by kernel_rfl) ?_
          clear HC a; intro a HC
          refine nc_yes HC rfl rfl ?_
          refine nc_q HC (q_cast (q_indexAddr (ad := ⟨bR, 0, none⟩) (n := bs.length + 2) (c := cR) Tryd.underlying23 sz5 rfl rfl (by omega) (by omega)) (show _ = Value.pointer (some ((⟨bR, 0, none⟩ : Addr).add ((bs.length + 1) * 1))) by rw [show ((bs.length : Int) + 1 : Int).toNat = bs.length + 1 by omega])) rfl (by kernel_rfl) ?_
          clear HC a; intro a HC
          refine nc_yes HC rfl rfl ?_
          refine nc_q HC (q_load rfl (((hS.own 12 rfl).slB (xs := bs ++ [201, 202]) hlR).ldOne ag5 (at_app1 _ _ _ _) rfl)) rfl (by kernel_rfl) ?_
          clear HC a; intro a HC
          refine nc_yes HC rfl rfl ?_
          refine nc_q HC (q_cast (q_neq rfl rfl) (show _ = Value.bool false by simp)) rfl (by kernel_rfl) ?_
          clear HC a; intro a HC
          refine nc_or (j := 20) HC rfl rfl rfl (by kernel_rfl) (by kernel_rfl) ?_
          clear HC a; intro a HC
          refine nc_q HC (q_move rfl) rfl (by kernel_rfl) ?_
          clear HC a; intro a HC
          refine nc_yes HC rfl rfl ?_
          refine nc_q HC (q_move rfl) rfl (by kernel_rfl) ?_
          clear HC a; intro a HC
          refine nc_yes HC rfl rfl ?_
          refine nc_q HC (q_fieldAddr0 rfl fo26_2) rfl (by kernel_rfl) ?_
          clear HC a; intro a HC
          refine nc_yes HC rfl rfl ?_
          refine nc_q HC (q_load rfl ((hS.blk 13 rfl).ld ag24 rfl)) rfl (by kernel_rfl) ?_
          clear HC a; intro a HC
          refine nc_yes HC rfl rfl ?_
          refine nc_q HC (q_lenSl Tryd.underlying24 rfl) rfl (by kernel_rfl) ?_
          clear HC a; intro a HC
          refine nc_yes HC rfl rfl ?_
          refine nc_q HC (q_cast (q_indexAddr (ad := ⟨bT, 0, none⟩) (n := tg.length + 1) (c := cU) Tryd.underlying24 sz3 rfl rfl (by omega) (by omega)) (show _ = Value.pointer (some ((⟨bT, 0, none⟩ : Addr).add ((tg.length) * 1))) by rw [show (tg.length : Int).toNat = tg.length by omega])) rfl (by kernel_rfl) ?_
          clear HC a; intro a HC
          refine nc_yes HC rfl rfl ?_
          refine nc_q HC (q_load rfl (((hS.own 11 rfl).slr hlT (fun _ _ => rfl) : SlR _ 1 (Flat eI) _ (tg ++ [-77])).ldOne ag3 (at_app _ _ _) rfl)) rfl (by kernel_rfl) ?_
          clear HC a; intro a HC
          refine nc_yes HC rfl rfl ?_
          refine nc_q HC (q_cast (q_neq rfl rfl) (show _ = Value.bool false by simp)) rfl (by kernel_rfl) ?_
          clear HC a; intro a HC
          refine nc_or (j := 30) HC rfl rfl rfl (by kernel_rfl) (by kernel_rfl) ?_
          clear HC a; intro a HC
          have H := HC.has; clear HC
          refine n_nil ?_
          refine then_normal ?_
          refine c_cond H rfl (fun hc225 => ?_) (fun hc225 => ?_)
          · skip
            cases hc225
          · skip
            refine wp_skip ?_
            refine then_normal ?_
            refine wp_seq ?_
            refine wp_seq ?_
            refine wp_region_lit ?_
            refine n_q H (q_assign rfl) rfl ?_
            clear H a; intro a H
            refine n_nil ?_
            refine then_normal ?_
            refine wp_block ?_
            replace hS := hS.pick 13 rfl
            dsimp only [List.eraseIdx] at hS
            replace hS := hS.pick 13 rfl
            dsimp only [List.eraseIdx] at hS
            replace hS := hS.pick 13 rfl
            dsimp only [List.eraseIdx] at hS
            replace hS := hS.pick 9 rfl
            dsimp only [List.eraseIdx] at hS
            replace hS := hS.take 4
            simp only [List.take_succ_cons, List.take_zero] at hS
            refine c_loop (σ := Nat) (fun j => [(1, .pointer (some ⟨b1, 0, none⟩)), (4, .slice (some ⟨bR, 0, none⟩) bs.length cR), (6, .slice (some ⟨bT, 0, none⟩) tg.length cU), (11, .pointer (some ⟨b11, 0, none⟩)), (24, .int .i64 (j : Nat))]) (fun j wl => j ≤ tg.length ∧ St NB w wl [blkR b11 [.int .i64 (splitM bs).2.code, .int .i64 (splitM bs).2.place] 29, ownR 3 1 (.slice (some ⟨bT, 0, none⟩) (tg.length + 1) cU) (tg.length + 1) ((tg ++ [-77] : List Int).flatMap eI), ownR 5 1 (.slice (some ⟨bR, 0, none⟩) (bs.length + 2) cR) (bs.length + 2) ((bs ++ [201, 202] : List UInt8).flatMap eB), blkR b1 [vr, .slice AB bs.length cB, .slice AT tg.length cT, .string s] 26]) (fun j => tg.length - j) 0 H ⟨rfl, rfl, rfl, rfl, rfl, trivial⟩ ⟨Nat.zero_le _, hS⟩ ?_
            clear H hS; clear a; intro j a w134 H hR
            simp only [ent, List.map_cons, List.map_nil] at H
            try dsimp only at hR
            obtain ⟨hj, hS⟩ := hR; try clear hR
            refine wp_seq ?_
            refine wp_seq ?_
            refine wp_region_lit ?_
            refine n_q H (q_move rfl) rfl ?_
            clear H a; intro a H
            refine n_q H (q_move rfl) rfl ?_
            clear H a; intro a H
            refine n_q H (q_lenSl Tryd.underlying24 rfl) rfl ?_
            clear H a; intro a H
            refine n_q H (q_lss rfl rfl) rfl ?_
            clear H a; intro a H
            refine n_nil ?_
            refine then_normal ?_
            refine c_cond H rfl (fun hc229 => ?_) (fun hc229 => ?_)
            · skip
              have hj1 : j < tg.length := by simp at hc229; omega
              obtain ⟨x, hx⟩ : ∃ x, tg[j]? = some x := ⟨_, List.getElem?_eq_getElem (by omega)⟩
              obtain ⟨ad0, had⟩ := hT.addr hj1
              subst had
              refine wp_skip ?_
              refine then_normal ?_
              refine wp_seq ?_
              refine wp_block ?_
              refine wp_seq ?_
              refine c_quiet (by kernel_rfl) (by kernel_rfl) ?_
              refine qq_q H (q_move rfl) rfl ?_
              clear H a; intro a H
              refine qq_q H (q_move rfl) rfl ?_
              clear H a; intro a H
              refine qq_q H (q_cast (q_indexAddr (ad := ⟨bT, 0, none⟩) (n := tg.length) (c := cU) Tryd.underlying24 sz3 rfl rfl (by omega) (by omega)) (show _ = Value.pointer (some ((⟨bT, 0, none⟩ : Addr).add (j * 1))) by rw [show (j : Int).toNat = j by omega])) rfl ?_
              clear H a; intro a H
              refine qq_q H (q_load rfl ((Own.preI (hS.own 1 rfl) hlT).ldOne ag3 hx rfl)) rfl ?_
              clear H a; intro a H
              refine qq_q H (q_fieldAddr0 rfl fo26_2) rfl ?_
              clear H a; intro a H
              refine qq_q H (q_load rfl ((hS.blk 3 rfl).ld ag24 rfl)) rfl ?_
              clear H a; intro a H
              refine qq_q H (q_move rfl) rfl ?_
              clear H a; intro a H
              refine qq_q H (q_indexAddr Tryd.underlying24 sz3 rfl rfl (by omega) (by omega)) rfl ?_
              clear H a; intro a H
              refine qq_q H (q_load rfl (LdX.ext ((hT.ldOne ag3 hx rfl)) hS.x)) rfl ?_
              clear H a; intro a H
              refine qq_q H (q_cast (q_neq rfl rfl) (show _ = Value.bool false by simp)) rfl ?_
              clear H a; intro a H
              refine qq_nil ?_
              intro w135 hE136
              replace hS := hS.ext hE136
              refine then_normal ?_
              refine c_cond H rfl (fun hc241 => ?_) (fun hc241 => ?_)
              · skip
                cases hc241
              · skip
                refine wp_skip ?_
                refine block_normal ?_
                refine then_normal ?_
                refine wp_region_lit ?_
                refine n_q H (q_move rfl) rfl ?_
                clear H a; intro a H
                refine n_q H (q_add rfl rfl (by constructor <;> omega)) rfl ?_
                clear H a; intro a H
                refine n_q H (q_assign rfl) rfl ?_
                clear H a; intro a H
                refine n_nil ?_
                refine then_normal ?_
                replace hS := hS.pick 3 rfl
                dsimp only [List.eraseIdx] at hS
                replace hS := hS.pick 3 rfl
                dsimp only [List.eraseIdx] at hS
                replace hS := hS.pick 3 rfl
                dsimp only [List.eraseIdx] at hS
                replace hS := hS.pick 3 rfl
                dsimp only [List.eraseIdx] at hS
                exact round (j + 1) H ⟨rfl, rfl, rfl, rfl, rfl, trivial⟩ ⟨by omega, hS⟩ (by first | omega | (dsimp only; omega))
            · skip
              refine wp_exit ?_
              refine then_exit ?_
              refine then_exit ?_
              refine block_exit ?_
              refine then_normal ?_
              refine wp_seq ?_
              refine wp_seq ?_
              refine wp_region_lit ?_
              refine n_q H (q_assign rfl) rfl ?_
              clear H a; intro a H
              refine n_nil ?_
              refine then_normal ?_
              refine wp_block ?_
              replace hS := hS.pick 2 rfl
              dsimp only [List.eraseIdx] at hS
              replace hS := hS.take 2
              simp only [List.take_succ_cons, List.take_zero] at hS
              refine c_loop (σ := Nat × List UInt8) (fun (j, us) => [(4, .slice (some ⟨bR, 0, none⟩) bs.length cR), (11, .pointer (some ⟨b11, 0, none⟩)), (25, .int .i64 (j : Nat))]) (fun (j, us) wl => (j ≤ bs.length ∧ us.length = bs.length) ∧ St NB w wl [ownR 5 1 (.slice (some ⟨bR, 0, none⟩) (bs.length + 2) cR) (bs.length + 2) ((us ++ [201, 202] : List UInt8).flatMap eB), blkR b11 [.int .i64 (splitM bs).2.code, .int .i64 (splitM bs).2.place] 29]) (fun (j, us) => bs.length - j) (0, bs) H ⟨rfl, rfl, rfl, trivial⟩ ⟨⟨Nat.zero_le _, rfl⟩, hS⟩ ?_
              clear H hS; clear a; intro xx a w137 H hR
              obtain ⟨j, us⟩ := xx
              simp only [ent, List.map_cons, List.map_nil] at H
              try dsimp only at hR
              obtain ⟨⟨hj, hul⟩, hS⟩ := hR; try clear hR
              refine wp_seq ?_
              refine wp_seq ?_
              refine wp_region_lit ?_
              refine n_q H (q_move rfl) rfl ?_
              clear H a; intro a H
              refine n_q H (q_move rfl) rfl ?_
              clear H a; intro a H
              refine n_q H (q_lenSl Tryd.underlying23 rfl) rfl ?_
              clear H a; intro a H
              refine n_q H (q_lss rfl rfl) rfl ?_
              clear H a; intro a H
              refine n_nil ?_
              refine then_normal ?_
              refine c_cond H rfl (fun hc245 => ?_) (fun hc245 => ?_)
              · skip
                have hj1 : j < bs.length := by simp at hc245; omega
                refine wp_skip ?_
                refine then_normal ?_
                refine wp_seq ?_
                refine wp_block ?_
                refine wp_region_lit ?_
                refine n_q H (q_move rfl) rfl ?_
                clear H a; intro a H
                refine n_q H (q_move rfl) rfl ?_
                clear H a; intro a H
                refine n_q H (q_move rfl) rfl ?_
                clear H a; intro a H
                refine n_q H (q_rem rfl rfl (by omega) (by omega)) rfl ?_
                clear H a; intro a H
                refine n_q H (q_cast (q_convI Tryd.underlying3 Tryd.underlying5 ⟨_, rfl⟩ rfl) (show _ = Value.int .u8 ((byteOf (((j : Nat) : Int) % 3)).toNat : Int) by rw [wrap8])) rfl ?_
                clear H a; intro a H
                refine n_q H (q_indexAddr0 (b := bR) (n := bs.length) (c := cR) (i := j) Tryd.underlying23 sz5 rfl rfl (by omega)) rfl ?_
                clear H a; intro a H
                refine n_storeE1 H rfl rfl sz5 rfl (hS.own 0 rfl) (by omega) ?_
                clear H; intro w138 hN hC139; clear a; intro a H
                replace hS := hS.setOwn hN hC139 (.inl rfl); clear hN
                refine n_nil ?_
                refine block_normal ?_
                refine then_normal ?_
                refine wp_region_lit ?_
                refine n_q H (q_move rfl) rfl ?_
                clear H a; intro a H
                refine n_q H (q_add rfl rfl (by constructor <;> omega)) rfl ?_
                clear H a; intro a H
                refine n_q H (q_assign rfl) rfl ?_
                clear H a; intro a H
                refine n_nil ?_
                refine then_normal ?_
                replace hS := hS.pick 1 rfl
                dsimp only [List.eraseIdx] at hS
                replace hS := hS.pick 1 rfl
                dsimp only [List.eraseIdx] at hS
                exact round (j + 1, us.set j (byteOf (((j : Nat) : Int) % 3))) H ⟨rfl, rfl, rfl, trivial⟩ ⟨⟨by omega, by rw [List.length_set]; exact hul⟩, by rw [← eB_set2 (by omega)]; exact hS⟩ (by first | omega | (dsimp only; omega))
              · skip
                have hlU : bs.length + 2 = (us ++ [201, 202]).length := by simp [hul]
                refine wp_exit ?_
                refine then_exit ?_
                refine then_exit ?_
                refine block_exit ?_
                refine then_normal ?_
                refine wp_seq ?_
                refine wp_region_lit ?_
                refine n_q H (q_move rfl) rfl ?_
                clear H a; intro a H
                refine n_q H (q_str Tryd.underlying23 Tryd.underlying5 Tryd.underlying9 rfl (fun w' e => hul ▸ Own.preB ((hS.own 0 rfl).ext e) hlU)) rfl ?_
                clear H a; intro a H
                refine n_q H (q_assign rfl) rfl ?_
                clear H a; intro a H
                refine n_nil ?_
                refine then_normal ?_
                refine wp_seq ?_
                refine wp_region_lit ?_
                refine n_q H (q_move rfl) rfl ?_
                clear H a; intro a H
                refine n_bytes H Tryd.underlying9 Tryd.underlying23 Tryd.underlying5 rfl (by rw [strB_size]; simp only [maxLen]; omega) rfl ?_
                clear H; intro v258 w140 hN hE141 hs_v258; clear a; intro a H
                replace hS := hS.newOwn hN hE141 (by rw [hs_v258]; intro c hc; rw [List.mem_singleton.1 hc]; exact Nat.le_refl _); clear hN hE141
                rw [strB_size, show (strB us).data.toList = us from rfl] at hS
                refine n_call H rfl en12 (rSplit_w (bs := us) (fun w' e => ((hS.own 0 rfl).ext e).slB rfl) (by omega)) rfl ?_
                clear H a; intro v144 w142 hv a H
                obtain ⟨v259, s2, n259, e259, hn259, hs2, rfl, hE143⟩ := hv
                replace hS := hS.new hE143
                simp only [List.cons_append, List.nil_append] at hS
                obtain ⟨hs21, rfl⟩ : s2.map RecM.key = (splitM us).1 ∧ e259 = (splitM us).2 := by rw [← hs2]; exact ⟨rfl, rfl⟩
                refine n_q H (q_move rfl) rfl ?_
                clear H a; intro a H
                refine n_q H (q_extract rfl rfl) rfl ?_
                clear H a; intro a H
                refine n_q H (q_extract rfl rfl) rfl ?_
                clear H a; intro a H
                refine n_q H (q_assign rfl) rfl ?_
                clear H a; intro a H
                replace hS := hS.pick 4 rfl
                dsimp only [List.eraseIdx] at hS
                refine n_storeAll H rfl rfl (vs := [.int .i64 (splitM us).2.code, .int .i64 (splitM us).2.place]) rfl sz29 (hS.blk 0 rfl) rfl (by simp [Value.oneCell']) ?_
                clear H; intro w145 hN hC146 hz; clear a; intro a H
                replace hS := hS.setBlk hN hC146; clear hN hz
                refine n_nil ?_
                refine then_normal ?_
                refine wp_seq ?_
                refine wp_region_lit ?_
                refine n_q H (q_move rfl) rfl ?_
                clear H a; intro a H
                refine n_call H rfl en13 (split_w (bs := us) (hG.ext hS.x) (fun w' e => hul ▸ Own.preB ((hS.own 4 rfl).ext e) hlU) (by omega)) rfl ?_
                clear H a; intro v149 w147 hv a H
                obtain ⟨v264, u264, z3, n264, e264, hn264, hz3, rfl, hE148⟩ := hv
                replace hS := hS.new hE148
                simp only [List.cons_append, List.nil_append] at hS
                obtain ⟨hz31, rfl⟩ : z3.map RecM.key = (splitM us).1 ∧ e264 = (splitM us).2 := by rw [← hz3]; exact ⟨rfl, rfl⟩
                refine n_q H (q_move rfl) rfl ?_
                clear H a; intro a H
                refine n_q H (q_extract rfl rfl) rfl ?_
                clear H a; intro a H
                refine n_q H (q_extract rfl rfl) rfl ?_
                clear H a; intro a H
                refine n_q H (q_assign rfl) rfl ?_
                clear H a; intro a H
                refine n_q H (q_assign rfl) rfl ?_
                clear H a; intro a H
                refine n_nil ?_
                refine then_normal ?_
                refine wp_seq ?_
                refine wp_region_lit ?_
                refine n_c H (fun HC => ?_); clear H
                refine nc_q HC (q_move rfl) rfl (by kernel_rfl) ?_
                clear HC a; intro a HC
                refine nc_q HC (q_load rfl ((hS.blk 3 rfl).ldAll ag29 sz29)) rfl (by kernel_rfl) ?_
                clear HC a; intro a HC
                refine nc_call HC rfl en11 (same_self (hG.ext hS.x) (hH.ext hS.x) (hS.any 2 rfl)) rfl (by kernel_rfl) ?_
                clear HC a; intro v152 w150 hv a HC
                obtain ⟨rfl, hE151⟩ := hv
                replace hS := hS.ext hE151
                refine nc_q HC (q_move rfl) rfl (by kernel_rfl) ?_
                clear HC a; intro a HC
                refine nc_yes HC rfl rfl ?_
                refine nc_q HC (q_move rfl) rfl (by kernel_rfl) ?_
                clear HC a; intro a HC
                refine nc_yes HC rfl rfl ?_
                refine nc_q HC (q_move rfl) rfl (by kernel_rfl) ?_
                clear HC a; intro a HC
                refine nc_yes HC rfl rfl ?_
                refine nc_call HC rfl en14 (sameRecs_w ((hS.own 0 rfl).slr hn264 (eRec_len _)) (hS.any 1 rfl) ((hS.own 4 rfl).slr hn259 (eRec_len _)) (hS.any 5 rfl)) rfl (by kernel_rfl) ?_
                clear HC a; intro u273 w153 hv a HC
                obtain ⟨hv273, hE154⟩ := hv
                rw [decide_eq_true (by rw [hz31, hs21])] at hv273
                subst hv273
                replace hS := hS.ext hE154
                refine nc_and (j := 3) HC rfl rfl rfl (by kernel_rfl) (by kernel_rfl) ?_
                clear HC a; intro a HC
                refine nc_q HC (q_move rfl) rfl (by kernel_rfl) ?_
                clear HC a; intro a HC
                refine nc_yes HC rfl rfl ?_
                refine nc_q HC (q_move rfl) rfl (by kernel_rfl) ?_
                clear HC a; intro a HC
                refine nc_yes HC rfl rfl ?_
                refine nc_call HC rfl en19 (hex_w (bs := us) (fun w' e => hul ▸ Own.preB ((hS.own 7 rfl).ext e) hlU) (by omega)) rfl (by kernel_rfl) ?_
                clear HC a; intro v157 w155 hv a HC
                obtain ⟨rfl, hE156⟩ := hv
                replace hS := hS.ext hE156
                refine nc_yes HC rfl rfl ?_
                refine nc_q HC (q_move rfl) rfl (by kernel_rfl) ?_
                clear HC a; intro a HC
                refine nc_yes HC rfl rfl ?_
                have H := HC.has; clear HC
                refine n_bytes H Tryd.underlying9 Tryd.underlying23 Tryd.underlying5 rfl (by rw [strB_size]; simp only [maxLen]; omega) rfl ?_
                clear H; intro v279 w158 hN hE159 hs_v279; clear a; intro a H
                replace hS := hS.newOwn hN hE159 (by rw [hs_v279]; intro c hc; rw [List.mem_singleton.1 hc]; exact Nat.le_refl _); clear hN hE159
                rw [strB_size, show (strB us).data.toList = us from rfl] at hS
                refine n_c H (fun HC => ?_); clear H
                refine nc_yes HC rfl rfl ?_
                refine nc_call HC rfl en20 (rHex_w (bs := us) (fun w' e => ((hS.own 0 rfl).ext e).slB rfl) (by omega)) rfl (by kernel_rfl) ?_
                clear HC a; intro v162 w160 hv a HC
                obtain ⟨rfl, hE161⟩ := hv
                replace hS := hS.ext hE161
                refine nc_yes HC rfl rfl ?_
                refine nc_q HC (q_cast (q_eqlS rfl rfl) (show _ = Value.bool true by simp)) rfl (by kernel_rfl) ?_
                clear HC a; intro a HC
                refine nc_and (j := 8) HC rfl rfl rfl (by kernel_rfl) (by kernel_rfl) ?_
                clear HC a; intro a HC
                refine nc_q HC (q_move rfl) rfl (by kernel_rfl) ?_
                clear HC a; intro a HC
                refine nc_yes HC rfl rfl ?_
                refine nc_q HC (q_move rfl) rfl (by kernel_rfl) ?_
                clear HC a; intro a HC
                refine nc_yes HC rfl rfl ?_
                refine nc_q HC (q_str Tryd.underlying23 Tryd.underlying5 Tryd.underlying9 rfl (fun w' e => hul ▸ Own.preB ((hS.own 8 rfl).ext e) hlU)) rfl (by kernel_rfl) ?_
                clear HC a; intro a HC
                refine nc_yes HC rfl rfl ?_
                refine nc_q HC (q_move rfl) rfl (by kernel_rfl) ?_
                clear HC a; intro a HC
                refine nc_yes HC rfl rfl ?_
                refine nc_q HC (q_cast (q_eqlS rfl rfl) (show _ = Value.bool true by simp)) rfl (by kernel_rfl) ?_
                clear HC a; intro a HC
                refine nc_and (j := 16) HC rfl rfl rfl (by kernel_rfl) (by kernel_rfl) ?_
                clear HC a; intro a HC
                refine nc_q HC (q_assign rfl) rfl (by kernel_rfl) ?_
                clear HC a; intro a HC
                have H := HC.has; clear HC
                refine n_nil ?_
                refine then_normal ?_
                refine wp_ret ?_
                refine ret1 H (.inr rfl) rfl rfl ?_
                exact ⟨rfl, hS.x⟩

end Go.Proofs.YtnhjohcgnmogaaaDoor
