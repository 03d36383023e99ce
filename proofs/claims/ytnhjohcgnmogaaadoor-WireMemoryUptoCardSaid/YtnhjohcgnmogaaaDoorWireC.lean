/- The cursor of the package wire (written by wip/tools) -/
import Derived.Test.YtnhjohcgnmogaaaDoorWireW
set_option linter.unusedVariables false
set_option linter.unusedSimpArgs false
set_option maxRecDepth 10000
namespace Go.Proofs.YtnhjohcgnmogaaaDoor
open Go Go.RowKit
theorem ag142 : aggB Tryd.prog 142 = some true := by kernel_rfl
theorem bd142 : bdB Tryd.prog 142 = true := by kernel_rfl
theorem pl142 : placesB Tryd.prog 142 = some #[(0, 1), (1, 1), (2, 1)] := by kernel_rfl
theorem en40 : entersB Tryd.prog 40 = true := by kernel_rfl
theorem en73 : entersB Tryd.prog 73 = true := by kernel_rfl
theorem en74 : entersB Tryd.prog 74 = true := by kernel_rfl
theorem en75 : entersB Tryd.prog 75 = true := by kernel_rfl
theorem en88 : entersB Tryd.prog 88 = true := by kernel_rfl
theorem fo142_0 : fOff Tryd.prog 142 0 = some 0 := by kernel_rfl
theorem fo142_1 : fOff Tryd.prog 142 1 = some 1 := by kernel_rfl
theorem fo142_2 : fOff Tryd.prog 142 2 = some 2 := by kernel_rfl
theorem sz142 : sizeB Tryd.prog 142 = some 3 := by kernel_rfl
theorem sz3 : sizeB Tryd.prog 3 = some 1 := by kernel_rfl
theorem ze142 : zeroB Tryd.prog 142 = some [.slice none 0 0, .int .i64 0, .int .i64 0] := by kernel_rfl

/-- The number of k bytes from a on. -/
def peekN (bs : List UInt8) (a k : Nat) : Int := beNat ((bs.drop a).take k)
def rangedM (bs : List UInt8) (a d : Nat) (k lo hi : Int) : Int × ErrM × Nat :=
  if ¬ (k = 1 ∨ k = 2 ∨ k = 4) then (0, .v 3, a) else if (d : Int) - a < k then (0, .pl a 1, a) else
  if peekN bs a k.toNat < lo ∨ hi < peekN bs a k.toNat then (0, .pl a 6, a) else (peekN bs a k.toNat, .nil, a + k.toNat)
def flagM (bs : List UInt8) (a d : Nat) : Bool × ErrM × Nat := ((rangedM bs a d 1 0 1).1 == 1, (rangedM bs a d 1 0 1).2)
def rawM (bs : List UInt8) (a d : Nat) (n : Int) : List UInt8 × ErrM × Nat :=
  if n < 0 then ([], .v 3, a) else if (d : Int) - a < n then ([], .pl a 1, a) else ((bs.drop a).take n.toNat, .nil, a + n.toNat)
def textM (bs : List UInt8) (a d : Nat) (most : Int) : ByteArray × ErrM × Nat :=
  if (d : Int) - a < 2 then (⟨#[]⟩, .pl a 1, a) else if most < peekN bs a 2 then (⟨#[]⟩, .pl a 7, a) else
  if (d : Int) - a - 2 < peekN bs a 2 then (⟨#[]⟩, .pl (a + 2 : Nat) 1, a) else (strB ((bs.drop (a + 2)).take (peekN bs a 2).toNat), .nil, a + 2 + (peekN bs a 2).toNat)
def headM (bs : List UInt8) (a d : Nat) : Int × Int × ErrM := if (d : Int) - a < 3 then (0, 0, .pl a 1) else (peekN bs a 1, peekN bs (a + 1) 2, .nil)
def enterM (a d : Nat) (n : Int) : Option (Nat × Nat) × ErrM × Nat := if (d : Int) - a - 3 < n then (none, .pl (a + 1 : Nat) 7, a) else (some (a + 3, a + 3 + n.toNat), .nil, a + 3 + n.toNat)
def nextM (bs : List UInt8) (a d : Nat) : Int × Option (Nat × Nat) × ErrM × Nat :=
  if (d : Int) - a < 3 then (0, none, .pl a 1, a) else if peekN bs a 1 = 0 then (0, none, .pl a 5, a) else
  if (d : Int) - a - 3 < peekN bs (a + 1) 2 then (0, none, .pl (a + 1 : Nat) 7, a) else (peekN bs a 1, some (a + 3, a + 3 + (peekN bs (a + 1) 2).toNat), .nil, a + 3 + (peekN bs (a + 1) 2).toNat)
def recordM (bs : List UInt8) (a d : Nat) (t : Int) : Option (Nat × Nat) × ErrM × Nat :=
  if (d : Int) - a < 3 then (none, .pl a 1, a) else if peekN bs a 1 ≠ t ∨ t = 0 then (none, .pl a 5, a) else
  if (d : Int) - a - 3 < peekN bs (a + 1) 2 then (none, .pl (a + 1 : Nat) 7, a) else (some (a + 3, a + 3 + (peekN bs (a + 1) 2).toNat), .nil, a + 3 + (peekN bs (a + 1) 2).toNat)
def endM (a d : Nat) : ErrM := if a < d then .pl a 4 else .nil
theorem peekN_lt {bs : List UInt8} {a k : Nat} (h : a + k ≤ bs.length) : 0 ≤ peekN bs a k ∧ peekN bs a k < 256 ^ k := beNat_lt k _ (by simp; omega)
/-- A cursor's block; v: the slice of all its bytes. -/
abbrev cuR (p : Nat) (v : Value) (a d : Nat) : Rs := blkR p [v, .int .i64 (a : Nat), .int .i64 (d : Nat)] 142
/-- A new cursor, if there is one. -/
def ncR (v : Value) (q : Option Addr) : Option (Nat × Nat) → Rs
  | none => pureR (q = none)
  | some x => exR fun p => starR [pureR (q = some ⟨p, 0, none⟩), cuR p v x.1 x.2]
theorem St.ncNone {fp : Nat → Prop} {w0 w : World} {rs : List Rs} (v : Value) (h : St fp w0 w rs) : St fp w0 w (ncR v none none :: rs) := h.mkPure rfl
theorem St.ncSome {fp : Nat → Prop} {w0 w : World} {rs : List Rs} {v : Value} {p a d : Nat} (h : St fp w0 w (cuR p v a d :: rs)) : St fp w0 w (ncR v (some ⟨p, 0, none⟩) (some (a, d)) :: rs) :=
  (St.fold [_, _] (h.mkPure (p := (some (⟨p, 0, none⟩ : Addr)) = some ⟨p, 0, none⟩) rfl)).mkEx (f := fun p' => starR [pureR ((some (⟨p, 0, none⟩ : Addr)) = some ⟨p', 0, none⟩), cuR p' v a d]) p
theorem St.ncGet {fp : Nat → Prop} {w0 w : World} {rs : List Rs} {v : Value} {q : Option Addr} {x : Nat × Nat} (h : St fp w0 w (ncR v q (some x) :: rs)) : ∃ p, q = some ⟨p, 0, none⟩ ∧ St fp w0 w (cuR p v x.1 x.2 :: rs) := by
  obtain ⟨p, h⟩ := h.ex
  obtain ⟨h1, h2⟩ := h.star.pure
  exact ⟨p, h1, h2⟩
theorem St.ncGet0 {fp : Nat → Prop} {w0 w : World} {rs : List Rs} {v : Value} {q : Option Addr} (h : St fp w0 w (ncR v q none :: rs)) : q = none ∧ St fp w0 w rs := h.pure
/-- An error that stands alone. -/
abbrev erR (A : Nat → Addr) (u : Value) (e : ErrM) : Rs := anyR fun w => IsE A w u e
theorem St.atErr {fp : Nat → Prop} {w0 w : World} {rs : List Rs} {A : Nat → Addr} {b g : Nat} {p : Int} (hg : g ∈ gAll) (h : St fp w0 w (blkR b [.int .i64 p, sv 253 A g] 128 :: rs)) : St fp w0 w (erR A (.iface 126 (.pointer (some ⟨b, 0, none⟩))) (.pl p g) :: rs) :=
  h.blkAny (fun w' h => IsErr.mk hg h)
theorem St.varErr {fp : Nat → Prop} {w0 w : World} {rs : List Rs} {A : Nat → Addr} {g : Nat} (hg : g ∈ gAll) (h : St fp w0 w rs) : St fp w0 w (erR A (sv 253 A g) (.v g) :: rs) := h.trivAny fun w' => ⟨hg, rfl⟩
theorem St.noErr {fp : Nat → Prop} {w0 w : World} {rs : List Rs} {A : Nat → Addr} (h : St fp w0 w rs) : St fp w0 w (erR A .nilIface .nil :: rs) := h.trivAny fun w' => rfl
theorem cAt_w {w : World} {p ca cd : Nat} {vb : Value}  (hB : Blk w p [vb, .int .i64 (ca : Nat), .int .i64 (cd : Nat)] 142) :
    Calls Tryd.prog 39 [.pointer (some ⟨p, 0, none⟩)].toArray w (Ret fun r w' => r = .int .i64 (ca : Nat) ∧ Ext w w') := by
  have hS := St.begin NB w
  refine enter Tryd.func39 rfl rfl rfl ?_
  intro a H
  dsimp only [enumL, Nat.zero_add, Nat.reduceAdd] at H
  refine wp_seq ?_
  refine wp_region_lit ?_
  refine n_q H (q_assign rfl) rfl ?_
  clear H a; intro a H
  refine n_nil ?_
  refine then_normal ?_
  refine wp_seq ?_
  refine wp_region_lit ?_
  refine n_q H (q_move rfl) rfl ?_
  clear H a; intro a H
  refine n_q H (q_nilCheck rfl) rfl ?_
  clear H a; intro a H
  refine n_q H (q_fieldAddr0 rfl fo142_1) rfl ?_
  clear H a; intro a H
  refine n_q H (q_load rfl (LdX.ext ((hB.ld ag3 rfl)) hS.x)) rfl ?_
  clear H a; intro a H
  refine n_q H (q_assign rfl) rfl ?_
  clear H a; intro a H
  refine n_nil ?_
  refine then_normal ?_
  refine wp_ret ?_
  refine ret1 H (.inr rfl) rfl rfl ?_
  exact ⟨rfl, hS.x⟩

theorem cLeft_w {w : World} {p ca cd : Nat} {vb : Value} (h1 : ca ≤ cd) (h3 : cd ≤ 70368744177664) (hB : Blk w p [vb, .int .i64 (ca : Nat), .int .i64 (cd : Nat)] 142) :
    Calls Tryd.prog 40 [.pointer (some ⟨p, 0, none⟩)].toArray w (Ret fun r w' => r = .int .i64 ((cd : Int) - ca) ∧ Ext w w') := by
  have hS := St.begin NB w
  refine enter Tryd.func40 rfl rfl rfl ?_
  intro a H
  dsimp only [enumL, Nat.zero_add, Nat.reduceAdd] at H
  refine wp_seq ?_
  refine wp_region_lit ?_
  refine n_q H (q_assign rfl) rfl ?_
  clear H a; intro a H
  refine n_nil ?_
  refine then_normal ?_
  refine wp_seq ?_
  refine c_quiet (by kernel_rfl) (by kernel_rfl) ?_
  refine qq_q H (q_move rfl) rfl ?_
  clear H a; intro a H
  refine qq_q H (q_nilCheck rfl) rfl ?_
  clear H a; intro a H
  refine qq_q H (q_fieldAddr0 rfl fo142_2) rfl ?_
  clear H a; intro a H
  refine qq_q H (q_load rfl (LdX.ext ((hB.ld ag3 rfl)) hS.x)) rfl ?_
  clear H a; intro a H
  refine qq_q H (q_move rfl) rfl ?_
  clear H a; intro a H
  refine qq_q H (q_nilCheck rfl) rfl ?_
  clear H a; intro a H
  refine qq_q H (q_fieldAddr0 rfl fo142_1) rfl ?_
  clear H a; intro a H
  refine qq_q H (q_load rfl (LdX.ext ((hB.ld ag3 rfl)) hS.x)) rfl ?_
  clear H a; intro a H
  refine qq_q H (q_sub rfl rfl (by constructor <;> omega)) rfl ?_
  clear H a; intro a H
  refine qq_q H (q_assign rfl) rfl ?_
  clear H a; intro a H
  refine qq_nil ?_
  intro w1 hE2
  replace hS := hS.ext hE2
  refine then_normal ?_
  refine wp_ret ?_
  refine ret1 H (.inr rfl) rfl rfl ?_
  exact ⟨rfl, hS.x⟩

theorem peek_w {w : World} {p ca cd : Nat} {vb : Value} {bs : List UInt8} {o k : Int} {m kn : Nat} (hb : SlR w 1 (Flat eB) vb bs) (ho : 0 ≤ o) (hk : 0 ≤ k) (hk4 : k ≤ 4) (hm : (ca : Int) + o + k ≤ bs.length) (h3 : bs.length ≤ 70368744177664) (hm' : m = ca + o.toNat) (hkn : kn = k.toNat) (hB : Blk w p [vb, .int .i64 (ca : Nat), .int .i64 (cd : Nat)] 142) :
    Calls Tryd.prog 88 [.pointer (some ⟨p, 0, none⟩), .int .i64 o, .int .i64 k].toArray w (Ret fun r w' => r = .int .i64 (peekN bs m kn) ∧ Ext w w') := by
  have hS := St.begin NB w
  subst hkn
  obtain ⟨A0, c0, rfl, hl0, hm0, hn0⟩ := hb.form
  obtain ⟨A1, c1, hV, hsub⟩ := sub_sl 1 (Flat eB) A0 bs.length c0 bs (lo := (ca : Int) + o) (hi := (ca : Int) + o + k) (by omega) (by omega) (by omega)
  have hsl := hsub w hb
  have hll : ((ca : Int) + o + k).toNat - ((ca : Int) + o).toNat = k.toNat := by omega
  rw [hll] at hV hsl
  have hdd : ((ca : Int) + o).toNat = m := by omega
  rw [hdd] at hV hsl
  have hzl : ((bs.drop m).take k.toNat).length = k.toNat := by simp; omega
  refine enter Tryd.func88 rfl rfl rfl ?_
  intro a H
  dsimp only [enumL, Nat.zero_add, Nat.reduceAdd] at H
  refine wp_seq ?_
  refine wp_region_lit ?_
  refine n_q H (q_assign rfl) rfl ?_
  clear H a; intro a H
  refine n_nil ?_
  refine then_normal ?_
  refine wp_seq ?_
  refine wp_region_lit ?_
  refine n_q H (q_assign rfl) rfl ?_
  clear H a; intro a H
  refine n_nil ?_
  refine then_normal ?_
  refine wp_seq ?_
  refine wp_seq ?_
  refine c_quiet (by kernel_rfl) (by kernel_rfl) ?_
  refine qq_q H (q_move rfl) rfl ?_
  clear H a; intro a H
  refine qq_q H (q_nilCheck rfl) rfl ?_
  clear H a; intro a H
  refine qq_q H (q_fieldAddr0 rfl fo142_0) rfl ?_
  clear H a; intro a H
  refine qq_q H (q_load rfl (LdX.ext ((hB.ld ag23 rfl)) hS.x)) rfl ?_
  clear H a; intro a H
  refine qq_q H (q_move rfl) rfl ?_
  clear H a; intro a H
  refine qq_q H (q_nilCheck rfl) rfl ?_
  clear H a; intro a H
  refine qq_q H (q_fieldAddr0 rfl fo142_1) rfl ?_
  clear H a; intro a H
  refine qq_q H (q_load rfl (LdX.ext ((hB.ld ag3 rfl)) hS.x)) rfl ?_
  clear H a; intro a H
  refine qq_q H (q_move rfl) rfl ?_
  clear H a; intro a H
  refine qq_q H (q_add rfl rfl (by constructor <;> omega)) rfl ?_
  clear H a; intro a H
  refine qq_q H (q_move rfl) rfl ?_
  clear H a; intro a H
  refine qq_q H (q_nilCheck rfl) rfl ?_
  clear H a; intro a H
  refine qq_q H (q_fieldAddr0 rfl fo142_1) rfl ?_
  clear H a; intro a H
  refine qq_q H (q_load rfl (LdX.ext ((hB.ld ag3 rfl)) hS.x)) rfl ?_
  clear H a; intro a H
  refine qq_q H (q_move rfl) rfl ?_
  clear H a; intro a H
  refine qq_q H (q_add rfl rfl (by constructor <;> omega)) rfl ?_
  clear H a; intro a H
  refine qq_q H (q_move rfl) rfl ?_
  clear H a; intro a H
  refine qq_q H (q_add rfl rfl (by constructor <;> omega)) rfl ?_
  clear H a; intro a H
  refine qq_q H (q_cast (q_slice (A := A0) (n := bs.length) (c := c0) Tryd.underlying23 sz5 rfl rfl rfl (by omega) (by omega) (by omega)) (show _ = Value.slice A1 k.toNat c1 by rw [hdd, show ((ca : Int) + o + k).toNat - m = k.toNat by omega]; exact hV)) rfl ?_
  clear H a; intro a H
  refine qq_q H (q_lenSl (A := A1) (n := k.toNat) (c := c1) Tryd.underlying23 rfl) rfl ?_
  clear H a; intro a H
  refine qq_q H (q_move rfl) rfl ?_
  clear H a; intro a H
  refine qq_nil ?_
  intro w1 hE2
  replace hS := hS.ext hE2
  refine then_normal ?_
  refine wp_block ?_
  refine c_loop (σ := Nat × Int) (fun (i, nn) => [(7, .int .i64 nn), (28, .slice A1 k.toNat c1), (29, .int .i64 (k.toNat : Nat)), (30, .int .i64 (i : Nat))]) (fun (i, nn) wl => i ≤ k.toNat ∧ nn = beNat (((bs.drop m).take k.toNat).take i) ∧ St NB w wl []) (fun (i, nn) => k.toNat - i) (0, 0) H ⟨rfl, rfl, rfl, rfl, trivial⟩ ⟨Nat.zero_le _, rfl, hS⟩ ?_
  clear H hS; clear a; intro xx a w3 H hR
  obtain ⟨i, nn⟩ := xx
  simp only [ent, List.map_cons, List.map_nil] at H
  try dsimp only at hR
  obtain ⟨hi, hnn0, hS⟩ := hR; try clear hR
  refine wp_seq ?_
  refine wp_region_lit ?_
  refine n_q H (q_lss rfl rfl) rfl ?_
  clear H a; intro a H
  refine n_nil ?_
  refine then_normal ?_
  refine wp_seq ?_
  refine c_cond H rfl (fun hc31 => ?_) (fun hc31 => ?_)
  · skip
    have hi1 : i < k.toNat := by simp at hc31; omega
    obtain ⟨x, hx⟩ := hsl.at (i := i) (by omega)
    obtain ⟨ad, rfl⟩ := hsl.addr (i := i) (by omega)
    have hnn : 0 ≤ nn ∧ nn < 16777216 := by
      rw [hnn0]
      have h := beNat_lt i (((bs.drop m).take k.toNat).take i) (by rw [List.length_take, hzl]; omega)
      have h4 : (256 : Int) ^ i ≤ 16777216 := by
        rcases (show i = 0 ∨ i = 1 ∨ i = 2 ∨ i = 3 by omega) with h | h | h | h <;> subst h <;> decide
      exact ⟨h.1, by omega⟩
    refine wp_skip ?_
    refine then_normal ?_
    refine wp_seq ?_
    refine wp_block ?_
    refine wp_seq ?_
    refine wp_region_lit ?_
    refine n_q H (q_indexAddr Tryd.underlying23 sz5 rfl rfl (by omega) (by omega)) rfl ?_
    clear H a; intro a H
    refine n_q H (q_load rfl (LdX.ext ((hsl.ldOne ag5 hx rfl)) hS.x)) rfl ?_
    clear H a; intro a H
    refine n_q H (q_assign rfl) rfl ?_
    clear H a; intro a H
    refine n_nil ?_
    refine then_normal ?_
    refine wp_region_lit ?_
    refine n_q H (q_move rfl) rfl ?_
    clear H a; intro a H
    refine n_q H (q_shl rfl rfl (by omega)) rfl ?_
    clear H a; intro a H
    refine n_q H (q_move rfl) rfl ?_
    clear H a; intro a H
    refine n_q H (q_convI Tryd.underlying5 Tryd.underlying3 ⟨_, rfl⟩ rfl) rfl ?_
    clear H a; intro a H
    refine n_q H (q_cast (q_or rfl rfl) (show _ = Value.int .i64 (nn * 256 + (x.toNat : Int)) by rw [wrap64_eq (z := (x.toNat : Int)) (by have := x.toNat_lt; constructor <;> omega)]; exact congrArg _ (or8 hnn.1 hnn.2 (by omega) (by have := x.toNat_lt; omega) (by rfl)))) rfl ?_
    clear H a; intro a H
    refine n_q H (q_assign rfl) rfl ?_
    clear H a; intro a H
    refine n_nil ?_
    refine block_normal ?_
    refine then_normal ?_
    refine wp_region_lit ?_
    refine n_q H (q_add rfl rfl (by constructor <;> omega)) rfl ?_
    clear H a; intro a H
    refine n_q H (q_move rfl) rfl ?_
    clear H a; intro a H
    refine n_nil ?_
    refine then_normal ?_
    exact round (i + 1, nn * 256 + (x.toNat : Int)) H ⟨rfl, rfl, rfl, rfl, trivial⟩ ⟨by omega, by rw [take_snoc hx, beNat_snoc, ← hnn0], hS⟩ (by first | omega | (dsimp only; omega))
  · skip
    have hi2 : i = k.toNat := by simp at hc31; omega
    subst hi2
    refine wp_exit ?_
    refine then_exit ?_
    refine then_exit ?_
    refine block_exit ?_
    refine then_normal ?_
    refine wp_seq ?_
    refine wp_region_lit ?_
    refine n_q H (q_move rfl) rfl ?_
    clear H a; intro a H
    refine n_q H (q_assign rfl) rfl ?_
    clear H a; intro a H
    refine n_nil ?_
    refine then_normal ?_
    refine wp_ret ?_
    refine ret1 H (.inr rfl) rfl rfl ?_
    exact ⟨by rw [hnn0, peekN, List.take_of_length_le (by omega)], hS.x⟩

set_option maxHeartbeats 1000000 in
theorem ranged_w {w : World} {fp : Nat → Prop} {A : Nat → Addr} {p ca cd : Nat} {vb : Value} {bs : List UInt8} {k lo hi : Int} (hG : ∀ w', ChgP fp w w' → EV A w') (hb : ∀ w', ChgP fp w w' → SlR w' 1 (Flat eB) vb bs) (h1 : ca ≤ cd) (h2 : cd ≤ bs.length) (h3 : bs.length ≤ 70368744177664) (hP0 : Sep w fp [cuR p vb ca cd]) :
    Calls Tryd.prog 75 [.pointer (some ⟨p, 0, none⟩), .int .i64 k, .int .i64 lo, .int .i64 hi].toArray w (Ret fun r w' => ∃ u, r = .tuple #[.int .i64 (rangedM bs ca cd k lo hi).1, u] ∧ St fp w w' [cuR p vb (rangedM bs ca cd k lo hi).2.2 cd, erR A u (rangedM bs ca cd k lo hi).2.1]) := by
  have hS := St.init hP0
  refine enter Tryd.func75 rfl rfl rfl ?_
  intro a H
  dsimp only [enumL, Nat.zero_add, Nat.reduceAdd] at H
  refine wp_seq ?_
  refine wp_region_lit ?_
  refine n_q H (q_assign rfl) rfl ?_
  clear H a; intro a H
  refine n_q H (q_assign rfl) rfl ?_
  clear H a; intro a H
  refine n_nil ?_
  refine then_normal ?_
  refine wp_seq ?_
  refine wp_seq ?_
  refine wp_region_lit ?_
  refine n_c H (fun HC => ?_); clear H
  refine nc_q HC (q_move rfl) rfl (by kernel_rfl) ?_
  clear HC a; intro a HC
  refine nc_q HC (q_neq rfl rfl) rfl (by kernel_rfl) ?_
  clear HC a; intro a HC
  refine nc_q HC (q_move rfl) rfl (by kernel_rfl) ?_
  clear HC a; intro a HC
  refine nc_g HC (q_move rfl) (by kernel_rfl) (by kernel_rfl) (by kernel_rfl) ?_
  clear HC a; intro a HC
  refine nc_g HC (q_neq rfl rfl) (by kernel_rfl) (by kernel_rfl) (by kernel_rfl) ?_
  clear HC a; intro a HC
  refine nc_and (j := 2) HC rfl rfl rfl (by kernel_rfl) (by kernel_rfl) ?_
  clear HC a; intro a HC
  refine nc_q HC (q_move rfl) rfl (by kernel_rfl) ?_
  clear HC a; intro a HC
  refine nc_g HC (q_move rfl) (by kernel_rfl) (by kernel_rfl) (by kernel_rfl) ?_
  clear HC a; intro a HC
  refine nc_g HC (q_neq rfl rfl) (by kernel_rfl) (by kernel_rfl) (by kernel_rfl) ?_
  clear HC a; intro a HC
  refine nc_and (j := 6) HC rfl rfl rfl (by kernel_rfl) (by kernel_rfl) ?_
  clear HC a; intro a HC
  have H := HC.has; clear HC
  refine n_nil ?_
  refine then_normal ?_
  refine c_cond H rfl (fun hc20 => ?_) (fun hc20 => ?_)
  · skip
    have q20 : ¬ (k = 1 ∨ k = 2 ∨ k = 4) := by simpa [Bool.and_eq_true, and_assoc] using hc20
    refine wp_seq ?_
    refine c_quiet (by kernel_rfl) (by kernel_rfl) ?_
    refine qq_q H (q_load rfl ((hG _ hS.chg).ld 3 (by decide) ag33)) rfl ?_
    clear H a; intro a H
    refine qq_q H (q_assign rfl) rfl ?_
    clear H a; intro a H
    refine qq_q H (q_assign rfl) rfl ?_
    clear H a; intro a H
    refine qq_nil ?_
    intro w1 hE2
    replace hS := hS.ext hE2
    refine then_normal ?_
    refine wp_ret ?_
    refine then_ret ?_
    replace hS := hS.varErr (A := A) (g := 3) (by decide)
    replace hS := hS.pick 1 rfl
    dsimp only [List.eraseIdx] at hS
    refine ret2 H (.inr rfl) rfl rfl rfl ?_
    rw [show rangedM bs ca cd k lo hi = (0, .v 3, ca) from by rw [rangedM, if_pos q20]]; exact ⟨_, rfl, hS⟩
  · skip
    have q20 : k = 1 ∨ k = 2 ∨ k = 4 := by
      simp only [Bool.and_eq_false_iff, bne_eq_false_iff_eq] at hc20
      omega
    have hkk : 1 ≤ k ∧ k ≤ 4 := by omega
    refine wp_skip ?_
    refine then_normal ?_
    refine wp_seq ?_
    refine wp_seq ?_
    refine wp_region_lit ?_
    refine n_q H (q_move rfl) rfl ?_
    clear H a; intro a H
    refine n_call H rfl en40 (cLeft_w h1 (by omega) (hS.blk 0 rfl)) rfl ?_
    clear H a; intro v5 w3 hv a H
    obtain ⟨rfl, hE4⟩ := hv
    replace hS := hS.ext hE4
    refine n_q H (q_move rfl) rfl ?_
    clear H a; intro a H
    refine n_q H (q_lss rfl rfl) rfl ?_
    clear H a; intro a H
    refine n_nil ?_
    refine then_normal ?_
    refine c_cond H rfl (fun hc25 => ?_) (fun hc25 => ?_)
    · skip
      have q25 : (cd : Int) - ca < k := by simpa using hc25
      refine wp_seq ?_
      refine c_ord [] 8 (by kernel_rfl) ?_
      obtain ⟨w6, hw6⟩ : ∃ x, x = w3.drew := ⟨_, rfl⟩
      rw [← hw6]
      have hE7 : Ext w3 w6 := by rw [hw6]; exact Ext.drew' _
      clear hw6
      replace hS := hS.ext hE7
      refine k_take 0 H rfl (q_move rfl) rfl (by kernel_rfl) (by kernel_rfl) (by kernel_rfl) (by kernel_rfl) (fun _ _ _ h => h) ?_
      clear H a; intro a H
      refine k_take 1 H rfl (q_nilCheck rfl) rfl (by kernel_rfl) (by kernel_rfl) (by kernel_rfl) (by kernel_rfl) (fun _ _ _ h => h) ?_
      clear H a; intro a H
      refine k_take 2 H rfl (q_fieldAddr0 rfl fo142_1) rfl (by kernel_rfl) (by kernel_rfl) (by kernel_rfl) (by kernel_rfl) (fun _ _ _ h => h) ?_
      clear H a; intro a H
      refine k_take 3 H rfl (q_load rfl (LdC.k0 ((hS.blk 0 rfl).ld ag3 rfl))) rfl (by kernel_rfl) (by kernel_rfl) (by kernel_rfl) (by kernel_rfl) (fun _ _ _ h => h) ?_
      clear H a; intro a H
      refine k_take 4 H rfl (q_load rfl (LdC.k0 ((hG _ hS.chg).ld 1 (by decide) ag33))) rfl (by kernel_rfl) (by kernel_rfl) (by kernel_rfl) (by kernel_rfl) (fun _ _ _ h => h) ?_
      clear H a; intro a H
      refine k_call 5 H rfl rfl en57 (at_w rfl) rfl (by kernel_rfl) (fun v w hv => .inl (ChgF.of_ext (by obtain ⟨be, rfl, hE0⟩ := hv; exact hE0.x))) ?_
      clear H a; intro v10 w8 hv a H
      obtain ⟨be, rfl, hE9⟩ := hv
      replace hS := hS.new hE9
      simp only [List.cons_append, List.nil_append] at hS
      replace hS := hS.atErr (g := 1) (by decide)
      refine k_take 6 H rfl (q_assign rfl) rfl (by kernel_rfl) (by kernel_rfl) (by kernel_rfl) (by kernel_rfl) (fun _ _ _ h => h) ?_
      clear H a; intro a H
      refine k_take 7 H rfl (q_assign rfl) rfl (by kernel_rfl) (by kernel_rfl) (by kernel_rfl) (by kernel_rfl) (fun _ _ _ h => h) ?_
      clear H a; intro a H
      refine k_done (by kernel_rfl) ?_
      refine then_normal ?_
      refine wp_ret ?_
      refine then_ret ?_
      replace hS := hS.pick 1 rfl
      dsimp only [List.eraseIdx] at hS
      refine ret2 H (.inr rfl) rfl rfl rfl ?_
      rw [show rangedM bs ca cd k lo hi = (0, .pl ca 1, ca) from by rw [rangedM, if_neg (fun h => h q20), if_pos q25]]; exact ⟨_, rfl, hS⟩
    · skip
      have q25 : ¬ (cd : Int) - ca < k := by simpa using hc25
      refine wp_skip ?_
      refine then_normal ?_
      refine wp_seq ?_
      refine wp_region_lit ?_
      refine n_q H (q_move rfl) rfl ?_
      clear H a; intro a H
      refine n_q H (q_move rfl) rfl ?_
      clear H a; intro a H
      refine n_call H rfl en88 (peek_w (o := 0) (k := k) (m := ca) (hb _ hS.chg) (by omega) (by omega) (by omega) (by omega) h3 (by omega) (kn := k.toNat) (by omega) (hS.blk 0 rfl)) rfl ?_
      clear H a; intro v13 w11 hv a H
      obtain ⟨rfl, hE12⟩ := hv
      replace hS := hS.ext hE12
      refine n_q H (q_assign rfl) rfl ?_
      clear H a; intro a H
      refine n_nil ?_
      refine then_normal ?_
      refine wp_seq ?_
      refine wp_seq ?_
      refine wp_region_lit ?_
      refine n_c H (fun HC => ?_); clear H
      refine nc_q HC (q_move rfl) rfl (by kernel_rfl) ?_
      clear HC a; intro a HC
      refine nc_q HC (q_move rfl) rfl (by kernel_rfl) ?_
      clear HC a; intro a HC
      refine nc_q HC (q_lss rfl rfl) rfl (by kernel_rfl) ?_
      clear HC a; intro a HC
      refine nc_q HC (q_move rfl) rfl (by kernel_rfl) ?_
      clear HC a; intro a HC
      refine nc_g HC (q_move rfl) (by kernel_rfl) (by kernel_rfl) (by kernel_rfl) ?_
      clear HC a; intro a HC
      refine nc_g HC (q_move rfl) (by kernel_rfl) (by kernel_rfl) (by kernel_rfl) ?_
      clear HC a; intro a HC
      refine nc_g HC (q_gtr rfl rfl) (by kernel_rfl) (by kernel_rfl) (by kernel_rfl) ?_
      clear HC a; intro a HC
      refine nc_or (j := 3) HC rfl rfl rfl (by kernel_rfl) (by kernel_rfl) ?_
      clear HC a; intro a HC
      have H := HC.has; clear HC
      refine n_nil ?_
      refine then_normal ?_
      refine c_cond H rfl (fun hc42 => ?_) (fun hc42 => ?_)
      · skip
        have q42 : peekN bs ca k.toNat < lo ∨ hi < peekN bs ca k.toNat := by simpa [Bool.or_eq_true] using hc42
        refine wp_seq ?_
        refine c_ord [] 8 (by kernel_rfl) ?_
        obtain ⟨w14, hw14⟩ : ∃ x, x = w11.drew := ⟨_, rfl⟩
        rw [← hw14]
        have hE15 : Ext w11 w14 := by rw [hw14]; exact Ext.drew' _
        clear hw14
        replace hS := hS.ext hE15
        refine k_take 0 H rfl (q_move rfl) rfl (by kernel_rfl) (by kernel_rfl) (by kernel_rfl) (by kernel_rfl) (fun _ _ _ h => h) ?_
        clear H a; intro a H
        refine k_take 1 H rfl (q_nilCheck rfl) rfl (by kernel_rfl) (by kernel_rfl) (by kernel_rfl) (by kernel_rfl) (fun _ _ _ h => h) ?_
        clear H a; intro a H
        refine k_take 2 H rfl (q_fieldAddr0 rfl fo142_1) rfl (by kernel_rfl) (by kernel_rfl) (by kernel_rfl) (by kernel_rfl) (fun _ _ _ h => h) ?_
        clear H a; intro a H
        refine k_take 3 H rfl (q_load rfl (LdC.k0 ((hS.blk 0 rfl).ld ag3 rfl))) rfl (by kernel_rfl) (by kernel_rfl) (by kernel_rfl) (by kernel_rfl) (fun _ _ _ h => h) ?_
        clear H a; intro a H
        refine k_take 4 H rfl (q_load rfl (LdC.k0 ((hG _ hS.chg).ld 6 (by decide) ag33))) rfl (by kernel_rfl) (by kernel_rfl) (by kernel_rfl) (by kernel_rfl) (fun _ _ _ h => h) ?_
        clear H a; intro a H
        refine k_call 5 H rfl rfl en57 (at_w rfl) rfl (by kernel_rfl) (fun v w hv => .inl (ChgF.of_ext (by obtain ⟨be, rfl, hE0⟩ := hv; exact hE0.x))) ?_
        clear H a; intro v18 w16 hv a H
        obtain ⟨be, rfl, hE17⟩ := hv
        replace hS := hS.new hE17
        simp only [List.cons_append, List.nil_append] at hS
        replace hS := hS.atErr (g := 6) (by decide)
        refine k_take 6 H rfl (q_assign rfl) rfl (by kernel_rfl) (by kernel_rfl) (by kernel_rfl) (by kernel_rfl) (fun _ _ _ h => h) ?_
        clear H a; intro a H
        refine k_take 7 H rfl (q_assign rfl) rfl (by kernel_rfl) (by kernel_rfl) (by kernel_rfl) (by kernel_rfl) (fun _ _ _ h => h) ?_
        clear H a; intro a H
        refine k_done (by kernel_rfl) ?_
        refine then_normal ?_
        refine wp_ret ?_
        refine then_ret ?_
        replace hS := hS.pick 1 rfl
        dsimp only [List.eraseIdx] at hS
        refine ret2 H (.inr rfl) rfl rfl rfl ?_
        rw [show rangedM bs ca cd k lo hi = (0, .pl ca 6, ca) from by rw [rangedM, if_neg (fun h => h q20), if_neg q25, if_pos q42]]; exact ⟨_, rfl, hS⟩
      · skip
        have q42 : ¬ (peekN bs ca k.toNat < lo ∨ hi < peekN bs ca k.toNat) := by simpa [Bool.or_eq_false_iff] using hc42
        refine wp_skip ?_
        refine then_normal ?_
        refine wp_seq ?_
        refine wp_region_lit ?_
        refine n_q H (q_move rfl) rfl ?_
        clear H a; intro a H
        refine n_q H (q_nilCheck rfl) rfl ?_
        clear H a; intro a H
        refine n_q H (q_fieldAddr0 rfl fo142_1) rfl ?_
        clear H a; intro a H
        refine n_q H (q_load rfl ((hS.blk 0 rfl).ld ag3 rfl)) rfl ?_
        clear H a; intro a H
        refine n_q H (q_move rfl) rfl ?_
        clear H a; intro a H
        refine n_q H (q_add rfl rfl (by constructor <;> omega)) rfl ?_
        clear H a; intro a H
        refine n_q H (q_nilCheck rfl) rfl ?_
        clear H a; intro a H
        refine n_q H (q_fieldAddr0 rfl fo142_1) rfl ?_
        clear H a; intro a H
        refine n_store1 H rfl rfl sz3 (hS.blk 0 rfl) (by simp) (by first | rfl) ?_
        clear H; intro w19 hN hC20 hz; clear a; intro a H
        replace hS := hS.setBlk hN hC20; clear hN hz
        try simp only [List.set_cons_succ, List.set_cons_zero] at hS
        refine n_nil ?_
        refine then_normal ?_
        refine wp_seq ?_
        refine wp_region_lit ?_
        refine n_q H (q_move rfl) rfl ?_
        clear H a; intro a H
        refine n_q H (q_assign rfl) rfl ?_
        clear H a; intro a H
        refine n_q H (q_assign rfl) rfl ?_
        clear H a; intro a H
        refine n_nil ?_
        refine then_normal ?_
        refine wp_ret ?_
        replace hS := hS.noErr (A := A)
        have hat : (ca : Int) + k = ((ca + k.toNat : Nat) : Int) := by omega
        rw [hat] at hS
        replace hS := hS.pick 1 rfl
        dsimp only [List.eraseIdx] at hS
        refine ret2 H (.inr rfl) rfl rfl rfl ?_
        rw [show rangedM bs ca cd k lo hi = (peekN bs ca k.toNat, .nil, ca + k.toNat) from by rw [rangedM, if_neg (fun h => h q20), if_neg q25, if_neg q42]]; exact ⟨_, rfl, hS⟩

theorem cU8_w {w : World} {fp : Nat → Prop} {A : Nat → Addr} {p ca cd : Nat} {vb : Value} {bs : List UInt8}  (hG : ∀ w', ChgP fp w w' → EV A w') (hb : ∀ w', ChgP fp w w' → SlR w' 1 (Flat eB) vb bs) (h1 : ca ≤ cd) (h2 : cd ≤ bs.length) (h3 : bs.length ≤ 70368744177664) (hP0 : Sep w fp [cuR p vb ca cd]) :
    Calls Tryd.prog 41 [.pointer (some ⟨p, 0, none⟩)].toArray w (Ret fun r w' => ∃ u, r = .tuple #[.int .i64 (rangedM bs ca cd 1 0 255).1, u] ∧ St fp w w' [cuR p vb (rangedM bs ca cd 1 0 255).2.2 cd, erR A u (rangedM bs ca cd 1 0 255).2.1]) := by
  have hS := St.init hP0
  refine enter Tryd.func41 rfl rfl rfl ?_
  intro a H
  dsimp only [enumL, Nat.zero_add, Nat.reduceAdd] at H
  refine wp_seq ?_
  refine wp_region_lit ?_
  refine n_q H (q_assign rfl) rfl ?_
  clear H a; intro a H
  refine n_q H (q_assign rfl) rfl ?_
  clear H a; intro a H
  refine n_nil ?_
  refine then_normal ?_
  refine wp_seq ?_
  refine wp_region_lit ?_
  refine n_q H (q_move rfl) rfl ?_
  clear H a; intro a H
  refine n_call H rfl en69 (most_w (k := 1) (by omega)) rfl ?_
  clear H a; intro v3 w1 hv a H
  obtain ⟨rfl, hE2⟩ := hv
  replace hS := hS.ext hE2
  obtain ⟨fp6, hG6, hK6, hR6, hF6⟩ := hS.frame1
  refine n_call H rfl en75 (ranged_w (k := 1) (lo := 0) (hi := 255) (fun w' hw => hG _ (hK6 _ hw)) (fun w' hw => hb _ (hK6 _ hw)) h1 h2 h3 hG6) rfl ?_
  clear H a; intro v6 w4 hv a H
  obtain ⟨u6, rfl, hE5⟩ := hv
  replace hS := hF6 _ _ hE5
  simp only [List.cons_append, List.nil_append] at hS
  clear hG6 hK6 hR6 hF6
  refine n_q H (q_extract rfl rfl) rfl ?_
  clear H a; intro a H
  refine n_q H (q_extract rfl rfl) rfl ?_
  clear H a; intro a H
  refine n_q H (q_assign rfl) rfl ?_
  clear H a; intro a H
  refine n_q H (q_assign rfl) rfl ?_
  clear H a; intro a H
  refine n_nil ?_
  refine then_normal ?_
  refine wp_ret ?_
  refine ret2 H (.inr rfl) rfl rfl rfl ?_
  exact ⟨_, rfl, hS⟩

theorem head_w {w : World} {fp : Nat → Prop} {A : Nat → Addr} {p ca cd : Nat} {vb : Value} {bs : List UInt8}  (hG : ∀ w', ChgP fp w w' → EV A w') (hb : ∀ w', ChgP fp w w' → SlR w' 1 (Flat eB) vb bs) (h1 : ca ≤ cd) (h2 : cd ≤ bs.length) (h3 : bs.length ≤ 70368744177664) (hP0 : Sep w fp [cuR p vb ca cd]) :
    Calls Tryd.prog 73 [.pointer (some ⟨p, 0, none⟩)].toArray w (Ret fun r w' => ∃ u, r = .tuple #[.int .i64 (headM bs ca cd).1, .int .i64 (headM bs ca cd).2.1, u] ∧ St fp w w' [cuR p vb ca cd, erR A u (headM bs ca cd).2.2]) := by
  have hS := St.init hP0
  refine enter Tryd.func73 rfl rfl rfl ?_
  intro a H
  dsimp only [enumL, Nat.zero_add, Nat.reduceAdd] at H
  refine wp_seq ?_
  refine wp_region_lit ?_
  refine n_q H (q_assign rfl) rfl ?_
  clear H a; intro a H
  refine n_q H (q_assign rfl) rfl ?_
  clear H a; intro a H
  refine n_q H (q_assign rfl) rfl ?_
  clear H a; intro a H
  refine n_nil ?_
  refine then_normal ?_
  refine wp_seq ?_
  refine wp_seq ?_
  refine wp_region_lit ?_
  refine n_q H (q_move rfl) rfl ?_
  clear H a; intro a H
  refine n_call H rfl en40 (cLeft_w h1 (by omega) (hS.blk 0 rfl)) rfl ?_
  clear H a; intro v3 w1 hv a H
  obtain ⟨rfl, hE2⟩ := hv
  replace hS := hS.ext hE2
  refine n_q H (q_lss rfl rfl) rfl ?_
  clear H a; intro a H
  refine n_nil ?_
  refine then_normal ?_
  refine c_cond H rfl (fun hc7 => ?_) (fun hc7 => ?_)
  · skip
    have q7 : (cd : Int) - ca < 3 := by simpa using hc7
    refine wp_seq ?_
    refine c_ord [] 9 (by kernel_rfl) ?_
    obtain ⟨w4, hw4⟩ : ∃ x, x = w1.drew := ⟨_, rfl⟩
    rw [← hw4]
    have hE5 : Ext w1 w4 := by rw [hw4]; exact Ext.drew' _
    clear hw4
    replace hS := hS.ext hE5
    refine k_take 0 H rfl (q_move rfl) rfl (by kernel_rfl) (by kernel_rfl) (by kernel_rfl) (by kernel_rfl) (fun _ _ _ h => h) ?_
    clear H a; intro a H
    refine k_take 1 H rfl (q_nilCheck rfl) rfl (by kernel_rfl) (by kernel_rfl) (by kernel_rfl) (by kernel_rfl) (fun _ _ _ h => h) ?_
    clear H a; intro a H
    refine k_take 2 H rfl (q_fieldAddr0 rfl fo142_1) rfl (by kernel_rfl) (by kernel_rfl) (by kernel_rfl) (by kernel_rfl) (fun _ _ _ h => h) ?_
    clear H a; intro a H
    refine k_take 3 H rfl (q_load rfl (LdC.k0 ((hS.blk 0 rfl).ld ag3 rfl))) rfl (by kernel_rfl) (by kernel_rfl) (by kernel_rfl) (by kernel_rfl) (fun _ _ _ h => h) ?_
    clear H a; intro a H
    refine k_take 4 H rfl (q_load rfl (LdC.k0 ((hG _ hS.chg).ld 1 (by decide) ag33))) rfl (by kernel_rfl) (by kernel_rfl) (by kernel_rfl) (by kernel_rfl) (fun _ _ _ h => h) ?_
    clear H a; intro a H
    refine k_call 5 H rfl rfl en57 (at_w rfl) rfl (by kernel_rfl) (fun v w hv => .inl (ChgF.of_ext (by obtain ⟨be, rfl, hE0⟩ := hv; exact hE0.x))) ?_
    clear H a; intro v8 w6 hv a H
    obtain ⟨be, rfl, hE7⟩ := hv
    replace hS := hS.new hE7
    simp only [List.cons_append, List.nil_append] at hS
    replace hS := hS.atErr (g := 1) (by decide)
    refine k_take 6 H rfl (q_assign rfl) rfl (by kernel_rfl) (by kernel_rfl) (by kernel_rfl) (by kernel_rfl) (fun _ _ _ h => h) ?_
    clear H a; intro a H
    refine k_take 7 H rfl (q_assign rfl) rfl (by kernel_rfl) (by kernel_rfl) (by kernel_rfl) (by kernel_rfl) (fun _ _ _ h => h) ?_
    clear H a; intro a H
    refine k_take 8 H rfl (q_assign rfl) rfl (by kernel_rfl) (by kernel_rfl) (by kernel_rfl) (by kernel_rfl) (fun _ _ _ h => h) ?_
    clear H a; intro a H
    refine k_done (by kernel_rfl) ?_
    refine then_normal ?_
    refine wp_ret ?_
    refine then_ret ?_
    replace hS := hS.pick 1 rfl
    dsimp only [List.eraseIdx] at hS
    refine retL H (.inr rfl) rfl (vs := _) (resTmp rfl (resTmp rfl (resTmp rfl resNil))) ?_
    rw [show headM bs ca cd = (0, 0, .pl ca 1) from by rw [headM, if_pos q7]]; exact ⟨_, rfl, hS⟩
  · skip
    have q7 : ¬ (cd : Int) - ca < 3 := by simpa using hc7
    refine wp_skip ?_
    refine then_normal ?_
    refine wp_seq ?_
    refine wp_region_lit ?_
    refine n_q H (q_move rfl) rfl ?_
    clear H a; intro a H
    refine n_call H rfl en88 (peek_w (o := 0) (k := 1) (m := ca) (hb _ hS.chg) (by omega) (by omega) (by omega) (by omega) h3 (by omega) (kn := 1) (by omega) (hS.blk 0 rfl)) rfl ?_
    clear H a; intro v11 w9 hv a H
    obtain ⟨rfl, hE10⟩ := hv
    replace hS := hS.ext hE10
    refine n_q H (q_move rfl) rfl ?_
    clear H a; intro a H
    refine n_call H rfl en88 (peek_w (o := 1) (k := 2) (m := (ca + 1)) (hb _ hS.chg) (by omega) (by omega) (by omega) (by omega) h3 (by omega) (kn := 2) (by omega) (hS.blk 0 rfl)) rfl ?_
    clear H a; intro v14 w12 hv a H
    obtain ⟨rfl, hE13⟩ := hv
    replace hS := hS.ext hE13
    refine n_q H (q_assign rfl) rfl ?_
    clear H a; intro a H
    refine n_q H (q_assign rfl) rfl ?_
    clear H a; intro a H
    refine n_q H (q_assign rfl) rfl ?_
    clear H a; intro a H
    refine n_nil ?_
    refine then_normal ?_
    refine wp_ret ?_
    replace hS := hS.noErr (A := A)
    replace hS := hS.pick 1 rfl
    dsimp only [List.eraseIdx] at hS
    refine retL H (.inr rfl) rfl (vs := _) (resTmp rfl (resTmp rfl (resTmp rfl resNil))) ?_
    rw [show headM bs ca cd = (peekN bs ca 1, peekN bs (ca + 1) 2, .nil) from by rw [headM, if_neg q7]]; exact ⟨_, rfl, hS⟩

set_option maxHeartbeats 1000000 in
theorem enter_w {w : World} {fp : Nat → Prop} {A : Nat → Addr} {p ca cd : Nat} {vb : Value} {bs : List UInt8} {n : Int} (hn0 : 0 ≤ n) (hn1 : n ≤ 65535) (h4 : ca + 3 ≤ cd) (hG : ∀ w', ChgP fp w w' → EV A w') (hb : ∀ w', ChgP fp w w' → SlR w' 1 (Flat eB) vb bs) (h1 : ca ≤ cd) (h2 : cd ≤ bs.length) (h3 : bs.length ≤ 70368744177664) (hP0 : Sep w fp [cuR p vb ca cd]) :
    Calls Tryd.prog 74 [.pointer (some ⟨p, 0, none⟩), .int .i64 n].toArray w (Ret fun r w' => ∃ q u, r = .tuple #[.pointer q, u] ∧ St fp w w' [cuR p vb (enterM ca cd n).2.2 cd, erR A u (enterM ca cd n).2.1, ncR vb q (enterM ca cd n).1]) := by
  have hS := St.init hP0
  obtain ⟨A0, c0, hvb, _⟩ := (hb _ (ChgP.refl _ _)).form
  subst hvb
  refine enter Tryd.func74 rfl rfl rfl ?_
  intro a H
  dsimp only [enumL, Nat.zero_add, Nat.reduceAdd] at H
  refine wp_seq ?_
  refine wp_region_lit ?_
  refine n_q H (q_assign rfl) rfl ?_
  clear H a; intro a H
  refine n_q H (q_assign rfl) rfl ?_
  clear H a; intro a H
  refine n_nil ?_
  refine then_normal ?_
  refine wp_seq ?_
  refine wp_seq ?_
  refine wp_region_lit ?_
  refine n_q H (q_move rfl) rfl ?_
  clear H a; intro a H
  refine n_q H (q_move rfl) rfl ?_
  clear H a; intro a H
  refine n_call H rfl en40 (cLeft_w h1 (by omega) (hS.blk 0 rfl)) rfl ?_
  clear H a; intro v3 w1 hv a H
  obtain ⟨rfl, hE2⟩ := hv
  replace hS := hS.ext hE2
  refine n_q H (q_sub rfl rfl (by constructor <;> omega)) rfl ?_
  clear H a; intro a H
  refine n_q H (q_gtr rfl rfl) rfl ?_
  clear H a; intro a H
  refine n_nil ?_
  refine then_normal ?_
  refine c_cond H rfl (fun hc11 => ?_) (fun hc11 => ?_)
  · skip
    have q11 : (cd : Int) - ca - 3 < n := by simpa using hc11
    refine wp_seq ?_
    refine c_ord [] 9 (by kernel_rfl) ?_
    obtain ⟨w4, hw4⟩ : ∃ x, x = w1.drew := ⟨_, rfl⟩
    rw [← hw4]
    have hE5 : Ext w1 w4 := by rw [hw4]; exact Ext.drew' _
    clear hw4
    replace hS := hS.ext hE5
    refine k_take 0 H rfl (q_move rfl) rfl (by kernel_rfl) (by kernel_rfl) (by kernel_rfl) (by kernel_rfl) (fun _ _ _ h => h) ?_
    clear H a; intro a H
    refine k_take 1 H rfl (q_nilCheck rfl) rfl (by kernel_rfl) (by kernel_rfl) (by kernel_rfl) (by kernel_rfl) (fun _ _ _ h => h) ?_
    clear H a; intro a H
    refine k_take 2 H rfl (q_fieldAddr0 rfl fo142_1) rfl (by kernel_rfl) (by kernel_rfl) (by kernel_rfl) (by kernel_rfl) (fun _ _ _ h => h) ?_
    clear H a; intro a H
    refine k_take 3 H rfl (q_load rfl (LdC.k0 ((hS.blk 0 rfl).ld ag3 rfl))) rfl (by kernel_rfl) (by kernel_rfl) (by kernel_rfl) (by kernel_rfl) (fun _ _ _ h => h) ?_
    clear H a; intro a H
    refine k_take 4 H rfl (q_add rfl rfl (by constructor <;> omega)) rfl (by kernel_rfl) (by kernel_rfl) (by kernel_rfl) (by kernel_rfl) (fun _ _ _ h => h) ?_
    clear H a; intro a H
    refine k_take 5 H rfl (q_load rfl (LdC.k0 ((hG _ hS.chg).ld 7 (by decide) ag33))) rfl (by kernel_rfl) (by kernel_rfl) (by kernel_rfl) (by kernel_rfl) (fun _ _ _ h => h) ?_
    clear H a; intro a H
    refine k_call 6 H rfl rfl en57 (at_w rfl) rfl (by kernel_rfl) (fun v w hv => .inl (ChgF.of_ext (by obtain ⟨be, rfl, hE0⟩ := hv; exact hE0.x))) ?_
    clear H a; intro v8 w6 hv a H
    obtain ⟨be, rfl, hE7⟩ := hv
    replace hS := hS.new hE7
    simp only [List.cons_append, List.nil_append] at hS
    replace hS := hS.atErr (g := 7) (by decide)
    refine k_take 7 H rfl (q_assign rfl) rfl (by kernel_rfl) (by kernel_rfl) (by kernel_rfl) (by kernel_rfl) (fun _ _ _ h => h) ?_
    clear H a; intro a H
    refine k_take 8 H rfl (q_assign rfl) rfl (by kernel_rfl) (by kernel_rfl) (by kernel_rfl) (by kernel_rfl) (fun _ _ _ h => h) ?_
    clear H a; intro a H
    refine k_done (by kernel_rfl) ?_
    refine then_normal ?_
    refine wp_ret ?_
    refine then_ret ?_
    replace hS := hS.ncNone (.slice A0 bs.length c0)
    replace hS := hS.pick 1 rfl
    dsimp only [List.eraseIdx] at hS
    replace hS := hS.pick 2 rfl
    dsimp only [List.eraseIdx] at hS
    refine ret2 H (.inr rfl) rfl rfl rfl ?_
    rw [show enterM ca cd n = (none, .pl (ca + 1 : Nat) 7, ca) from by rw [enterM, if_pos q11]]; exact ⟨_, _, rfl, hS⟩
  · skip
    have q11 : ¬ (cd : Int) - ca - 3 < n := by simpa using hc11
    refine wp_skip ?_
    refine then_normal ?_
    refine wp_seq ?_
    refine c_ord [] 18 (by kernel_rfl) ?_
    obtain ⟨w9, hw9⟩ : ∃ x, x = w1.drew := ⟨_, rfl⟩
    rw [← hw9]
    have hE10 : Ext w1 w9 := by rw [hw9]; exact Ext.drew' _
    clear hw9
    replace hS := hS.ext hE10
    refine k_take 0 H rfl (q_move rfl) rfl (by kernel_rfl) (by kernel_rfl) (by kernel_rfl) (by kernel_rfl) (fun _ _ _ h => h) ?_
    clear H a; intro a H
    refine k_take 1 H rfl (q_nilCheck rfl) rfl (by kernel_rfl) (by kernel_rfl) (by kernel_rfl) (by kernel_rfl) (fun _ _ _ h => h) ?_
    clear H a; intro a H
    refine k_take 2 H rfl (q_fieldAddr0 rfl fo142_0) rfl (by kernel_rfl) (by kernel_rfl) (by kernel_rfl) (by kernel_rfl) (fun _ _ _ h => h) ?_
    clear H a; intro a H
    refine k_take 3 H rfl (q_load rfl (LdC.k0 ((hS.blk 0 rfl).ld ag23 rfl))) rfl (by kernel_rfl) (by kernel_rfl) (by kernel_rfl) (by kernel_rfl) (fun _ _ _ h => h) ?_
    clear H a; intro a H
    refine k_take 4 H rfl (q_move rfl) rfl (by kernel_rfl) (by kernel_rfl) (by kernel_rfl) (by kernel_rfl) (fun _ _ _ h => h) ?_
    clear H a; intro a H
    refine k_take 5 H rfl (q_nilCheck rfl) rfl (by kernel_rfl) (by kernel_rfl) (by kernel_rfl) (by kernel_rfl) (fun _ _ _ h => h) ?_
    clear H a; intro a H
    refine k_take 6 H rfl (q_fieldAddr0 rfl fo142_1) rfl (by kernel_rfl) (by kernel_rfl) (by kernel_rfl) (by kernel_rfl) (fun _ _ _ h => h) ?_
    clear H a; intro a H
    refine k_take 7 H rfl (q_load rfl (LdC.k0 ((hS.blk 0 rfl).ld ag3 rfl))) rfl (by kernel_rfl) (by kernel_rfl) (by kernel_rfl) (by kernel_rfl) (fun _ _ _ h => h) ?_
    clear H a; intro a H
    refine k_take 8 H rfl (q_add rfl rfl (by constructor <;> omega)) rfl (by kernel_rfl) (by kernel_rfl) (by kernel_rfl) (by kernel_rfl) (fun _ _ _ h => h) ?_
    clear H a; intro a H
    refine k_take 9 H rfl (q_move rfl) rfl (by kernel_rfl) (by kernel_rfl) (by kernel_rfl) (by kernel_rfl) (fun _ _ _ h => h) ?_
    clear H a; intro a H
    refine k_take 10 H rfl (q_nilCheck rfl) rfl (by kernel_rfl) (by kernel_rfl) (by kernel_rfl) (by kernel_rfl) (fun _ _ _ h => h) ?_
    clear H a; intro a H
    refine k_take 11 H rfl (q_fieldAddr0 rfl fo142_1) rfl (by kernel_rfl) (by kernel_rfl) (by kernel_rfl) (by kernel_rfl) (fun _ _ _ h => h) ?_
    clear H a; intro a H
    refine k_take 12 H rfl (q_load rfl (LdC.k0 ((hS.blk 0 rfl).ld ag3 rfl))) rfl (by kernel_rfl) (by kernel_rfl) (by kernel_rfl) (by kernel_rfl) (fun _ _ _ h => h) ?_
    clear H a; intro a H
    refine k_take 13 H rfl (q_add rfl rfl (by constructor <;> omega)) rfl (by kernel_rfl) (by kernel_rfl) (by kernel_rfl) (by kernel_rfl) (fun _ _ _ h => h) ?_
    clear H a; intro a H
    refine k_take 14 H rfl (q_move rfl) rfl (by kernel_rfl) (by kernel_rfl) (by kernel_rfl) (by kernel_rfl) (fun _ _ _ h => h) ?_
    clear H a; intro a H
    refine k_take 15 H rfl (q_add rfl rfl (by constructor <;> omega)) rfl (by kernel_rfl) (by kernel_rfl) (by kernel_rfl) (by kernel_rfl) (fun _ _ _ h => h) ?_
    clear H a; intro a H
    refine k_take 16 H rfl (q_build (cs := [.slice A0 bs.length c0, .int .i64 ((ca : Int) + 3), .int .i64 ((ca : Int) + 3 + n)]) ze142 bd142 pl142 rfl (by kernel_rfl)) rfl (by kernel_rfl) (by kernel_rfl) (by kernel_rfl) (by kernel_rfl) (fun _ _ _ h => h) ?_
    clear H a; intro a H
    refine k_box 17 H rfl rfl (cs := [.slice A0 bs.length c0, .int .i64 ((ca : Int) + 3), .int .i64 ((ca : Int) + 3 + n)]) rfl rfl (by kernel_rfl) ?_
    clear H; intro b36 w11 hN hE12 hs_b36; clear a; intro a H
    have hz_b36 := hE12.size
    replace hS := hS.newBlk hN hE12 hs_b36; clear hN hE12
    refine k_q 18 H rfl (q_assign rfl) rfl (by kernel_rfl) ?_
    clear H a; intro a H
    refine k_done (by kernel_rfl) ?_
    refine then_normal ?_
    refine wp_seq ?_
    refine wp_region_lit ?_
    refine n_q H (q_move rfl) rfl ?_
    clear H a; intro a H
    refine n_q H (q_move rfl) rfl ?_
    clear H a; intro a H
    refine n_q H (q_nilCheck rfl) rfl ?_
    clear H a; intro a H
    refine n_q H (q_fieldAddr0 rfl fo142_2) rfl ?_
    clear H a; intro a H
    refine n_q H (q_load rfl ((hS.blk 0 rfl).ld ag3 rfl)) rfl ?_
    clear H a; intro a H
    refine n_q H (q_nilCheck rfl) rfl ?_
    clear H a; intro a H
    refine n_q H (q_fieldAddr0 rfl fo142_1) rfl ?_
    clear H a; intro a H
    replace hS := hS.pick 1 rfl
    dsimp only [List.eraseIdx] at hS
    refine n_store1 H rfl rfl sz3 (hS.blk 0 rfl) (by simp) (by first | rfl) ?_
    clear H; intro w13 hN hC14 hz; clear a; intro a H
    replace hS := hS.setBlk hN hC14; clear hN hz
    try simp only [List.set_cons_succ, List.set_cons_zero] at hS
    refine n_nil ?_
    refine then_normal ?_
    refine wp_seq ?_
    refine wp_region_lit ?_
    refine n_q H (q_move rfl) rfl ?_
    clear H a; intro a H
    refine n_q H (q_assign rfl) rfl ?_
    clear H a; intro a H
    refine n_q H (q_assign rfl) rfl ?_
    clear H a; intro a H
    refine n_nil ?_
    refine then_normal ?_
    refine wp_ret ?_
    replace hS := hS.noErr (A := A)
    have hat : (ca : Int) + 3 + n = ((ca + 3 + n.toNat : Nat) : Int) := by omega
    have ha3 : (ca : Int) + 3 = ((ca + 3 : Nat) : Int) := by omega
    rw [hat, ha3] at hS
    replace hS := hS.pick 2 rfl
    dsimp only [List.eraseIdx] at hS
    replace hS := hS.ncSome
    replace hS := hS.pick 1 rfl
    dsimp only [List.eraseIdx] at hS
    replace hS := hS.pick 2 rfl
    dsimp only [List.eraseIdx] at hS
    refine ret2 H (.inr rfl) rfl rfl rfl ?_
    rw [show enterM ca cd n = (some (ca + 3, ca + 3 + n.toNat), .nil, ca + 3 + n.toNat) from by rw [enterM, if_neg q11]]; exact ⟨_, _, rfl, hS⟩

set_option maxHeartbeats 1000000 in
theorem next_w {w : World} {fp : Nat → Prop} {A : Nat → Addr} {p ca cd : Nat} {vb : Value} {bs : List UInt8}  (hG : ∀ w', ChgP fp w w' → EV A w') (hb : ∀ w', ChgP fp w w' → SlR w' 1 (Flat eB) vb bs) (h1 : ca ≤ cd) (h2 : cd ≤ bs.length) (h3 : bs.length ≤ 70368744177664) (hP0 : Sep w fp [cuR p vb ca cd]) :
    Calls Tryd.prog 50 [.pointer (some ⟨p, 0, none⟩)].toArray w (Ret fun r w' => ∃ q u, r = .tuple #[.int .i64 (nextM bs ca cd).1, .pointer q, u] ∧ St fp w w' [cuR p vb (nextM bs ca cd).2.2.2 cd, erR A u (nextM bs ca cd).2.2.1, ncR vb q (nextM bs ca cd).2.1]) := by
  have hS := St.init hP0
  refine enter Tryd.func50 rfl rfl rfl ?_
  intro a H
  dsimp only [enumL, Nat.zero_add, Nat.reduceAdd] at H
  refine wp_seq ?_
  refine wp_region_lit ?_
  refine n_q H (q_assign rfl) rfl ?_
  clear H a; intro a H
  refine n_q H (q_assign rfl) rfl ?_
  clear H a; intro a H
  refine n_q H (q_assign rfl) rfl ?_
  clear H a; intro a H
  refine n_nil ?_
  refine then_normal ?_
  refine wp_seq ?_
  refine wp_region_lit ?_
  refine n_q H (q_move rfl) rfl ?_
  clear H a; intro a H
  obtain ⟨fp11, hG11, hK11, hR11, hF11⟩ := hS.frame1
  refine n_call H rfl en73 (head_w (fun w' hw => hG _ (hK11 _ hw)) (fun w' hw => hb _ (hK11 _ hw)) h1 h2 h3 hG11) rfl ?_
  clear H a; intro v3 w1 hv a H
  obtain ⟨u11, rfl, hE2⟩ := hv
  replace hS := hF11 _ _ hE2
  simp only [List.cons_append, List.nil_append] at hS
  clear hG11 hK11 hR11 hF11
  refine n_q H (q_move rfl) rfl ?_
  clear H a; intro a H
  refine n_q H (q_extract rfl rfl) rfl ?_
  clear H a; intro a H
  refine n_q H (q_extract rfl rfl) rfl ?_
  clear H a; intro a H
  refine n_q H (q_extract rfl rfl) rfl ?_
  clear H a; intro a H
  refine n_q H (q_assign rfl) rfl ?_
  clear H a; intro a H
  refine n_q H (q_assign rfl) rfl ?_
  clear H a; intro a H
  refine n_q H (q_assign rfl) rfl ?_
  clear H a; intro a H
  refine n_nil ?_
  refine then_normal ?_
  refine wp_seq ?_
  refine wp_seq ?_
  refine wp_region_lit ?_
  refine n_q H (q_move rfl) rfl ?_
  clear H a; intro a H
  refine n_q H (q_nnilI Tryd.underlying33 rfl rfl (hS.any 1 rfl).form) rfl ?_
  clear H a; intro a H
  refine n_nil ?_
  refine then_normal ?_
  refine c_cond H rfl (fun hc16 => ?_) (fun hc16 => ?_)
  · skip
    have q7 : (cd : Int) - ca < 3 := by
      by_cases h : (cd : Int) - ca < 3
      · exact h
      · rw [((hS.any 1 rfl)).isNil, headM, if_neg h] at hc16; simp at hc16
    rw [show headM bs ca cd = (0, 0, .pl ca 1) from by rw [headM, if_pos q7]] at hS H
    refine wp_seq ?_
    refine wp_region_lit ?_
    refine n_q H (q_move rfl) rfl ?_
    clear H a; intro a H
    refine n_q H (q_assign rfl) rfl ?_
    clear H a; intro a H
    refine n_q H (q_assign rfl) rfl ?_
    clear H a; intro a H
    refine n_q H (q_assign rfl) rfl ?_
    clear H a; intro a H
    refine n_nil ?_
    refine then_normal ?_
    refine wp_ret ?_
    refine then_ret ?_
    replace hS := hS.ncNone vb
    replace hS := hS.pick 2 rfl
    dsimp only [List.eraseIdx] at hS
    replace hS := hS.pick 2 rfl
    dsimp only [List.eraseIdx] at hS
    refine retL H (.inr rfl) rfl (vs := _) (resTmp rfl (resTmp rfl (resTmp rfl resNil))) ?_
    rw [show nextM bs ca cd = (0, none, .pl ca 1, ca) from by rw [nextM, if_pos q7]]; exact ⟨_, _, rfl, hS⟩
  · skip
    have q7 : ¬ (cd : Int) - ca < 3 := by
      intro h
      rw [((hS.any 1 rfl)).isNil, headM, if_pos h] at hc16; simp at hc16
    rw [show headM bs ca cd = (peekN bs ca 1, peekN bs (ca + 1) 2, .nil) from by rw [headM, if_neg q7]] at hS H
    have hpk := peekN_lt (bs := bs) (a := ca + 1) (k := 2) (by omega)
    rw [show (256 : Int) ^ 2 = 65536 from rfl] at hpk
    refine wp_skip ?_
    refine then_normal ?_
    refine wp_seq ?_
    refine wp_seq ?_
    refine wp_region_lit ?_
    refine n_q H (q_move rfl) rfl ?_
    clear H a; intro a H
    refine n_q H (q_eql rfl rfl) rfl ?_
    clear H a; intro a H
    refine n_nil ?_
    refine then_normal ?_
    refine c_cond H rfl (fun hc19 => ?_) (fun hc19 => ?_)
    · skip
      have q19 : peekN bs ca 1 = 0 := by simpa using hc19
      replace hS := hS.pick 1 rfl
      dsimp only [List.eraseIdx] at hS
      replace hS := hS.tail
      refine wp_seq ?_
      refine c_ord [] 9 (by kernel_rfl) ?_
      obtain ⟨w4, hw4⟩ : ∃ x, x = w1.drew := ⟨_, rfl⟩
      rw [← hw4]
      have hE5 : Ext w1 w4 := by rw [hw4]; exact Ext.drew' _
      clear hw4
      replace hS := hS.ext hE5
      refine k_take 0 H rfl (q_move rfl) rfl (by kernel_rfl) (by kernel_rfl) (by kernel_rfl) (by kernel_rfl) (fun _ _ _ h => h) ?_
      clear H a; intro a H
      refine k_take 1 H rfl (q_nilCheck rfl) rfl (by kernel_rfl) (by kernel_rfl) (by kernel_rfl) (by kernel_rfl) (fun _ _ _ h => h) ?_
      clear H a; intro a H
      refine k_take 2 H rfl (q_fieldAddr0 rfl fo142_1) rfl (by kernel_rfl) (by kernel_rfl) (by kernel_rfl) (by kernel_rfl) (fun _ _ _ h => h) ?_
      clear H a; intro a H
      refine k_take 3 H rfl (q_load rfl (LdC.k0 ((hS.blk 0 rfl).ld ag3 rfl))) rfl (by kernel_rfl) (by kernel_rfl) (by kernel_rfl) (by kernel_rfl) (fun _ _ _ h => h) ?_
      clear H a; intro a H
      refine k_take 4 H rfl (q_load rfl (LdC.k0 ((hG _ hS.chg).ld 5 (by decide) ag33))) rfl (by kernel_rfl) (by kernel_rfl) (by kernel_rfl) (by kernel_rfl) (fun _ _ _ h => h) ?_
      clear H a; intro a H
      refine k_call 5 H rfl rfl en57 (at_w rfl) rfl (by kernel_rfl) (fun v w hv => .inl (ChgF.of_ext (by obtain ⟨be, rfl, hE0⟩ := hv; exact hE0.x))) ?_
      clear H a; intro v8 w6 hv a H
      obtain ⟨be, rfl, hE7⟩ := hv
      replace hS := hS.new hE7
      simp only [List.cons_append, List.nil_append] at hS
      replace hS := hS.atErr (g := 5) (by decide)
      refine k_take 6 H rfl (q_assign rfl) rfl (by kernel_rfl) (by kernel_rfl) (by kernel_rfl) (by kernel_rfl) (fun _ _ _ h => h) ?_
      clear H a; intro a H
      refine k_take 7 H rfl (q_assign rfl) rfl (by kernel_rfl) (by kernel_rfl) (by kernel_rfl) (by kernel_rfl) (fun _ _ _ h => h) ?_
      clear H a; intro a H
      refine k_take 8 H rfl (q_assign rfl) rfl (by kernel_rfl) (by kernel_rfl) (by kernel_rfl) (by kernel_rfl) (fun _ _ _ h => h) ?_
      clear H a; intro a H
      refine k_done (by kernel_rfl) ?_
      refine then_normal ?_
      refine wp_ret ?_
      refine then_ret ?_
      replace hS := hS.ncNone vb
      replace hS := hS.pick 1 rfl
      dsimp only [List.eraseIdx] at hS
      replace hS := hS.pick 2 rfl
      dsimp only [List.eraseIdx] at hS
      refine retL H (.inr rfl) rfl (vs := _) (resTmp rfl (resTmp rfl (resTmp rfl resNil))) ?_
      rw [show nextM bs ca cd = (0, none, .pl ca 5, ca) from by rw [nextM, if_neg q7, if_pos q19]]; exact ⟨_, _, rfl, hS⟩
    · skip
      have q19 : ¬ peekN bs ca 1 = 0 := by simpa using hc19
      refine wp_skip ?_
      refine then_normal ?_
      refine wp_seq ?_
      refine wp_region_lit ?_
      refine n_q H (q_move rfl) rfl ?_
      clear H a; intro a H
      refine n_q H (q_move rfl) rfl ?_
      clear H a; intro a H
      obtain ⟨fp29, hG29, hK29, hR29, hF29⟩ := hS.frame1
      refine n_call H rfl en74 (enter_w (n := peekN bs (ca + 1) 2) hpk.1 (by omega) (by omega) (fun w' hw => hG _ (hK29 _ hw)) (fun w' hw => hb _ (hK29 _ hw)) h1 h2 h3 hG29) rfl ?_
      clear H a; intro v11 w9 hv a H
      obtain ⟨q29, u29, rfl, hE10⟩ := hv
      replace hS := hF29 _ _ hE10
      simp only [List.cons_append, List.nil_append] at hS
      clear hG29 hK29 hR29 hF29
      refine n_q H (q_move rfl) rfl ?_
      clear H a; intro a H
      refine n_q H (q_extract rfl rfl) rfl ?_
      clear H a; intro a H
      refine n_q H (q_extract rfl rfl) rfl ?_
      clear H a; intro a H
      refine n_q H (q_assign rfl) rfl ?_
      clear H a; intro a H
      refine n_q H (q_assign rfl) rfl ?_
      clear H a; intro a H
      refine n_nil ?_
      refine then_normal ?_
      refine wp_seq ?_
      refine wp_seq ?_
      refine wp_region_lit ?_
      refine n_q H (q_move rfl) rfl ?_
      clear H a; intro a H
      refine n_q H (q_nnilI Tryd.underlying33 rfl rfl (hS.any 1 rfl).form) rfl ?_
      clear H a; intro a H
      refine n_nil ?_
      refine then_normal ?_
      refine c_cond H rfl (fun hc33 => ?_) (fun hc33 => ?_)
      · skip
        have q33 : (cd : Int) - ca - 3 < peekN bs (ca + 1) 2 := by
          by_cases h : (cd : Int) - ca - 3 < peekN bs (ca + 1) 2
          · exact h
          · rw [((hS.any 1 rfl)).isNil, enterM, if_neg h] at hc33; simp at hc33
        rw [show enterM ca cd (peekN bs (ca + 1) 2) = (none, .pl (ca + 1 : Nat) 7, ca) from by rw [enterM, if_pos q33]] at hS
        refine wp_seq ?_
        refine wp_region_lit ?_
        refine n_q H (q_move rfl) rfl ?_
        clear H a; intro a H
        refine n_q H (q_assign rfl) rfl ?_
        clear H a; intro a H
        refine n_q H (q_assign rfl) rfl ?_
        clear H a; intro a H
        refine n_q H (q_assign rfl) rfl ?_
        clear H a; intro a H
        refine n_nil ?_
        refine then_normal ?_
        refine wp_ret ?_
        refine then_ret ?_
        replace hS := hS.pick 2 rfl
        dsimp only [List.eraseIdx] at hS
        obtain ⟨hq29, hS2⟩ := hS.ncGet0
        replace hS := hS2
        clear hS2
        subst hq29
        replace hS := hS.ncNone vb
        replace hS := hS.pick 2 rfl
        dsimp only [List.eraseIdx] at hS
        replace hS := hS.pick 2 rfl
        dsimp only [List.eraseIdx] at hS
        replace hS := hS.take 3
        simp only [List.take_succ_cons, List.take_zero] at hS
        refine retL H (.inr rfl) rfl (vs := _) (resTmp rfl (resTmp rfl (resTmp rfl resNil))) ?_
        rw [show nextM bs ca cd = (0, none, .pl (ca + 1 : Nat) 7, ca) from by rw [nextM, if_neg q7, if_neg q19, if_pos q33]]; exact ⟨_, _, rfl, hS⟩
      · skip
        have q33 : ¬ (cd : Int) - ca - 3 < peekN bs (ca + 1) 2 := by
          intro h
          rw [((hS.any 1 rfl)).isNil, enterM, if_pos h] at hc33; simp at hc33
        rw [show enterM ca cd (peekN bs (ca + 1) 2) = (some (ca + 3, ca + 3 + (peekN bs (ca + 1) 2).toNat), .nil, ca + 3 + (peekN bs (ca + 1) 2).toNat) from by rw [enterM, if_neg q33]] at hS
        refine wp_skip ?_
        refine then_normal ?_
        refine wp_seq ?_
        refine wp_region_lit ?_
        refine n_q H (q_move rfl) rfl ?_
        clear H a; intro a H
        refine n_q H (q_move rfl) rfl ?_
        clear H a; intro a H
        refine n_q H (q_assign rfl) rfl ?_
        clear H a; intro a H
        refine n_q H (q_assign rfl) rfl ?_
        clear H a; intro a H
        refine n_q H (q_assign rfl) rfl ?_
        clear H a; intro a H
        refine n_nil ?_
        refine then_normal ?_
        refine wp_ret ?_
        have hu : u29 = .nilIface := (hS.any 1 rfl)
        subst hu
        replace hS := hS.pick 2 rfl
        dsimp only [List.eraseIdx] at hS
        replace hS := hS.pick 2 rfl
        dsimp only [List.eraseIdx] at hS
        replace hS := hS.pick 2 rfl
        dsimp only [List.eraseIdx] at hS
        replace hS := hS.take 3
        simp only [List.take_succ_cons, List.take_zero] at hS
        refine retL H (.inr rfl) rfl (vs := _) (resTmp rfl (resTmp rfl (resTmp rfl resNil))) ?_
        rw [show nextM bs ca cd = (peekN bs ca 1, some (ca + 3, ca + 3 + (peekN bs (ca + 1) 2).toNat), .nil, ca + 3 + (peekN bs (ca + 1) 2).toNat) from by rw [nextM, if_neg q7, if_neg q19, if_neg q33]]; exact ⟨_, _, rfl, hS⟩

set_option maxHeartbeats 1000000 in
theorem cRecord_w {w : World} {fp : Nat → Prop} {A : Nat → Addr} {p ca cd : Nat} {vb : Value} {bs : List UInt8} {t : Int} (hG : ∀ w', ChgP fp w w' → EV A w') (hb : ∀ w', ChgP fp w w' → SlR w' 1 (Flat eB) vb bs) (h1 : ca ≤ cd) (h2 : cd ≤ bs.length) (h3 : bs.length ≤ 70368744177664) (hP0 : Sep w fp [cuR p vb ca cd]) :
    Calls Tryd.prog 38 [.pointer (some ⟨p, 0, none⟩), .int .i64 t].toArray w (Ret fun r w' => ∃ q u, r = .tuple #[.pointer q, u] ∧ St fp w w' [cuR p vb (recordM bs ca cd t).2.2 cd, erR A u (recordM bs ca cd t).2.1, ncR vb q (recordM bs ca cd t).1]) := by
  have hS := St.init hP0
  refine enter Tryd.func38 rfl rfl rfl ?_
  intro a H
  dsimp only [enumL, Nat.zero_add, Nat.reduceAdd] at H
  refine wp_seq ?_
  refine wp_region_lit ?_
  refine n_q H (q_assign rfl) rfl ?_
  clear H a; intro a H
  refine n_q H (q_assign rfl) rfl ?_
  clear H a; intro a H
  refine n_nil ?_
  refine then_normal ?_
  refine wp_seq ?_
  refine wp_region_lit ?_
  refine n_q H (q_move rfl) rfl ?_
  clear H a; intro a H
  obtain ⟨fp11, hG11, hK11, hR11, hF11⟩ := hS.frame1
  refine n_call H rfl en73 (head_w (fun w' hw => hG _ (hK11 _ hw)) (fun w' hw => hb _ (hK11 _ hw)) h1 h2 h3 hG11) rfl ?_
  clear H a; intro v3 w1 hv a H
  obtain ⟨u11, rfl, hE2⟩ := hv
  replace hS := hF11 _ _ hE2
  simp only [List.cons_append, List.nil_append] at hS
  clear hG11 hK11 hR11 hF11
  refine n_q H (q_move rfl) rfl ?_
  clear H a; intro a H
  refine n_q H (q_extract rfl rfl) rfl ?_
  clear H a; intro a H
  refine n_q H (q_extract rfl rfl) rfl ?_
  clear H a; intro a H
  refine n_q H (q_extract rfl rfl) rfl ?_
  clear H a; intro a H
  refine n_q H (q_assign rfl) rfl ?_
  clear H a; intro a H
  refine n_q H (q_assign rfl) rfl ?_
  clear H a; intro a H
  refine n_q H (q_assign rfl) rfl ?_
  clear H a; intro a H
  refine n_nil ?_
  refine then_normal ?_
  refine wp_seq ?_
  refine wp_seq ?_
  refine wp_region_lit ?_
  refine n_q H (q_move rfl) rfl ?_
  clear H a; intro a H
  refine n_q H (q_nnilI Tryd.underlying33 rfl rfl (hS.any 1 rfl).form) rfl ?_
  clear H a; intro a H
  refine n_nil ?_
  refine then_normal ?_
  refine c_cond H rfl (fun hc16 => ?_) (fun hc16 => ?_)
  · skip
    have q7 : (cd : Int) - ca < 3 := by
      by_cases h : (cd : Int) - ca < 3
      · exact h
      · rw [((hS.any 1 rfl)).isNil, headM, if_neg h] at hc16; simp at hc16
    rw [show headM bs ca cd = (0, 0, .pl ca 1) from by rw [headM, if_pos q7]] at hS H
    refine wp_seq ?_
    refine wp_region_lit ?_
    refine n_q H (q_move rfl) rfl ?_
    clear H a; intro a H
    refine n_q H (q_assign rfl) rfl ?_
    clear H a; intro a H
    refine n_q H (q_assign rfl) rfl ?_
    clear H a; intro a H
    refine n_nil ?_
    refine then_normal ?_
    refine wp_ret ?_
    refine then_ret ?_
    replace hS := hS.ncNone vb
    replace hS := hS.pick 2 rfl
    dsimp only [List.eraseIdx] at hS
    replace hS := hS.pick 2 rfl
    dsimp only [List.eraseIdx] at hS
    refine ret2 H (.inr rfl) rfl rfl rfl ?_
    rw [show recordM bs ca cd t = (none, .pl ca 1, ca) from by rw [recordM, if_pos q7]]; exact ⟨_, _, rfl, hS⟩
  · skip
    have q7 : ¬ (cd : Int) - ca < 3 := by
      intro h
      rw [((hS.any 1 rfl)).isNil, headM, if_pos h] at hc16; simp at hc16
    rw [show headM bs ca cd = (peekN bs ca 1, peekN bs (ca + 1) 2, .nil) from by rw [headM, if_neg q7]] at hS H
    have hpk := peekN_lt (bs := bs) (a := ca + 1) (k := 2) (by omega)
    rw [show (256 : Int) ^ 2 = 65536 from rfl] at hpk
    refine wp_skip ?_
    refine then_normal ?_
    refine wp_seq ?_
    refine wp_seq ?_
    refine wp_region_lit ?_
    refine n_c H (fun HC => ?_); clear H
    refine nc_q HC (q_move rfl) rfl (by kernel_rfl) ?_
    clear HC a; intro a HC
    refine nc_q HC (q_move rfl) rfl (by kernel_rfl) ?_
    clear HC a; intro a HC
    refine nc_q HC (q_neq rfl rfl) rfl (by kernel_rfl) ?_
    clear HC a; intro a HC
    refine nc_q HC (q_move rfl) rfl (by kernel_rfl) ?_
    clear HC a; intro a HC
    refine nc_g HC (q_move rfl) (by kernel_rfl) (by kernel_rfl) (by kernel_rfl) ?_
    clear HC a; intro a HC
    refine nc_g HC (q_eql rfl rfl) (by kernel_rfl) (by kernel_rfl) (by kernel_rfl) ?_
    clear HC a; intro a HC
    refine nc_or (j := 3) HC rfl rfl rfl (by kernel_rfl) (by kernel_rfl) ?_
    clear HC a; intro a HC
    have H := HC.has; clear HC
    refine n_nil ?_
    refine then_normal ?_
    refine c_cond H rfl (fun hc24 => ?_) (fun hc24 => ?_)
    · skip
      have q24 : peekN bs ca 1 ≠ t ∨ t = 0 := by simpa [Bool.or_eq_true] using hc24
      replace hS := hS.pick 1 rfl
      dsimp only [List.eraseIdx] at hS
      replace hS := hS.tail
      refine wp_seq ?_
      refine c_ord [] 8 (by kernel_rfl) ?_
      obtain ⟨w4, hw4⟩ : ∃ x, x = w1.drew := ⟨_, rfl⟩
      rw [← hw4]
      have hE5 : Ext w1 w4 := by rw [hw4]; exact Ext.drew' _
      clear hw4
      replace hS := hS.ext hE5
      refine k_take 0 H rfl (q_move rfl) rfl (by kernel_rfl) (by kernel_rfl) (by kernel_rfl) (by kernel_rfl) (fun _ _ _ h => h) ?_
      clear H a; intro a H
      refine k_take 1 H rfl (q_nilCheck rfl) rfl (by kernel_rfl) (by kernel_rfl) (by kernel_rfl) (by kernel_rfl) (fun _ _ _ h => h) ?_
      clear H a; intro a H
      refine k_take 2 H rfl (q_fieldAddr0 rfl fo142_1) rfl (by kernel_rfl) (by kernel_rfl) (by kernel_rfl) (by kernel_rfl) (fun _ _ _ h => h) ?_
      clear H a; intro a H
      refine k_take 3 H rfl (q_load rfl (LdC.k0 ((hS.blk 0 rfl).ld ag3 rfl))) rfl (by kernel_rfl) (by kernel_rfl) (by kernel_rfl) (by kernel_rfl) (fun _ _ _ h => h) ?_
      clear H a; intro a H
      refine k_take 4 H rfl (q_load rfl (LdC.k0 ((hG _ hS.chg).ld 5 (by decide) ag33))) rfl (by kernel_rfl) (by kernel_rfl) (by kernel_rfl) (by kernel_rfl) (fun _ _ _ h => h) ?_
      clear H a; intro a H
      refine k_call 5 H rfl rfl en57 (at_w rfl) rfl (by kernel_rfl) (fun v w hv => .inl (ChgF.of_ext (by obtain ⟨be, rfl, hE0⟩ := hv; exact hE0.x))) ?_
      clear H a; intro v8 w6 hv a H
      obtain ⟨be, rfl, hE7⟩ := hv
      replace hS := hS.new hE7
      simp only [List.cons_append, List.nil_append] at hS
      replace hS := hS.atErr (g := 5) (by decide)
      refine k_take 6 H rfl (q_assign rfl) rfl (by kernel_rfl) (by kernel_rfl) (by kernel_rfl) (by kernel_rfl) (fun _ _ _ h => h) ?_
      clear H a; intro a H
      refine k_take 7 H rfl (q_assign rfl) rfl (by kernel_rfl) (by kernel_rfl) (by kernel_rfl) (by kernel_rfl) (fun _ _ _ h => h) ?_
      clear H a; intro a H
      refine k_done (by kernel_rfl) ?_
      refine then_normal ?_
      refine wp_ret ?_
      refine then_ret ?_
      replace hS := hS.ncNone vb
      replace hS := hS.pick 1 rfl
      dsimp only [List.eraseIdx] at hS
      replace hS := hS.pick 2 rfl
      dsimp only [List.eraseIdx] at hS
      refine ret2 H (.inr rfl) rfl rfl rfl ?_
      rw [show recordM bs ca cd t = (none, .pl ca 5, ca) from by rw [recordM, if_neg q7, if_pos q24]]; exact ⟨_, _, rfl, hS⟩
    · skip
      have q24 : ¬ (peekN bs ca 1 ≠ t ∨ t = 0) := by simpa [Bool.or_eq_false_iff] using hc24
      refine wp_skip ?_
      refine then_normal ?_
      refine wp_seq ?_
      refine wp_region_lit ?_
      refine n_q H (q_move rfl) rfl ?_
      clear H a; intro a H
      refine n_q H (q_move rfl) rfl ?_
      clear H a; intro a H
      obtain ⟨fp33, hG33, hK33, hR33, hF33⟩ := hS.frame1
      refine n_call H rfl en74 (enter_w (n := peekN bs (ca + 1) 2) hpk.1 (by omega) (by omega) (fun w' hw => hG _ (hK33 _ hw)) (fun w' hw => hb _ (hK33 _ hw)) h1 h2 h3 hG33) rfl ?_
      clear H a; intro v11 w9 hv a H
      obtain ⟨q29, u29, rfl, hE10⟩ := hv
      replace hS := hF33 _ _ hE10
      simp only [List.cons_append, List.nil_append] at hS
      clear hG33 hK33 hR33 hF33
      refine n_q H (q_extract rfl rfl) rfl ?_
      clear H a; intro a H
      refine n_q H (q_extract rfl rfl) rfl ?_
      clear H a; intro a H
      refine n_q H (q_assign rfl) rfl ?_
      clear H a; intro a H
      refine n_q H (q_assign rfl) rfl ?_
      clear H a; intro a H
      refine n_nil ?_
      refine then_normal ?_
      refine wp_ret ?_
      replace hS := hS.pick 2 rfl
      dsimp only [List.eraseIdx] at hS
      replace hS := hS.pick 2 rfl
      dsimp only [List.eraseIdx] at hS
      replace hS := hS.pick 2 rfl
      dsimp only [List.eraseIdx] at hS
      replace hS := hS.take 3
      simp only [List.take_succ_cons, List.take_zero] at hS
      refine ret2 H (.inr rfl) rfl rfl rfl ?_
      rw [show recordM bs ca cd t = enterM ca cd (peekN bs (ca + 1) 2) from by rw [recordM, if_neg q7, if_neg q24, enterM]]; exact ⟨_, _, rfl, hS⟩

theorem cEnd_w {w : World} {fp : Nat → Prop} {A : Nat → Addr} {p ca cd : Nat} {vb : Value} {bs : List UInt8}  (hG : ∀ w', ChgP fp w w' → EV A w') (hb : ∀ w', ChgP fp w w' → SlR w' 1 (Flat eB) vb bs) (h1 : ca ≤ cd) (h2 : cd ≤ bs.length) (h3 : bs.length ≤ 70368744177664) (hP0 : Sep w fp [cuR p vb ca cd]) :
    Calls Tryd.prog 54 [.pointer (some ⟨p, 0, none⟩)].toArray w (Ret fun r w' => ∃ u, r = u ∧ St fp w w' [cuR p vb ca cd, erR A u (endM ca cd)]) := by
  have hS := St.init hP0
  refine enter Tryd.func54 rfl rfl rfl ?_
  intro a H
  dsimp only [enumL, Nat.zero_add, Nat.reduceAdd] at H
  refine wp_seq ?_
  refine wp_region_lit ?_
  refine n_q H (q_assign rfl) rfl ?_
  clear H a; intro a H
  refine n_nil ?_
  refine then_normal ?_
  refine wp_seq ?_
  refine wp_seq ?_
  refine wp_region_lit ?_
  refine n_q H (q_move rfl) rfl ?_
  clear H a; intro a H
  refine n_call H rfl en40 (cLeft_w h1 (by omega) (hS.blk 0 rfl)) rfl ?_
  clear H a; intro v3 w1 hv a H
  obtain ⟨rfl, hE2⟩ := hv
  replace hS := hS.ext hE2
  refine n_q H (q_gtr rfl rfl) rfl ?_
  clear H a; intro a H
  refine n_nil ?_
  refine then_normal ?_
  refine c_cond H rfl (fun hc5 => ?_) (fun hc5 => ?_)
  · skip
    have q5 : ca < cd := by simp at hc5; omega
    refine wp_seq ?_
    refine c_ord [] 7 (by kernel_rfl) ?_
    obtain ⟨w4, hw4⟩ : ∃ x, x = w1.drew := ⟨_, rfl⟩
    rw [← hw4]
    have hE5 : Ext w1 w4 := by rw [hw4]; exact Ext.drew' _
    clear hw4
    replace hS := hS.ext hE5
    refine k_take 0 H rfl (q_move rfl) rfl (by kernel_rfl) (by kernel_rfl) (by kernel_rfl) (by kernel_rfl) (fun _ _ _ h => h) ?_
    clear H a; intro a H
    refine k_take 1 H rfl (q_nilCheck rfl) rfl (by kernel_rfl) (by kernel_rfl) (by kernel_rfl) (by kernel_rfl) (fun _ _ _ h => h) ?_
    clear H a; intro a H
    refine k_take 2 H rfl (q_fieldAddr0 rfl fo142_1) rfl (by kernel_rfl) (by kernel_rfl) (by kernel_rfl) (by kernel_rfl) (fun _ _ _ h => h) ?_
    clear H a; intro a H
    refine k_take 3 H rfl (q_load rfl (LdC.k0 ((hS.blk 0 rfl).ld ag3 rfl))) rfl (by kernel_rfl) (by kernel_rfl) (by kernel_rfl) (by kernel_rfl) (fun _ _ _ h => h) ?_
    clear H a; intro a H
    refine k_take 4 H rfl (q_load rfl (LdC.k0 ((hG _ hS.chg).ld 4 (by decide) ag33))) rfl (by kernel_rfl) (by kernel_rfl) (by kernel_rfl) (by kernel_rfl) (fun _ _ _ h => h) ?_
    clear H a; intro a H
    refine k_call 5 H rfl rfl en57 (at_w rfl) rfl (by kernel_rfl) (fun v w hv => .inl (ChgF.of_ext (by obtain ⟨be, rfl, hE0⟩ := hv; exact hE0.x))) ?_
    clear H a; intro v8 w6 hv a H
    obtain ⟨be, rfl, hE7⟩ := hv
    replace hS := hS.new hE7
    simp only [List.cons_append, List.nil_append] at hS
    replace hS := hS.atErr (g := 4) (by decide)
    refine k_take 6 H rfl (q_assign rfl) rfl (by kernel_rfl) (by kernel_rfl) (by kernel_rfl) (by kernel_rfl) (fun _ _ _ h => h) ?_
    clear H a; intro a H
    refine k_done (by kernel_rfl) ?_
    refine then_normal ?_
    refine wp_ret ?_
    refine then_ret ?_
    replace hS := hS.pick 1 rfl
    dsimp only [List.eraseIdx] at hS
    refine ret1 H (.inr rfl) rfl rfl ?_
    rw [show endM ca cd = .pl ca 4 from by rw [endM, if_pos q5]]; exact ⟨_, rfl, hS⟩
  · skip
    have q5 : ¬ ca < cd := by simp at hc5; omega
    refine wp_skip ?_
    refine then_normal ?_
    refine wp_seq ?_
    refine wp_region_lit ?_
    refine n_q H (q_assign rfl) rfl ?_
    clear H a; intro a H
    refine n_nil ?_
    refine then_normal ?_
    refine wp_ret ?_
    replace hS := hS.noErr (A := A)
    replace hS := hS.pick 1 rfl
    dsimp only [List.eraseIdx] at hS
    refine ret1 H (.inr rfl) rfl rfl ?_
    rw [show endM ca cd = .nil from by rw [endM, if_neg q5]]; exact ⟨_, rfl, hS⟩

theorem body_w {w : World} {fp : Nat → Prop} {A : Nat → Addr} {p ca cd : Nat} {vb : Value} {bs : List UInt8}  (hG : ∀ w', ChgP fp w w' → EV A w') (hb : ∀ w', ChgP fp w w' → SlR w' 1 (Flat eB) vb bs) (h1 : ca ≤ cd) (h2 : cd ≤ bs.length) (h3 : bs.length ≤ 70368744177664) (hP0 : Sep w fp [cuR p vb ca cd]) :
    Calls Tryd.prog 51 [.pointer (some ⟨p, 0, none⟩)].toArray w (Ret fun r w' => ∃ m, m = ((bs.drop ca).take (cd - ca)).length ∧ St fp w w' [cuR p vb ca cd, ownR 5 1 r m (((bs.drop ca).take (cd - ca)).flatMap eB)]) := by
  have hS := St.init hP0
  refine enter Tryd.func51 rfl rfl rfl ?_
  intro a H
  dsimp only [enumL, Nat.zero_add, Nat.reduceAdd] at H
  refine wp_seq ?_
  refine wp_region_lit ?_
  refine n_q H (q_assign rfl) rfl ?_
  clear H a; intro a H
  refine n_nil ?_
  refine then_normal ?_
  refine wp_seq ?_
  refine c_ord [] 14 (by kernel_rfl) ?_
  obtain ⟨w1, hw1⟩ : ∃ x, x = w.drew := ⟨_, rfl⟩
  rw [← hw1]
  have hE2 : Ext w w1 := by rw [hw1]; exact Ext.drew' _
  clear hw1
  replace hS := hS.ext hE2
  refine k_take 0 H rfl (q_move rfl) rfl (by kernel_rfl) (by kernel_rfl) (by kernel_rfl) (by kernel_rfl) (fun _ _ _ h => h) ?_
  clear H a; intro a H
  refine k_take 1 H rfl (q_nilCheck rfl) rfl (by kernel_rfl) (by kernel_rfl) (by kernel_rfl) (by kernel_rfl) (fun _ _ _ h => h) ?_
  clear H a; intro a H
  refine k_take 2 H rfl (q_fieldAddr0 rfl fo142_0) rfl (by kernel_rfl) (by kernel_rfl) (by kernel_rfl) (by kernel_rfl) (fun _ _ _ h => h) ?_
  clear H a; intro a H
  refine k_take 3 H rfl (q_load rfl (LdC.k0 ((hS.blk 0 rfl).ld ag23 rfl))) rfl (by kernel_rfl) (by kernel_rfl) (by kernel_rfl) (by kernel_rfl) (fun _ _ _ h => h) ?_
  clear H a; intro a H
  refine k_take 4 H rfl (q_move rfl) rfl (by kernel_rfl) (by kernel_rfl) (by kernel_rfl) (by kernel_rfl) (fun _ _ _ h => h) ?_
  clear H a; intro a H
  refine k_take 5 H rfl (q_nilCheck rfl) rfl (by kernel_rfl) (by kernel_rfl) (by kernel_rfl) (by kernel_rfl) (fun _ _ _ h => h) ?_
  clear H a; intro a H
  refine k_take 6 H rfl (q_fieldAddr0 rfl fo142_1) rfl (by kernel_rfl) (by kernel_rfl) (by kernel_rfl) (by kernel_rfl) (fun _ _ _ h => h) ?_
  clear H a; intro a H
  refine k_take 7 H rfl (q_load rfl (LdC.k0 ((hS.blk 0 rfl).ld ag3 rfl))) rfl (by kernel_rfl) (by kernel_rfl) (by kernel_rfl) (by kernel_rfl) (fun _ _ _ h => h) ?_
  clear H a; intro a H
  refine k_take 8 H rfl (q_move rfl) rfl (by kernel_rfl) (by kernel_rfl) (by kernel_rfl) (by kernel_rfl) (fun _ _ _ h => h) ?_
  clear H a; intro a H
  refine k_take 9 H rfl (q_nilCheck rfl) rfl (by kernel_rfl) (by kernel_rfl) (by kernel_rfl) (by kernel_rfl) (fun _ _ _ h => h) ?_
  clear H a; intro a H
  refine k_take 10 H rfl (q_fieldAddr0 rfl fo142_2) rfl (by kernel_rfl) (by kernel_rfl) (by kernel_rfl) (by kernel_rfl) (fun _ _ _ h => h) ?_
  clear H a; intro a H
  refine k_take 11 H rfl (q_load rfl (LdC.k0 ((hS.blk 0 rfl).ld ag3 rfl))) rfl (by kernel_rfl) (by kernel_rfl) (by kernel_rfl) (by kernel_rfl) (fun _ _ _ h => h) ?_
  clear H a; intro a H
  obtain ⟨A0, c0, hvb, hl0, hm0, hn0⟩ := (hb _ hS.chg).form
  subst hvb
  obtain ⟨A1, c1, hV, hsub⟩ := sub_sl 1 (Flat eB) A0 bs.length c0 bs (lo := (ca : Int)) (hi := (cd : Int)) (by omega) (by omega) (by omega)
  refine k_take 12 H rfl (q_cast (q_slice (A := A0) (n := bs.length) (c := c0) Tryd.underlying23 sz5 rfl rfl rfl (by omega) (by omega) (by omega)) hV) rfl (by kernel_rfl) (by kernel_rfl) (by kernel_rfl) (by kernel_rfl) (fun _ _ _ h => h) ?_
  clear H a; intro a H
  refine k_call 13 H rfl rfl en72 (cloneB_w (fun w' e => hsub _ (hb _ (hS.chg.trans (ChgP.of_ext e)))) (by rw [List.length_take, List.length_drop]; omega)) rfl (by kernel_rfl) (fun v w hv => .inl (ChgF.of_ext (by obtain ⟨n16, hn16, hE0⟩ := hv; exact hE0.x))) ?_
  clear H a; intro v16 w3 hv a H
  obtain ⟨n16, hn16, hE4⟩ := hv
  replace hS := hS.new hE4
  simp only [List.cons_append, List.nil_append] at hS
  refine k_q 14 H rfl (q_assign rfl) rfl (by kernel_rfl) ?_
  clear H a; intro a H
  refine k_done (by kernel_rfl) ?_
  refine then_normal ?_
  refine wp_ret ?_
  replace hS := hS.pick 1 rfl
  dsimp only [List.eraseIdx] at hS
  refine ret1 H (.inr rfl) rfl rfl ?_
  exact ⟨n16, hn16, hS⟩

theorem open_w {w : World} {v : Value} {bs : List UInt8} (h : ∀ w', Ext w w' → SlR w' 1 (Flat eB) v bs) (hz : bs.length ≤ 70368744177664) :
    Calls Tryd.prog 37 [v].toArray w (Ret fun r w' => ∃ p v2 n, r = .pointer (some ⟨p, 0, none⟩) ∧ n = bs.length ∧ St NB w w' [cuR p v2 0 bs.length, ownR 5 1 v2 n (bs.flatMap eB)]) := by
  have hS := St.begin NB w
  obtain ⟨A0, c0, rfl, hl0, hm0, hn0⟩ := (h w Ext.rfl').form
  refine enter Tryd.func37 rfl rfl rfl ?_
  intro a H
  dsimp only [enumL, Nat.zero_add, Nat.reduceAdd] at H
  refine wp_seq ?_
  refine wp_region_lit ?_
  refine n_q H (q_assign rfl) rfl ?_
  clear H a; intro a H
  refine n_nil ?_
  refine then_normal ?_
  refine wp_seq ?_
  refine wp_region_lit ?_
  refine n_q H (q_move rfl) rfl ?_
  clear H a; intro a H
  refine n_call H rfl en72 (cloneB_w (fun w' e => h w' (hS.x.trans' e)) hz) rfl ?_
  clear H a; intro v4 w1 hv a H
  obtain ⟨n4, hn4, hE2⟩ := hv
  replace hS := hS.new hE2
  simp only [List.cons_append, List.nil_append] at hS
  obtain ⟨A4, c4, hv4, _⟩ := (hS.own 0 rfl).form
  subst hv4
  refine n_q H (q_move rfl) rfl ?_
  clear H a; intro a H
  refine n_q H (q_lenSl Tryd.underlying23 rfl) rfl ?_
  clear H a; intro a H
  refine n_q H (q_build (cs := [.slice A4 n4 c4, .int .i64 0, .int .i64 (bs.length : Nat)]) ze142 bd142 pl142 rfl (by kernel_rfl)) rfl ?_
  clear H a; intro a H
  refine n_box H rfl (cs := _) rfl rfl ?_
  clear H; intro b8 w3 hN hE4 hs_b8; clear a; intro a H
  replace hS := hS.newBlk hN hE4 hs_b8; clear hN hE4
  refine n_q H (q_assign rfl) rfl ?_
  clear H a; intro a H
  refine n_nil ?_
  refine then_normal ?_
  refine wp_ret ?_
  replace hS := hS.pick 1 rfl
  dsimp only [List.eraseIdx] at hS
  replace hS := hS.pick 1 rfl
  dsimp only [List.eraseIdx] at hS
  refine ret1 H (.inr rfl) rfl rfl ?_
  exact ⟨_, _, n4, rfl, hn4, hS⟩

end Go.Proofs.YtnhjohcgnmogaaaDoor
