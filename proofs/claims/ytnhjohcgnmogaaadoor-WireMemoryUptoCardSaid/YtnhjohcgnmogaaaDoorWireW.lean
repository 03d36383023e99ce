/- The writer of the package wire (written by wip/tools) -/
import Derived.Test.YtnhjohcgnmogaaaDoorErrW
import Derived.Test.YtnhjohcgnmogaaaDoorByte
set_option linter.unusedVariables false
set_option linter.unusedSimpArgs false
set_option maxRecDepth 10000
namespace Go.Proofs.YtnhjohcgnmogaaaDoor
open Go Go.RowKit
theorem ag23 : aggB Tryd.prog 23 = some false := by kernel_rfl
theorem ag5 : aggB Tryd.prog 5 = some false := by kernel_rfl
theorem bd128 : bdB Tryd.prog 128 = true := by kernel_rfl
theorem pl128 : placesB Tryd.prog 128 = some #[(0, 1), (1, 1)] := by kernel_rfl
theorem bd136 : bdB Tryd.prog 136 = true := by kernel_rfl
theorem pl136 : placesB Tryd.prog 136 = some #[(0, 1), (1, 1)] := by kernel_rfl
theorem el5 : ElemOk Tryd.prog 5 1 1 [.int .u8 0] := ⟨by kernel_rfl, by kernel_rfl, by kernel_rfl, rfl, by decide⟩
theorem en57 : entersB Tryd.prog 57 = true := by kernel_rfl
theorem en68 : entersB Tryd.prog 68 = true := by kernel_rfl
theorem en69 : entersB Tryd.prog 69 = true := by kernel_rfl
theorem en70 : entersB Tryd.prog 70 = true := by kernel_rfl
theorem en71 : entersB Tryd.prog 71 = true := by kernel_rfl
theorem en72 : entersB Tryd.prog 72 = true := by kernel_rfl
theorem fo136_0 : fOff Tryd.prog 136 0 = some 0 := by kernel_rfl
theorem fo136_1 : fOff Tryd.prog 136 1 = some 1 := by kernel_rfl
theorem sz23 : sizeB Tryd.prog 23 = some 1 := by kernel_rfl
theorem sz5 : sizeB Tryd.prog 5 = some 1 := by kernel_rfl
theorem ze128 : zeroB Tryd.prog 128 = some [.int .i64 0, .nilIface] := by kernel_rfl
theorem ze136 : zeroB Tryd.prog 136 = some [.slice none 0 0, .nilIface] := by kernel_rfl
theorem ze5 : zeroB Tryd.prog 5 = some [.int .u8 0] := by kernel_rfl

/-- What a writer holds. -/
structure WM where
  buf : List UInt8
  err : ErrM
  deriving DecidableEq
def WM.put (x : WM) (b : List UInt8) : WM := if x.err = .nil then ⟨x.buf ++ b, x.err⟩ else x
def WM.spoil (x : WM) (g : Nat) : WM := if x.err = .nil then ⟨x.buf, .pl x.buf.length g⟩ else x
def mostW (k : Int) : Int := 2 ^ (8 * k.toNat) - 1
def WM.num (x : WM) (n k : Int) : WM := if n < 0 ∨ mostW k < n then x.spoil 6 else x.put (beDown n k.toNat)
def WM.flag (x : WM) (b : Bool) : WM := x.put [byteOf (if b = true then 1 else 0)]
def WM.text (x : WM) (s : ByteArray) : WM := if 65535 < s.size then x.spoil 7 else (x.num s.size 2).put s.data.toList
def WM.record (x : WM) (t : Int) (b : List UInt8) : WM := if t < 1 ∨ 255 < t then x.spoil 5 else if 65535 < b.length then x.spoil 7 else ((x.num t 1).num b.length 2).put b
def WM.out (x : WM) : List UInt8 := if x.err = .nil then x.buf else []
theorem WM.put_put (x : WM) (a b : List UInt8) : (x.put a).put b = x.put (a ++ b) := by
  unfold WM.put
  by_cases h : x.err = .nil
  · simp [h]
  · simp [h]
theorem WM.put_nil (x : WM) : x.put [] = x := by
  cases x
  unfold WM.put
  split <;> simp
theorem WM.put_len (x : WM) (a : List UInt8) : (x.put a).buf.length ≤ x.buf.length + a.length := by
  unfold WM.put
  split <;> simp
theorem WM.num_len (x : WM) (n k : Int) : (x.num n k).buf.length ≤ x.buf.length + k.toNat := by
  unfold WM.num WM.spoil
  split
  · split <;> simp
  · have := x.put_len (beDown n k.toNat)
    rw [beDown_len] at this
    exact this
/-- A writer at p; u: the value of its error. -/
def wrR (A : Nat → Addr) (p : Nat) (u : Value) (x : WM) : Rs := exR fun v => starR [blkR p [v, u] 136, ownR 5 1 v x.buf.length (x.buf.flatMap eB), anyR (fun w => IsE A w u x.err)]
theorem St.wr {fp : Nat → Prop} {w0 w : World} {rs : List Rs} {A : Nat → Addr} {p : Nat} {u : Value} {x : WM} (h : St fp w0 w (wrR A p u x :: rs)) : ∃ v, St fp w0 w (blkR p [v, u] 136 :: ownR 5 1 v x.buf.length (x.buf.flatMap eB) :: anyR (fun w => IsE A w u x.err) :: rs) := by
  obtain ⟨v, h⟩ := h.ex
  exact ⟨v, h.star⟩
theorem St.wrMk {fp : Nat → Prop} {w0 w : World} {rs : List Rs} {A : Nat → Addr} {p n : Nat} {u v : Value} {x : WM} {cs : List Value} {e : ErrM} (h : St fp w0 w (blkR p [v, u] 136 :: ownR 5 1 v n cs :: anyR (fun w => IsE A w u e) :: rs)) (hn : n = x.buf.length) (hc : cs = x.buf.flatMap eB) (he : e = x.err) : St fp w0 w (wrR A p u x :: rs) := by
  subst hn; subst hc; subst he
  exact (St.fold [_, _, _] h).mkEx (f := fun v => starR [blkR p [v, u] 136, ownR 5 1 v x.buf.length (x.buf.flatMap eB), anyR (fun w => IsE A w u x.err)]) v
theorem wrErr {w : World} {A : Nat → Addr} {p : Nat} {u : Value} {x : WM} {f : Nat → Prop} (h : (wrR A p u x).P w f) : IsE A w u x.err := by
  obtain ⟨v, h, _⟩ := h
  obtain ⟨_, _, _, _, _, _, g, h, _⟩ := h
  exact Foot.now h
theorem St.wrErr (i : Nat) {fp : Nat → Prop} {w0 w : World} {rs : List Rs} {A : Nat → Addr} {p : Nat} {u : Value} {x : WM} (h : St fp w0 w rs) (hi : rs[i]? = some (wrR A p u x)) : IsE A w u x.err := by
  obtain ⟨f, h⟩ := h.get i hi
  exact Go.Proofs.YtnhjohcgnmogaaaDoor.wrErr h
theorem build_two {a : Int} {u : Value} (h : u.oneCell' = true) : Instr.fill (fun i => (#[(0, 1), (1, 1)] : Array (Nat × Nat))[i]?) [.int .i64 0, .nilIface].toArray [(0, .int .i64 a), (1, u)] = some [.int .i64 a, u].toArray := by
  cases u <;> first | rfl | (simp [Value.oneCell'] at h)
theorem shr8 {n i : Int} (h0 : 0 ≤ i) (h1 : i < 8) : n.fdiv (2 ^ (min (8 * i).toNat IntKind.i64.bits)) = n.fdiv (2 ^ (8 * i.toNat)) := by
  have e : min (8 * i).toNat IntKind.i64.bits = 8 * i.toNat := by
    have : IntKind.i64.bits = 64 := rfl
    omega
  rw [e]
theorem be_step {n i : Int} (h : 0 ≤ i) : beDown n (i + 1).toNat = byteOf (n.fdiv (2 ^ (8 * i.toNat))) :: beDown n i.toNat := by
  rw [show (i + 1).toNat = i.toNat + 1 by omega]; rfl
theorem most_w {w : World} {k : Int} (hk : k = 1 ∨ k = 2 ∨ k = 4) : Calls Tryd.prog 69 [.int .i64 k].toArray w (Ret fun r w' => r = .int .i64 (mostW k) ∧ Ext w w') := by
  have hk0 : 1 ≤ k ∧ k ≤ 4 := by omega
  refine enter Tryd.func69 rfl rfl rfl ?_
  intro a H
  dsimp only [enumL, Nat.zero_add, Nat.reduceAdd] at H
  refine wp_seq ?_
  refine wp_region_lit ?_
  refine n_q H (q_assign rfl) rfl ?_
  clear H a; intro a H
  refine n_nil ?_
  refine then_normal ?_
  refine wp_seq ?_
  refine wp_region_lit ?_
  refine n_q H (q_move rfl) rfl ?_
  clear H a; intro a H
  refine n_q H (q_mul rfl rfl (by constructor <;> omega)) rfl ?_
  clear H a; intro a H
  refine n_q H (q_cast (q_shl rfl rfl (by omega)) (show _ = Value.int .i64 (mostW k + 1) by rcases hk with rfl | rfl | rfl <;> rfl)) rfl ?_
  clear H a; intro a H
  refine n_q H (q_cast (q_subW rfl rfl) (show _ = Value.int .i64 (mostW k) by rcases hk with rfl | rfl | rfl <;> rfl)) rfl ?_
  clear H a; intro a H
  refine n_q H (q_assign rfl) rfl ?_
  clear H a; intro a H
  refine n_nil ?_
  refine then_normal ?_
  refine wp_ret ?_
  refine ret1 H (.inr rfl) rfl rfl ?_
  exact ⟨rfl, Ext.rfl'⟩

theorem at_w {w : World} {p : Int} {u : Value} (hu : u.oneCell' = true) : Calls Tryd.prog 57 [.int .i64 p, u].toArray w (Ret fun r w' => ∃ b, r = .iface 126 (.pointer (some ⟨b, 0, none⟩)) ∧ St NB w w' [blkR b [.int .i64 p, u] 128]) := by
  have hS := St.begin NB w
  refine enter Tryd.func57 rfl rfl rfl ?_
  intro a H
  dsimp only [enumL, Nat.zero_add, Nat.reduceAdd] at H
  refine wp_seq ?_
  refine wp_region_lit ?_
  refine n_q H (q_assign rfl) rfl ?_
  clear H a; intro a H
  refine n_nil ?_
  refine then_normal ?_
  refine wp_seq ?_
  refine wp_region_lit ?_
  refine n_q H (q_move rfl) rfl ?_
  clear H a; intro a H
  refine n_q H (q_move rfl) rfl ?_
  clear H a; intro a H
  refine n_q H (q_build (cs := [.int .i64 p, u]) ze128 bd128 pl128 rfl (build_two hu)) rfl ?_
  clear H a; intro a H
  refine n_box H rfl (cs := [.int .i64 p, u]) rfl rfl ?_
  clear H; intro b8 w1 hN hE2 hs_b8; clear a; intro a H
  replace hS := hS.newBlk hN hE2 hs_b8; clear hN hE2
  refine n_q H (q_makeInterface Tryd.underlying126 (by simp) rfl) rfl ?_
  clear H a; intro a H
  refine n_q H (q_assign rfl) rfl ?_
  clear H a; intro a H
  refine n_nil ?_
  refine then_normal ?_
  refine wp_ret ?_
  refine ret1 H (.inr rfl) rfl rfl ?_
  exact ⟨_, rfl, hS⟩

theorem newWriter_w {w : World} {A : Nat → Addr} : Calls Tryd.prog 33 [].toArray w (Ret fun r w' => ∃ p, r = .pointer (some ⟨p, 0, none⟩) ∧ St NB w w' [wrR A p .nilIface ⟨[], .nil⟩]) := by
  have hS := St.begin NB w
  refine enter Tryd.func33 rfl rfl rfl ?_
  intro a H
  dsimp only [enumL, Nat.zero_add, Nat.reduceAdd] at H
  refine wp_seq ?_
  refine wp_region_lit ?_
  refine n_q H (q_assign rfl) rfl ?_
  clear H a; intro a H
  refine n_nil ?_
  refine then_normal ?_
  refine wp_seq ?_
  refine wp_region_lit ?_
  refine n_q H (q_build (cs := [.slice none 0 0, .nilIface]) ze136 bd136 pl136 rfl (by kernel_rfl)) rfl ?_
  clear H a; intro a H
  refine n_box H rfl (cs := _) rfl rfl ?_
  clear H; intro b2 w1 hN hE2 hs_b2; clear a; intro a H
  replace hS := hS.newBlk hN hE2 hs_b2; clear hN hE2
  refine n_q H (q_assign rfl) rfl ?_
  clear H a; intro a H
  refine n_nil ?_
  refine then_normal ?_
  refine wp_ret ?_
  refine ret1 H (.inr rfl) rfl rfl ?_
  exact ⟨_, rfl, ((((hS.trivAny (F := fun w => IsE A w .nilIface .nil) (fun _ => rfl)).nilOwn 5 1).pick 2 rfl).pick 1 rfl |>.pick 1 rfl).wrMk (x := ⟨[], .nil⟩) rfl rfl rfl⟩

theorem spoil_w {w : World} {fp : Nat → Prop} {A : Nat → Addr} {p : Nat} {u0 : Value} {x : WM} {g : Nat} (hg : g ∈ gAll) (hP0 : Sep w fp [wrR A p u0 x]) :
    Calls Tryd.prog 70 [.pointer (some ⟨p, 0, none⟩), sv 253 A g].toArray w (Ret fun r w' => r = .tuple #[] ∧ ∃ u, St fp w w' [wrR A p u (x.spoil g)]) := by
  have hS := St.init hP0
  obtain ⟨v0, hS⟩ := hS.wr
  refine enter Tryd.func70 rfl rfl rfl ?_
  intro a H
  dsimp only [enumL, Nat.zero_add, Nat.reduceAdd] at H
  refine wp_seq ?_
  refine wp_region_lit ?_
  refine n_q H (q_move rfl) rfl ?_
  clear H a; intro a H
  refine n_q H (q_nilCheck rfl) rfl ?_
  clear H a; intro a H
  refine n_q H (q_fieldAddr0 rfl fo136_1) rfl ?_
  clear H a; intro a H
  refine n_q H (q_load rfl ((hS.blk 0 rfl).ld ag33 rfl)) rfl ?_
  clear H a; intro a H
  refine n_q H (q_nilI Tryd.underlying33 rfl rfl (hS.any 2 rfl).form) rfl ?_
  clear H a; intro a H
  refine n_nil ?_
  refine then_normal ?_
  refine c_cond H rfl (fun hc8 => ?_) (fun hc8 => ?_)
  · skip
    have q8 : x.err = .nil := by rw [((hS.any 2 rfl)).isNil] at hc8; exact of_decide_eq_true hc8
    refine wp_region_lit ?_
    refine n_q H (q_move rfl) rfl ?_
    clear H a; intro a H
    refine n_q H (q_move rfl) rfl ?_
    clear H a; intro a H
    refine n_q H (q_nilCheck rfl) rfl ?_
    clear H a; intro a H
    refine n_q H (q_fieldAddr0 rfl fo136_0) rfl ?_
    clear H a; intro a H
    refine n_q H (q_load rfl ((hS.blk 0 rfl).ld ag23 rfl)) rfl ?_
    clear H a; intro a H
    obtain ⟨A0, c0, hv0, _⟩ := (hS.own 1 rfl).form
    refine n_q H (q_lenSl (A := A0) (n := x.buf.length) (c := c0) Tryd.underlying23 (congrArg some hv0)) rfl ?_
    clear H a; intro a H
    refine n_q H (q_move rfl) rfl ?_
    clear H a; intro a H
    refine n_call H rfl en57 (at_w rfl) rfl ?_
    clear H a; intro v3 w1 hv a H
    obtain ⟨b16, rfl, hE2⟩ := hv
    replace hS := hS.new hE2
    simp only [List.cons_append, List.nil_append] at hS
    refine n_q H (q_nilCheck rfl) rfl ?_
    clear H a; intro a H
    refine n_q H (q_fieldAddr0 rfl fo136_1) rfl ?_
    clear H a; intro a H
    replace hS := hS.pick 1 rfl
    dsimp only [List.eraseIdx] at hS
    refine n_store1 H rfl rfl sz33 (hS.blk 0 rfl) (by simp) (by first | rfl) ?_
    clear H; intro w4 hN hC5 hz; clear a; intro a H
    replace hS := hS.setBlk hN hC5; clear hN hz
    try simp only [List.set_cons_succ, List.set_cons_zero] at hS
    replace hS := hS.pick 1 rfl
    dsimp only [List.eraseIdx] at hS
    replace hS := hS.blkAny (F := fun w => IsE A w (.iface 126 (.pointer (some ⟨b16, 0, none⟩))) (.pl x.buf.length g)) (fun w' h => IsErr.mk hg h)
    refine n_nil ?_
    replace hS := hS.pick 2 rfl
    dsimp only [List.eraseIdx] at hS
    replace hS := hS.pick 2 rfl
    dsimp only [List.eraseIdx] at hS
    replace hS := hS.take 3
    simp only [List.take_succ_cons, List.take_zero] at hS
    refine ret0 H (.inl rfl) rfl ?_
    exact ⟨rfl, _, hS.wrMk (x := x.spoil g) (by simp [WM.spoil, q8]) (by simp [WM.spoil, q8]) (by simp [WM.spoil, q8])⟩
  · skip
    have q8 : ¬ x.err = .nil := by rw [((hS.any 2 rfl)).isNil] at hc8; exact of_decide_eq_false hc8
    refine wp_skip ?_
    replace hS := hS.pick 2 rfl
    dsimp only [List.eraseIdx] at hS
    replace hS := hS.pick 2 rfl
    dsimp only [List.eraseIdx] at hS
    replace hS := hS.pick 2 rfl
    dsimp only [List.eraseIdx] at hS
    refine ret0 H (.inl rfl) rfl ?_
    exact ⟨rfl, _, hS.wrMk (x := x.spoil g) (by simp [WM.spoil, q8]) (by simp [WM.spoil, q8]) (by simp [WM.spoil, q8])⟩

theorem put_w {w : World} {fp : Nat → Prop} {A : Nat → Addr} {p : Nat} {u0 : Value} {x : WM} {vb : Value} {bs : List UInt8} (hv : ∀ w', ChgP fp w w' → Src w' 1 vb bs.length (bs.flatMap eB)) (hz : x.buf.length + bs.length ≤ 70368744177664) (hP0 : Sep w fp [wrR A p u0 x]) :
    Calls Tryd.prog 71 [.pointer (some ⟨p, 0, none⟩), vb].toArray w (Ret fun r w' => r = .tuple #[] ∧ St fp w w' [wrR A p u0 (x.put bs)]) := by
  have hS := St.init hP0
  obtain ⟨v0, hS⟩ := hS.wr
  refine enter Tryd.func71 rfl rfl rfl ?_
  intro a H
  dsimp only [enumL, Nat.zero_add, Nat.reduceAdd] at H
  refine wp_seq ?_
  refine wp_region_lit ?_
  refine n_q H (q_move rfl) rfl ?_
  clear H a; intro a H
  refine n_q H (q_nilCheck rfl) rfl ?_
  clear H a; intro a H
  refine n_q H (q_fieldAddr0 rfl fo136_1) rfl ?_
  clear H a; intro a H
  refine n_q H (q_load rfl ((hS.blk 0 rfl).ld ag33 rfl)) rfl ?_
  clear H a; intro a H
  refine n_q H (q_nilI Tryd.underlying33 rfl rfl (hS.any 2 rfl).form) rfl ?_
  clear H a; intro a H
  refine n_nil ?_
  refine then_normal ?_
  refine c_cond H rfl (fun hc8 => ?_) (fun hc8 => ?_)
  · skip
    have q8 : x.err = .nil := by rw [((hS.any 2 rfl)).isNil] at hc8; exact of_decide_eq_true hc8
    refine wp_region_lit ?_
    refine n_q H (q_move rfl) rfl ?_
    clear H a; intro a H
    refine n_q H (q_move rfl) rfl ?_
    clear H a; intro a H
    refine n_q H (q_nilCheck rfl) rfl ?_
    clear H a; intro a H
    refine n_q H (q_fieldAddr0 rfl fo136_0) rfl ?_
    clear H a; intro a H
    refine n_q H (q_load rfl ((hS.blk 0 rfl).ld ag23 rfl)) rfl ?_
    clear H a; intro a H
    refine n_q H (q_move rfl) rfl ?_
    clear H a; intro a H
    replace hS := hS.pick 1 rfl
    dsimp only [List.eraseIdx] at hS
    refine n_append H rfl rfl Tryd.underlying23 Tryd.underlying23 (by simp) el5 (hS.own 0 rfl) (hv _ hS.chg) (flat_one eB_one bs) (by omega) (by simp only [maxLen]; omega) rfl ?_
    clear H; intro v15 w1 hN hC2 hb15 hnil15; clear a; intro a H
    replace hS := hS.setOwn hN hC2 hb15; clear hN
    refine n_q H (q_nilCheck rfl) rfl ?_
    clear H a; intro a H
    refine n_q H (q_fieldAddr0 rfl fo136_0) rfl ?_
    clear H a; intro a H
    replace hS := hS.pick 1 rfl
    dsimp only [List.eraseIdx] at hS
    refine n_store1 H rfl rfl sz23 (hS.blk 0 rfl) (by simp) ((hS.own 1 rfl).one) ?_
    clear H; intro w3 hN hC4 hz; clear a; intro a H
    replace hS := hS.setBlk hN hC4; clear hN hz
    try simp only [List.set_cons_succ, List.set_cons_zero] at hS
    refine n_nil ?_
    replace hS := hS.pick 2 rfl
    dsimp only [List.eraseIdx] at hS
    replace hS := hS.pick 2 rfl
    dsimp only [List.eraseIdx] at hS
    replace hS := hS.pick 2 rfl
    dsimp only [List.eraseIdx] at hS
    refine ret0 H (.inl rfl) rfl ?_
    exact ⟨rfl, hS.wrMk (x := x.put bs) (by simp [WM.put, q8]) (by simp [WM.put, q8, List.flatMap_append]) (by simp [WM.put, q8])⟩
  · skip
    have q8 : ¬ x.err = .nil := by rw [((hS.any 2 rfl)).isNil] at hc8; exact of_decide_eq_false hc8
    refine wp_skip ?_
    replace hS := hS.pick 2 rfl
    dsimp only [List.eraseIdx] at hS
    replace hS := hS.pick 2 rfl
    dsimp only [List.eraseIdx] at hS
    replace hS := hS.pick 2 rfl
    dsimp only [List.eraseIdx] at hS
    refine ret0 H (.inl rfl) rfl ?_
    exact ⟨rfl, hS.wrMk (x := x.put bs) (by simp [WM.put, q8]) (by simp [WM.put, q8]) (by simp [WM.put, q8])⟩

theorem num_w {w : World} {fp : Nat → Prop} {A : Nat → Addr} {p : Nat} {u0 : Value} {x : WM} {n k : Int} (hk : k = 1 ∨ k = 2 ∨ k = 4) (hG : ∀ w', ChgP fp w w' → EV A w') (hz : x.buf.length ≤ 35184372088832) (hP0 : Sep w fp [wrR A p u0 x]) :
    Calls Tryd.prog 68 [.pointer (some ⟨p, 0, none⟩), .int .i64 n, .int .i64 k].toArray w (Ret fun r w' => r = .tuple #[] ∧ ∃ u, St fp w w' [wrR A p u (x.num n k)]) := by
  have hS := St.init hP0
  have hk0 : 1 ≤ k ∧ k ≤ 4 := by omega
  refine enter Tryd.func68 rfl rfl rfl ?_
  intro a H
  dsimp only [enumL, Nat.zero_add, Nat.reduceAdd] at H
  refine wp_seq ?_
  refine wp_seq ?_
  refine wp_region_lit ?_
  refine n_c H (fun HC => ?_); clear H
  refine nc_q HC (q_move rfl) rfl (by kernel_rfl) ?_
  clear HC a; intro a HC
  refine nc_q HC (q_lss rfl rfl) rfl (by kernel_rfl) ?_
  clear HC a; intro a HC
  refine nc_q HC (q_move rfl) rfl (by kernel_rfl) ?_
  clear HC a; intro a HC
  refine nc_g HC (q_move rfl) (by kernel_rfl) (by kernel_rfl) (by kernel_rfl) ?_
  clear HC a; intro a HC
  refine nc_g HC (q_move rfl) (by kernel_rfl) (by kernel_rfl) (by kernel_rfl) ?_
  clear HC a; intro a HC
  refine nc_gcall0 HC rfl en69 (most_w hk) (by kernel_rfl) (by kernel_rfl) (by kernel_rfl) ?_
  clear HC a; intro w1 hE2 a HC
  replace hS := hS.ext hE2
  refine nc_g HC (q_gtr rfl rfl) (by kernel_rfl) (by kernel_rfl) (by kernel_rfl) ?_
  clear HC a; intro a HC
  refine nc_or (j := 2) HC rfl rfl rfl (by kernel_rfl) (by kernel_rfl) ?_
  clear HC a; intro a HC
  have H := HC.has; clear HC
  refine n_nil ?_
  refine then_normal ?_
  refine c_cond H rfl (fun hc14 => ?_) (fun hc14 => ?_)
  · skip
    have q14 : n < 0 ∨ mostW k < n := by simpa [Bool.or_eq_true] using hc14
    refine wp_seq ?_
    refine wp_region_lit ?_
    refine n_q H (q_move rfl) rfl ?_
    clear H a; intro a H
    refine n_q H (q_load rfl (LdX.ext ((hG _ hS.chg).ld 6 (by decide) ag33) Ext.rfl')) rfl ?_
    clear H a; intro a H
    obtain ⟨fp17, hG17, hK17, hR17, hF17⟩ := hS.frame1
    refine n_call H rfl en70 (spoil_w (g := 6) (by decide) hG17) rfl ?_
    clear H a; intro v5 w3 hv a H
    obtain ⟨rfl, u1, hE4⟩ := hv
    replace hS := hF17 _ _ hE4
    simp only [List.cons_append, List.nil_append] at hS
    clear hG17 hK17 hR17 hF17
    refine n_nil ?_
    refine then_normal ?_
    refine wp_ret ?_
    refine then_ret ?_
    refine ret0 H (.inr rfl) rfl ?_
    exact ⟨rfl, _, by rw [WM.num, if_pos q14]; exact hS⟩
  · skip
    have q14 : ¬ (n < 0 ∨ mostW k < n) := by simpa [Bool.or_eq_false_iff] using hc14
    refine wp_skip ?_
    refine then_normal ?_
    refine wp_seq ?_
    refine wp_region_lit ?_
    refine n_q H (q_move rfl) rfl ?_
    clear H a; intro a H
    refine n_q H (q_sub rfl rfl (by constructor <;> omega)) rfl ?_
    clear H a; intro a H
    refine n_q H (q_assign rfl) rfl ?_
    clear H a; intro a H
    refine n_nil ?_
    refine then_normal ?_
    refine wp_block ?_
    refine c_loop (σ := Int × List UInt8) (fun (i, pre) => [(0, .pointer (some ⟨p, 0, none⟩)), (1, .int .i64 n), (6, .int .i64 i)]) (fun (i, pre) wl => -1 ≤ i ∧ i < k ∧ pre ++ beDown n (i + 1).toNat = beDown n k.toNat ∧ St fp w wl [wrR A p u0 (x.put pre)]) (fun (i, pre) => (i + 1).toNat) (k - 1, []) H ⟨rfl, rfl, rfl, trivial⟩ ⟨by omega, by omega, by rw [show k - 1 + 1 = k by omega]; rfl, by rw [WM.put_nil]; exact hS⟩ ?_
    clear H hS; clear a; intro xx a w6 H hR
    obtain ⟨i, pre⟩ := xx
    simp only [ent, List.map_cons, List.map_nil] at H
    try dsimp only at hR
    obtain ⟨hi, hik, hp, hS⟩ := hR; try clear hR
    refine wp_seq ?_
    refine wp_seq ?_
    refine wp_region_lit ?_
    refine n_q H (q_move rfl) rfl ?_
    clear H a; intro a H
    refine n_q H (q_geq rfl rfl) rfl ?_
    clear H a; intro a H
    refine n_nil ?_
    refine then_normal ?_
    refine c_cond H rfl (fun hc21 => ?_) (fun hc21 => ?_)
    · skip
      have q21 : 0 ≤ i := by simpa using hc21
      refine wp_skip ?_
      refine then_normal ?_
      refine wp_seq ?_
      refine wp_block ?_
      refine wp_region_lit ?_
      refine n_q H (q_move rfl) rfl ?_
      clear H a; intro a H
      refine n_q H (q_move rfl) rfl ?_
      clear H a; intro a H
      refine n_q H (q_move rfl) rfl ?_
      clear H a; intro a H
      refine n_q H (q_mul rfl rfl (by constructor <;> omega)) rfl ?_
      clear H a; intro a H
      refine n_q H (q_cast (q_shr rfl rfl (by omega)) (show _ = Value.int .i64 (n.fdiv (2 ^ (8 * i.toNat))) by rw [shr8 (by omega) (by omega)])) rfl ?_
      clear H a; intro a H
      refine n_q H (q_convI Tryd.underlying3 Tryd.underlying5 ⟨_, rfl⟩ rfl) rfl ?_
      clear H a; intro a H
      refine n_buildSlice H Tryd.underlying23 sz5 ze5 rfl rfl rfl (cs := [.int .u8 (IntKind.u8.wrap (n.fdiv (2 ^ (8 * i.toNat))))]) (by kernel_rfl) rfl ?_
      clear H; intro b30 w7 hN hE8 hs_b30; clear a; intro a H
      replace hS := hS.newBlk hN hE8 hs_b30; clear hN hE8
      replace hS := hS.pick 1 rfl
      dsimp only [List.eraseIdx] at hS
      obtain ⟨fp31, hG31, hK31, hR31, hF31⟩ := hS.frame1
      refine n_call H rfl en71 (put_w (bs := [byteOf (n.fdiv (2 ^ (8 * i.toNat)))]) (fun w' hw => (restBlk (hR31 0 _ rfl _ hw)).src1) (by have := WM.put_len x pre; have := congrArg List.length hp; simp [beDown_len] at this ⊢; omega) hG31) rfl ?_
      clear H a; intro v11 w9 hv a H
      obtain ⟨rfl, hE10⟩ := hv
      replace hS := hF31 _ _ hE10
      simp only [List.cons_append, List.nil_append] at hS
      clear hG31 hK31 hR31 hF31
      refine n_nil ?_
      refine block_normal ?_
      refine then_normal ?_
      refine wp_region_lit ?_
      refine n_q H (q_move rfl) rfl ?_
      clear H a; intro a H
      refine n_q H (q_sub rfl rfl (by constructor <;> omega)) rfl ?_
      clear H a; intro a H
      refine n_q H (q_assign rfl) rfl ?_
      clear H a; intro a H
      refine n_nil ?_
      refine then_normal ?_
      replace hS := hS.take 1
      simp only [List.take_succ_cons, List.take_zero] at hS
      exact round (i - 1, pre ++ [byteOf (n.fdiv (2 ^ (8 * i.toNat)))]) H ⟨rfl, rfl, rfl, trivial⟩ ⟨by omega, by omega, by rw [← hp, show i - 1 + 1 = i by omega, be_step q21, List.append_assoc]; rfl, by rw [← WM.put_put]; exact hS⟩ (by dsimp only; omega)
    · skip
      have q21 : ¬ 0 ≤ i := by simpa using hc21
      refine wp_exit ?_
      refine then_exit ?_
      refine then_exit ?_
      refine block_exit ?_
      have e : i = -1 := by omega
      subst e
      have hp2 : pre = beDown n k.toNat := by simpa [beDown] using hp
      refine ret0 H (.inl rfl) rfl ?_
      exact ⟨rfl, _, by rw [WM.num, if_neg q14, ← hp2]; exact hS⟩

theorem wU16_w {w : World} {fp : Nat → Prop} {A : Nat → Addr} {p : Nat} {u0 : Value} {x : WM} {n : Int} (hG : ∀ w', ChgP fp w w' → EV A w') (hz : x.buf.length ≤ 35184372088832) (hP0 : Sep w fp [wrR A p u0 x]) :
    Calls Tryd.prog 34 [.pointer (some ⟨p, 0, none⟩), .int .i64 n].toArray w (Ret fun r w' => r = .tuple #[] ∧ ∃ u, St fp w w' [wrR A p u (x.num n 2)]) := by
  have hS := St.init hP0
  refine enter Tryd.func34 rfl rfl rfl ?_
  intro a H
  dsimp only [enumL, Nat.zero_add, Nat.reduceAdd] at H
  refine wp_region_lit ?_
  refine n_q H (q_move rfl) rfl ?_
  clear H a; intro a H
  refine n_q H (q_move rfl) rfl ?_
  clear H a; intro a H
  obtain ⟨fp6, hG6, hK6, hR6, hF6⟩ := hS.frame1
  refine n_call H rfl en68 (num_w (k := 2) (by omega) (fun w' hw => hG _ (hK6 _ hw)) hz hG6) rfl ?_
  clear H a; intro v3 w1 hv a H
  obtain ⟨rfl, u1, hE2⟩ := hv
  replace hS := hF6 _ _ hE2
  simp only [List.cons_append, List.nil_append] at hS
  clear hG6 hK6 hR6 hF6
  refine n_nil ?_
  refine ret0 H (.inl rfl) rfl ?_
  exact ⟨rfl, _, hS⟩

theorem wRecord_w {w : World} {fp : Nat → Prop} {A : Nat → Addr} {p : Nat} {u0 : Value} {x : WM} {t : Int} {vb : Value} {bs : List UInt8} (hG : ∀ w', ChgP fp w w' → EV A w') (hv : ∀ w', ChgP fp w w' → SlR w' 1 (Flat eB) vb bs) (hz : x.buf.length + bs.length ≤ 35184372088830) (hP0 : Sep w fp [wrR A p u0 x]) :
    Calls Tryd.prog 35 [.pointer (some ⟨p, 0, none⟩), .int .i64 t, vb].toArray w (Ret fun r w' => r = .tuple #[] ∧ ∃ u, St fp w w' [wrR A p u (x.record t bs)]) := by
  have hS := St.init hP0
  obtain ⟨Ab, cb, hvb, _⟩ := (hv _ (ChgP.refl _ _)).form
  subst hvb
  refine enter Tryd.func35 rfl rfl rfl ?_
  intro a H
  dsimp only [enumL, Nat.zero_add, Nat.reduceAdd] at H
  refine wp_block ?_
  refine wp_seq ?_
  refine wp_region_lit ?_
  refine n_c H (fun HC => ?_); clear H
  refine nc_q HC (q_move rfl) rfl (by kernel_rfl) ?_
  clear HC a; intro a HC
  refine nc_q HC (q_lss rfl rfl) rfl (by kernel_rfl) ?_
  clear HC a; intro a HC
  refine nc_q HC (q_move rfl) rfl (by kernel_rfl) ?_
  clear HC a; intro a HC
  refine nc_g HC (q_move rfl) (by kernel_rfl) (by kernel_rfl) (by kernel_rfl) ?_
  clear HC a; intro a HC
  refine nc_gcall0 HC rfl en69 (most_w (k := 1) (by omega)) (by kernel_rfl) (by kernel_rfl) (by kernel_rfl) ?_
  clear HC a; intro w1 hE2 a HC
  replace hS := hS.ext hE2
  refine nc_g HC (q_gtr rfl rfl) (by kernel_rfl) (by kernel_rfl) (by kernel_rfl) ?_
  clear HC a; intro a HC
  refine nc_or (j := 2) HC rfl rfl rfl (by kernel_rfl) (by kernel_rfl) ?_
  clear HC a; intro a HC
  refine nc_q HC (q_assign rfl) rfl (by kernel_rfl) ?_
  clear HC a; intro a HC
  have H := HC.has; clear HC
  refine n_nil ?_
  refine then_normal ?_
  refine c_cond H rfl (fun hc16 => ?_) (fun hc16 => ?_)
  · skip
    have q16 : t < 1 ∨ 255 < t := by simpa [mostW, Bool.or_eq_true] using hc16
    refine wp_region_lit ?_
    refine n_q H (q_move rfl) rfl ?_
    clear H a; intro a H
    refine n_q H (q_load rfl (LdX.ext ((hG _ hS.chg).ld 5 (by decide) ag33) Ext.rfl')) rfl ?_
    clear H a; intro a H
    obtain ⟨fp26, hG26, hK26, hR26, hF26⟩ := hS.frame1
    refine n_call H rfl en70 (spoil_w (g := 5) (by decide) hG26) rfl ?_
    clear H a; intro v5 w3 hv a H
    obtain ⟨rfl, u1, hE4⟩ := hv
    replace hS := hF26 _ _ hE4
    simp only [List.cons_append, List.nil_append] at hS
    clear hG26 hK26 hR26 hF26
    refine n_nil ?_
    refine block_normal ?_
    refine ret0 H (.inl rfl) rfl ?_
    exact ⟨rfl, _, by rw [WM.record, if_pos q16]; exact hS⟩
  · skip
    have q16 : ¬ (t < 1 ∨ 255 < t) := by simpa [mostW, Bool.or_eq_false_iff] using hc16
    refine wp_seq ?_
    refine wp_region_lit ?_
    refine n_q H (q_move rfl) rfl ?_
    clear H a; intro a H
    refine n_q H (q_lenSl Tryd.underlying23 rfl) rfl ?_
    clear H a; intro a H
    refine n_q H (q_gtr rfl rfl) rfl ?_
    clear H a; intro a H
    refine n_q H (q_assign rfl) rfl ?_
    clear H a; intro a H
    refine n_nil ?_
    refine then_normal ?_
    refine c_cond H rfl (fun hc27 => ?_) (fun hc27 => ?_)
    · skip
      have q27 : 65535 < bs.length := by simp at hc27; omega
      refine wp_region_lit ?_
      refine n_q H (q_move rfl) rfl ?_
      clear H a; intro a H
      refine n_q H (q_load rfl (LdX.ext ((hG _ hS.chg).ld 7 (by decide) ag33) Ext.rfl')) rfl ?_
      clear H a; intro a H
      obtain ⟨fp33, hG33, hK33, hR33, hF33⟩ := hS.frame1
      refine n_call H rfl en70 (spoil_w (g := 7) (by decide) hG33) rfl ?_
      clear H a; intro v8 w6 hv a H
      obtain ⟨rfl, u1, hE7⟩ := hv
      replace hS := hF33 _ _ hE7
      simp only [List.cons_append, List.nil_append] at hS
      clear hG33 hK33 hR33 hF33
      refine n_nil ?_
      refine block_normal ?_
      refine ret0 H (.inl rfl) rfl ?_
      exact ⟨rfl, _, by rw [WM.record, if_neg q16, if_pos q27]; exact hS⟩
    · skip
      have q27 : ¬ 65535 < bs.length := by simp at hc27; omega
      refine wp_seq ?_
      refine wp_region_lit ?_
      refine n_q H (q_move rfl) rfl ?_
      clear H a; intro a H
      refine n_q H (q_move rfl) rfl ?_
      clear H a; intro a H
      obtain ⟨fp8, hG8, hK8, hR8, hF8⟩ := hS.frame1
      refine n_call H rfl en68 (num_w (k := 1) (by omega) (fun w' hw => hG _ (hK8 _ hw)) (by omega) hG8) rfl ?_
      clear H a; intro v11 w9 hv a H
      obtain ⟨rfl, u1, hE10⟩ := hv
      replace hS := hF8 _ _ hE10
      simp only [List.cons_append, List.nil_append] at hS
      clear hG8 hK8 hR8 hF8
      refine n_nil ?_
      refine then_normal ?_
      refine wp_seq ?_
      refine wp_region_lit ?_
      refine n_q H (q_move rfl) rfl ?_
      clear H a; intro a H
      refine n_q H (q_move rfl) rfl ?_
      clear H a; intro a H
      refine n_q H (q_lenSl Tryd.underlying23 rfl) rfl ?_
      clear H a; intro a H
      obtain ⟨fp12, hG12, hK12, hR12, hF12⟩ := hS.frame1
      refine n_call H rfl en68 (num_w (k := 2) (by omega) (fun w' hw => hG _ (hK12 _ hw)) (by have := WM.num_len x t 1; omega) hG12) rfl ?_
      clear H a; intro v14 w12 hv a H
      obtain ⟨rfl, u2, hE13⟩ := hv
      replace hS := hF12 _ _ hE13
      simp only [List.cons_append, List.nil_append] at hS
      clear hG12 hK12 hR12 hF12
      refine n_nil ?_
      refine then_normal ?_
      refine wp_region_lit ?_
      refine n_q H (q_move rfl) rfl ?_
      clear H a; intro a H
      refine n_q H (q_move rfl) rfl ?_
      clear H a; intro a H
      obtain ⟨fp15, hG15, hK15, hR15, hF15⟩ := hS.frame1
      refine n_call H rfl en71 (put_w (fun w' hw => (hv _ (hK15 _ hw)).srcB) (by have := WM.num_len x t 1; have := WM.num_len (x.num t 1) bs.length 2; omega) hG15) rfl ?_
      clear H a; intro v17 w15 hv a H
      obtain ⟨rfl, hE16⟩ := hv
      replace hS := hF15 _ _ hE16
      simp only [List.cons_append, List.nil_append] at hS
      clear hG15 hK15 hR15 hF15
      refine n_nil ?_
      refine block_normal ?_
      refine ret0 H (.inl rfl) rfl ?_
      exact ⟨rfl, _, by rw [WM.record, if_neg q16, if_neg q27]; exact hS⟩

theorem cloneB_w {w : World} {v : Value} {bs : List UInt8} (h : ∀ w', Ext w w' → SlR w' 1 (Flat eB) v bs) (hz : bs.length ≤ 70368744177664) : Calls Tryd.prog 72 [v].toArray w (Ret fun r w' => ∃ n, n = bs.length ∧ St NB w w' [ownR 5 1 r n (bs.flatMap eB)]) := by
  have hS := St.begin NB w
  obtain ⟨A0, c0, hv0, hl0, hm0, hn0⟩ := (h w Ext.rfl').form
  subst hv0
  refine enter Tryd.func72 rfl rfl rfl ?_
  intro a H
  dsimp only [enumL, Nat.zero_add, Nat.reduceAdd] at H
  refine wp_seq ?_
  refine wp_region_lit ?_
  refine n_q H (q_assign rfl) rfl ?_
  clear H a; intro a H
  refine n_nil ?_
  refine then_normal ?_
  refine wp_seq ?_
  refine wp_seq ?_
  refine wp_region_lit ?_
  refine n_q H (q_move rfl) rfl ?_
  clear H a; intro a H
  refine n_q H (q_nilSl Tryd.underlying23 rfl rfl) rfl ?_
  clear H a; intro a H
  refine n_nil ?_
  refine then_normal ?_
  refine c_cond H rfl (fun hc4 => ?_) (fun hc4 => ?_)
  · skip
    obtain ⟨rfl, rfl⟩ : bs = [] ∧ c0 = 0 := hn0 (by cases A0 <;> simp at hc4 ⊢)
    refine wp_seq ?_
    refine wp_region_lit ?_
    refine n_q H (q_assign rfl) rfl ?_
    clear H a; intro a H
    refine n_nil ?_
    refine then_normal ?_
    refine wp_ret ?_
    refine then_ret ?_
    replace hS := hS.nilOwn 5 1
    refine ret1 H (.inr rfl) rfl rfl ?_
    exact ⟨_, rfl, hS⟩
  · skip
    refine wp_skip ?_
    refine then_normal ?_
    refine wp_seq ?_
    refine wp_region_lit ?_
    refine n_buildSlice H Tryd.underlying23 sz5 ze5 rfl rfl rfl (cs := []) (by kernel_rfl) rfl ?_
    clear H; intro b5 w1 hN hE2 hs_b5; clear a; intro a H
    replace hS := hS.newBlk hN hE2 hs_b5; clear hN hE2
    replace hS := hS.blkOwn 0 1 (by simp) (by simp [maxLen])
    refine n_q H (q_move rfl) rfl ?_
    clear H a; intro a H
    refine n_append H rfl rfl Tryd.underlying23 Tryd.underlying23 (by simp) el5 (hS.own 0 rfl) (h _ hS.x).srcB (flat_one eB_one bs) (by omega) (by simp only [maxLen]; omega) rfl ?_
    clear H; intro v7 w3 hN hC4 hb7 hnil7; clear a; intro a H
    replace hS := hS.setOwn hN hC4 hb7; clear hN
    simp only [List.nil_append, Nat.zero_add] at hS
    refine n_q H (q_assign rfl) rfl ?_
    clear H a; intro a H
    refine n_nil ?_
    refine then_normal ?_
    refine wp_ret ?_
    refine ret1 H (.inr rfl) rfl rfl ?_
    exact ⟨_, rfl, hS⟩

theorem wDone_w {w : World} {fp : Nat → Prop} {A : Nat → Addr} {p : Nat} {u0 : Value} {x : WM} (hz : x.buf.length ≤ 70368744177664) (hP0 : Sep w fp [wrR A p u0 x]) :
    Calls Tryd.prog 36 [.pointer (some ⟨p, 0, none⟩)].toArray w (Ret fun r w' => ∃ v, r = .tuple #[v, u0] ∧ St fp w w' [wrR A p u0 x, ownR 5 1 v x.out.length (x.out.flatMap eB)]) := by
  have hS := St.init hP0
  obtain ⟨v0, hS⟩ := hS.wr
  refine enter Tryd.func36 rfl rfl rfl ?_
  intro a H
  dsimp only [enumL, Nat.zero_add, Nat.reduceAdd] at H
  refine wp_seq ?_
  refine wp_region_lit ?_
  refine n_q H (q_assign rfl) rfl ?_
  clear H a; intro a H
  refine n_q H (q_assign rfl) rfl ?_
  clear H a; intro a H
  refine n_nil ?_
  refine then_normal ?_
  refine wp_seq ?_
  refine wp_seq ?_
  refine wp_region_lit ?_
  refine n_q H (q_move rfl) rfl ?_
  clear H a; intro a H
  refine n_q H (q_nilCheck rfl) rfl ?_
  clear H a; intro a H
  refine n_q H (q_fieldAddr0 rfl fo136_1) rfl ?_
  clear H a; intro a H
  refine n_q H (q_load rfl ((hS.blk 0 rfl).ld ag33 rfl)) rfl ?_
  clear H a; intro a H
  refine n_q H (q_nnilI Tryd.underlying33 rfl rfl (hS.any 2 rfl).form) rfl ?_
  clear H a; intro a H
  refine n_nil ?_
  refine then_normal ?_
  refine c_cond H rfl (fun hc8 => ?_) (fun hc8 => ?_)
  · skip
    have q8 : ¬ x.err = .nil := by rw [((hS.any 2 rfl)).isNil] at hc8; simpa using hc8
    refine wp_seq ?_
    refine c_quiet (by kernel_rfl) (by kernel_rfl) ?_
    refine qq_q H (q_move rfl) rfl ?_
    clear H a; intro a H
    refine qq_q H (q_nilCheck rfl) rfl ?_
    clear H a; intro a H
    refine qq_q H (q_fieldAddr0 rfl fo136_1) rfl ?_
    clear H a; intro a H
    refine qq_q H (q_load rfl ((hS.blk 0 rfl).ld ag33 rfl)) rfl ?_
    clear H a; intro a H
    refine qq_q H (q_assign rfl) rfl ?_
    clear H a; intro a H
    refine qq_q H (q_assign rfl) rfl ?_
    clear H a; intro a H
    refine qq_nil ?_
    intro w1 hE2
    replace hS := hS.ext hE2
    refine then_normal ?_
    refine wp_ret ?_
    refine then_ret ?_
    replace hS := hS.nilOwn 5 1
    replace hS := hS.pick 3 rfl
    dsimp only [List.eraseIdx] at hS
    replace hS := hS.pick 3 rfl
    dsimp only [List.eraseIdx] at hS
    replace hS := hS.pick 3 rfl
    dsimp only [List.eraseIdx] at hS
    refine ret2 H (.inr rfl) rfl rfl rfl ?_
    exact ⟨_, rfl, by have e : x.out = [] := by { rw [WM.out, if_neg q8] }; rw [e]; exact hS.wrMk rfl rfl rfl⟩
  · skip
    have q8 : x.err = .nil := by rw [((hS.any 2 rfl)).isNil] at hc8; simpa using hc8
    refine wp_skip ?_
    refine then_normal ?_
    refine wp_seq ?_
    refine wp_region_lit ?_
    refine n_q H (q_move rfl) rfl ?_
    clear H a; intro a H
    refine n_q H (q_nilCheck rfl) rfl ?_
    clear H a; intro a H
    refine n_q H (q_fieldAddr0 rfl fo136_0) rfl ?_
    clear H a; intro a H
    refine n_q H (q_load rfl ((hS.blk 0 rfl).ld ag23 rfl)) rfl ?_
    clear H a; intro a H
    refine n_call H rfl en72 (cloneB_w (bs := x.buf) (fun w' e => ((hS.own 1 rfl).ext e).slB rfl) hz) rfl ?_
    clear H a; intro v17 w3 hv a H
    obtain ⟨n17, hn17, hE4⟩ := hv
    replace hS := hS.new hE4
    simp only [List.cons_append, List.nil_append] at hS
    refine n_q H (q_assign rfl) rfl ?_
    clear H a; intro a H
    refine n_q H (q_assign rfl) rfl ?_
    clear H a; intro a H
    refine n_nil ?_
    refine then_normal ?_
    refine wp_ret ?_
    have hu : u0 = .nilIface := by have hE := (hS.any 3 rfl); rw [q8] at hE; exact hE
    replace hS := hS.pick 3 rfl
    dsimp only [List.eraseIdx] at hS
    replace hS := hS.pick 3 rfl
    dsimp only [List.eraseIdx] at hS
    replace hS := hS.pick 3 rfl
    dsimp only [List.eraseIdx] at hS
    refine ret2 H (.inr rfl) rfl rfl rfl ?_
    exact ⟨v17, by rw [hu], by have e : x.out = x.buf := by { rw [WM.out, if_pos q8] }; rw [e, ← hn17]; exact hS.wrMk rfl rfl rfl⟩

end Go.Proofs.YtnhjohcgnmogaaaDoor
