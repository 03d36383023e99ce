/- Helpers of the laws on wires (written by wip/tools) -/
import Derived.Test.YtnhjohcgnmogaaaDoorHexW
set_option linter.unusedVariables false
set_option linter.unusedSimpArgs false
set_option maxRecDepth 10000
namespace Go.Proofs.YtnhjohcgnmogaaaDoor
open Go Go.RowKit
theorem ag4 : aggB Tryd.prog 4 = some false := by kernel_rfl
theorem en19 : entersB Tryd.prog 19 = true := by kernel_rfl
theorem en26 : entersB Tryd.prog 26 = true := by kernel_rfl
theorem en33 : entersB Tryd.prog 33 = true := by kernel_rfl
theorem en34 : entersB Tryd.prog 34 = true := by kernel_rfl
theorem en35 : entersB Tryd.prog 35 = true := by kernel_rfl
theorem en36 : entersB Tryd.prog 36 = true := by kernel_rfl
theorem en37 : entersB Tryd.prog 37 = true := by kernel_rfl
theorem en38 : entersB Tryd.prog 38 = true := by kernel_rfl
theorem en39 : entersB Tryd.prog 39 = true := by kernel_rfl
theorem en41 : entersB Tryd.prog 41 = true := by kernel_rfl
theorem en42 : entersB Tryd.prog 42 = true := by kernel_rfl
theorem fo29_1 : fOff Tryd.prog 29 1 = some 1 := by kernel_rfl

structure OpM where
  kind : Int
  second : Bool
  cur : Int
  n : Int
  lo : Int
  hi : Int
  s : ByteArray
def eOp (o : OpM) : List Value := [.int .i64 o.kind, .bool o.second, .int .i64 o.cur, .int .i64 o.n, .int .i64 o.lo, .int .i64 o.hi, .string o.s]
def opV (o : OpM) : Value := .agg #[.int .i64 o.kind, .bool o.second, .int .i64 o.cur, .int .i64 o.n, .int .i64 o.lo, .int .i64 o.hi, .string o.s]
/-- 'n & 1'. -/
def and1 (n : Int) : Int := IntKind.i64.wrap ((BitVec.ofInt IntKind.i64.bits n &&& BitVec.ofInt IntKind.i64.bits 1).toNat : Int)
theorem and1_in (n : Int) : and1 n = 0 ∨ and1 n = 1 := by
  have hb : IntKind.i64.bits = 64 := rfl
  have h : (BitVec.ofInt 64 n &&& BitVec.ofInt 64 1).toNat ≤ 1 := by
    rw [BitVec.toNat_and]
    have h2 : (BitVec.ofInt 64 (1 : Int)).toNat = 1 := by decide
    rw [h2]
    exact Nat.and_le_right
  unfold and1
  rw [hb, wrap64_eq (by constructor <;> omega)]
  omega
theorem WM.flag_num (x : WM) (n : Int) : x.flag (and1 n == 1) = x.num (and1 n) 1 := by
  rcases and1_in n with h | h
  · rw [h, WM.num, if_neg (by have : mostW 1 = 255 := rfl; omega)]; rfl
  · rw [h, WM.num, if_neg (by have : mostW 1 = 255 := rfl; omega)]; rfl
/-- A put into a writer. -/
def WM.app (x : WM) (o : OpM) : WM :=
  if o.kind = 1 then x.num o.n 1 else if o.kind = 2 then x.num o.n 2 else if o.kind = 3 then x.num o.n 4 else if o.kind = 4 then x.num (and1 o.n) 1 else
  if o.kind = 5 then x.put o.s.data.toList else if o.kind = 6 then x.text o.s else if o.kind = 7 then x.record o.n o.s.data.toList else x
theorem WM.app_len (x : WM) (o : OpM) : (x.app o).buf.length ≤ x.buf.length + o.s.size + 7 := by
  have hl : o.s.data.toList.length = o.s.size := rfl
  have sp : ∀ g, (x.spoil g).buf.length = x.buf.length := fun g => by unfold WM.spoil; split <;> rfl
  unfold WM.app
  split
  · have := WM.num_len x o.n 1; omega
  split
  · have := WM.num_len x o.n 2; omega
  split
  · have := WM.num_len x o.n 4; omega
  split
  · have := WM.num_len x (and1 o.n) 1; omega
  split
  · have := WM.put_len x o.s.data.toList; omega
  split
  · unfold WM.text
    split
    · rw [sp]; omega
    · have h1 := WM.num_len x o.s.size 2
      have h2 := WM.put_len (x.num o.s.size 2) o.s.data.toList
      omega
  split
  · unfold WM.record
    split
    · rw [sp]; omega
    split
    · rw [sp]; omega
    · have h1 := WM.num_len x o.n 1
      have h2 := WM.num_len (x.num o.n 1) o.s.data.toList.length 2
      have h3 := WM.put_len ((x.num o.n 1).num o.s.data.toList.length 2) o.s.data.toList
      omega
  · omega
theorem out_len (x : WM) : x.out.length ≤ x.buf.length := by unfold WM.out; split <;> simp
theorem strB_inj {a b : List UInt8} : (strB a = strB b) ↔ a = b := by
  constructor
  · intro h
    have : a.toArray = b.toArray := congrArg ByteArray.data h
    simpa using this
  · rintro rfl; rfl
theorem same_w {w : World} {A : Nat → Addr} {u : Value} {e e' : ErrM} (hG : EV A w) (hH : HE w) (h : IsE A w u e) : Calls Tryd.prog 11 [u, eE e'].toArray w (Ret fun r w' => r = .bool (e.code == e'.code && e.place == e'.place) ∧ Ext w w') := by
  have hS := St.begin NB w
  refine enter Tryd.func11 rfl rfl rfl ?_
  intro a H
  dsimp only [enumL, Nat.zero_add, Nat.reduceAdd] at H
  refine wp_seq ?_
  refine wp_region_lit ?_
  refine n_box H rfl (cs := [.int .i64 e'.code, .int .i64 e'.place]) rfl rfl ?_
  clear H; intro b3 w1 hN hE2 hs_b3; clear a; intro a H
  replace hS := hS.newBlk hN hE2 hs_b3; clear hN hE2
  refine n_q H (q_assign rfl) rfl ?_
  clear H a; intro a H
  refine n_nil ?_
  refine then_normal ?_
  refine wp_seq ?_
  refine c_quiet (by kernel_rfl) (by kernel_rfl) ?_
  refine qq_c H (fun HC => ?_); clear H
  refine qc_q HC (q_move rfl) rfl (by kernel_rfl) ?_
  clear HC a; intro a HC
  refine qc_call HC rfl en26 ((fun w' hw => code_w (hG.ext (hS.x.trans' hw)) (h.ext (hS.x.trans' hw)))) rfl (by kernel_rfl) ?_
  clear HC a; intro a HC
  refine qc_q HC (q_fieldAddr0 rfl fo29_0) rfl (by kernel_rfl) ?_
  clear HC a; intro a HC
  refine qc_q HC (q_load rfl ((hS.blk 0 rfl).ld ag3 rfl)) rfl (by kernel_rfl) ?_
  clear HC a; intro a HC
  refine qc_q HC (q_eql rfl rfl) rfl (by kernel_rfl) ?_
  clear HC a; intro a HC
  refine qc_q HC (q_move rfl) rfl (by kernel_rfl) ?_
  clear HC a; intro a HC
  refine qc_g HC (q_move rfl) (by kernel_rfl) (by kernel_rfl) (by kernel_rfl) ?_
  clear HC a; intro a HC
  refine qc_gcall0 HC rfl en42 ((fun w' hw => place_w (hH.ext (hS.x.trans' hw)) (h.ext (hS.x.trans' hw)))) (by kernel_rfl) (by kernel_rfl) (by kernel_rfl) ?_
  clear HC a; intro a HC
  refine qc_g HC (q_fieldAddr0 rfl fo29_1) (by kernel_rfl) (by kernel_rfl) (by kernel_rfl) ?_
  clear HC a; intro a HC
  refine qc_g HC (q_load rfl ((hS.blk 0 rfl).ld ag3 rfl)) (by kernel_rfl) (by kernel_rfl) (by kernel_rfl) ?_
  clear HC a; intro a HC
  refine qc_g HC (q_eql rfl rfl) (by kernel_rfl) (by kernel_rfl) (by kernel_rfl) ?_
  clear HC a; intro a HC
  refine qc_and (j := 5) HC rfl rfl rfl (by kernel_rfl) (by kernel_rfl) ?_
  clear HC a; intro a HC
  refine qc_q HC (q_assign rfl) rfl (by kernel_rfl) ?_
  clear HC a; intro a HC
  have H := HC.has; clear HC
  refine qq_nil ?_
  intro w3 hE4
  replace hS := hS.ext hE4
  refine then_normal ?_
  refine wp_ret ?_
  refine ret1 H (.inr rfl) rfl rfl ?_
  exact ⟨rfl, hS.x⟩

theorem same_self {w : World} {A : Nat → Addr} {u : Value} {e : ErrM} (hG : EV A w) (hH : HE w) (h : IsE A w u e) : Calls Tryd.prog 11 [u, eE e].toArray w (Ret fun r w' => r = .bool true ∧ Ext w w') :=
  (same_w (e' := e) hG hH h).mono fun _ _ ⟨v, he, hv, hx⟩ => ⟨v, he, by rw [hv]; simp, hx⟩
theorem fixed_rec : recordM [5, 0, 1, 65] 0 4 5 = (some (3, 4), .nil, 4) := by decide
theorem fixed_u8 : rangedM [5, 0, 1, 65] 4 4 1 0 255 = (0, .pl 4 1, 4) := by decide
theorem fixed_wm : ((⟨[], .nil⟩ : WM).num 258 2).record 5 [65] = ⟨[1, 2, 5, 0, 1, 65], .nil⟩ := by decide
theorem fixed_hex : strB (hexM [15, 160]) = ⟨#[48, 102, 97, 48]⟩ := by decide
set_option maxHeartbeats 4000000 in
theorem fixed_w {w : World} {A : Nat → Addr} (hG : EV A w) (hH : HE w) : Calls Tryd.prog 7 [].toArray w (Ret fun r w' => r = .bool true ∧ Ext w w') := by
  have hS := St.begin NB w
  refine enter Tryd.func7 rfl rfl rfl ?_
  intro a H
  dsimp only [enumL, Nat.zero_add, Nat.reduceAdd] at H
  refine wp_seq ?_
  refine wp_region_lit ?_
  refine n_q H (q_assign rfl) rfl ?_
  clear H a; intro a H
  refine n_nil ?_
  refine then_normal ?_
  refine wp_seq ?_
  refine wp_region_lit ?_
  refine n_call H rfl en33 (newWriter_w (A := A)) rfl ?_
  clear H a; intro v3 w1 hv a H
  obtain ⟨p1, rfl, hE2⟩ := hv
  replace hS := hS.new hE2
  simp only [List.cons_append, List.nil_append] at hS
  refine n_q H (q_assign rfl) rfl ?_
  clear H a; intro a H
  refine n_nil ?_
  refine then_normal ?_
  refine wp_seq ?_
  refine wp_seq ?_
  refine wp_region_lit ?_
  refine n_q H (q_move rfl) rfl ?_
  clear H a; intro a H
  refine n_q H (q_nilP Tryd.underlying88 rfl rfl) rfl ?_
  clear H a; intro a H
  refine n_nil ?_
  refine then_normal ?_
  refine c_cond H rfl (fun hc8 => ?_) (fun hc8 => ?_)
  · skip
    cases hc8
  · skip
    refine wp_skip ?_
    refine then_normal ?_
    refine wp_seq ?_
    refine wp_region_lit ?_
    refine n_q H (q_move rfl) rfl ?_
    clear H a; intro a H
    obtain ⟨fp10, hG10, hK10, hR10, hF10⟩ := hS.frame1
    refine n_call H rfl en34 (wU16_w (n := 258) (fun w' hw => hG.ext (hK10 _ hw).ext) (by decide) hG10) rfl ?_
    clear H a; intro v6 w4 hv a H
    obtain ⟨rfl, u1, hE5⟩ := hv
    replace hS := hF10 _ _ hE5
    simp only [List.cons_append, List.nil_append] at hS
    clear hG10 hK10 hR10 hF10
    refine n_nil ?_
    refine then_normal ?_
    refine wp_seq ?_
    refine wp_region_lit ?_
    refine n_q H (q_move rfl) rfl ?_
    clear H a; intro a H
    refine n_bytesConst H Tryd.underlying23 Tryd.underlying5 sz5 ze5 rfl rfl rfl (cs := [.int .u8 65]) (by kernel_rfl) rfl rfl ?_
    clear H; intro b12 w7 hN hE8 hs_b12; clear a; intro a H
    replace hS := hS.newBlk hN hE8 hs_b12; clear hN hE8
    replace hS := hS.blkOwn 1 1 (by simp) (by simp [maxLen])
    replace hS := hS.pick 1 rfl
    dsimp only [List.eraseIdx] at hS
    obtain ⟨fp14, hG14, hK14, hR14, hF14⟩ := hS.frame1
    refine n_call H rfl en35 (wRecord_w (t := 5) (bs := [65]) (fun w' hw => hG.ext (hK14 _ hw).ext) (fun w' hw => (restOwn (hR14 0 _ rfl _ hw) : Own w' _ 1 _ 1 ([65].flatMap eB)).slB rfl) (by decide) hG14) rfl ?_
    clear H a; intro v11 w9 hv a H
    obtain ⟨rfl, u2, hE10⟩ := hv
    replace hS := hF14 _ _ hE10
    simp only [List.cons_append, List.nil_append] at hS
    clear hG14 hK14 hR14 hF14
    rw [fixed_wm] at hS
    refine n_nil ?_
    refine then_normal ?_
    refine wp_seq ?_
    refine wp_region_lit ?_
    refine n_q H (q_move rfl) rfl ?_
    clear H a; intro a H
    obtain ⟨fp17, hG17, hK17, hR17, hF17⟩ := hS.frame1
    refine n_call H rfl en36 (wDone_w (by decide) hG17) rfl ?_
    clear H a; intro v14 w12 hv a H
    obtain ⟨v18, rfl, hE13⟩ := hv
    replace hS := hF17 _ _ hE13
    simp only [List.cons_append, List.nil_append] at hS
    clear hG17 hK17 hR17 hF17
    have hu2 : u2 = .nilIface := hS.wrErr 0 rfl
    subst hu2
    refine n_q H (q_move rfl) rfl ?_
    clear H a; intro a H
    refine n_q H (q_extract rfl rfl) rfl ?_
    clear H a; intro a H
    refine n_q H (q_extract rfl rfl) rfl ?_
    clear H a; intro a H
    refine n_q H (q_assign rfl) rfl ?_
    clear H a; intro a H
    refine n_q H (q_assign rfl) rfl ?_
    clear H a; intro a H
    refine n_nil ?_
    refine then_normal ?_
    refine wp_seq ?_
    refine wp_region_lit ?_
    refine n_bytesConst H Tryd.underlying23 Tryd.underlying5 sz5 ze5 rfl rfl rfl (cs := [.int .u8 5, .int .u8 0, .int .u8 1, .int .u8 65]) (by kernel_rfl) rfl rfl ?_
    clear H; intro b20 w15 hN hE16 hs_b20; clear a; intro a H
    replace hS := hS.newBlk hN hE16 hs_b20; clear hN hE16
    replace hS := hS.blkOwn 4 1 (by simp) (by simp [maxLen])
    refine n_call H rfl en37 (open_w (bs := ([5, 0, 1, 65] : List UInt8)) (fun w' e => (((hS.own 0 rfl) : Own _ _ 1 _ 4 (([5, 0, 1, 65] : List UInt8).flatMap eB)).ext e).slB rfl) (by decide)) rfl ?_
    clear H a; intro v19 w17 hv a H
    obtain ⟨pc, v2, n2, rfl, hn2, hE18⟩ := hv
    replace hS := hS.new hE18
    simp only [List.cons_append, List.nil_append] at hS
    refine n_q H (q_assign rfl) rfl ?_
    clear H a; intro a H
    refine n_nil ?_
    refine then_normal ?_
    refine wp_seq ?_
    refine wp_seq ?_
    refine wp_region_lit ?_
    refine n_c H (fun HC => ?_); clear H
    refine nc_q HC (q_move rfl) rfl (by kernel_rfl) ?_
    clear HC a; intro a HC
    refine nc_q HC (q_cast (q_nnilI Tryd.underlying33 rfl rfl (.inl rfl)) (show _ = Value.bool false from rfl)) rfl (by kernel_rfl) ?_
    clear HC a; intro a HC
    refine nc_q HC (q_move rfl) rfl (by kernel_rfl) ?_
    clear HC a; intro a HC
    refine nc_g HC (q_move rfl) (by kernel_rfl) (by kernel_rfl) (by kernel_rfl) ?_
    clear HC a; intro a HC
    refine nc_g HC (q_str Tryd.underlying23 Tryd.underlying5 Tryd.underlying9 rfl (fun w' e => ((hS.own 4 rfl).ext e).slB rfl)) (by kernel_rfl) (by kernel_rfl) (by kernel_rfl) ?_
    clear HC a; intro a HC
    refine nc_g HC (q_neqS rfl rfl) (by kernel_rfl) (by kernel_rfl) (by kernel_rfl) ?_
    clear HC a; intro a HC
    refine nc_or (j := 2) HC rfl rfl rfl (by kernel_rfl) (by kernel_rfl) ?_
    clear HC a; intro a HC
    refine nc_q HC (q_move rfl) rfl (by kernel_rfl) ?_
    clear HC a; intro a HC
    refine nc_g HC (q_move rfl) (by kernel_rfl) (by kernel_rfl) (by kernel_rfl) ?_
    clear HC a; intro a HC
    refine nc_g HC (q_nilP Tryd.underlying93 rfl rfl) (by kernel_rfl) (by kernel_rfl) (by kernel_rfl) ?_
    clear HC a; intro a HC
    refine nc_or (j := 7) HC rfl rfl rfl (by kernel_rfl) (by kernel_rfl) ?_
    clear HC a; intro a HC
    have H := HC.has; clear HC
    refine n_nil ?_
    refine then_normal ?_
    refine c_cond H rfl (fun hc33 => ?_) (fun hc33 => ?_)
    · skip
      exact absurd hc33 (by rw [show (some (⟨pc, 0, none⟩ : Addr)).isNone = false from rfl]; decide)
    · skip
      refine wp_skip ?_
      refine then_normal ?_
      refine wp_seq ?_
      refine wp_region_lit ?_
      refine n_q H (q_move rfl) rfl ?_
      clear H a; intro a H
      obtain ⟨fp36, hG36, hK36, hR36, hF36⟩ := hS.frame1
      refine n_call H rfl en38 (cRecord_w (t := 5) (fun w' hw => hG.ext (hK36 _ hw).ext) (fun w' hw => (restOwn (hR36 0 _ rfl _ hw)).slB hn2) (by decide) (by decide) (by decide) hG36) rfl ?_
      clear H a; intro v22 w20 hv a H
      obtain ⟨q36, u36, rfl, hE21⟩ := hv
      replace hS := hF36 _ _ hE21
      simp only [List.cons_append, List.nil_append] at hS
      clear hG36 hK36 hR36 hF36
      rw [show recordM ([5, 0, 1, 65] : List UInt8) 0 (([5, 0, 1, 65] : List UInt8)).length 5 = (some (3, 4), .nil, 4) from fixed_rec] at hS
      have hu36 : u36 = .nilIface := (hS.any 1 rfl)
      subst hu36
      replace hS := hS.pick 2 rfl
      dsimp only [List.eraseIdx] at hS
      obtain ⟨pi, hq36, hS3⟩ := hS.ncGet
      replace hS := hS3
      clear hS3
      subst hq36
      refine n_q H (q_move rfl) rfl ?_
      clear H a; intro a H
      refine n_q H (q_extract rfl rfl) rfl ?_
      clear H a; intro a H
      refine n_q H (q_extract rfl rfl) rfl ?_
      clear H a; intro a H
      refine n_q H (q_assign rfl) rfl ?_
      clear H a; intro a H
      refine n_q H (q_assign rfl) rfl ?_
      clear H a; intro a H
      refine n_nil ?_
      refine then_normal ?_
      refine wp_seq ?_
      refine wp_seq ?_
      refine wp_region_lit ?_
      refine n_c H (fun HC => ?_); clear H
      refine nc_q HC (q_move rfl) rfl (by kernel_rfl) ?_
      clear HC a; intro a HC
      refine nc_q HC (q_nnilI Tryd.underlying33 rfl rfl (by simp)) rfl (by kernel_rfl) ?_
      clear HC a; intro a HC
      refine nc_q HC (q_move rfl) rfl (by kernel_rfl) ?_
      clear HC a; intro a HC
      refine nc_g HC (q_move rfl) (by kernel_rfl) (by kernel_rfl) (by kernel_rfl) ?_
      clear HC a; intro a HC
      refine nc_g HC (q_nilP Tryd.underlying93 rfl rfl) (by kernel_rfl) (by kernel_rfl) (by kernel_rfl) ?_
      clear HC a; intro a HC
      refine nc_or (j := 2) HC rfl rfl rfl (by kernel_rfl) (by kernel_rfl) ?_
      clear HC a; intro a HC
      refine nc_q HC (q_move rfl) rfl (by kernel_rfl) ?_
      clear HC a; intro a HC
      refine nc_g HC (q_move rfl) (by kernel_rfl) (by kernel_rfl) (by kernel_rfl) ?_
      clear HC a; intro a HC
      refine nc_gcall0 HC rfl en39 (cAt_w (hS.blk 0 rfl)) (by kernel_rfl) (by kernel_rfl) (by kernel_rfl) ?_
      clear HC a; intro w23 hE24 a HC
      replace hS := hS.ext hE24
      refine nc_g HC (q_neq rfl rfl) (by kernel_rfl) (by kernel_rfl) (by kernel_rfl) ?_
      clear HC a; intro a HC
      refine nc_or (j := 6) HC rfl rfl rfl (by kernel_rfl) (by kernel_rfl) ?_
      clear HC a; intro a HC
      refine nc_q HC (q_move rfl) rfl (by kernel_rfl) ?_
      clear HC a; intro a HC
      refine nc_g HC (q_move rfl) (by kernel_rfl) (by kernel_rfl) (by kernel_rfl) ?_
      clear HC a; intro a HC
      refine nc_gcall0 HC rfl en40 (cLeft_w (by decide) (by decide) (hS.blk 0 rfl)) (by kernel_rfl) (by kernel_rfl) (by kernel_rfl) ?_
      clear HC a; intro w25 hE26 a HC
      replace hS := hS.ext hE26
      refine nc_g HC (q_neq rfl rfl) (by kernel_rfl) (by kernel_rfl) (by kernel_rfl) ?_
      clear HC a; intro a HC
      refine nc_or (j := 11) HC rfl rfl rfl (by kernel_rfl) (by kernel_rfl) ?_
      clear HC a; intro a HC
      have H := HC.has; clear HC
      refine n_nil ?_
      refine then_normal ?_
      refine c_cond H rfl (fun hc54 => ?_) (fun hc54 => ?_)
      · skip
        exact absurd hc54 (by rw [show (some (⟨pi, 0, none⟩ : Addr)).isNone = false from rfl]; decide)
      · skip
        refine wp_skip ?_
        refine then_normal ?_
        refine wp_seq ?_
        refine wp_region_lit ?_
        refine n_q H (q_move rfl) rfl ?_
        clear H a; intro a H
        replace hS := hS.pick 1 rfl
        dsimp only [List.eraseIdx] at hS
        obtain ⟨fp57, hG57, hK57, hR57, hF57⟩ := hS.frame1
        refine n_call H rfl en41 (cU8_w (fun w' hw => hG.ext (hK57 _ hw).ext) (fun w' hw => (restOwn (hR57 2 _ rfl _ hw)).slB hn2) (by decide) (by decide) (by decide) hG57) rfl ?_
        clear H a; intro v29 w27 hv a H
        obtain ⟨u57, rfl, hE28⟩ := hv
        replace hS := hF57 _ _ hE28
        simp only [List.cons_append, List.nil_append] at hS
        clear hG57 hK57 hR57 hF57
        rw [show rangedM ([5, 0, 1, 65] : List UInt8) 4 (([5, 0, 1, 65] : List UInt8)).length 1 0 255 = (0, .pl 4 1, 4) from fixed_u8] at hS
        refine n_q H (q_move rfl) rfl ?_
        clear H a; intro a H
        refine n_q H (q_extract rfl rfl) rfl ?_
        clear H a; intro a H
        refine n_q H (q_extract rfl rfl) rfl ?_
        clear H a; intro a H
        refine n_q H (q_assign rfl) rfl ?_
        clear H a; intro a H
        refine n_nil ?_
        refine then_normal ?_
        refine wp_seq ?_
        refine wp_region_lit ?_
        refine n_c H (fun HC => ?_); clear H
        refine nc_q HC (q_move rfl) rfl (by kernel_rfl) ?_
        clear HC a; intro a HC
        refine nc_call HC rfl en26 (code_w (hG.ext hS.x) (hS.any 1 rfl)) rfl (by kernel_rfl) ?_
        clear HC a; intro v32 w30 hv a HC
        obtain ⟨rfl, hE31⟩ := hv
        replace hS := hS.ext hE31
        refine nc_q HC (q_eql rfl rfl) rfl (by kernel_rfl) ?_
        clear HC a; intro a HC
        refine nc_q HC (q_move rfl) rfl (by kernel_rfl) ?_
        clear HC a; intro a HC
        refine nc_g HC (q_move rfl) (by kernel_rfl) (by kernel_rfl) (by kernel_rfl) ?_
        clear HC a; intro a HC
        refine nc_gcall0 HC rfl en42 (place_w (hH.ext hS.x) (hS.any 1 rfl)) (by kernel_rfl) (by kernel_rfl) (by kernel_rfl) ?_
        clear HC a; intro w33 hE34 a HC
        replace hS := hS.ext hE34
        refine nc_g HC (q_eql rfl rfl) (by kernel_rfl) (by kernel_rfl) (by kernel_rfl) ?_
        clear HC a; intro a HC
        refine nc_and (j := 3) HC rfl rfl rfl (by kernel_rfl) (by kernel_rfl) ?_
        clear HC a; intro a HC
        refine nc_q HC (q_move rfl) rfl (by kernel_rfl) ?_
        clear HC a; intro a HC
        refine nc_yes HC rfl rfl ?_
        have H := HC.has; clear HC
        refine n_buildSlice H Tryd.underlying23 sz5 ze5 rfl rfl rfl (cs := [.int .u8 15, .int .u8 160]) (by kernel_rfl) rfl ?_
        clear H; intro b69 w35 hN hE36 hs_b69; clear a; intro a H
        replace hS := hS.newBlk hN hE36 hs_b69; clear hN hE36
        replace hS := hS.blkOwn 2 1 (by simp) (by simp [maxLen])
        refine n_c H (fun HC => ?_); clear H
        refine nc_yes HC rfl rfl ?_
        refine nc_call HC rfl en19 (hex_w (bs := [15, 160]) (fun w' e => (((hS.own 0 rfl) : Own _ _ 1 _ 2 (([15, 160] : List UInt8).flatMap eB)).ext e).slB rfl) (by decide)) rfl (by kernel_rfl) ?_
        clear HC a; intro v39 w37 hv a HC
        obtain ⟨rfl, hE38⟩ := hv
        replace hS := hS.ext hE38
        refine nc_g HC (q_eqlS rfl rfl) (by kernel_rfl) (by kernel_rfl) (by kernel_rfl) ?_
        clear HC a; intro a HC
        refine nc_and (j := 8) HC rfl rfl rfl (by kernel_rfl) (by kernel_rfl) ?_
        clear HC a; intro a HC
        refine nc_q HC (q_assign rfl) rfl (by kernel_rfl) ?_
        clear HC a; intro a HC
        have H := HC.has; clear HC
        refine n_nil ?_
        refine then_normal ?_
        refine wp_ret ?_
        refine ret1 H (.inr rfl) rfl rfl ?_
        exact ⟨congrArg Value.bool (by decide), hS.x⟩

theorem strB_toList (s : ByteArray) : strB s.data.toList = s := by cases s; rfl
theorem take_marks (s : ByteArray) (l : List UInt8) : (s.data.toList ++ l).take s.size = s.data.toList := by
  have hl : s.data.toList.length = s.size := rfl
  rw [← hl, List.take_left]
theorem at_marks (s : ByteArray) (a b : UInt8) : (s.data.toList ++ [a, b])[s.size]? = some a ∧ (s.data.toList ++ [a, b])[s.size + 1]? = some b := by
  have hl : s.data.toList.length = s.size := rfl
  constructor
  · rw [List.getElem?_append_right (by omega), hl]; simp
  · rw [List.getElem?_append_right (by omega), hl, show s.size + 1 - s.size = 1 by omega]; rfl
/-- What the puts of a script come to, at the most. -/
def bulkO (l : List OpM) : Nat := (l.map fun o => o.s.size + 7).sum
theorem bulkO_snoc {l : List OpM} {i : Nat} {o : OpM} (h : l[i]? = some o) : bulkO (l.take (i + 1)) = bulkO (l.take i) + (o.s.size + 7) := by
  rw [take_snoc h]; simp [bulkO]
theorem bulkO_le (l : List OpM) (i : Nat) : bulkO (l.take i) ≤ bulkO l := by
  have e : bulkO l = bulkO (l.take i) + bulkO (l.drop i) := by
    have h : l = l.take i ++ l.drop i := (List.take_append_drop i l).symm
    have h2 : ∀ a b : List OpM, bulkO (a ++ b) = bulkO a + bulkO b := fun a b => by simp [bulkO]
    rw [← h2, ← h]
  omega
end Go.Proofs.YtnhjohcgnmogaaaDoor
