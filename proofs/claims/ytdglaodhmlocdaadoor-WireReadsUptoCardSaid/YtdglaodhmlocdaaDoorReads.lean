/- What the laws on reading call, and WireReads (written by wip/tools) -/
import Derived.Test.YtdglaodhmlocdaaDoorCurs
import Derived.Test.YtdglaodhmlocdaaDoorGua
set_option linter.unusedVariables false
set_option linter.unusedSimpArgs false
set_option maxRecDepth 10000
namespace Go.Proofs.YtdglaodhmlocdaaDoor
open Go Go.RowKit
theorem en111 : entersB Tryd.prog 111 = true := by kernel_rfl
theorem en112 : entersB Tryd.prog 112 = true := by kernel_rfl
theorem en21 : entersB Tryd.prog 21 = true := by kernel_rfl
theorem en25 : entersB Tryd.prog 25 = true := by kernel_rfl
theorem en74 : entersB Tryd.prog 74 = true := by kernel_rfl
theorem en75 : entersB Tryd.prog 75 = true := by kernel_rfl
theorem en76 : entersB Tryd.prog 76 = true := by kernel_rfl
theorem en77 : entersB Tryd.prog 77 = true := by kernel_rfl
theorem en83 : entersB Tryd.prog 83 = true := by kernel_rfl
theorem en85 : entersB Tryd.prog 85 = true := by kernel_rfl

theorem cEndX_w {w : World} {A : Nat → Addr} {p ca cd : Nat} {vb : Value} (hG : EV A w) (h1 : ca ≤ cd) (h3 : cd ≤ 70368744177664) (hB : Blk w p [vb, .int .i64 (ca : Nat), .int .i64 (cd : Nat)] 121) :
    Calls Tryd.prog 24 [.pointer (some ⟨p, 0, none⟩)].toArray w (Ret fun r w' => ∃ u, r = u ∧ St NB w w' [erR A u (endM ca cd)]) := by
  have hS := St.begin NB w
  refine enter Tryd.func24 rfl rfl rfl ?_
  intro a H
  dsimp only [enumL, Nat.zero_add, Nat.reduceAdd] at H
  refine wp_seq ?_
  refine wp_region_lit ?_
  refine n_q H (q_assign rfl) rfl ?_
  clear H a; intro a H
  refine n_nil ?_
  refine then_normal ?_
  refine wp_seq ?_
  refine wp_seq ?_
  refine wp_region_lit ?_
  refine n_q H (q_move rfl) rfl ?_
  clear H a; intro a H
  refine n_call H rfl en18 (cLeft_w h1 h3 (hB.ext hS.x)) rfl ?_
  clear H a; intro v3 w1 hv a H
  obtain ⟨rfl, hE2⟩ := hv
  replace hS := hS.ext hE2
  refine n_q H (q_gtr rfl rfl) rfl ?_
  clear H a; intro a H
  refine n_nil ?_
  refine then_normal ?_
  refine c_cond H rfl (fun hc5 => ?_) (fun hc5 => ?_)
  · skip
    have q5 : ca < cd := by simp at hc5; omega
    refine wp_seq ?_
    refine c_ord [] 7 (by kernel_rfl) ?_
    obtain ⟨w4, hw4⟩ : ∃ x, x = w1.drew := ⟨_, rfl⟩
    rw [← hw4]
    have hE5 : Ext w1 w4 := by rw [hw4]; exact Ext.drew' _
    clear hw4
    replace hS := hS.ext hE5
    refine k_take 0 H rfl (q_move rfl) rfl (by kernel_rfl) (by kernel_rfl) (by kernel_rfl) (by kernel_rfl) (fun _ _ _ h => h) ?_
    clear H a; intro a H
    refine k_take 1 H rfl (q_nilCheck rfl) rfl (by kernel_rfl) (by kernel_rfl) (by kernel_rfl) (by kernel_rfl) (fun _ _ _ h => h) ?_
    clear H a; intro a H
    refine k_take 2 H rfl (q_fieldAddr0 rfl fo121_1) rfl (by kernel_rfl) (by kernel_rfl) (by kernel_rfl) (by kernel_rfl) (fun _ _ _ h => h) ?_
    clear H a; intro a H
    refine k_take 3 H rfl (q_load rfl (LdC.k0 ((hB.ext hS.x).ld ag3 rfl))) rfl (by kernel_rfl) (by kernel_rfl) (by kernel_rfl) (by kernel_rfl) (fun _ _ _ h => h) ?_
    clear H a; intro a H
    refine k_take 4 H rfl (q_load rfl (LdC.k0 ((hG.ext hS.x).ld 0 (by decide) ag43))) rfl (by kernel_rfl) (by kernel_rfl) (by kernel_rfl) (by kernel_rfl) (fun _ _ _ h => h) ?_
    clear H a; intro a H
    refine k_call 5 H rfl rfl en78 (at_w rfl) rfl (by kernel_rfl) (fun v w hv => .inl (ChgF.of_ext (by obtain ⟨be, rfl, hE0⟩ := hv; exact hE0.x))) ?_
    clear H a; intro v8 w6 hv a H
    obtain ⟨be, rfl, hE7⟩ := hv
    replace hS := hS.new hE7
    simp only [List.cons_append, List.nil_append] at hS
    replace hS := hS.atErr (g := 0) (by decide)
    refine k_take 6 H rfl (q_assign rfl) rfl (by kernel_rfl) (by kernel_rfl) (by kernel_rfl) (by kernel_rfl) (fun _ _ _ h => h) ?_
    clear H a; intro a H
    refine k_done (by kernel_rfl) ?_
    refine then_normal ?_
    refine wp_ret ?_
    refine then_ret ?_
    refine ret1 H (.inr rfl) rfl rfl ?_
    rw [show endM ca cd = .pl ca 0 from by rw [endM, if_pos q5]]; exact ⟨_, rfl, hS⟩
  · skip
    have q5 : ¬ ca < cd := by simp at hc5; omega
    refine wp_skip ?_
    refine then_normal ?_
    refine wp_seq ?_
    refine wp_region_lit ?_
    refine n_q H (q_assign rfl) rfl ?_
    clear H a; intro a H
    refine n_nil ?_
    refine then_normal ?_
    refine wp_ret ?_
    replace hS := hS.noErr (A := A)
    refine ret1 H (.inr rfl) rfl rfl ?_
    rw [show endM ca cd = .nil from by rw [endM, if_neg q5]]; exact ⟨_, rfl, hS⟩

theorem rEndedX_w {w : World} {p ca cd : Nat} {vb : Value} (h1 : ca ≤ cd) (h3 : cd ≤ 70368744177664) (hB : Blk w p [vb, .int .i64 (ca : Nat), .int .i64 (cd : Nat)] 50) :
    Calls Tryd.prog 25 [.pointer (some ⟨p, 0, none⟩)].toArray w (Ret fun r w' => r = eE (endM ca cd) ∧ Ext w w') := by
  have hS := St.begin NB w
  refine enter Tryd.func25 rfl rfl rfl ?_
  intro a H
  dsimp only [enumL, Nat.zero_add, Nat.reduceAdd] at H
  refine wp_seq ?_
  refine wp_region_lit ?_
  refine n_alloc H ze55 rfl ?_
  clear H; intro b2 w1 hN hE2 hs_b2; clear a; intro a H
  replace hS := hS.newBlk hN hE2 hs_b2; clear hN hE2
  refine n_nil ?_
  refine then_normal ?_
  refine wp_seq ?_
  refine wp_seq ?_
  refine wp_region_lit ?_
  refine n_q H (q_move rfl) rfl ?_
  clear H a; intro a H
  refine n_call H rfl en22 (rLeft_w h1 h3 (hB.ext hS.x)) rfl ?_
  clear H a; intro v5 w3 hv a H
  obtain ⟨rfl, hE4⟩ := hv
  replace hS := hS.ext hE4
  refine n_q H (q_gtr rfl rfl) rfl ?_
  clear H a; intro a H
  refine n_nil ?_
  refine then_normal ?_
  refine c_cond H rfl (fun hc5 => ?_) (fun hc5 => ?_)
  · skip
    have q5 : ca < cd := by simp at hc5; omega
    refine wp_seq ?_
    refine wp_region_lit ?_
    refine n_q H (q_move rfl) rfl ?_
    clear H a; intro a H
    refine n_q H (q_nilCheck rfl) rfl ?_
    clear H a; intro a H
    refine n_q H (q_fieldAddr0 rfl fo50_1) rfl ?_
    clear H a; intro a H
    refine n_q H (q_load rfl ((hB.ext hS.x).ld ag3 rfl)) rfl ?_
    clear H a; intro a H
    refine n_q H (q_build (cs := [.int .i64 2, .int .i64 (ca : Nat)]) ze55 bd55 pl55 rfl (by kernel_rfl)) rfl ?_
    clear H a; intro a H
    refine n_storeAll H rfl rfl rfl sz55 (hS.blk 0 rfl) rfl (by simp) ?_
    clear H; intro w6 hN hC7 hz; clear a; intro a H
    replace hS := hS.setBlk hN hC7; clear hN hz
    refine n_nil ?_
    refine then_normal ?_
    refine wp_ret ?_
    refine then_ret ?_
    have hr2 := (hS.blk 0 rfl)
    refine retL H (.inr rfl) rfl (vs := _) (resCell rfl (hr2.ldAll ag55 sz55) resNil) ?_
    rw [show endM ca cd = .pl ca 0 from by rw [endM, if_pos q5]]; exact ⟨rfl, hS.x⟩
  · skip
    have q5 : ¬ ca < cd := by simp at hc5; omega
    refine wp_skip ?_
    refine then_normal ?_
    refine wp_seq ?_
    refine wp_region_lit ?_
    refine n_call H rfl en54 (rNone_w) rfl ?_
    clear H a; intro v10 w8 hv a H
    obtain ⟨rfl, hE9⟩ := hv
    replace hS := hS.ext hE9
    refine n_storeAll H rfl rfl (vs := [.int .i64 0, .int .i64 (-1)]) rfl sz55 (hS.blk 0 rfl) rfl (by simp) ?_
    clear H; intro w11 hN hC12 hz; clear a; intro a H
    replace hS := hS.setBlk hN hC12; clear hN hz
    refine n_nil ?_
    refine then_normal ?_
    refine wp_ret ?_
    have hr2 := (hS.blk 0 rfl)
    refine retL H (.inr rfl) rfl (vs := _) (resCell rfl (hr2.ldAll ag55 sz55) resNil) ?_
    rw [show endM ca cd = .nil from by rw [endM, if_neg q5]]; exact ⟨rfl, hS.x⟩

theorem ranged_in {bs : List UInt8} {a d : Nat} (k lo hi : Int) (h : a ≤ d) : (rangedM bs a d k lo hi).2.2 ≤ d := by
  unfold rangedM
  repeat' split
  all_goals (dsimp only; omega)
theorem flag_01 {bs : List UInt8} {a d : Nat} : (rangedM bs a d 1 0 1).1 = 0 ∨ (rangedM bs a d 1 0 1).1 = 1 := by
  unfold rangedM
  repeat' split
  all_goals (dsimp only; omega)
set_option maxHeartbeats 4000000 in
theorem number_w {w : World} {fp : Nat → Prop} {A : Nat → Addr} {p q ca cd : Nat} {vb v2 : Value} {bs : List UInt8} {o : OpM} (hG : ∀ w', ChgP fp w w' → EV A w') (hH : ∀ w', ChgP fp w w' → HE w') (hb : ∀ w', ChgP fp w w' → SlR w' 1 (Flat eB) vb bs) (hb2 : ∀ w', ChgP fp w w' → SlR w' 1 (Flat eB) v2 bs) (h1 : ca ≤ cd) (h2 : cd ≤ bs.length) (h3 : bs.length ≤ 70368744177664) (hP0 : Sep w fp [cuR p vb ca cd, rcR q v2 ca cd]) :
    Calls Tryd.prog 77 [.pointer (some ⟨p, 0, none⟩), .pointer (some ⟨q, 0, none⟩), opV o].toArray w (Ret fun r w' => r = .bool true ∧ ∃ a', a' ≤ cd ∧ St fp w w' [cuR p vb a' cd, rcR q v2 a' cd]) := by
  have hS := St.init hP0
  refine enter Tryd.func77 rfl rfl rfl ?_
  intro a H
  dsimp only [enumL, Nat.zero_add, Nat.reduceAdd] at H
  refine wp_seq ?_
  refine wp_region_lit ?_
  refine n_box H rfl (cs := (eOp o)) rfl rfl ?_
  clear H; intro b5 w1 hN hE2 hs_b5; clear a; intro a H
  replace hS := hS.newBlk hN hE2 hs_b5; clear hN hE2
  refine n_q H (q_assign rfl) rfl ?_
  clear H a; intro a H
  refine n_nil ?_
  refine then_normal ?_
  refine wp_seq ?_
  refine wp_region_lit ?_
  refine n_q H (q_assign rfl) rfl ?_
  clear H a; intro a H
  refine n_q H (q_assign rfl) rfl ?_
  clear H a; intro a H
  refine n_nil ?_
  refine then_normal ?_
  refine wp_seq ?_
  refine wp_region_lit ?_
  refine n_call H rfl en54 (rNone_w) rfl ?_
  clear H a; intro v5 w3 hv a H
  obtain ⟨rfl, hE4⟩ := hv
  replace hS := hS.ext hE4
  refine n_alloc H ze55 rfl ?_
  clear H; intro b10 w6 hN hE7 hs_b10; clear a; intro a H
  replace hS := hS.newBlk hN hE7 hs_b10; clear hN hE7
  refine n_q H (q_assign rfl) rfl ?_
  clear H a; intro a H
  refine n_storeAll H rfl rfl (vs := [.int .i64 0, .int .i64 (-1)]) rfl sz55 (hS.blk 0 rfl) rfl (by simp [Value.oneCell']) ?_
  clear H; intro w8 hN hC9 hz; clear a; intro a H
  replace hS := hS.setBlk hN hC9; clear hN hz
  refine n_nil ?_
  refine then_normal ?_
  refine c_join (σ := Int × Int × Value × ErrM × Nat) H (fun (n1, m1, u1, e1, a1) => [(0, .pointer (some ⟨p, 0, none⟩)), (1, .pointer (some ⟨q, 0, none⟩)), (7, .int .i64 n1), (8, u1), (9, .int .i64 m1), (10, .pointer (some ⟨b10, 0, none⟩))]) (fun (n1, m1, u1, e1, a1) wl => n1 = m1 ∧ a1 ≤ cd ∧ St fp w wl [cuR p vb a1 cd, rcR q v2 a1 cd, erR A u1 e1, blkR b10 [.int .i64 e1.code, .int .i64 e1.place] 55]) ?_ ?_
  · skip
    refine wp_seq ?_
    refine wp_region_lit ?_
    refine n_q H (q_fieldAddr0 rfl fo29_0) rfl ?_
    clear H a; intro a H
    refine n_q H (q_load rfl ((hS.blk 1 rfl).ld ag3 rfl)) rfl ?_
    clear H a; intro a H
    refine n_nil ?_
    refine then_normal ?_
    refine wp_block ?_
    refine wp_seq ?_
    refine wp_region_lit ?_
    refine n_q H (q_eql rfl rfl) rfl ?_
    clear H a; intro a H
    refine n_q H (q_assign rfl) rfl ?_
    clear H a; intro a H
    refine n_nil ?_
    refine then_normal ?_
    refine c_cond H rfl (fun hc16 => ?_) (fun hc16 => ?_)
    · skip
      refine wp_seq ?_
      refine wp_region_lit ?_
      refine n_q H (q_move rfl) rfl ?_
      clear H a; intro a H
      replace hS := hS.pick 3 rfl
      dsimp only [List.eraseIdx] at hS
      obtain ⟨fp20, hG20, hK20, hR20, hF20⟩ := hS.frame1
      refine n_call H rfl en111 (rRanged_w (fun w' hw => hb2 _ (hK20 _ hw)) h1 h2 h3 hG20) rfl ?_
      clear H a; intro v12 w10 hv a H
      obtain ⟨rfl, hE11⟩ := hv
      replace hS := hF20 _ _ hE11
      simp only [List.cons_append, List.nil_append] at hS
      clear hG20 hK20 hR20 hF20
      refine n_q H (q_move rfl) rfl ?_
      clear H a; intro a H
      refine n_q H (q_extract rfl rfl) rfl ?_
      clear H a; intro a H
      refine n_q H (q_extract rfl rfl) rfl ?_
      clear H a; intro a H
      refine n_q H (q_assign rfl) rfl ?_
      clear H a; intro a H
      replace hS := hS.pick 1 rfl
      dsimp only [List.eraseIdx] at hS
      refine n_storeAll H rfl rfl (vs := [.int .i64 (rangedM bs ca cd 1 0 255).2.1.code, .int .i64 (rangedM bs ca cd 1 0 255).2.1.place]) rfl sz55 (hS.blk 0 rfl) rfl (by simp [Value.oneCell']) ?_
      clear H; intro w13 hN hC14 hz; clear a; intro a H
      replace hS := hS.setBlk hN hC14; clear hN hz
      refine n_nil ?_
      refine then_normal ?_
      refine wp_region_lit ?_
      refine n_q H (q_move rfl) rfl ?_
      clear H a; intro a H
      replace hS := hS.pick 3 rfl
      dsimp only [List.eraseIdx] at hS
      obtain ⟨fp25, hG25, hK25, hR25, hF25⟩ := hS.frame1
      refine n_call H rfl en53 (cU8_w (fun w' hw => hG _ (hK25 _ hw)) (fun w' hw => hb _ (hK25 _ hw)) h1 h2 h3 hG25) rfl ?_
      clear H a; intro v17 w15 hv a H
      obtain ⟨u25, rfl, hE16⟩ := hv
      replace hS := hF25 _ _ hE16
      simp only [List.cons_append, List.nil_append] at hS
      clear hG25 hK25 hR25 hF25
      refine n_q H (q_move rfl) rfl ?_
      clear H a; intro a H
      refine n_q H (q_extract rfl rfl) rfl ?_
      clear H a; intro a H
      refine n_q H (q_extract rfl rfl) rfl ?_
      clear H a; intro a H
      refine n_q H (q_assign rfl) rfl ?_
      clear H a; intro a H
      refine n_q H (q_assign rfl) rfl ?_
      clear H a; intro a H
      refine n_nil ?_
      refine block_normal ?_
      refine then_normal ?_
      replace hS := hS.pick 2 rfl
      dsimp only [List.eraseIdx] at hS
      replace hS := hS.pick 2 rfl
      dsimp only [List.eraseIdx] at hS
      replace hS := hS.pick 3 rfl
      dsimp only [List.eraseIdx] at hS
      replace hS := hS.pick 3 rfl
      dsimp only [List.eraseIdx] at hS
      replace hS := hS.take 4
      simp only [List.take_succ_cons, List.take_zero] at hS
      exact join ((rangedM bs ca cd 1 0 255).1, (rangedM bs ca cd 1 0 255).1, u25, (rangedM bs ca cd 1 0 255).2.1, (rangedM bs ca cd 1 0 255).2.2) H ⟨rfl, rfl, rfl, rfl, rfl, rfl, trivial⟩ ⟨by first | rfl | exact hfl.symm, by first | exact h1 | exact ranged_in _ _ _ h1, hS⟩
    · skip
      refine wp_seq ?_
      refine wp_region_lit ?_
      refine n_q H (q_eql rfl rfl) rfl ?_
      clear H a; intro a H
      refine n_q H (q_assign rfl) rfl ?_
      clear H a; intro a H
      refine n_nil ?_
      refine then_normal ?_
      refine c_cond H rfl (fun hc28 => ?_) (fun hc28 => ?_)
      · skip
        refine wp_seq ?_
        refine wp_region_lit ?_
        refine n_q H (q_move rfl) rfl ?_
        clear H a; intro a H
        replace hS := hS.pick 3 rfl
        dsimp only [List.eraseIdx] at hS
        obtain ⟨fp32, hG32, hK32, hR32, hF32⟩ := hS.frame1
        refine n_call H rfl en111 (rRanged_w (fun w' hw => hb2 _ (hK32 _ hw)) h1 h2 h3 hG32) rfl ?_
        clear H a; intro v20 w18 hv a H
        obtain ⟨rfl, hE19⟩ := hv
        replace hS := hF32 _ _ hE19
        simp only [List.cons_append, List.nil_append] at hS
        clear hG32 hK32 hR32 hF32
        refine n_q H (q_move rfl) rfl ?_
        clear H a; intro a H
        refine n_q H (q_extract rfl rfl) rfl ?_
        clear H a; intro a H
        refine n_q H (q_extract rfl rfl) rfl ?_
        clear H a; intro a H
        refine n_q H (q_assign rfl) rfl ?_
        clear H a; intro a H
        replace hS := hS.pick 1 rfl
        dsimp only [List.eraseIdx] at hS
        refine n_storeAll H rfl rfl (vs := [.int .i64 (rangedM bs ca cd 2 0 65535).2.1.code, .int .i64 (rangedM bs ca cd 2 0 65535).2.1.place]) rfl sz55 (hS.blk 0 rfl) rfl (by simp [Value.oneCell']) ?_
        clear H; intro w21 hN hC22 hz; clear a; intro a H
        replace hS := hS.setBlk hN hC22; clear hN hz
        refine n_nil ?_
        refine then_normal ?_
        refine wp_region_lit ?_
        refine n_q H (q_move rfl) rfl ?_
        clear H a; intro a H
        replace hS := hS.pick 3 rfl
        dsimp only [List.eraseIdx] at hS
        obtain ⟨fp37, hG37, hK37, hR37, hF37⟩ := hS.frame1
        refine n_call H rfl en67 (cU16_w (fun w' hw => hG _ (hK37 _ hw)) (fun w' hw => hb _ (hK37 _ hw)) h1 h2 h3 hG37) rfl ?_
        clear H a; intro v25 w23 hv a H
        obtain ⟨u37, rfl, hE24⟩ := hv
        replace hS := hF37 _ _ hE24
        simp only [List.cons_append, List.nil_append] at hS
        clear hG37 hK37 hR37 hF37
        refine n_q H (q_move rfl) rfl ?_
        clear H a; intro a H
        refine n_q H (q_extract rfl rfl) rfl ?_
        clear H a; intro a H
        refine n_q H (q_extract rfl rfl) rfl ?_
        clear H a; intro a H
        refine n_q H (q_assign rfl) rfl ?_
        clear H a; intro a H
        refine n_q H (q_assign rfl) rfl ?_
        clear H a; intro a H
        refine n_nil ?_
        refine block_normal ?_
        refine then_normal ?_
        replace hS := hS.pick 2 rfl
        dsimp only [List.eraseIdx] at hS
        replace hS := hS.pick 2 rfl
        dsimp only [List.eraseIdx] at hS
        replace hS := hS.pick 3 rfl
        dsimp only [List.eraseIdx] at hS
        replace hS := hS.pick 3 rfl
        dsimp only [List.eraseIdx] at hS
        replace hS := hS.take 4
        simp only [List.take_succ_cons, List.take_zero] at hS
        exact join ((rangedM bs ca cd 2 0 65535).1, (rangedM bs ca cd 2 0 65535).1, u37, (rangedM bs ca cd 2 0 65535).2.1, (rangedM bs ca cd 2 0 65535).2.2) H ⟨rfl, rfl, rfl, rfl, rfl, rfl, trivial⟩ ⟨by first | rfl | exact hfl.symm, by first | exact h1 | exact ranged_in _ _ _ h1, hS⟩
      · skip
        refine wp_seq ?_
        refine wp_region_lit ?_
        refine n_q H (q_eql rfl rfl) rfl ?_
        clear H a; intro a H
        refine n_q H (q_assign rfl) rfl ?_
        clear H a; intro a H
        refine n_nil ?_
        refine then_normal ?_
        refine c_cond H rfl (fun hc40 => ?_) (fun hc40 => ?_)
        · skip
          refine wp_seq ?_
          refine wp_region_lit ?_
          refine n_q H (q_move rfl) rfl ?_
          clear H a; intro a H
          replace hS := hS.pick 3 rfl
          dsimp only [List.eraseIdx] at hS
          obtain ⟨fp44, hG44, hK44, hR44, hF44⟩ := hS.frame1
          refine n_call H rfl en111 (rRanged_w (fun w' hw => hb2 _ (hK44 _ hw)) h1 h2 h3 hG44) rfl ?_
          clear H a; intro v28 w26 hv a H
          obtain ⟨rfl, hE27⟩ := hv
          replace hS := hF44 _ _ hE27
          simp only [List.cons_append, List.nil_append] at hS
          clear hG44 hK44 hR44 hF44
          refine n_q H (q_move rfl) rfl ?_
          clear H a; intro a H
          refine n_q H (q_extract rfl rfl) rfl ?_
          clear H a; intro a H
          refine n_q H (q_extract rfl rfl) rfl ?_
          clear H a; intro a H
          refine n_q H (q_assign rfl) rfl ?_
          clear H a; intro a H
          replace hS := hS.pick 1 rfl
          dsimp only [List.eraseIdx] at hS
          refine n_storeAll H rfl rfl (vs := [.int .i64 (rangedM bs ca cd 4 0 4294967295).2.1.code, .int .i64 (rangedM bs ca cd 4 0 4294967295).2.1.place]) rfl sz55 (hS.blk 0 rfl) rfl (by simp [Value.oneCell']) ?_
          clear H; intro w29 hN hC30 hz; clear a; intro a H
          replace hS := hS.setBlk hN hC30; clear hN hz
          refine n_nil ?_
          refine then_normal ?_
          refine wp_region_lit ?_
          refine n_q H (q_move rfl) rfl ?_
          clear H a; intro a H
          replace hS := hS.pick 3 rfl
          dsimp only [List.eraseIdx] at hS
          obtain ⟨fp49, hG49, hK49, hR49, hF49⟩ := hS.frame1
          refine n_call H rfl en68 (cU32_w (fun w' hw => hG _ (hK49 _ hw)) (fun w' hw => hb _ (hK49 _ hw)) h1 h2 h3 hG49) rfl ?_
          clear H a; intro v33 w31 hv a H
          obtain ⟨u49, rfl, hE32⟩ := hv
          replace hS := hF49 _ _ hE32
          simp only [List.cons_append, List.nil_append] at hS
          clear hG49 hK49 hR49 hF49
          refine n_q H (q_move rfl) rfl ?_
          clear H a; intro a H
          refine n_q H (q_extract rfl rfl) rfl ?_
          clear H a; intro a H
          refine n_q H (q_extract rfl rfl) rfl ?_
          clear H a; intro a H
          refine n_q H (q_assign rfl) rfl ?_
          clear H a; intro a H
          refine n_q H (q_assign rfl) rfl ?_
          clear H a; intro a H
          refine n_nil ?_
          refine block_normal ?_
          refine then_normal ?_
          replace hS := hS.pick 2 rfl
          dsimp only [List.eraseIdx] at hS
          replace hS := hS.pick 2 rfl
          dsimp only [List.eraseIdx] at hS
          replace hS := hS.pick 3 rfl
          dsimp only [List.eraseIdx] at hS
          replace hS := hS.pick 3 rfl
          dsimp only [List.eraseIdx] at hS
          replace hS := hS.take 4
          simp only [List.take_succ_cons, List.take_zero] at hS
          exact join ((rangedM bs ca cd 4 0 4294967295).1, (rangedM bs ca cd 4 0 4294967295).1, u49, (rangedM bs ca cd 4 0 4294967295).2.1, (rangedM bs ca cd 4 0 4294967295).2.2) H ⟨rfl, rfl, rfl, rfl, rfl, rfl, trivial⟩ ⟨by first | rfl | exact hfl.symm, by first | exact h1 | exact ranged_in _ _ _ h1, hS⟩
        · skip
          refine wp_seq ?_
          refine wp_region_lit ?_
          refine n_q H (q_eql rfl rfl) rfl ?_
          clear H a; intro a H
          refine n_q H (q_assign rfl) rfl ?_
          clear H a; intro a H
          refine n_nil ?_
          refine then_normal ?_
          refine c_cond H rfl (fun hc52 => ?_) (fun hc52 => ?_)
          · skip
            refine wp_seq ?_
            refine wp_region_lit ?_
            refine n_q H (q_move rfl) rfl ?_
            clear H a; intro a H
            replace hS := hS.pick 3 rfl
            dsimp only [List.eraseIdx] at hS
            obtain ⟨fp56, hG56, hK56, hR56, hF56⟩ := hS.frame1
            refine n_call H rfl en111 (rRanged_w (fun w' hw => hb2 _ (hK56 _ hw)) h1 h2 h3 hG56) rfl ?_
            clear H a; intro v36 w34 hv a H
            obtain ⟨rfl, hE35⟩ := hv
            replace hS := hF56 _ _ hE35
            simp only [List.cons_append, List.nil_append] at hS
            clear hG56 hK56 hR56 hF56
            refine n_q H (q_move rfl) rfl ?_
            clear H a; intro a H
            refine n_q H (q_extract rfl rfl) rfl ?_
            clear H a; intro a H
            refine n_q H (q_extract rfl rfl) rfl ?_
            clear H a; intro a H
            refine n_q H (q_assign rfl) rfl ?_
            clear H a; intro a H
            replace hS := hS.pick 1 rfl
            dsimp only [List.eraseIdx] at hS
            refine n_storeAll H rfl rfl (vs := [.int .i64 (rangedM bs ca cd 1 0 1).2.1.code, .int .i64 (rangedM bs ca cd 1 0 1).2.1.place]) rfl sz55 (hS.blk 0 rfl) rfl (by simp [Value.oneCell']) ?_
            clear H; intro w37 hN hC38 hz; clear a; intro a H
            replace hS := hS.setBlk hN hC38; clear hN hz
            refine n_nil ?_
            refine then_normal ?_
            refine wp_seq ?_
            refine wp_region_lit ?_
            refine n_q H (q_move rfl) rfl ?_
            clear H a; intro a H
            replace hS := hS.pick 3 rfl
            dsimp only [List.eraseIdx] at hS
            obtain ⟨fp61, hG61, hK61, hR61, hF61⟩ := hS.frame1
            refine n_call H rfl en112 (cFlag_w (fun w' hw => hG _ (hK61 _ hw)) (fun w' hw => hb _ (hK61 _ hw)) h1 h2 h3 hG61) rfl ?_
            clear H a; intro v41 w39 hv a H
            obtain ⟨u61, rfl, hE40⟩ := hv
            replace hS := hF61 _ _ hE40
            simp only [List.cons_append, List.nil_append] at hS
            clear hG61 hK61 hR61 hF61
            refine n_q H (q_move rfl) rfl ?_
            clear H a; intro a H
            refine n_q H (q_extract rfl rfl) rfl ?_
            clear H a; intro a H
            refine n_q H (q_extract rfl rfl) rfl ?_
            clear H a; intro a H
            refine n_q H (q_assign rfl) rfl ?_
            clear H a; intro a H
            refine n_q H (q_assign rfl) rfl ?_
            clear H a; intro a H
            refine n_nil ?_
            refine then_normal ?_
            refine wp_seq ?_
            refine wp_region_lit ?_
            refine n_q H (q_move rfl) rfl ?_
            clear H a; intro a H
            refine n_q H (q_assign rfl) rfl ?_
            clear H a; intro a H
            refine n_nil ?_
            refine then_normal ?_
            refine wp_seq ?_
            refine wp_region_lit ?_
            refine n_q H (q_move rfl) rfl ?_
            clear H a; intro a H
            refine n_nil ?_
            refine then_normal ?_
            refine c_cond H rfl (fun hc65 => ?_) (fun hc65 => ?_)
            · skip
              have hfl : (rangedM bs ca cd 1 0 1).1 = 1 := by simpa [flagM] using hc65
              refine wp_region_lit ?_
              refine n_q H (q_assign rfl) rfl ?_
              clear H a; intro a H
              refine n_nil ?_
              refine block_normal ?_
              refine then_normal ?_
              replace hS := hS.pick 2 rfl
              dsimp only [List.eraseIdx] at hS
              replace hS := hS.pick 2 rfl
              dsimp only [List.eraseIdx] at hS
              replace hS := hS.pick 3 rfl
              dsimp only [List.eraseIdx] at hS
              replace hS := hS.pick 3 rfl
              dsimp only [List.eraseIdx] at hS
              replace hS := hS.take 4
              simp only [List.take_succ_cons, List.take_zero] at hS
              exact join (1, (rangedM bs ca cd 1 0 1).1, u61, (rangedM bs ca cd 1 0 1).2.1, (rangedM bs ca cd 1 0 1).2.2) H ⟨rfl, rfl, rfl, rfl, rfl, rfl, trivial⟩ ⟨by first | rfl | exact hfl.symm, by first | exact h1 | exact ranged_in _ _ _ h1, hS⟩
            · skip
              have hfl : (rangedM bs ca cd 1 0 1).1 = 0 := by
                have h01 := flag_01 (bs := bs) (a := ca) (d := cd)
                have : ¬ (rangedM bs ca cd 1 0 1).1 = 1 := by simpa [flagM] using hc65
                omega
              refine wp_skip ?_
              refine block_normal ?_
              refine then_normal ?_
              replace hS := hS.pick 2 rfl
              dsimp only [List.eraseIdx] at hS
              replace hS := hS.pick 2 rfl
              dsimp only [List.eraseIdx] at hS
              replace hS := hS.pick 3 rfl
              dsimp only [List.eraseIdx] at hS
              replace hS := hS.pick 3 rfl
              dsimp only [List.eraseIdx] at hS
              replace hS := hS.take 4
              simp only [List.take_succ_cons, List.take_zero] at hS
              exact join (0, (rangedM bs ca cd 1 0 1).1, u61, (rangedM bs ca cd 1 0 1).2.1, (rangedM bs ca cd 1 0 1).2.2) H ⟨rfl, rfl, rfl, rfl, rfl, rfl, trivial⟩ ⟨by first | rfl | exact hfl.symm, by first | exact h1 | exact ranged_in _ _ _ h1, hS⟩
          · skip
            refine wp_seq ?_
            refine wp_region_lit ?_
            refine n_q H (q_eql rfl rfl) rfl ?_
            clear H a; intro a H
            refine n_q H (q_assign rfl) rfl ?_
            clear H a; intro a H
            refine n_nil ?_
            refine then_normal ?_
            refine c_cond H rfl (fun hc66 => ?_) (fun hc66 => ?_)
            · skip
              refine wp_seq ?_
              refine wp_region_lit ?_
              refine n_q H (q_move rfl) rfl ?_
              clear H a; intro a H
              refine n_q H (q_fieldAddr0 rfl fo29_3) rfl ?_
              clear H a; intro a H
              refine n_q H (q_load rfl ((hS.blk 1 rfl).ld ag3 rfl)) rfl ?_
              clear H a; intro a H
              refine n_q H (q_fieldAddr0 rfl fo29_4) rfl ?_
              clear H a; intro a H
              refine n_q H (q_load rfl ((hS.blk 1 rfl).ld ag3 rfl)) rfl ?_
              clear H a; intro a H
              refine n_q H (q_fieldAddr0 rfl fo29_5) rfl ?_
              clear H a; intro a H
              refine n_q H (q_load rfl ((hS.blk 1 rfl).ld ag3 rfl)) rfl ?_
              clear H a; intro a H
              replace hS := hS.pick 3 rfl
              dsimp only [List.eraseIdx] at hS
              obtain ⟨fp76, hG76, hK76, hR76, hF76⟩ := hS.frame1
              refine n_call H rfl en111 (rRanged_w (fun w' hw => hb2 _ (hK76 _ hw)) h1 h2 h3 hG76) rfl ?_
              clear H a; intro v44 w42 hv a H
              obtain ⟨rfl, hE43⟩ := hv
              replace hS := hF76 _ _ hE43
              simp only [List.cons_append, List.nil_append] at hS
              clear hG76 hK76 hR76 hF76
              refine n_q H (q_move rfl) rfl ?_
              clear H a; intro a H
              refine n_q H (q_extract rfl rfl) rfl ?_
              clear H a; intro a H
              refine n_q H (q_extract rfl rfl) rfl ?_
              clear H a; intro a H
              refine n_q H (q_assign rfl) rfl ?_
              clear H a; intro a H
              replace hS := hS.pick 1 rfl
              dsimp only [List.eraseIdx] at hS
              refine n_storeAll H rfl rfl (vs := [.int .i64 (rangedM bs ca cd o.n o.lo o.hi).2.1.code, .int .i64 (rangedM bs ca cd o.n o.lo o.hi).2.1.place]) rfl sz55 (hS.blk 0 rfl) rfl (by simp [Value.oneCell']) ?_
              clear H; intro w45 hN hC46 hz; clear a; intro a H
              replace hS := hS.setBlk hN hC46; clear hN hz
              refine n_nil ?_
              refine then_normal ?_
              refine wp_region_lit ?_
              refine n_q H (q_move rfl) rfl ?_
              clear H a; intro a H
              refine n_q H (q_fieldAddr0 rfl fo29_3) rfl ?_
              clear H a; intro a H
              refine n_q H (q_load rfl ((hS.blk 2 rfl).ld ag3 rfl)) rfl ?_
              clear H a; intro a H
              refine n_q H (q_fieldAddr0 rfl fo29_4) rfl ?_
              clear H a; intro a H
              refine n_q H (q_load rfl ((hS.blk 2 rfl).ld ag3 rfl)) rfl ?_
              clear H a; intro a H
              refine n_q H (q_fieldAddr0 rfl fo29_5) rfl ?_
              clear H a; intro a H
              refine n_q H (q_load rfl ((hS.blk 2 rfl).ld ag3 rfl)) rfl ?_
              clear H a; intro a H
              replace hS := hS.pick 3 rfl
              dsimp only [List.eraseIdx] at hS
              obtain ⟨fp87, hG87, hK87, hR87, hF87⟩ := hS.frame1
              refine n_call H rfl en69 (ranged_w (fun w' hw => hG _ (hK87 _ hw)) (fun w' hw => hb _ (hK87 _ hw)) h1 h2 h3 hG87) rfl ?_
              clear H a; intro v49 w47 hv a H
              obtain ⟨u87, rfl, hE48⟩ := hv
              replace hS := hF87 _ _ hE48
              simp only [List.cons_append, List.nil_append] at hS
              clear hG87 hK87 hR87 hF87
              refine n_q H (q_move rfl) rfl ?_
              clear H a; intro a H
              refine n_q H (q_extract rfl rfl) rfl ?_
              clear H a; intro a H
              refine n_q H (q_extract rfl rfl) rfl ?_
              clear H a; intro a H
              refine n_q H (q_assign rfl) rfl ?_
              clear H a; intro a H
              refine n_q H (q_assign rfl) rfl ?_
              clear H a; intro a H
              refine n_nil ?_
              refine block_normal ?_
              refine then_normal ?_
              replace hS := hS.pick 2 rfl
              dsimp only [List.eraseIdx] at hS
              replace hS := hS.pick 2 rfl
              dsimp only [List.eraseIdx] at hS
              replace hS := hS.pick 3 rfl
              dsimp only [List.eraseIdx] at hS
              replace hS := hS.pick 3 rfl
              dsimp only [List.eraseIdx] at hS
              replace hS := hS.take 4
              simp only [List.take_succ_cons, List.take_zero] at hS
              exact join ((rangedM bs ca cd o.n o.lo o.hi).1, (rangedM bs ca cd o.n o.lo o.hi).1, u87, (rangedM bs ca cd o.n o.lo o.hi).2.1, (rangedM bs ca cd o.n o.lo o.hi).2.2) H ⟨rfl, rfl, rfl, rfl, rfl, rfl, trivial⟩ ⟨by first | rfl | exact hfl.symm, by first | exact h1 | exact ranged_in _ _ _ h1, hS⟩
            · skip
              refine wp_skip ?_
              refine block_normal ?_
              refine then_normal ?_
              replace hS := hS.noErr (A := A)
              replace hS := hS.pick 1 rfl
              dsimp only [List.eraseIdx] at hS
              replace hS := hS.pick 1 rfl
              dsimp only [List.eraseIdx] at hS
              replace hS := hS.pick 4 rfl
              dsimp only [List.eraseIdx] at hS
              replace hS := hS.pick 4 rfl
              dsimp only [List.eraseIdx] at hS
              replace hS := hS.take 4
              simp only [List.take_succ_cons, List.take_zero] at hS
              exact join (0, 0, .nilIface, .nil, ca) H ⟨rfl, rfl, rfl, rfl, rfl, rfl, trivial⟩ ⟨by first | rfl | exact hfl.symm, by first | exact h1 | exact ranged_in _ _ _ h1, hS⟩
  · clear H hS; clear a
    intro xx a w50 H hR
    obtain ⟨n1, m1, u1, e1, a1⟩ := xx
    simp only [ent, List.map_cons, List.map_nil] at H
    try dsimp only at hR
    obtain ⟨hnm, ha1, hS⟩ := hR; try clear hR
    refine wp_seq ?_
    refine wp_region_lit ?_
    refine n_c H (fun HC => ?_); clear H
    refine nc_q HC (q_move rfl) rfl (by kernel_rfl) ?_
    clear HC a; intro a HC
    refine nc_q HC (q_move rfl) rfl (by kernel_rfl) ?_
    clear HC a; intro a HC
    refine nc_q HC (q_eql rfl rfl) rfl (by kernel_rfl) ?_
    clear HC a; intro a HC
    refine nc_q HC (q_move rfl) rfl (by kernel_rfl) ?_
    clear HC a; intro a HC
    refine nc_g HC (q_move rfl) (by kernel_rfl) (by kernel_rfl) (by kernel_rfl) ?_
    clear HC a; intro a HC
    refine nc_g HC (q_load rfl ((hS.blk 3 rfl).ldAll ag55 sz55)) (by kernel_rfl) (by kernel_rfl) (by kernel_rfl) ?_
    clear HC a; intro a HC
    refine nc_gcall0 HC rfl en23 (same_self (hG _ hS.chg) (hH _ hS.chg) (hS.any 2 rfl)) (by kernel_rfl) (by kernel_rfl) (by kernel_rfl) ?_
    clear HC a; intro w51 hE52 a HC
    replace hS := hS.ext hE52
    refine nc_and (j := 3) HC rfl rfl rfl (by kernel_rfl) (by kernel_rfl) ?_
    clear HC a; intro a HC
    refine nc_q HC (q_assign rfl) rfl (by kernel_rfl) ?_
    clear HC a; intro a HC
    have H := HC.has; clear HC
    refine n_nil ?_
    refine then_normal ?_
    refine wp_ret ?_
    replace hS := hS.pick 1 rfl
    dsimp only [List.eraseIdx] at hS
    replace hS := hS.pick 1 rfl
    dsimp only [List.eraseIdx] at hS
    replace hS := hS.take 2
    simp only [List.take_succ_cons, List.take_zero] at hS
    refine ret1 H (.inr rfl) rfl rfl ?_
    exact ⟨congrArg Value.bool (by simp [hnm]), _, ha1, hS⟩

/-- One cursor moves, and a new one over the same bytes comes. -/
theorem St.cuPutAdd {fp : Nat → Prop} {w0 w : World} {rs : List Rs} {b k a' a2' pn qn x1 x2 n m : Nat} {l : List CurM} {vI vW : Value} {xs ys : List Value} {c : CurM} (hk : l[k]? = some c)
    (h : St fp w0 w (cuR c.p c.v a' c.d :: rcR c.q c.v2 a2' c.d :: starR ((l.map curF).eraseIdx k) :: anyR (arrs l) :: blkR b [vI, vW] 37 :: ownR 39 1 vI n xs :: ownR 51 1 vW m ys :: cuR pn c.v x1 x2 :: rcR qn c.v2 x1 x2 :: rs)) (h1 : a' ≤ c.d) (h2 : a2' ≤ c.d)
    (hn : n = l.length + 1) (hm : m = l.length + 1) (hx : xs = l.map pP ++ [.pointer (some ⟨pn, 0, none⟩)]) (hy : ys = l.map pQ ++ [.pointer (some ⟨qn, 0, none⟩)]) (h3 : x1 ≤ x2) (h4 : x2 ≤ c.bs.length) :
    St fp w0 w (Go.Proofs.YtdglaodhmlocdaaDoor.cuS b (l.set k { c with a := a', a2 := a2' } ++ [⟨pn, qn, c.v, c.v2, c.bs, x1, x1, x2⟩]) :: rs) := by
  have hl := (List.getElem?_eq_some_iff.1 hk).1
  subst hn; subst hm; subst hx; subst hy
  have h := h.pick 6 rfl
  simp only [List.eraseIdx_cons_succ, List.eraseIdx_cons_zero] at h
  have h := h.pick 6 rfl
  simp only [List.eraseIdx_cons_succ, List.eraseIdx_cons_zero] at h
  have h := h.pick 6 rfl
  simp only [List.eraseIdx_cons_succ, List.eraseIdx_cons_zero] at h
  have h := h.pick 6 rfl
  simp only [List.eraseIdx_cons_succ, List.eraseIdx_cons_zero] at h
  have h := h.pick 6 rfl
  simp only [List.eraseIdx_cons_succ, List.eraseIdx_cons_zero] at h
  have h := h.pick 6 rfl
  simp only [List.eraseIdx_cons_succ, List.eraseIdx_cons_zero] at h
  have h := h.pick 6 rfl
  simp only [List.eraseIdx_cons_succ, List.eraseIdx_cons_zero] at h
  have h := h.pick 8 rfl
  simp only [List.eraseIdx_cons_succ, List.eraseIdx_cons_zero] at h
  have h := h.pick 8 rfl
  simp only [List.eraseIdx_cons_succ, List.eraseIdx_cons_zero] at h
  have h := h.fold [_, _]
  have h := h.pick 7 rfl
  simp only [List.eraseIdx_cons_succ, List.eraseIdx_cons_zero] at h
  have h := h.pick 7 rfl
  simp only [List.eraseIdx_cons_succ, List.eraseIdx_cons_zero] at h
  have h := h.pick 7 rfl
  simp only [List.eraseIdx_cons_succ, List.eraseIdx_cons_zero] at h
  have h := h.pick 7 rfl
  simp only [List.eraseIdx_cons_succ, List.eraseIdx_cons_zero] at h
  have h := h.pick 7 rfl
  simp only [List.eraseIdx_cons_succ, List.eraseIdx_cons_zero] at h
  have h := h.pick 7 rfl
  simp only [List.eraseIdx_cons_succ, List.eraseIdx_cons_zero] at h
  have h := h.pick 7 rfl
  simp only [List.eraseIdx_cons_succ, List.eraseIdx_cons_zero] at h
  have h := h.fold [_, _]
  have h := St.starPut (f := curF) (c' := { c with a := a', a2 := a2' }) hl h
  have h := h.pick 4 rfl
  simp only [List.eraseIdx_cons_succ, List.eraseIdx_cons_zero] at h
  have h := h.pick 4 rfl
  simp only [List.eraseIdx_cons_succ, List.eraseIdx_cons_zero] at h
  have h := h.pick 4 rfl
  simp only [List.eraseIdx_cons_succ, List.eraseIdx_cons_zero] at h
  have h := h.pick 3 rfl
  simp only [List.eraseIdx_cons_succ, List.eraseIdx_cons_zero] at h
  have h := h.pick 5 rfl
  simp only [List.eraseIdx_cons_succ, List.eraseIdx_cons_zero] at h
  have h := h.pick 5 rfl
  simp only [List.eraseIdx_cons_succ, List.eraseIdx_cons_zero] at h
  have h := h.anyMono (G := arrs (l.set k { c with a := a', a2 := a2' } ++ [⟨pn, qn, c.v, c.v2, c.bs, x1, x1, x2⟩])) fun w' hw x hx => by
    have hc := hw c (List.mem_of_getElem? hk)
    rcases List.mem_append.1 hx with hx | hx
    · rcases List.mem_or_eq_of_mem_set hx with hx | rfl
      · exact hw x hx
      · exact ⟨hc.1, hc.2.1, h1, h2, hc.2.2.2.2⟩
    · rw [List.mem_singleton.1 hx]
      exact ⟨hc.1, hc.2.1, h3, h3, h4, hc.2.2.2.2.2⟩
  have h := h.pick 5 rfl
  simp only [List.eraseIdx_cons_succ, List.eraseIdx_cons_zero] at h
  have h := h.pick 5 rfl
  simp only [List.eraseIdx_cons_succ, List.eraseIdx_cons_zero] at h
  have h := h.pick 5 rfl
  simp only [List.eraseIdx_cons_succ, List.eraseIdx_cons_zero] at h
  have h := h.pick 3 rfl
  simp only [List.eraseIdx_cons_succ, List.eraseIdx_cons_zero] at h
  have h := h.pick 5 rfl
  simp only [List.eraseIdx_cons_succ, List.eraseIdx_cons_zero] at h
  have h := h.pick 5 rfl
  simp only [List.eraseIdx_cons_succ, List.eraseIdx_cons_zero] at h
  have h := St.starAdd (f := curF) (c := ⟨pn, qn, c.v, c.v2, c.bs, x1, x1, x2⟩) h
  have h := h.pick 1 rfl
  simp only [List.eraseIdx_cons_succ, List.eraseIdx_cons_zero] at h
  have h := h.pick 1 rfl
  simp only [List.eraseIdx_cons_succ, List.eraseIdx_cons_zero] at h
  have h := h.pick 4 rfl
  simp only [List.eraseIdx_cons_succ, List.eraseIdx_cons_zero] at h
  have h := h.pick 4 rfl
  simp only [List.eraseIdx_cons_succ, List.eraseIdx_cons_zero] at h
  have h := h.pick 4 rfl
  simp only [List.eraseIdx_cons_succ, List.eraseIdx_cons_zero] at h
  exact h.cuMk (by simp) (by simp) (by rw [List.map_append, set_same (c' := { c with a := a', a2 := a2' }) pP hk rfl]; rfl) (by rw [List.map_append, set_same (c' := { c with a := a', a2 := a2' }) pQ hk rfl]; rfl)
/-- Every cursor stands where the document's does. -/
def even (l : List CurM) : Prop := ∀ c ∈ l, c.a = c.a2
theorem even.set {l : List CurM} {k a' : Nat} {c : CurM} (h : even l) : even (l.set k { c with a := a', a2 := a' }) := fun x hx => by
  rcases List.mem_or_eq_of_mem_set hx with hx | rfl
  · exact h x hx
  · rfl
theorem even.setX {l : List CurM} {k : Nat} {c' : CurM} (h : even l) (hc : c'.a = c'.a2) : even (l.set k c') := fun x hx => by
  rcases List.mem_or_eq_of_mem_set hx with hx | rfl
  · exact h x hx
  · exact hc
theorem even.app {l : List CurM} {c : CurM} (h : even l) (hc : c.a = c.a2) : even (l ++ [c]) := fun x hx => by
  rcases List.mem_append.1 hx with hx | hx
  · exact h x hx
  · rw [List.mem_singleton.1 hx]; exact hc
theorem next_in {bs : List UInt8} {a d : Nat} (h : a ≤ d) (h2 : d ≤ bs.length) : (nextM bs a d).2.2.2 ≤ d ∧ ∀ x, (nextM bs a d).2.1 = some x → x.1 ≤ x.2 ∧ x.2 ≤ d := by
  rcases hq : (nextM bs a d).2.1 with _ | x
  · refine ⟨?_, fun x hx => by cases hx⟩
    have := (stepOk_next0 (m := 0) h hq)
    by_cases he : (nextM bs a d).2.2.1 = .nil
    · have := this.2 he; omega
    · have := this.1 he; omega
  · have hn := stepOk_next1 h h2 hq
    refine ⟨?_, fun y hy => by cases hy; exact ⟨hn.1, hn.2.1⟩⟩
    by_cases he : (nextM bs a d).2.2.1 = .nil
    · have := hn.2.2.2 he; omega
    · have := hn.2.2.1 he; omega
theorem record_in {bs : List UInt8} {a d : Nat} {t : Int} (h : a ≤ d) (h2 : d ≤ bs.length) : (recordM bs a d t).2.2 ≤ d ∧ ∀ x, (recordM bs a d t).1 = some x → x.1 ≤ x.2 ∧ x.2 ≤ d := by
  unfold recordM
  split
  · exact ⟨h, fun x hx => by cases hx⟩
  split
  · exact ⟨h, fun x hx => by cases hx⟩
  split
  · exact ⟨h, fun x hx => by cases hx⟩
  · have hp := peekN_lt (bs := bs) (a := a + 1) (k := 2) (by omega)
    exact ⟨by dsimp only; omega, fun x hx => by cases hx; exact ⟨by dsimp only; omega, by dsimp only; omega⟩⟩
set_option maxHeartbeats 8000000 in
theorem record_w {w : World} {fp : Nat → Prop} {A : Nat → Addr} {bc k : Nat} {l : List CurM} {c : CurM} {o : OpM} (hk : l[k]? = some c) (hev : even l) (hl : l.length ≤ 16777216) (hG : ∀ w', ChgP fp w w' → EV A w') (hH : ∀ w', ChgP fp w w' → HE w') (hP0 : Sep w fp [cuS bc l]) :
    Calls Tryd.prog 74 [.pointer (some ⟨bc, 0, none⟩), .pointer (some ⟨c.p, 0, none⟩), .pointer (some ⟨c.q, 0, none⟩), opV o].toArray w (Ret fun r w' => r = .bool true ∧ ∃ l', l'.length ≤ l.length + 1 ∧ even l' ∧ St fp w w' [cuS bc l']) := by
  have hS := St.init hP0
  obtain ⟨p, q, v1, v2, bs, ca, ca2, cd⟩ := c
  have hcc : ca = ca2 := hev _ (List.mem_of_getElem? hk)
  subst hcc
  dsimp only
  obtain ⟨vI, vW, hS⟩ := hS.cuS
  have hwf := (hS.any 4 rfl : arrs l _) _ (List.mem_of_getElem? hk)
  have h1 : ca ≤ cd := hwf.2.2.1
  have h2 : cd ≤ bs.length := hwf.2.2.2.2.1
  have h3 : bs.length ≤ 70368744177664 := hwf.2.2.2.2.2
  clear hwf
  replace hS := hS.pick 3 rfl
  simp only [List.eraseIdx_cons_succ, List.eraseIdx_cons_zero] at hS
  replace hS := hS.starAt hk
  replace hS := St.star (rs1 := [cuR p v1 ca cd, rcR q v2 ca cd]) hS
  simp only [List.cons_append, List.nil_append] at hS
  refine enter Tryd.func74 rfl rfl rfl ?_
  intro a H
  dsimp only [enumL, Nat.zero_add, Nat.reduceAdd] at H
  refine wp_seq ?_
  refine wp_region_lit ?_
  refine n_box H rfl (cs := (eOp o)) rfl rfl ?_
  clear H; intro b7 w1 hN hE2 hs_b7; clear a; intro a H
  replace hS := hS.newBlk hN hE2 hs_b7; clear hN hE2
  refine n_q H (q_assign rfl) rfl ?_
  clear H a; intro a H
  refine n_nil ?_
  refine then_normal ?_
  refine wp_seq ?_
  refine wp_region_lit ?_
  refine n_q H (q_assign rfl) rfl ?_
  clear H a; intro a H
  refine n_q H (q_assign rfl) rfl ?_
  clear H a; intro a H
  refine n_nil ?_
  refine then_normal ?_
  refine wp_seq ?_
  refine wp_region_lit ?_
  refine n_q H (q_assign rfl) rfl ?_
  clear H a; intro a H
  refine n_nil ?_
  refine then_normal ?_
  refine wp_seq ?_
  refine wp_region_lit ?_
  refine n_call H rfl en54 (rNone_w) rfl ?_
  clear H a; intro v5 w3 hv a H
  obtain ⟨rfl, hE4⟩ := hv
  replace hS := hS.ext hE4
  refine n_alloc H ze55 rfl ?_
  clear H; intro b13 w6 hN hE7 hs_b13; clear a; intro a H
  replace hS := hS.newBlk hN hE7 hs_b13; clear hN hE7
  refine n_q H (q_assign rfl) rfl ?_
  clear H a; intro a H
  refine n_storeAll H rfl rfl (vs := [.int .i64 0, .int .i64 (-1)]) rfl sz55 (hS.blk 0 rfl) rfl (by simp [Value.oneCell']) ?_
  clear H; intro w8 hN hC9 hz; clear a; intro a H
  replace hS := hS.setBlk hN hC9; clear hN hz
  refine n_nil ?_
  refine then_normal ?_
  refine wp_seq ?_
  refine wp_region_lit ?_
  refine n_q H (q_assign rfl) rfl ?_
  clear H a; intro a H
  refine n_nil ?_
  refine then_normal ?_
  refine c_join (σ := Int × Option Addr × Option Addr × Value × ErrM × Option (Nat × Nat) × Nat) H (fun (t1, qp, qq, u1, e1, nw, a1) => [(0, .pointer (some ⟨bc, 0, none⟩)), (1, .pointer (some ⟨p, 0, none⟩)), (2, .pointer (some ⟨q, 0, none⟩)), (9, .int .i64 t1), (10, u1), (11, .pointer qp), (12, .int .i64 t1), (13, .pointer (some ⟨b13, 0, none⟩)), (14, .pointer qq)]) (fun (t1, qp, qq, u1, e1, nw, a1) wl => (a1 ≤ cd ∧ ∀ x, nw = some x → x.1 ≤ x.2 ∧ x.2 ≤ cd) ∧ St fp w wl [cuR p v1 a1 cd, rcR q v2 a1 cd, erR A u1 e1, ncR v1 qp nw, rnR v2 qq nw, blkR b13 [.int .i64 e1.code, .int .i64 e1.place] 55, starR ((l.map curF).eraseIdx k), blkR bc [vI, vW] 37, ownR 39 1 vI l.length (l.map pP), ownR 51 1 vW l.length (l.map pQ), anyR (arrs l)]) ?_ ?_
  · skip
    refine wp_seq ?_
    refine wp_region_lit ?_
    refine n_q H (q_fieldAddr0 rfl fo29_0) rfl ?_
    clear H a; intro a H
    refine n_q H (q_load rfl ((hS.blk 1 rfl).ld ag3 rfl)) rfl ?_
    clear H a; intro a H
    refine n_q H (q_eql rfl rfl) rfl ?_
    clear H a; intro a H
    refine n_nil ?_
    refine then_normal ?_
    refine c_cond H rfl (fun hc18 => ?_) (fun hc18 => ?_)
    · skip
      refine wp_seq ?_
      refine wp_region_lit ?_
      refine n_q H (q_move rfl) rfl ?_
      clear H a; intro a H
      replace hS := hS.pick 3 rfl
      dsimp only [List.eraseIdx] at hS
      obtain ⟨fp21, hG21, hK21, hR21, hF21⟩ := hS.frame1
      refine n_call H rfl en83 (rNext_w (fun w' hw => ((restAny (hR21 7 _ rfl _ hw) : arrs l w') _ (List.mem_of_getElem? hk)).2.1) h1 h2 h3 hG21) rfl ?_
      clear H a; intro v12 w10 hv a H
      obtain ⟨q21, rfl, hE11⟩ := hv
      replace hS := hF21 _ _ hE11
      simp only [List.cons_append, List.nil_append] at hS
      clear hG21 hK21 hR21 hF21
      refine n_q H (q_move rfl) rfl ?_
      clear H a; intro a H
      refine n_q H (q_extract rfl rfl) rfl ?_
      clear H a; intro a H
      refine n_q H (q_extract rfl rfl) rfl ?_
      clear H a; intro a H
      refine n_q H (q_extract rfl rfl) rfl ?_
      clear H a; intro a H
      refine n_q H (q_assign rfl) rfl ?_
      clear H a; intro a H
      refine n_q H (q_assign rfl) rfl ?_
      clear H a; intro a H
      replace hS := hS.pick 2 rfl
      dsimp only [List.eraseIdx] at hS
      refine n_storeAll H rfl rfl (vs := [.int .i64 (nextM bs ca cd).2.2.1.code, .int .i64 (nextM bs ca cd).2.2.1.place]) rfl sz55 (hS.blk 0 rfl) rfl (by simp [Value.oneCell']) ?_
      clear H; intro w13 hN hC14 hz; clear a; intro a H
      replace hS := hS.setBlk hN hC14; clear hN hz
      refine n_nil ?_
      refine then_normal ?_
      refine wp_region_lit ?_
      refine n_q H (q_move rfl) rfl ?_
      clear H a; intro a H
      replace hS := hS.pick 4 rfl
      dsimp only [List.eraseIdx] at hS
      obtain ⟨fp27, hG27, hK27, hR27, hF27⟩ := hS.frame1
      refine n_call H rfl en72 (next_w (fun w' hw => hG _ (hK27 _ hw)) (fun w' hw => ((restAny (hR27 8 _ rfl _ hw) : arrs l w') _ (List.mem_of_getElem? hk)).1) h1 h2 h3 hG27) rfl ?_
      clear H a; intro v17 w15 hv a H
      obtain ⟨q27, u27, rfl, hE16⟩ := hv
      replace hS := hF27 _ _ hE16
      simp only [List.cons_append, List.nil_append] at hS
      clear hG27 hK27 hR27 hF27
      refine n_q H (q_move rfl) rfl ?_
      clear H a; intro a H
      refine n_q H (q_extract rfl rfl) rfl ?_
      clear H a; intro a H
      refine n_q H (q_extract rfl rfl) rfl ?_
      clear H a; intro a H
      refine n_q H (q_extract rfl rfl) rfl ?_
      clear H a; intro a H
      refine n_q H (q_assign rfl) rfl ?_
      clear H a; intro a H
      refine n_q H (q_assign rfl) rfl ?_
      clear H a; intro a H
      refine n_q H (q_assign rfl) rfl ?_
      clear H a; intro a H
      refine n_nil ?_
      refine then_normal ?_
      replace hS := hS.pick 11 rfl
      dsimp only [List.eraseIdx] at hS
      replace hS := hS.pick 11 rfl
      dsimp only [List.eraseIdx] at hS
      replace hS := hS.pick 11 rfl
      dsimp only [List.eraseIdx] at hS
      replace hS := hS.pick 11 rfl
      dsimp only [List.eraseIdx] at hS
      replace hS := hS.pick 11 rfl
      dsimp only [List.eraseIdx] at hS
      replace hS := hS.pick 8 rfl
      dsimp only [List.eraseIdx] at hS
      replace hS := hS.pick 10 rfl
      dsimp only [List.eraseIdx] at hS
      replace hS := hS.pick 9 rfl
      dsimp only [List.eraseIdx] at hS
      replace hS := hS.pick 9 rfl
      dsimp only [List.eraseIdx] at hS
      replace hS := hS.pick 10 rfl
      dsimp only [List.eraseIdx] at hS
      replace hS := hS.pick 10 rfl
      dsimp only [List.eraseIdx] at hS
      replace hS := hS.take 11
      simp only [List.take_succ_cons, List.take_zero] at hS
      exact join ((nextM bs ca cd).1, q27, q21, u27, (nextM bs ca cd).2.2.1, (nextM bs ca cd).2.1, (nextM bs ca cd).2.2.2) H ⟨rfl, rfl, rfl, rfl, rfl, rfl, rfl, rfl, rfl, trivial⟩ ⟨by first | exact next_in h1 h2 | exact record_in h1 h2, hS⟩
    · skip
      refine wp_seq ?_
      refine wp_region_lit ?_
      refine n_q H (q_move rfl) rfl ?_
      clear H a; intro a H
      refine n_q H (q_fieldAddr0 rfl fo29_3) rfl ?_
      clear H a; intro a H
      refine n_q H (q_load rfl ((hS.blk 1 rfl).ld ag3 rfl)) rfl ?_
      clear H a; intro a H
      replace hS := hS.pick 3 rfl
      dsimp only [List.eraseIdx] at hS
      obtain ⟨fp35, hG35, hK35, hR35, hF35⟩ := hS.frame1
      refine n_call H rfl en85 (rRecordC_w (t := o.n) (fun w' hw => ((restAny (hR35 7 _ rfl _ hw) : arrs l w') _ (List.mem_of_getElem? hk)).2.1) h1 h2 h3 hG35) rfl ?_
      clear H a; intro v20 w18 hv a H
      obtain ⟨q35, rfl, hE19⟩ := hv
      replace hS := hF35 _ _ hE19
      simp only [List.cons_append, List.nil_append] at hS
      clear hG35 hK35 hR35 hF35
      refine n_q H (q_move rfl) rfl ?_
      clear H a; intro a H
      refine n_q H (q_extract rfl rfl) rfl ?_
      clear H a; intro a H
      refine n_q H (q_extract rfl rfl) rfl ?_
      clear H a; intro a H
      refine n_q H (q_assign rfl) rfl ?_
      clear H a; intro a H
      replace hS := hS.pick 2 rfl
      dsimp only [List.eraseIdx] at hS
      refine n_storeAll H rfl rfl (vs := [.int .i64 (recordM bs ca cd o.n).2.1.code, .int .i64 (recordM bs ca cd o.n).2.1.place]) rfl sz55 (hS.blk 0 rfl) rfl (by simp [Value.oneCell']) ?_
      clear H; intro w21 hN hC22 hz; clear a; intro a H
      replace hS := hS.setBlk hN hC22; clear hN hz
      refine n_nil ?_
      refine then_normal ?_
      refine wp_region_lit ?_
      refine n_q H (q_move rfl) rfl ?_
      clear H a; intro a H
      refine n_q H (q_fieldAddr0 rfl fo29_3) rfl ?_
      clear H a; intro a H
      refine n_q H (q_load rfl ((hS.blk 3 rfl).ld ag3 rfl)) rfl ?_
      clear H a; intro a H
      replace hS := hS.pick 4 rfl
      dsimp only [List.eraseIdx] at hS
      obtain ⟨fp42, hG42, hK42, hR42, hF42⟩ := hS.frame1
      refine n_call H rfl en52 (cRecord_w (t := o.n) (fun w' hw => hG _ (hK42 _ hw)) (fun w' hw => ((restAny (hR42 8 _ rfl _ hw) : arrs l w') _ (List.mem_of_getElem? hk)).1) h1 h2 h3 hG42) rfl ?_
      clear H a; intro v25 w23 hv a H
      obtain ⟨q42, u42, rfl, hE24⟩ := hv
      replace hS := hF42 _ _ hE24
      simp only [List.cons_append, List.nil_append] at hS
      clear hG42 hK42 hR42 hF42
      refine n_q H (q_move rfl) rfl ?_
      clear H a; intro a H
      refine n_q H (q_extract rfl rfl) rfl ?_
      clear H a; intro a H
      refine n_q H (q_extract rfl rfl) rfl ?_
      clear H a; intro a H
      refine n_q H (q_assign rfl) rfl ?_
      clear H a; intro a H
      refine n_q H (q_assign rfl) rfl ?_
      clear H a; intro a H
      refine n_nil ?_
      refine then_normal ?_
      replace hS := hS.pick 11 rfl
      dsimp only [List.eraseIdx] at hS
      replace hS := hS.pick 11 rfl
      dsimp only [List.eraseIdx] at hS
      replace hS := hS.pick 11 rfl
      dsimp only [List.eraseIdx] at hS
      replace hS := hS.pick 11 rfl
      dsimp only [List.eraseIdx] at hS
      replace hS := hS.pick 11 rfl
      dsimp only [List.eraseIdx] at hS
      replace hS := hS.pick 8 rfl
      dsimp only [List.eraseIdx] at hS
      replace hS := hS.pick 10 rfl
      dsimp only [List.eraseIdx] at hS
      replace hS := hS.pick 9 rfl
      dsimp only [List.eraseIdx] at hS
      replace hS := hS.pick 9 rfl
      dsimp only [List.eraseIdx] at hS
      replace hS := hS.pick 10 rfl
      dsimp only [List.eraseIdx] at hS
      replace hS := hS.pick 10 rfl
      dsimp only [List.eraseIdx] at hS
      replace hS := hS.take 11
      simp only [List.take_succ_cons, List.take_zero] at hS
      exact join (0, q42, q35, u42, (recordM bs ca cd o.n).2.1, (recordM bs ca cd o.n).1, (recordM bs ca cd o.n).2.2) H ⟨rfl, rfl, rfl, rfl, rfl, rfl, rfl, rfl, rfl, trivial⟩ ⟨by first | exact next_in h1 h2 | exact record_in h1 h2, hS⟩
  · clear H hS; clear a
    intro xx a w26 H hR
    obtain ⟨t1, qp, qq, u1, e1, nw, a1⟩ := xx
    simp only [ent, List.map_cons, List.map_nil] at H
    try dsimp only at hR
    obtain ⟨hin, hS⟩ := hR; try clear hR
    refine wp_seq ?_
    refine wp_seq ?_
    refine wp_region_lit ?_
    refine n_c H (fun HC => ?_); clear H
    have hn1 : qp.isNone = nw.isNone := by
      rcases nw with _ | x
      · obtain ⟨hq, _⟩ := (hS.pick 3 rfl).ncGet0; rw [hq]; rfl
      · obtain ⟨pq, hq, _⟩ := (hS.pick 3 rfl).ncGet; rw [hq]; rfl
    have hn2 : qq.isNone = nw.isNone := by
      rcases nw with _ | x
      · obtain ⟨hq, _⟩ := (hS.pick 4 rfl).rnGet0; rw [hq]; rfl
      · obtain ⟨pq, hq, _⟩ := (hS.pick 4 rfl).rnGet; rw [hq]; rfl
    refine nc_q HC (q_move rfl) rfl (by kernel_rfl) ?_
    clear HC a; intro a HC
    refine nc_q HC (q_move rfl) rfl (by kernel_rfl) ?_
    clear HC a; intro a HC
    refine nc_q HC (q_neq rfl rfl) rfl (by kernel_rfl) ?_
    clear HC a; intro a HC
    refine nc_q HC (q_move rfl) rfl (by kernel_rfl) ?_
    clear HC a; intro a HC
    refine nc_g HC (q_move rfl) (by kernel_rfl) (by kernel_rfl) (by kernel_rfl) ?_
    clear HC a; intro a HC
    refine nc_g HC (q_load rfl ((hS.blk 5 rfl).ldAll ag55 sz55)) (by kernel_rfl) (by kernel_rfl) (by kernel_rfl) ?_
    clear HC a; intro a HC
    refine nc_gcall0 HC rfl en23 (same_self (hG _ hS.chg) (hH _ hS.chg) (hS.any 2 rfl)) (by kernel_rfl) (by kernel_rfl) (by kernel_rfl) ?_
    clear HC a; intro w27 hE28 a HC
    replace hS := hS.ext hE28
    refine nc_g HC (q_not rfl) (by kernel_rfl) (by kernel_rfl) (by kernel_rfl) ?_
    clear HC a; intro a HC
    refine nc_or (j := 3) HC rfl rfl rfl (by kernel_rfl) (by kernel_rfl) ?_
    clear HC a; intro a HC
    refine nc_q HC (q_move rfl) rfl (by kernel_rfl) ?_
    clear HC a; intro a HC
    refine nc_g HC (q_move rfl) (by kernel_rfl) (by kernel_rfl) (by kernel_rfl) ?_
    clear HC a; intro a HC
    refine nc_g HC (q_nilP Tryd.underlying39 rfl rfl) (by kernel_rfl) (by kernel_rfl) (by kernel_rfl) ?_
    clear HC a; intro a HC
    refine nc_g HC (q_move rfl) (by kernel_rfl) (by kernel_rfl) (by kernel_rfl) ?_
    clear HC a; intro a HC
    refine nc_g HC (q_nilP Tryd.underlying51 rfl rfl) (by kernel_rfl) (by kernel_rfl) (by kernel_rfl) ?_
    clear HC a; intro a HC
    refine nc_g HC (q_neqB Tryd.underlying4 rfl rfl) (by kernel_rfl) (by kernel_rfl) (by kernel_rfl) ?_
    clear HC a; intro a HC
    refine nc_or (j := 9) HC rfl rfl rfl (by kernel_rfl) (by kernel_rfl) ?_
    clear HC a; intro a HC
    have H := HC.has; clear HC
    refine n_nil ?_
    refine then_normal ?_
    refine c_cond H rfl (fun hc60 => ?_) (fun hc60 => ?_)
    · skip
      rw [hn1, hn2] at hc60; simp at hc60
    · skip
      refine wp_skip ?_
      refine then_normal ?_
      refine c_join (σ := Nat) H (fun z => [(0, .pointer (some ⟨bc, 0, none⟩))]) (fun z wl => ∃ l1 : List CurM, l1.length ≤ l.length + 1 ∧ even l1 ∧ St fp w wl [cuS bc l1]) ?_ ?_
      · skip
        refine wp_seq ?_
        refine wp_region_lit ?_
        refine n_q H (q_move rfl) rfl ?_
        clear H a; intro a H
        refine n_q H (q_nnilP Tryd.underlying39 rfl rfl) rfl ?_
        clear H a; intro a H
        refine n_nil ?_
        refine then_normal ?_
        refine c_cond H rfl (fun hc62 => ?_) (fun hc62 => ?_)
        · skip
          obtain ⟨x, hx⟩ : ∃ x, nw = some x := by
            rcases nw with _ | x
            · rw [hn1] at hc62; simp at hc62
            · exact ⟨x, rfl⟩
          subst hx
          have hx1 := hin.2 x rfl
          replace hS := hS.pick 3 rfl
          dsimp only [List.eraseIdx] at hS
          obtain ⟨pn, hqn, hS3⟩ := hS.ncGet
          replace hS := hS3
          clear hS3
          subst hqn
          replace hS := hS.pick 4 rfl
          dsimp only [List.eraseIdx] at hS
          obtain ⟨qn, hqn2, hS3⟩ := hS.rnGet
          replace hS := hS3
          clear hS3
          subst hqn2
          refine c_ord (blks vI ++ blks vW) 18 (by kernel_rfl) ?_
          obtain ⟨w29, hw29⟩ : ∃ x, x = w27.drew := ⟨_, rfl⟩
          rw [← hw29]
          have hE30 : Ext w27 w29 := by rw [hw29]; exact Ext.drew' _
          clear hw29
          replace hS := hS.ext hE30
          have hh_qn := (hS.blk 0 rfl).lt
          have hh_pn := (hS.blk 1 rfl).lt
          have hh_p := (hS.blk 2 rfl).lt
          have hh_q := (hS.blk 3 rfl).lt
          have hh_b13 := (hS.blk 5 rfl).lt
          have hh_bc := (hS.blk 7 rfl).lt
          have hnbc : bc ∉ blks vI ++ blks vW := fun hm => (List.mem_append.1 hm).elim (hS.neOwn (by decide : (7 : Nat) ≠ 8) rfl rfl) (hS.neOwn (by decide : (7 : Nat) ≠ 9) rfl rfl)
          refine k_take 0 H rfl (q_move rfl) rfl (by kernel_rfl) (by kernel_rfl) (by kernel_rfl) (by kernel_rfl) (fun _ _ _ h => h) ?_
          clear H a; intro a H
          refine k_take 2 H rfl (q_move rfl) rfl (by kernel_rfl) (by kernel_rfl) (by kernel_rfl) (by kernel_rfl) (fun _ _ _ h => h) ?_
          clear H a; intro a H
          refine k_take 3 H rfl (q_nilCheck rfl) rfl (by kernel_rfl) (by kernel_rfl) (by kernel_rfl) (by kernel_rfl) (fun _ _ _ h => h) ?_
          clear H a; intro a H
          refine k_take 4 H rfl (q_fieldAddr0 rfl fo37_0) rfl (by kernel_rfl) (by kernel_rfl) (by kernel_rfl) (by kernel_rfl) (fun _ _ _ h => h) ?_
          clear H a; intro a H
          refine k_take 5 H rfl (q_load rfl ((hS.blk 7 rfl).ldB hh_bc hnbc ag34 rfl)) rfl (by kernel_rfl) (by kernel_rfl) (by kernel_rfl) (by kernel_rfl) (fun _ _ _ h => h) ?_
          clear H a; intro a H
          refine k_take 6 H rfl (q_move rfl) rfl (by kernel_rfl) (by kernel_rfl) (by kernel_rfl) (by kernel_rfl) (fun _ _ _ h => h) ?_
          clear H a; intro a H
          refine k_takeT 1 H rfl (q_move rfl) rfl (by kernel_rfl) (by kernel_rfl) (by kernel_rfl) (by kernel_rfl) (fun _ _ _ h => h) ?_
          clear H a; intro a H
          refine k_takeT 9 H rfl (q_move rfl) rfl (by kernel_rfl) (by kernel_rfl) (by kernel_rfl) (by kernel_rfl) (fun _ _ _ h => h) ?_
          clear H a; intro a H
          refine k_takeT 10 H rfl (q_nilCheck rfl) rfl (by kernel_rfl) (by kernel_rfl) (by kernel_rfl) (by kernel_rfl) (fun _ _ _ h => h) ?_
          clear H a; intro a H
          refine k_takeT 11 H rfl (q_fieldAddr0 rfl fo37_1) rfl (by kernel_rfl) (by kernel_rfl) (by kernel_rfl) (by kernel_rfl) (fun _ _ _ h => h) ?_
          clear H a; intro a H
          refine k_take 12 H rfl (q_load rfl ((hS.blk 7 rfl).ldB hh_bc hnbc ag35 rfl)) rfl (by kernel_rfl) (by kernel_rfl) (by kernel_rfl) (by kernel_rfl) (fun _ _ _ h => h) ?_
          clear H a; intro a H
          refine k_takeT 13 H rfl (q_move rfl) rfl (by kernel_rfl) (by kernel_rfl) (by kernel_rfl) (by kernel_rfl) (fun _ _ _ h => h) ?_
          clear H a; intro a H
          refine k_two 7 14 (by kernel_rfl) ?_ ?_
          · skip
            refine kk_buildSlice 7 H rfl Tryd.underlying34 sz39 ze39 rfl rfl rfl rfl rfl ?_
            clear H; intro b70 w31 hN hE32 hs_b70; clear a; intro a H
            have hz_b70 := hE32.size
            replace hS := hS.newBlk hN hE32 hs_b70; clear hN hE32
            refine k_two 8 14 (by kernel_rfl) ?_ ?_
            · skip
              replace hS := hS.pick 9 rfl
              dsimp only [List.eraseIdx] at hS
              refine kk_append 8 H rfl rfl rfl Tryd.underlying34 Tryd.underlying34 (by simp) el39 (hS.own 0 rfl) (Own.ofBlk (n := 1) (k := 1) (hS.blk 1 rfl) rfl (by simp [maxLen])).src (by simp <;> rfl) (by omega) (by simp only [maxLen]; omega) rfl (.inl (fun b hb _ => List.mem_append_left _ hb)) ?_
              clear H; intro v71 w33 hN hC34 hb71 hnil71; clear a; intro a H
              have hz71 := hC34.size
              replace hS := hS.setOwn hN hC34 hb71; clear hN
              refine k_buildSlice 14 H rfl Tryd.underlying35 sz51 ze51 rfl rfl rfl rfl rfl (by kernel_rfl) ?_
              clear H; intro b77 w35 hN hE36 hs_b77; clear a; intro a H
              have hz_b77 := hE36.size
              replace hS := hS.newBlk hN hE36 hs_b77; clear hN hE36
              replace hS := hS.pick 11 rfl
              dsimp only [List.eraseIdx] at hS
              refine k_append 15 H rfl rfl rfl Tryd.underlying35 Tryd.underlying35 (by simp) el51 (hS.own 0 rfl) (Own.ofBlk (n := 1) (k := 1) (hS.blk 1 rfl) rfl (by simp [maxLen])).src (by simp <;> rfl) (by omega) (by simp only [maxLen]; omega) rfl (by kernel_rfl) (.inl (fun b hb _ => List.mem_append_right _ hb)) ?_
              clear H; intro v78 w37 hN hC38 hb78 hnil78; clear a; intro a H
              have hz78 := hC38.size
              replace hS := hS.setOwn hN hC38 hb78; clear hN
              refine k_takeT 16 H rfl (q_nilCheck rfl) rfl (by kernel_rfl) (by kernel_rfl) (by kernel_rfl) (by kernel_rfl) (fun _ _ _ h => h) ?_
              clear H a; intro a H
              refine k_take 17 H rfl (q_fieldAddr0 rfl fo37_0) rfl (by kernel_rfl) (by kernel_rfl) (by kernel_rfl) (by kernel_rfl) (fun _ _ _ h => h) ?_
              clear H a; intro a H
              replace hS := hS.pick 11 rfl
              dsimp only [List.eraseIdx] at hS
              refine k_store1 18 H rfl rfl rfl sz34 (hS.blk 0 rfl) (by simp) (hS.own 3 rfl).one (by kernel_rfl) (.inr (by kernel_rfl)) ?_
              clear H; intro w39 hN hC40 hz; clear a; intro a H
              replace hS := hS.setBlk hN hC40; clear hN hz
              try simp only [List.set_cons_succ, List.set_cons_zero] at hS
              refine k_takeT 19 H rfl (q_nilCheck rfl) rfl (by kernel_rfl) (by kernel_rfl) (by kernel_rfl) (by kernel_rfl) (fun _ _ _ h => h) ?_
              clear H a; intro a H
              refine k_takeT 20 H rfl (q_fieldAddr0 rfl fo37_1) rfl (by kernel_rfl) (by kernel_rfl) (by kernel_rfl) (by kernel_rfl) (fun _ _ _ h => h) ?_
              clear H a; intro a H
              refine k_store1 21 H rfl rfl rfl sz35 (hS.blk 0 rfl) (by simp) (hS.own 1 rfl).one (by kernel_rfl) (.inr (by kernel_rfl)) ?_
              clear H; intro w41 hN hC42 hz; clear a; intro a H
              replace hS := hS.setBlk hN hC42; clear hN hz
              try simp only [List.set_cons_succ, List.set_cons_zero] at hS
              refine k_done (by kernel_rfl) ?_
              refine then_normal ?_
              replace hS := hS.pick 5 rfl
              dsimp only [List.eraseIdx] at hS
              replace hS := hS.pick 6 rfl
              dsimp only [List.eraseIdx] at hS
              replace hS := hS.pick 3 rfl
              dsimp only [List.eraseIdx] at hS
              replace hS := hS.pick 5 rfl
              dsimp only [List.eraseIdx] at hS
              replace hS := hS.pick 4 rfl
              dsimp only [List.eraseIdx] at hS
              replace hS := hS.pick 12 rfl
              dsimp only [List.eraseIdx] at hS
              replace hS := hS.pick 12 rfl
              dsimp only [List.eraseIdx] at hS
              replace hS := hS.pick 10 rfl
              dsimp only [List.eraseIdx] at hS
              replace hS := hS.pick 10 rfl
              dsimp only [List.eraseIdx] at hS
              replace hS := hS.take 9
              simp only [List.take_succ_cons, List.take_zero] at hS
              replace hS := hS.cuPutAdd hk hin.1 hin.1 rfl rfl rfl rfl hx1.1 (by dsimp only; omega)
              exact join 0 H ⟨rfl, trivial⟩ ⟨_, by simp, by first | exact (hev.set).app rfl | exact hev.set, hS⟩
            · skip
              refine kk_buildSlice 14 H rfl Tryd.underlying35 sz51 ze51 rfl rfl rfl rfl rfl ?_
              clear H; intro b77 w43 hN hE44 hs_b77; clear a; intro a H
              have hz_b77 := hE44.size
              replace hS := hS.newBlk hN hE44 hs_b77; clear hN hE44
              replace hS := hS.pick 10 rfl
              dsimp only [List.eraseIdx] at hS
              refine k_append 8 H rfl rfl rfl Tryd.underlying34 Tryd.underlying34 (by simp) el39 (hS.own 0 rfl) (Own.ofBlk (n := 1) (k := 1) (hS.blk 2 rfl) rfl (by simp [maxLen])).src (by simp <;> rfl) (by omega) (by simp only [maxLen]; omega) rfl (by kernel_rfl) (.inl (fun b hb _ => List.mem_append_left _ hb)) ?_
              clear H; intro v71 w45 hN hC46 hb71 hnil71; clear a; intro a H
              have hz71 := hC46.size
              replace hS := hS.setOwn hN hC46 hb71; clear hN
              replace hS := hS.pick 11 rfl
              dsimp only [List.eraseIdx] at hS
              refine k_append 15 H rfl rfl rfl Tryd.underlying35 Tryd.underlying35 (by simp) el51 (hS.own 0 rfl) (Own.ofBlk (n := 1) (k := 1) (hS.blk 2 rfl) rfl (by simp [maxLen])).src (by simp <;> rfl) (by omega) (by simp only [maxLen]; omega) rfl (by kernel_rfl) (.inl (fun b hb _ => List.mem_append_right _ hb)) ?_
              clear H; intro v78 w47 hN hC48 hb78 hnil78; clear a; intro a H
              have hz78 := hC48.size
              replace hS := hS.setOwn hN hC48 hb78; clear hN
              refine k_takeT 16 H rfl (q_nilCheck rfl) rfl (by kernel_rfl) (by kernel_rfl) (by kernel_rfl) (by kernel_rfl) (fun _ _ _ h => h) ?_
              clear H a; intro a H
              refine k_take 17 H rfl (q_fieldAddr0 rfl fo37_0) rfl (by kernel_rfl) (by kernel_rfl) (by kernel_rfl) (by kernel_rfl) (fun _ _ _ h => h) ?_
              clear H a; intro a H
              replace hS := hS.pick 11 rfl
              dsimp only [List.eraseIdx] at hS
              refine k_store1 18 H rfl rfl rfl sz34 (hS.blk 0 rfl) (by simp) (hS.own 2 rfl).one (by kernel_rfl) (.inr (by kernel_rfl)) ?_
              clear H; intro w49 hN hC50 hz; clear a; intro a H
              replace hS := hS.setBlk hN hC50; clear hN hz
              try simp only [List.set_cons_succ, List.set_cons_zero] at hS
              refine k_takeT 19 H rfl (q_nilCheck rfl) rfl (by kernel_rfl) (by kernel_rfl) (by kernel_rfl) (by kernel_rfl) (fun _ _ _ h => h) ?_
              clear H a; intro a H
              refine k_takeT 20 H rfl (q_fieldAddr0 rfl fo37_1) rfl (by kernel_rfl) (by kernel_rfl) (by kernel_rfl) (by kernel_rfl) (fun _ _ _ h => h) ?_
              clear H a; intro a H
              refine k_store1 21 H rfl rfl rfl sz35 (hS.blk 0 rfl) (by simp) (hS.own 1 rfl).one (by kernel_rfl) (.inr (by kernel_rfl)) ?_
              clear H; intro w51 hN hC52 hz; clear a; intro a H
              replace hS := hS.setBlk hN hC52; clear hN hz
              try simp only [List.set_cons_succ, List.set_cons_zero] at hS
              refine k_done (by kernel_rfl) ?_
              refine then_normal ?_
              replace hS := hS.pick 5 rfl
              dsimp only [List.eraseIdx] at hS
              replace hS := hS.pick 6 rfl
              dsimp only [List.eraseIdx] at hS
              replace hS := hS.pick 3 rfl
              dsimp only [List.eraseIdx] at hS
              replace hS := hS.pick 4 rfl
              dsimp only [List.eraseIdx] at hS
              replace hS := hS.pick 4 rfl
              dsimp only [List.eraseIdx] at hS
              replace hS := hS.pick 12 rfl
              dsimp only [List.eraseIdx] at hS
              replace hS := hS.pick 12 rfl
              dsimp only [List.eraseIdx] at hS
              replace hS := hS.pick 10 rfl
              dsimp only [List.eraseIdx] at hS
              replace hS := hS.pick 10 rfl
              dsimp only [List.eraseIdx] at hS
              replace hS := hS.take 9
              simp only [List.take_succ_cons, List.take_zero] at hS
              replace hS := hS.cuPutAdd hk hin.1 hin.1 rfl rfl rfl rfl hx1.1 (by dsimp only; omega)
              exact join 0 H ⟨rfl, trivial⟩ ⟨_, by simp, by first | exact (hev.set).app rfl | exact hev.set, hS⟩
          · skip
            refine kk_buildSlice 14 H rfl Tryd.underlying35 sz51 ze51 rfl rfl rfl rfl rfl ?_
            clear H; intro b77 w53 hN hE54 hs_b77; clear a; intro a H
            have hz_b77 := hE54.size
            replace hS := hS.newBlk hN hE54 hs_b77; clear hN hE54
            refine k_buildSlice 7 H rfl Tryd.underlying34 sz39 ze39 rfl rfl rfl rfl rfl (by kernel_rfl) ?_
            clear H; intro b70 w55 hN hE56 hs_b70; clear a; intro a H
            have hz_b70 := hE56.size
            replace hS := hS.newBlk hN hE56 hs_b70; clear hN hE56
            replace hS := hS.pick 10 rfl
            dsimp only [List.eraseIdx] at hS
            refine k_append 8 H rfl rfl rfl Tryd.underlying34 Tryd.underlying34 (by simp) el39 (hS.own 0 rfl) (Own.ofBlk (n := 1) (k := 1) (hS.blk 1 rfl) rfl (by simp [maxLen])).src (by simp <;> rfl) (by omega) (by simp only [maxLen]; omega) rfl (by kernel_rfl) (.inl (fun b hb _ => List.mem_append_left _ hb)) ?_
            clear H; intro v71 w57 hN hC58 hb71 hnil71; clear a; intro a H
            have hz71 := hC58.size
            replace hS := hS.setOwn hN hC58 hb71; clear hN
            replace hS := hS.pick 11 rfl
            dsimp only [List.eraseIdx] at hS
            refine k_append 15 H rfl rfl rfl Tryd.underlying35 Tryd.underlying35 (by simp) el51 (hS.own 0 rfl) (Own.ofBlk (n := 1) (k := 1) (hS.blk 3 rfl) rfl (by simp [maxLen])).src (by simp <;> rfl) (by omega) (by simp only [maxLen]; omega) rfl (by kernel_rfl) (.inl (fun b hb _ => List.mem_append_right _ hb)) ?_
            clear H; intro v78 w59 hN hC60 hb78 hnil78; clear a; intro a H
            have hz78 := hC60.size
            replace hS := hS.setOwn hN hC60 hb78; clear hN
            refine k_takeT 16 H rfl (q_nilCheck rfl) rfl (by kernel_rfl) (by kernel_rfl) (by kernel_rfl) (by kernel_rfl) (fun _ _ _ h => h) ?_
            clear H a; intro a H
            refine k_take 17 H rfl (q_fieldAddr0 rfl fo37_0) rfl (by kernel_rfl) (by kernel_rfl) (by kernel_rfl) (by kernel_rfl) (fun _ _ _ h => h) ?_
            clear H a; intro a H
            replace hS := hS.pick 11 rfl
            dsimp only [List.eraseIdx] at hS
            refine k_store1 18 H rfl rfl rfl sz34 (hS.blk 0 rfl) (by simp) (hS.own 2 rfl).one (by kernel_rfl) (.inr (by kernel_rfl)) ?_
            clear H; intro w61 hN hC62 hz; clear a; intro a H
            replace hS := hS.setBlk hN hC62; clear hN hz
            try simp only [List.set_cons_succ, List.set_cons_zero] at hS
            refine k_takeT 19 H rfl (q_nilCheck rfl) rfl (by kernel_rfl) (by kernel_rfl) (by kernel_rfl) (by kernel_rfl) (fun _ _ _ h => h) ?_
            clear H a; intro a H
            refine k_takeT 20 H rfl (q_fieldAddr0 rfl fo37_1) rfl (by kernel_rfl) (by kernel_rfl) (by kernel_rfl) (by kernel_rfl) (fun _ _ _ h => h) ?_
            clear H a; intro a H
            refine k_store1 21 H rfl rfl rfl sz35 (hS.blk 0 rfl) (by simp) (hS.own 1 rfl).one (by kernel_rfl) (.inr (by kernel_rfl)) ?_
            clear H; intro w63 hN hC64 hz; clear a; intro a H
            replace hS := hS.setBlk hN hC64; clear hN hz
            try simp only [List.set_cons_succ, List.set_cons_zero] at hS
            refine k_done (by kernel_rfl) ?_
            refine then_normal ?_
            replace hS := hS.pick 5 rfl
            dsimp only [List.eraseIdx] at hS
            replace hS := hS.pick 6 rfl
            dsimp only [List.eraseIdx] at hS
            replace hS := hS.pick 3 rfl
            dsimp only [List.eraseIdx] at hS
            replace hS := hS.pick 4 rfl
            dsimp only [List.eraseIdx] at hS
            replace hS := hS.pick 4 rfl
            dsimp only [List.eraseIdx] at hS
            replace hS := hS.pick 12 rfl
            dsimp only [List.eraseIdx] at hS
            replace hS := hS.pick 12 rfl
            dsimp only [List.eraseIdx] at hS
            replace hS := hS.pick 10 rfl
            dsimp only [List.eraseIdx] at hS
            replace hS := hS.pick 10 rfl
            dsimp only [List.eraseIdx] at hS
            replace hS := hS.take 9
            simp only [List.take_succ_cons, List.take_zero] at hS
            replace hS := hS.cuPutAdd hk hin.1 hin.1 rfl rfl rfl rfl hx1.1 (by dsimp only; omega)
            exact join 0 H ⟨rfl, trivial⟩ ⟨_, by simp, by first | exact (hev.set).app rfl | exact hev.set, hS⟩
        · skip
          replace hS := hS.pick 9 rfl
          dsimp only [List.eraseIdx] at hS
          replace hS := hS.pick 9 rfl
          dsimp only [List.eraseIdx] at hS
          replace hS := hS.pick 9 rfl
          dsimp only [List.eraseIdx] at hS
          replace hS := hS.pick 10 rfl
          dsimp only [List.eraseIdx] at hS
          replace hS := hS.pick 10 rfl
          dsimp only [List.eraseIdx] at hS
          replace hS := hS.pick 6 rfl
          dsimp only [List.eraseIdx] at hS
          replace hS := hS.pick 6 rfl
          dsimp only [List.eraseIdx] at hS
          replace hS := hS.take 7
          simp only [List.take_succ_cons, List.take_zero] at hS
          replace hS := hS.cuPut hk hin.1 hin.1
          refine wp_skip ?_
          refine then_normal ?_
          exact join 0 H ⟨rfl, trivial⟩ ⟨_, by simp, by first | exact (hev.set).app rfl | exact hev.set, hS⟩
      · clear H hS; clear a
        intro z a w65 H hR
        simp only [ent, List.map_cons, List.map_nil] at H
        try dsimp only at hR
        obtain ⟨l1, hl1, he1, hS⟩ := hR; try clear hR
        refine wp_seq ?_
        refine wp_region_lit ?_
        refine n_q H (q_assign rfl) rfl ?_
        clear H a; intro a H
        refine n_nil ?_
        refine then_normal ?_
        refine wp_ret ?_
        refine ret1 H (.inr rfl) rfl rfl ?_
        exact ⟨rfl, l1, hl1, he1, hS⟩

theorem raw_in {bs : List UInt8} {a d : Nat} {n : Int} (h : a ≤ d) : (rawM bs a d n).2.2 ≤ d := by
  unfold rawM
  repeat' split
  all_goals (dsimp only; omega)
theorem raw_len {bs : List UInt8} {a d : Nat} {n : Int} : (rawM bs a d n).1.length ≤ bs.length := by
  unfold rawM
  repeat' split
  all_goals (try simp)
  all_goals omega
theorem text_in {bs : List UInt8} {a d : Nat} {n : Int} (h : a ≤ d) (h2 : d ≤ bs.length) : (textM bs a d n).2.2 ≤ d := by
  have hs := stepOk_text (bs := bs) (a := a) (d := d) n h h2
  by_cases he : (textM bs a d n).2.1 = .nil
  · have := hs.2 he; omega
  · have := hs.1 he; omega
set_option maxHeartbeats 700000 in
theorem reads_w {w : World} {fp : Nat → Prop} {A : Nat → Addr} {bc : Nat} {l : List CurM} {o : OpM} (hok : o.n ≤ 9223372036854775807 ∧ o.s.size ≤ 1048576) (hev : even l) (hl : l.length ≤ 16777216) (hG : ∀ w', ChgP fp w w' → EV A w') (hH : ∀ w', ChgP fp w w' → HE w') (hP0 : Sep w fp [cuS bc l]) :
    Calls Tryd.prog 21 [.pointer (some ⟨bc, 0, none⟩), opV o].toArray w (Ret fun r w' => r = .bool true ∧ ∃ l', l'.length ≤ l.length + 1 ∧ even l' ∧ St fp w w' [cuS bc l']) := by
  have hS := St.init hP0
  refine enter Tryd.func21 rfl rfl rfl ?_
  intro a H
  dsimp only [enumL, Nat.zero_add, Nat.reduceAdd] at H
  refine wp_seq ?_
  refine wp_region_lit ?_
  refine n_box H rfl (cs := (eOp o)) rfl rfl ?_
  clear H; intro b3 w1 hN hE2 hs_b3; clear a; intro a H
  replace hS := hS.newBlk hN hE2 hs_b3; clear hN hE2
  refine n_q H (q_assign rfl) rfl ?_
  clear H a; intro a H
  refine n_nil ?_
  refine then_normal ?_
  refine wp_seq ?_
  refine wp_seq ?_
  refine wp_region_lit ?_
  refine n_q H (q_fieldAddr0 rfl fo29_0) rfl ?_
  clear H a; intro a H
  refine n_q H (q_load rfl ((hS.blk 0 rfl).ld ag3 rfl)) rfl ?_
  clear H a; intro a H
  refine n_q H (q_eql rfl rfl) rfl ?_
  clear H a; intro a H
  refine n_nil ?_
  refine then_normal ?_
  refine c_cond H rfl (fun hc21 => ?_) (fun hc21 => ?_)
  · skip
    refine wp_seq ?_
    refine wp_region_lit ?_
    refine n_q H (q_move rfl) rfl ?_
    clear H a; intro a H
    refine n_q H (q_fieldAddr0 rfl fo29_6) rfl ?_
    clear H a; intro a H
    refine n_q H (q_load rfl ((hS.blk 0 rfl).ld ag9 rfl)) rfl ?_
    clear H a; intro a H
    replace hS := hS.pick 1 rfl
    dsimp only [List.eraseIdx] at hS
    obtain ⟨fp25, hG25, hK25, hR25, hF25⟩ := hS.frame1
    refine n_call H rfl en16 (cOpen_w (s := o.s) hok.2 (by omega) hG25) rfl ?_
    clear H a; intro v5 w3 hv a H
    obtain ⟨rfl, c25, hc25, hE4⟩ := hv
    replace hS := hF25 _ _ hE4
    simp only [List.cons_append, List.nil_append] at hS
    clear hG25 hK25 hR25 hF25
    refine n_q H (q_assign rfl) rfl ?_
    clear H a; intro a H
    refine n_nil ?_
    refine then_normal ?_
    refine wp_ret ?_
    refine then_ret ?_
    replace hS := hS.take 1
    simp only [List.take_succ_cons, List.take_zero] at hS
    refine ret1 H (.inr rfl) rfl rfl ?_
    refine ⟨congrArg Value.bool (by first | rfl | simp), _, ?_, ?_, hS⟩ <;> first | exact hl66 | exact he66 | exact hev.app hc25 | exact hev | exact hev.setX rfl | omega | (simp; done) | skip
  · skip
    refine wp_skip ?_
    refine then_normal ?_
    refine wp_seq ?_
    refine wp_seq ?_
    refine wp_region_lit ?_
    replace hS := hS.pick 1 rfl
    dsimp only [List.eraseIdx] at hS
    obtain ⟨vI, vW, hS2⟩ := hS.cuS
    replace hS := hS2
    clear hS2
    obtain ⟨AI, cI, hvI, _⟩ := (hS.own 1 rfl).form
    subst hvI
    refine n_q H (q_move rfl) rfl ?_
    clear H a; intro a H
    refine n_q H (q_nilCheck rfl) rfl ?_
    clear H a; intro a H
    refine n_q H (q_fieldAddr0 rfl fo37_0) rfl ?_
    clear H a; intro a H
    refine n_q H (q_load rfl ((hS.blk 0 rfl).ld ag34 rfl)) rfl ?_
    clear H a; intro a H
    refine n_q H (q_lenSl Tryd.underlying34 rfl) rfl ?_
    clear H a; intro a H
    refine n_q H (q_eql rfl rfl) rfl ?_
    clear H a; intro a H
    refine n_nil ?_
    refine then_normal ?_
    refine c_cond H rfl (fun hc31 => ?_) (fun hc31 => ?_)
    · skip
      replace hS := hS.pick 4 rfl
      dsimp only [List.eraseIdx] at hS
      replace hS := hS.pick 4 rfl
      dsimp only [List.eraseIdx] at hS
      replace hS := hS.pick 4 rfl
      dsimp only [List.eraseIdx] at hS
      replace hS := hS.pick 4 rfl
      dsimp only [List.eraseIdx] at hS
      replace hS := hS.pick 4 rfl
      dsimp only [List.eraseIdx] at hS
      replace hS := hS.take 5
      simp only [List.take_succ_cons, List.take_zero] at hS
      replace hS := hS.cuMk rfl rfl rfl rfl
      refine wp_seq ?_
      refine wp_region_lit ?_
      refine n_q H (q_assign rfl) rfl ?_
      clear H a; intro a H
      refine n_nil ?_
      refine then_normal ?_
      refine wp_ret ?_
      refine then_ret ?_
      refine ret1 H (.inr rfl) rfl rfl ?_
      refine ⟨congrArg Value.bool (by first | rfl | simp), _, ?_, ?_, hS⟩ <;> first | exact hl66 | exact he66 | exact hev.app hc25 | exact hev | exact hev.setX rfl | omega | (simp; done) | skip
    · skip
      have hl1 : 0 < l.length := by
        rcases Nat.eq_zero_or_pos l.length with h0 | h0
        · rw [h0] at hc31; simp at hc31
        · exact h0
      obtain ⟨bI, cI2, hI⟩ := (hS.own 1 rfl).sm (by omega)
      cases hI
      obtain ⟨bW, cW, hW⟩ := (hS.own 2 rfl).sm (by omega)
      subst hW
      obtain ⟨k, hk, hkv⟩ := curAt o.cur hl1 (by omega)
      obtain ⟨cc, hcc⟩ : ∃ c, l[k]? = some c := ⟨_, List.getElem?_eq_getElem hk⟩
      obtain ⟨p, q, v1, v2, bs, ca, ca2, cd⟩ := cc
      have hce : ca = ca2 := hev _ (List.mem_of_getElem? hcc)
      subst hce
      have hwf := ((hS.any 4 rfl) : arrs l _) _ (List.mem_of_getElem? hcc)
      have h1 : ca ≤ cd := hwf.2.2.1
      have h2 : cd ≤ bs.length := hwf.2.2.2.2.1
      have h3 : bs.length ≤ 70368744177664 := hwf.2.2.2.2.2
      clear hwf
      refine wp_skip ?_
      refine then_normal ?_
      refine wp_seq ?_
      refine c_quiet (by kernel_rfl) (by kernel_rfl) ?_
      refine qq_q H (q_fieldAddr0 rfl fo29_2) rfl ?_
      clear H a; intro a H
      refine qq_q H (q_load rfl ((hS.blk 5 rfl).ld ag3 rfl)) rfl ?_
      clear H a; intro a H
      refine qq_q H (q_convI Tryd.underlying3 Tryd.underlying40 ⟨_, rfl⟩ rfl) rfl ?_
      clear H a; intro a H
      refine qq_q H (q_move rfl) rfl ?_
      clear H a; intro a H
      refine qq_q H (q_nilCheck rfl) rfl ?_
      clear H a; intro a H
      refine qq_q H (q_fieldAddr0 rfl fo37_0) rfl ?_
      clear H a; intro a H
      refine qq_q H (q_load rfl ((hS.blk 0 rfl).ld ag34 rfl)) rfl ?_
      clear H a; intro a H
      refine qq_q H (q_lenSl Tryd.underlying34 rfl) rfl ?_
      clear H a; intro a H
      refine qq_q H (q_convI Tryd.underlying3 Tryd.underlying40 ⟨_, rfl⟩ rfl) rfl ?_
      clear H a; intro a H
      refine qq_q H (q_remW rfl rfl (u64_pos hl1 (by omega))) rfl ?_
      clear H a; intro a H
      refine qq_q H (q_cast (q_convI Tryd.underlying40 Tryd.underlying3 ⟨_, rfl⟩ rfl) (show _ = Value.int .i64 (k : Nat) by rw [← hkv])) rfl ?_
      clear H a; intro a H
      refine qq_q H (q_assign rfl) rfl ?_
      clear H a; intro a H
      refine qq_nil ?_
      intro w6 hE7
      replace hS := hS.ext hE7
      refine then_normal ?_
      refine wp_seq ?_
      refine c_quiet (by kernel_rfl) (by kernel_rfl) ?_
      refine qq_q H (q_move rfl) rfl ?_
      clear H a; intro a H
      refine qq_q H (q_nilCheck rfl) rfl ?_
      clear H a; intro a H
      refine qq_q H (q_fieldAddr0 rfl fo37_0) rfl ?_
      clear H a; intro a H
      refine qq_q H (q_load rfl ((hS.blk 0 rfl).ld ag34 rfl)) rfl ?_
      clear H a; intro a H
      refine qq_q H (q_move rfl) rfl ?_
      clear H a; intro a H
      refine qq_q H (q_cast (q_indexAddr (ad := ⟨bI, 0, none⟩) (n := l.length) (c := cI) Tryd.underlying34 sz39 rfl rfl (by omega) (by omega)) (show _ = Value.pointer (some ((⟨bI, 0, none⟩ : Addr).add (k * 1))) by rw [show (k : Int).toNat = k by omega])) rfl ?_
      clear H a; intro a H
      refine qq_q H (q_load rfl (own_ldC pP (hS.own 1 rfl) rfl ag39 hcc)) rfl ?_
      clear H a; intro a H
      refine qq_q H (q_move rfl) rfl ?_
      clear H a; intro a H
      refine qq_q H (q_nilCheck rfl) rfl ?_
      clear H a; intro a H
      refine qq_q H (q_fieldAddr0 rfl fo37_1) rfl ?_
      clear H a; intro a H
      refine qq_q H (q_load rfl ((hS.blk 0 rfl).ld ag35 rfl)) rfl ?_
      clear H a; intro a H
      refine qq_q H (q_move rfl) rfl ?_
      clear H a; intro a H
      refine qq_q H (q_cast (q_indexAddr (ad := ⟨bW, 0, none⟩) (n := l.length) (c := cW) Tryd.underlying35 sz51 rfl rfl (by omega) (by omega)) (show _ = Value.pointer (some ((⟨bW, 0, none⟩ : Addr).add (k * 1))) by rw [show (k : Int).toNat = k by omega])) rfl ?_
      clear H a; intro a H
      refine qq_q H (q_load rfl (own_ldC pQ (hS.own 2 rfl) rfl ag51 hcc)) rfl ?_
      clear H a; intro a H
      refine qq_q H (q_assign rfl) rfl ?_
      clear H a; intro a H
      refine qq_q H (q_assign rfl) rfl ?_
      clear H a; intro a H
      refine qq_nil ?_
      intro w8 hE9
      replace hS := hS.ext hE9
      refine then_normal ?_
      refine wp_seq ?_
      refine wp_seq ?_
      refine wp_region_lit ?_
      refine n_q H (q_fieldAddr0 rfl fo29_0) rfl ?_
      clear H a; intro a H
      refine n_q H (q_load rfl ((hS.blk 5 rfl).ld ag3 rfl)) rfl ?_
      clear H a; intro a H
      refine n_nil ?_
      refine then_normal ?_
      refine wp_block ?_
      refine c_join (σ := Bool) H (fun b => [(0, .pointer (some ⟨bc, 0, none⟩)), (3, .pointer (some ⟨b3, 0, none⟩)), (6, .pointer (some ⟨p, 0, none⟩)), (7, .pointer (some ⟨q, 0, none⟩)), (58, .int .i64 o.kind), (59, .bool b)]) (fun b wl => St fp w wl [blkR b3 (eOp o) 29, blkR bc [.slice (some ⟨bI, 0, none⟩) l.length cI, .slice (some ⟨bW, 0, none⟩) l.length cW] 37, ownR 39 1 (.slice (some ⟨bI, 0, none⟩) l.length cI) l.length (l.map pP), ownR 51 1 (.slice (some ⟨bW, 0, none⟩) l.length cW) l.length (l.map pQ), starR (l.map curF), anyR (arrs l)]) ?_ ?_
      · skip
        refine wp_seq ?_
        refine wp_region_lit ?_
        refine n_q H (q_eql rfl rfl) rfl ?_
        clear H a; intro a H
        refine n_q H (q_assign rfl) rfl ?_
        clear H a; intro a H
        refine n_nil ?_
        refine then_normal ?_
        refine c_cond H rfl (fun hc59 => ?_) (fun hc59 => ?_)
        · skip
          refine wp_skip ?_
          refine then_normal ?_
          replace hS := hS.pick 4 rfl
          dsimp only [List.eraseIdx] at hS
          replace hS := hS.pick 4 rfl
          dsimp only [List.eraseIdx] at hS
          replace hS := hS.pick 4 rfl
          dsimp only [List.eraseIdx] at hS
          replace hS := hS.pick 4 rfl
          dsimp only [List.eraseIdx] at hS
          replace hS := hS.pick 4 rfl
          dsimp only [List.eraseIdx] at hS
          replace hS := hS.pick 5 rfl
          dsimp only [List.eraseIdx] at hS
          exact join (o.kind == 19) H ⟨rfl, rfl, rfl, rfl, rfl, rfl, trivial⟩ hS
        · skip
          refine wp_region_lit ?_
          refine n_q H (q_eql rfl rfl) rfl ?_
          clear H a; intro a H
          refine n_q H (q_assign rfl) rfl ?_
          clear H a; intro a H
          refine n_nil ?_
          refine then_normal ?_
          replace hS := hS.pick 4 rfl
          dsimp only [List.eraseIdx] at hS
          replace hS := hS.pick 4 rfl
          dsimp only [List.eraseIdx] at hS
          replace hS := hS.pick 4 rfl
          dsimp only [List.eraseIdx] at hS
          replace hS := hS.pick 4 rfl
          dsimp only [List.eraseIdx] at hS
          replace hS := hS.pick 4 rfl
          dsimp only [List.eraseIdx] at hS
          replace hS := hS.pick 5 rfl
          dsimp only [List.eraseIdx] at hS
          exact join (o.kind == 20) H ⟨rfl, rfl, rfl, rfl, rfl, rfl, trivial⟩ hS
      · clear H hS; clear a
        intro b a w10 H hR
        simp only [ent, List.map_cons, List.map_nil] at H
        try dsimp only at hR
        have hS := hR; try clear hR
        refine c_cond H rfl (fun hc59 => ?_) (fun hc59 => ?_)
        · skip
          refine wp_seq ?_
          refine wp_region_lit ?_
          replace hS := hS.pick 5 rfl
          dsimp only [List.eraseIdx] at hS
          replace hS := hS.pick 5 rfl
          dsimp only [List.eraseIdx] at hS
          replace hS := hS.pick 5 rfl
          dsimp only [List.eraseIdx] at hS
          replace hS := hS.pick 5 rfl
          dsimp only [List.eraseIdx] at hS
          replace hS := hS.pick 5 rfl
          dsimp only [List.eraseIdx] at hS
          replace hS := hS.cuMk rfl rfl rfl rfl
          refine n_q H (q_move rfl) rfl ?_
          clear H a; intro a H
          refine n_q H (q_move rfl) rfl ?_
          clear H a; intro a H
          refine n_q H (q_move rfl) rfl ?_
          clear H a; intro a H
          refine n_q H (q_load rfl ((hS.blk 1 rfl).ldAll ag29 sz29)) rfl ?_
          clear H a; intro a H
          obtain ⟨fp66, hG66, hK66, hR66, hF66⟩ := hS.frame1
          refine n_call H rfl en74 (record_w (o := o) (c := ⟨p, q, v1, v2, bs, ca, ca, cd⟩) hcc hev hl (fun w' hw => hG _ (hK66 _ hw)) (fun w' hw => hH _ (hK66 _ hw)) hG66) rfl ?_
          clear H a; intro v13 w11 hv a H
          obtain ⟨rfl, l66, hl66, he66, hE12⟩ := hv
          replace hS := hF66 _ _ hE12
          simp only [List.cons_append, List.nil_append] at hS
          clear hG66 hK66 hR66 hF66
          refine n_q H (q_assign rfl) rfl ?_
          clear H a; intro a H
          refine n_nil ?_
          refine then_normal ?_
          refine wp_ret ?_
          refine block_ret ?_
          refine then_ret ?_
          replace hS := hS.take 1
          simp only [List.take_succ_cons, List.take_zero] at hS
          refine ret1 H (.inr rfl) rfl rfl ?_
          refine ⟨congrArg Value.bool (by first | rfl | simp), _, ?_, ?_, hS⟩ <;> first | exact hl66 | exact he66 | exact hev.app hc25 | exact hev | exact hev.setX rfl | omega | (simp; done) | skip
        · skip
          refine wp_seq ?_
          refine wp_region_lit ?_
          refine n_q H (q_eql rfl rfl) rfl ?_
          clear H a; intro a H
          refine n_q H (q_assign rfl) rfl ?_
          clear H a; intro a H
          refine n_nil ?_
          refine then_normal ?_
          refine c_cond H rfl (fun hc67 => ?_) (fun hc67 => ?_)
          · skip
            refine wp_seq ?_
            refine wp_region_lit ?_
            replace hS := hS.pick 4 rfl
            dsimp only [List.eraseIdx] at hS
            replace hS := hS.starAt hcc
            replace hS := St.star (rs1 := [cuR p v1 ca cd, rcR q v2 ca cd]) hS
            simp only [List.cons_append, List.nil_append] at hS
            refine n_q H (q_move rfl) rfl ?_
            clear H a; intro a H
            refine n_q H (q_fieldAddr0 rfl fo29_3) rfl ?_
            clear H a; intro a H
            refine n_q H (q_load rfl ((hS.blk 3 rfl).ld ag3 rfl)) rfl ?_
            clear H a; intro a H
            replace hS := hS.pick 1 rfl
            dsimp only [List.eraseIdx] at hS
            obtain ⟨fp73, hG73, hK73, hR73, hF73⟩ := hS.frame1
            refine n_call H rfl en75 (rRawC_w (n := o.n) hok.1 (fun w' hw => ((restAny (hR73 6 _ rfl _ hw) : arrs l w') _ (List.mem_of_getElem? hcc)).2.1) h1 h2 h3 hG73) rfl ?_
            clear H a; intro v16 w14 hv a H
            obtain ⟨v73, rfl, hE15⟩ := hv
            replace hS := hF73 _ _ hE15
            simp only [List.cons_append, List.nil_append] at hS
            clear hG73 hK73 hR73 hF73
            obtain ⟨A73, c73, hv73, _⟩ := (hS.own 1 rfl).form
            subst hv73
            refine n_q H (q_move rfl) rfl ?_
            clear H a; intro a H
            refine n_q H (q_extract rfl rfl) rfl ?_
            clear H a; intro a H
            refine n_q H (q_extract rfl rfl) rfl ?_
            clear H a; intro a H
            refine n_alloc H ze55 rfl ?_
            clear H; intro b9 w17 hN hE18 hs_b9; clear a; intro a H
            replace hS := hS.newBlk hN hE18 hs_b9; clear hN hE18
            refine n_q H (q_assign rfl) rfl ?_
            clear H a; intro a H
            refine n_storeAll H rfl rfl (vs := [.int .i64 (rawM bs ca cd o.n).2.1.code, .int .i64 (rawM bs ca cd o.n).2.1.place]) rfl sz55 (hS.blk 0 rfl) rfl (by simp [Value.oneCell']) ?_
            clear H; intro w19 hN hC20 hz; clear a; intro a H
            replace hS := hS.setBlk hN hC20; clear hN hz
            refine n_nil ?_
            refine then_normal ?_
            refine wp_seq ?_
            refine wp_region_lit ?_
            refine n_q H (q_move rfl) rfl ?_
            clear H a; intro a H
            refine n_q H (q_fieldAddr0 rfl fo29_3) rfl ?_
            clear H a; intro a H
            refine n_q H (q_load rfl ((hS.blk 5 rfl).ld ag3 rfl)) rfl ?_
            clear H a; intro a H
            replace hS := hS.pick 3 rfl
            dsimp only [List.eraseIdx] at hS
            obtain ⟨fp80, hG80, hK80, hR80, hF80⟩ := hS.frame1
            refine n_call H rfl en70 (cRaw_w (n := o.n) hok.1 (fun w' hw => hG _ (hK80 _ hw)) (fun w' hw => ((restAny (hR80 8 _ rfl _ hw) : arrs l w') _ (List.mem_of_getElem? hcc)).1) h1 h2 h3 hG80) rfl ?_
            clear H a; intro v23 w21 hv a H
            obtain ⟨v80, u80, rfl, hE22⟩ := hv
            replace hS := hF80 _ _ hE22
            simp only [List.cons_append, List.nil_append] at hS
            clear hG80 hK80 hR80 hF80
            obtain ⟨A80, c80, hv80, hl80, hm80, hn80, _⟩ := (hS.own 2 rfl).form
            subst hv80
            simp only [maxLen] at hm80
            have hrl := raw_len (bs := bs) (a := ca) (d := cd) (n := o.n)
            refine n_q H (q_move rfl) rfl ?_
            clear H a; intro a H
            refine n_q H (q_extract rfl rfl) rfl ?_
            clear H a; intro a H
            refine n_q H (q_extract rfl rfl) rfl ?_
            clear H a; intro a H
            refine n_q H (q_assign rfl) rfl ?_
            clear H a; intro a H
            refine n_q H (q_assign rfl) rfl ?_
            clear H a; intro a H
            refine n_nil ?_
            refine then_normal ?_
            refine wp_seq ?_
            refine wp_region_lit ?_
            refine n_c H (fun HC => ?_); clear H
            refine nc_q HC (q_move rfl) rfl (by kernel_rfl) ?_
            clear HC a; intro a HC
            refine nc_q HC (q_str Tryd.underlying48 Tryd.underlying5 Tryd.underlying9 rfl (fun w' e => ((hS.own 2 rfl).ext e).slB rfl)) rfl (by kernel_rfl) ?_
            clear HC a; intro a HC
            refine nc_q HC (q_move rfl) rfl (by kernel_rfl) ?_
            clear HC a; intro a HC
            refine nc_q HC (q_str Tryd.underlying48 Tryd.underlying5 Tryd.underlying9 rfl (fun w' e => ((hS.own 5 rfl).ext e).slB rfl)) rfl (by kernel_rfl) ?_
            clear HC a; intro a HC
            refine nc_q HC (q_cast (q_eqlS rfl rfl) (show _ = Value.bool true by simp)) rfl (by kernel_rfl) ?_
            clear HC a; intro a HC
            refine nc_q HC (q_move rfl) rfl (by kernel_rfl) ?_
            clear HC a; intro a HC
            refine nc_g HC (q_move rfl) (by kernel_rfl) (by kernel_rfl) (by kernel_rfl) ?_
            clear HC a; intro a HC
            refine nc_g HC (q_load rfl ((hS.blk 3 rfl).ldAll ag55 sz55)) (by kernel_rfl) (by kernel_rfl) (by kernel_rfl) ?_
            clear HC a; intro a HC
            refine nc_gcall0 HC rfl en23 (same_self (hG _ hS.chg) (hH _ hS.chg) (hS.any 1 rfl)) (by kernel_rfl) (by kernel_rfl) (by kernel_rfl) ?_
            clear HC a; intro w24 hE25 a HC
            replace hS := hS.ext hE25
            refine nc_and (j := 5) HC rfl rfl rfl (by kernel_rfl) (by kernel_rfl) ?_
            clear HC a; intro a HC
            refine nc_q HC (q_assign rfl) rfl (by kernel_rfl) ?_
            clear HC a; intro a HC
            have H := HC.has; clear HC
            refine n_nil ?_
            refine then_normal ?_
            refine wp_seq ?_
            refine wp_seq ?_
            refine wp_region_lit ?_
            refine n_q H (q_assign rfl) rfl ?_
            clear H a; intro a H
            refine n_nil ?_
            refine then_normal ?_
            refine wp_block ?_
            replace hS := hS.pick 11 rfl
            dsimp only [List.eraseIdx] at hS
            replace hS := hS.pick 11 rfl
            dsimp only [List.eraseIdx] at hS
            replace hS := hS.pick 11 rfl
            dsimp only [List.eraseIdx] at hS
            replace hS := hS.pick 11 rfl
            dsimp only [List.eraseIdx] at hS
            replace hS := hS.pick 10 rfl
            dsimp only [List.eraseIdx] at hS
            replace hS := hS.pick 9 rfl
            dsimp only [List.eraseIdx] at hS
            replace hS := hS.pick 6 rfl
            dsimp only [List.eraseIdx] at hS
            replace hS := hS.pick 8 rfl
            dsimp only [List.eraseIdx] at hS
            replace hS := hS.take 8
            simp only [List.take_succ_cons, List.take_zero] at hS
            refine c_loop (σ := Nat × List Value) (fun (j, xs) => [(8, .slice A73 (rawM bs ca cd o.n).1.length c73), (10, .slice A80 (rawM bs ca cd o.n).1.length c80), (12, .bool true), (13, .int .i64 (j : Nat))]) (fun (j, xs) wl => j ≤ (rawM bs ca cd o.n).1.length ∧ St fp w wl [ownR 5 1 (.slice A80 (rawM bs ca cd o.n).1.length c80) (rawM bs ca cd o.n).1.length xs, cuR p v1 (rawM bs ca cd o.n).2.2 cd, rcR q v2 (rawM bs ca cd o.n).2.2 cd, starR ((l.map curF).eraseIdx k), blkR bc [.slice (some ⟨bI, 0, none⟩) l.length cI, .slice (some ⟨bW, 0, none⟩) l.length cW] 37, ownR 39 1 (.slice (some ⟨bI, 0, none⟩) l.length cI) l.length (l.map pP), ownR 51 1 (.slice (some ⟨bW, 0, none⟩) l.length cW) l.length (l.map pQ), anyR (arrs l)]) (fun (j, xs) => (rawM bs ca cd o.n).1.length - j) (0, (rawM bs ca cd o.n).1.flatMap eB) H ⟨rfl, rfl, rfl, rfl, trivial⟩ ⟨Nat.zero_le _, hS⟩ ?_
            clear H hS; clear a; intro xx a w26 H hR
            obtain ⟨j, xs⟩ := xx
            simp only [ent, List.map_cons, List.map_nil] at H
            try dsimp only at hR
            obtain ⟨hj, hS⟩ := hR; try clear hR
            refine wp_seq ?_
            refine wp_seq ?_
            refine wp_region_lit ?_
            refine n_q H (q_move rfl) rfl ?_
            clear H a; intro a H
            refine n_q H (q_move rfl) rfl ?_
            clear H a; intro a H
            refine n_q H (q_lenSl (A := A80) (n := (rawM bs ca cd o.n).1.length) (c := c80) Tryd.underlying48 rfl) rfl ?_
            clear H a; intro a H
            refine n_q H (q_lss rfl rfl) rfl ?_
            clear H a; intro a H
            refine n_nil ?_
            refine then_normal ?_
            refine c_cond H rfl (fun hc96 => ?_) (fun hc96 => ?_)
            · skip
              have hj1 : j < (rawM bs ca cd o.n).1.length := by simp at hc96; omega
              obtain ⟨bq, cj, hq⟩ := (hS.own 0 rfl).sm (by omega)
              cases hq
              refine wp_skip ?_
              refine then_normal ?_
              refine wp_seq ?_
              refine wp_block ?_
              refine wp_region_lit ?_
              refine n_q H (q_move rfl) rfl ?_
              clear H a; intro a H
              refine n_q H (q_move rfl) rfl ?_
              clear H a; intro a H
              refine n_q H (q_indexAddr0 (b := bq) (n := (rawM bs ca cd o.n).1.length) (c := c80) (i := j) Tryd.underlying48 sz5 rfl rfl (by omega)) rfl ?_
              clear H a; intro a H
              refine n_storeE1 H rfl rfl sz5 rfl (hS.own 0 rfl) (by omega) ?_
              clear H; intro w27 hN hC28; clear a; intro a H
              replace hS := hS.setOwn hN hC28 (.inl rfl); clear hN
              refine n_nil ?_
              refine block_normal ?_
              refine then_normal ?_
              refine wp_region_lit ?_
              refine n_q H (q_move rfl) rfl ?_
              clear H a; intro a H
              refine n_q H (q_add rfl rfl (by constructor <;> omega)) rfl ?_
              clear H a; intro a H
              refine n_q H (q_assign rfl) rfl ?_
              clear H a; intro a H
              refine n_nil ?_
              refine then_normal ?_
              replace hS := hS.pick 7 rfl
              dsimp only [List.eraseIdx] at hS
              replace hS := hS.pick 7 rfl
              dsimp only [List.eraseIdx] at hS
              replace hS := hS.pick 7 rfl
              dsimp only [List.eraseIdx] at hS
              replace hS := hS.pick 7 rfl
              dsimp only [List.eraseIdx] at hS
              replace hS := hS.pick 7 rfl
              dsimp only [List.eraseIdx] at hS
              replace hS := hS.pick 7 rfl
              dsimp only [List.eraseIdx] at hS
              replace hS := hS.pick 7 rfl
              dsimp only [List.eraseIdx] at hS
              replace hS := hS.pick 7 rfl
              dsimp only [List.eraseIdx] at hS
              exact round (j + 1, xs.set (j * 1) (.int .u8 66)) H ⟨rfl, rfl, rfl, rfl, trivial⟩ ⟨by omega, hS⟩ (by first | omega | (dsimp only; omega))
            · skip
              refine wp_exit ?_
              refine then_exit ?_
              refine then_exit ?_
              refine block_exit ?_
              refine then_normal ?_
              refine wp_seq ?_
              refine wp_seq ?_
              refine wp_region_lit ?_
              refine n_q H (q_assign rfl) rfl ?_
              clear H a; intro a H
              refine n_nil ?_
              refine then_normal ?_
              refine wp_block ?_
              replace hS := hS.pick 7 rfl
              dsimp only [List.eraseIdx] at hS
              replace hS := hS.pick 7 rfl
              dsimp only [List.eraseIdx] at hS
              replace hS := hS.pick 7 rfl
              dsimp only [List.eraseIdx] at hS
              replace hS := hS.pick 7 rfl
              dsimp only [List.eraseIdx] at hS
              replace hS := hS.pick 7 rfl
              dsimp only [List.eraseIdx] at hS
              replace hS := hS.pick 7 rfl
              dsimp only [List.eraseIdx] at hS
              replace hS := hS.pick 7 rfl
              dsimp only [List.eraseIdx] at hS
              replace hS := hS.pick 7 rfl
              dsimp only [List.eraseIdx] at hS
              refine c_loop (σ := Nat × Value × List Value) (fun (m, vb, ys) => [(8, .slice A73 (rawM bs ca cd o.n).1.length c73), (10, vb), (12, .bool true), (14, .int .i64 (m : Nat))]) (fun (m, vb, ys) wl => m ≤ 8 ∧ St fp w wl [ownR 5 1 vb ((rawM bs ca cd o.n).1.length + m) ys, cuR p v1 (rawM bs ca cd o.n).2.2 cd, rcR q v2 (rawM bs ca cd o.n).2.2 cd, starR ((l.map curF).eraseIdx k), blkR bc [.slice (some ⟨bI, 0, none⟩) l.length cI, .slice (some ⟨bW, 0, none⟩) l.length cW] 37, ownR 39 1 (.slice (some ⟨bI, 0, none⟩) l.length cI) l.length (l.map pP), ownR 51 1 (.slice (some ⟨bW, 0, none⟩) l.length cW) l.length (l.map pQ), anyR (arrs l)]) (fun (m, vb, ys) => 8 - m) (0, .slice A80 (rawM bs ca cd o.n).1.length c80, xs) H ⟨rfl, rfl, rfl, rfl, trivial⟩ ⟨Nat.zero_le _, hS⟩ ?_
              clear H hS; clear a; intro xx a w29 H hR
              obtain ⟨m, vb, ys⟩ := xx
              simp only [ent, List.map_cons, List.map_nil] at H
              try dsimp only at hR
              obtain ⟨hm, hS⟩ := hR; try clear hR
              refine wp_seq ?_
              refine wp_seq ?_
              refine wp_region_lit ?_
              refine n_q H (q_move rfl) rfl ?_
              clear H a; intro a H
              refine n_q H (q_lss rfl rfl) rfl ?_
              clear H a; intro a H
              refine n_nil ?_
              refine then_normal ?_
              refine c_cond H rfl (fun hc103 => ?_) (fun hc103 => ?_)
              · skip
                have hm1 : m < 8 := by simp at hc103; omega
                refine wp_skip ?_
                refine then_normal ?_
                refine wp_seq ?_
                refine wp_block ?_
                refine wp_region_lit ?_
                refine n_q H (q_move rfl) rfl ?_
                clear H a; intro a H
                refine n_buildSlice H Tryd.underlying48 sz5 ze5 rfl rfl rfl (cs := [.int .u8 67]) (by kernel_rfl) rfl ?_
                clear H; intro b107 w30 hN hE31 hs_b107; clear a; intro a H
                replace hS := hS.newBlk hN hE31 hs_b107; clear hN hE31
                replace hS := hS.pick 1 rfl
                dsimp only [List.eraseIdx] at hS
                refine n_append H rfl rfl Tryd.underlying48 Tryd.underlying48 (by simp) el5 (hS.own 0 rfl) (Own.ofBlk (n := 1) (k := 1) (hS.blk 1 rfl) rfl (by simp [maxLen])).src (by simp) (by omega) (by simp only [maxLen]; omega) rfl ?_
                clear H; intro v108 w32 hN hC33 hb108 hnil108; clear a; intro a H
                replace hS := hS.setOwn hN hC33 hb108; clear hN
                refine n_q H (q_assign rfl) rfl ?_
                clear H a; intro a H
                refine n_nil ?_
                refine block_normal ?_
                refine then_normal ?_
                refine wp_region_lit ?_
                refine n_q H (q_move rfl) rfl ?_
                clear H a; intro a H
                refine n_q H (q_add rfl rfl (by constructor <;> omega)) rfl ?_
                clear H a; intro a H
                refine n_q H (q_assign rfl) rfl ?_
                clear H a; intro a H
                refine n_nil ?_
                refine then_normal ?_
                replace hS := hS.pick 8 rfl
                dsimp only [List.eraseIdx] at hS
                replace hS := hS.pick 8 rfl
                dsimp only [List.eraseIdx] at hS
                replace hS := hS.pick 8 rfl
                dsimp only [List.eraseIdx] at hS
                replace hS := hS.pick 8 rfl
                dsimp only [List.eraseIdx] at hS
                replace hS := hS.pick 8 rfl
                dsimp only [List.eraseIdx] at hS
                replace hS := hS.pick 8 rfl
                dsimp only [List.eraseIdx] at hS
                replace hS := hS.pick 8 rfl
                dsimp only [List.eraseIdx] at hS
                replace hS := hS.pick 7 rfl
                dsimp only [List.eraseIdx] at hS
                replace hS := hS.take 8
                simp only [List.take_succ_cons, List.take_zero] at hS
                exact round (m + 1, v108, _) H ⟨rfl, rfl, rfl, rfl, trivial⟩ ⟨by omega, hS⟩ (by first | omega | (dsimp only; omega))
              · skip
                obtain rfl : m = 8 := by simp at hc103; omega
                refine wp_exit ?_
                refine then_exit ?_
                refine then_exit ?_
                refine block_exit ?_
                refine then_normal ?_
                refine wp_seq ?_
                refine wp_region_lit ?_
                refine n_c H (fun HC => ?_); clear H
                replace hS := hS.pick 6 rfl
                dsimp only [List.eraseIdx] at hS
                replace hS := hS.pick 6 rfl
                dsimp only [List.eraseIdx] at hS
                replace hS := hS.pick 6 rfl
                dsimp only [List.eraseIdx] at hS
                replace hS := hS.pick 7 rfl
                dsimp only [List.eraseIdx] at hS
                replace hS := hS.pick 7 rfl
                dsimp only [List.eraseIdx] at hS
                replace hS := hS.pick 7 rfl
                dsimp only [List.eraseIdx] at hS
                replace hS := hS.pick 7 rfl
                dsimp only [List.eraseIdx] at hS
                replace hS := hS.cuPut hcc (raw_in h1) (raw_in h1)
                refine nc_q HC (q_move rfl) rfl (by kernel_rfl) ?_
                clear HC a; intro a HC
                refine nc_q HC (q_move rfl) rfl (by kernel_rfl) ?_
                clear HC a; intro a HC
                obtain ⟨AB, cB, hvB, _⟩ := (hS.own 1 rfl).form
                subst hvB
                refine nc_g HC (q_move rfl) (by kernel_rfl) (by kernel_rfl) (by kernel_rfl) ?_
                clear HC a; intro a HC
                refine nc_g HC (q_lenSl Tryd.underlying48 rfl) (by kernel_rfl) (by kernel_rfl) (by kernel_rfl) ?_
                clear HC a; intro a HC
                refine nc_g HC (q_move rfl) (by kernel_rfl) (by kernel_rfl) (by kernel_rfl) ?_
                clear HC a; intro a HC
                refine nc_g HC (q_lenSl Tryd.underlying48 rfl) (by kernel_rfl) (by kernel_rfl) (by kernel_rfl) ?_
                clear HC a; intro a HC
                refine nc_g HC (q_add rfl rfl (by constructor <;> omega)) (by kernel_rfl) (by kernel_rfl) (by kernel_rfl) ?_
                clear HC a; intro a HC
                refine nc_g HC (q_eql rfl rfl) (by kernel_rfl) (by kernel_rfl) (by kernel_rfl) ?_
                clear HC a; intro a HC
                refine nc_and (j := 1) HC rfl rfl rfl (by kernel_rfl) (by kernel_rfl) ?_
                clear HC a; intro a HC
                refine nc_q HC (q_assign rfl) rfl (by kernel_rfl) ?_
                clear HC a; intro a HC
                have H := HC.has; clear HC
                refine n_nil ?_
                refine then_normal ?_
                refine wp_ret ?_
                refine block_ret ?_
                refine then_ret ?_
                replace hS := hS.take 1
                simp only [List.take_succ_cons, List.take_zero] at hS
                refine ret1 H (.inr rfl) rfl rfl ?_
                refine ⟨congrArg Value.bool (by first | rfl | simp), _, ?_, ?_, hS⟩ <;> first | exact hl66 | exact he66 | exact hev.app hc25 | exact hev | exact hev.setX rfl | omega | (simp; done) | skip
          · skip
            refine wp_seq ?_
            refine wp_region_lit ?_
            refine n_q H (q_eql rfl rfl) rfl ?_
            clear H a; intro a H
            refine n_q H (q_assign rfl) rfl ?_
            clear H a; intro a H
            refine n_nil ?_
            refine then_normal ?_
            refine c_cond H rfl (fun hc118 => ?_) (fun hc118 => ?_)
            · skip
              refine wp_seq ?_
              refine wp_region_lit ?_
              replace hS := hS.pick 4 rfl
              dsimp only [List.eraseIdx] at hS
              replace hS := hS.starAt hcc
              replace hS := St.star (rs1 := [cuR p v1 ca cd, rcR q v2 ca cd]) hS
              simp only [List.cons_append, List.nil_append] at hS
              refine n_q H (q_move rfl) rfl ?_
              clear H a; intro a H
              refine n_q H (q_fieldAddr0 rfl fo29_3) rfl ?_
              clear H a; intro a H
              refine n_q H (q_load rfl ((hS.blk 3 rfl).ld ag3 rfl)) rfl ?_
              clear H a; intro a H
              replace hS := hS.pick 1 rfl
              dsimp only [List.eraseIdx] at hS
              obtain ⟨fp124, hG124, hK124, hR124, hF124⟩ := hS.frame1
              refine n_call H rfl en76 (rTextC_w (most := o.n) (fun w' hw => ((restAny (hR124 6 _ rfl _ hw) : arrs l w') _ (List.mem_of_getElem? hcc)).2.1) h1 h2 h3 hG124) rfl ?_
              clear H a; intro v36 w34 hv a H
              obtain ⟨rfl, hE35⟩ := hv
              replace hS := hF124 _ _ hE35
              simp only [List.cons_append, List.nil_append] at hS
              clear hG124 hK124 hR124 hF124
              refine n_q H (q_move rfl) rfl ?_
              clear H a; intro a H
              refine n_q H (q_extract rfl rfl) rfl ?_
              clear H a; intro a H
              refine n_q H (q_extract rfl rfl) rfl ?_
              clear H a; intro a H
              refine n_alloc H ze55 rfl ?_
              clear H; intro b16 w37 hN hE38 hs_b16; clear a; intro a H
              replace hS := hS.newBlk hN hE38 hs_b16; clear hN hE38
              refine n_q H (q_assign rfl) rfl ?_
              clear H a; intro a H
              refine n_storeAll H rfl rfl (vs := [.int .i64 (textM bs ca cd o.n).2.1.code, .int .i64 (textM bs ca cd o.n).2.1.place]) rfl sz55 (hS.blk 0 rfl) rfl (by simp [Value.oneCell']) ?_
              clear H; intro w39 hN hC40 hz; clear a; intro a H
              replace hS := hS.setBlk hN hC40; clear hN hz
              refine n_nil ?_
              refine then_normal ?_
              refine wp_seq ?_
              refine wp_region_lit ?_
              refine n_q H (q_move rfl) rfl ?_
              clear H a; intro a H
              refine n_q H (q_fieldAddr0 rfl fo29_3) rfl ?_
              clear H a; intro a H
              refine n_q H (q_load rfl ((hS.blk 4 rfl).ld ag3 rfl)) rfl ?_
              clear H a; intro a H
              replace hS := hS.pick 2 rfl
              dsimp only [List.eraseIdx] at hS
              obtain ⟨fp131, hG131, hK131, hR131, hF131⟩ := hS.frame1
              refine n_call H rfl en71 (cText_w (most := o.n) (fun w' hw => hG _ (hK131 _ hw)) (fun w' hw => ((restAny (hR131 7 _ rfl _ hw) : arrs l w') _ (List.mem_of_getElem? hcc)).1) h1 h2 h3 hG131) rfl ?_
              clear H a; intro v43 w41 hv a H
              obtain ⟨u131, rfl, hE42⟩ := hv
              replace hS := hF131 _ _ hE42
              simp only [List.cons_append, List.nil_append] at hS
              clear hG131 hK131 hR131 hF131
              refine n_q H (q_move rfl) rfl ?_
              clear H a; intro a H
              refine n_q H (q_extract rfl rfl) rfl ?_
              clear H a; intro a H
              refine n_q H (q_extract rfl rfl) rfl ?_
              clear H a; intro a H
              refine n_q H (q_assign rfl) rfl ?_
              clear H a; intro a H
              refine n_q H (q_assign rfl) rfl ?_
              clear H a; intro a H
              refine n_nil ?_
              refine then_normal ?_
              refine wp_seq ?_
              refine wp_region_lit ?_
              refine n_c H (fun HC => ?_); clear H
              replace hS := hS.pick 2 rfl
              dsimp only [List.eraseIdx] at hS
              replace hS := hS.pick 2 rfl
              dsimp only [List.eraseIdx] at hS
              replace hS := hS.pick 8 rfl
              dsimp only [List.eraseIdx] at hS
              replace hS := hS.pick 8 rfl
              dsimp only [List.eraseIdx] at hS
              replace hS := hS.pick 8 rfl
              dsimp only [List.eraseIdx] at hS
              replace hS := hS.pick 9 rfl
              dsimp only [List.eraseIdx] at hS
              replace hS := hS.pick 8 rfl
              dsimp only [List.eraseIdx] at hS
              replace hS := hS.pick 8 rfl
              dsimp only [List.eraseIdx] at hS
              replace hS := hS.pick 8 rfl
              dsimp only [List.eraseIdx] at hS
              replace hS := hS.take 9
              simp only [List.take_succ_cons, List.take_zero] at hS
              replace hS := hS.cuPut hcc (text_in h1 h2) (text_in h1 h2)
              refine nc_q HC (q_move rfl) rfl (by kernel_rfl) ?_
              clear HC a; intro a HC
              refine nc_q HC (q_move rfl) rfl (by kernel_rfl) ?_
              clear HC a; intro a HC
              refine nc_q HC (q_cast (q_eqlS rfl rfl) (show _ = Value.bool true by simp)) rfl (by kernel_rfl) ?_
              clear HC a; intro a HC
              refine nc_q HC (q_move rfl) rfl (by kernel_rfl) ?_
              clear HC a; intro a HC
              refine nc_g HC (q_move rfl) (by kernel_rfl) (by kernel_rfl) (by kernel_rfl) ?_
              clear HC a; intro a HC
              refine nc_g HC (q_load rfl ((hS.blk 2 rfl).ldAll ag55 sz55)) (by kernel_rfl) (by kernel_rfl) (by kernel_rfl) ?_
              clear HC a; intro a HC
              refine nc_gcall0 HC rfl en23 (same_self (hG _ hS.chg) (hH _ hS.chg) (hS.any 1 rfl)) (by kernel_rfl) (by kernel_rfl) (by kernel_rfl) ?_
              clear HC a; intro w44 hE45 a HC
              replace hS := hS.ext hE45
              refine nc_and (j := 3) HC rfl rfl rfl (by kernel_rfl) (by kernel_rfl) ?_
              clear HC a; intro a HC
              refine nc_q HC (q_assign rfl) rfl (by kernel_rfl) ?_
              clear HC a; intro a HC
              have H := HC.has; clear HC
              refine n_nil ?_
              refine then_normal ?_
              refine wp_ret ?_
              refine block_ret ?_
              refine then_ret ?_
              replace hS := hS.take 1
              simp only [List.take_succ_cons, List.take_zero] at hS
              refine ret1 H (.inr rfl) rfl rfl ?_
              refine ⟨congrArg Value.bool (by first | rfl | simp), _, ?_, ?_, hS⟩ <;> first | exact hl66 | exact he66 | exact hev.app hc25 | exact hev | exact hev.setX rfl | omega | (simp; done) | skip
            · skip
              refine wp_seq ?_
              refine wp_region_lit ?_
              refine n_q H (q_eql rfl rfl) rfl ?_
              clear H a; intro a H
              refine n_q H (q_assign rfl) rfl ?_
              clear H a; intro a H
              refine n_nil ?_
              refine then_normal ?_
              refine c_cond H rfl (fun hc142 => ?_) (fun hc142 => ?_)
              · skip
                refine wp_seq ?_
                refine wp_region_lit ?_
                replace hS := hS.pick 4 rfl
                dsimp only [List.eraseIdx] at hS
                replace hS := hS.starAt hcc
                replace hS := St.star (rs1 := [cuR p v1 ca cd, rcR q v2 ca cd]) hS
                simp only [List.cons_append, List.nil_append] at hS
                refine n_q H (q_move rfl) rfl ?_
                clear H a; intro a H
                obtain ⟨fp145, hG145, hK145, hR145, hF145⟩ := hS.frame1
                refine n_call H rfl en24 (cEnd_w (fun w' hw => hG _ (hK145 _ hw)) (fun w' hw => ((restAny (hR145 6 _ rfl _ hw) : arrs l w') _ (List.mem_of_getElem? hcc)).1) h1 h2 h3 hG145) rfl ?_
                clear H a; intro u145 w46 hv a H
                obtain ⟨_, rfl, hE47⟩ := hv
                replace hS := hF145 _ _ hE47
                simp only [List.cons_append, List.nil_append] at hS
                clear hG145 hK145 hR145 hF145
                refine n_q H (q_move rfl) rfl ?_
                clear H a; intro a H
                replace hS := hS.pick 2 rfl
                dsimp only [List.eraseIdx] at hS
                obtain ⟨fp147, hG147, hK147, hR147, hF147⟩ := hS.frame1
                refine n_call H rfl en25 (rEnded_w (fun w' hw => ((restAny (hR147 7 _ rfl _ hw) : arrs l w') _ (List.mem_of_getElem? hcc)).2.1) h1 h2 h3 hG147) rfl ?_
                clear H a; intro v50 w48 hv a H
                obtain ⟨rfl, hE49⟩ := hv
                replace hS := hF147 _ _ hE49
                simp only [List.cons_append, List.nil_append] at hS
                clear hG147 hK147 hR147 hF147
                replace hS := hS.pick 2 rfl
                dsimp only [List.eraseIdx] at hS
                replace hS := hS.pick 7 rfl
                dsimp only [List.eraseIdx] at hS
                replace hS := hS.pick 7 rfl
                dsimp only [List.eraseIdx] at hS
                replace hS := hS.pick 7 rfl
                dsimp only [List.eraseIdx] at hS
                replace hS := hS.pick 8 rfl
                dsimp only [List.eraseIdx] at hS
                replace hS := hS.pick 7 rfl
                dsimp only [List.eraseIdx] at hS
                replace hS := hS.pick 6 rfl
                dsimp only [List.eraseIdx] at hS
                replace hS := hS.pick 7 rfl
                dsimp only [List.eraseIdx] at hS
                replace hS := hS.take 8
                simp only [List.take_succ_cons, List.take_zero] at hS
                replace hS := hS.cuPut hcc h1 h1
                refine n_call H rfl en23 (same_self (hG _ hS.chg) (hH _ hS.chg) (hS.any 1 rfl)) rfl ?_
                clear H a; intro v53 w51 hv a H
                obtain ⟨rfl, hE52⟩ := hv
                replace hS := hS.ext hE52
                refine n_q H (q_assign rfl) rfl ?_
                clear H a; intro a H
                refine n_nil ?_
                refine then_normal ?_
                refine wp_ret ?_
                refine block_ret ?_
                refine then_ret ?_
                replace hS := hS.take 1
                simp only [List.take_succ_cons, List.take_zero] at hS
                refine ret1 H (.inr rfl) rfl rfl ?_
                refine ⟨congrArg Value.bool (by first | rfl | simp), _, ?_, ?_, hS⟩ <;> first | exact hl66 | exact he66 | exact hev.app hc25 | exact hev | exact hev.setX rfl | omega | (simp; done) | skip
              · skip
                refine wp_seq ?_
                refine wp_region_lit ?_
                refine n_q H (q_eql rfl rfl) rfl ?_
                clear H a; intro a H
                refine n_q H (q_assign rfl) rfl ?_
                clear H a; intro a H
                refine n_nil ?_
                refine then_normal ?_
                refine c_cond H rfl (fun hc149 => ?_) (fun hc149 => ?_)
                · skip
                  refine wp_seq ?_
                  refine c_quiet (by kernel_rfl) (by kernel_rfl) ?_
                  refine qq_c H (fun HC => ?_); clear H
                  replace hS := hS.pick 4 rfl
                  dsimp only [List.eraseIdx] at hS
                  replace hS := hS.starAt hcc
                  replace hS := St.star (rs1 := [cuR p v1 ca cd, rcR q v2 ca cd]) hS
                  simp only [List.cons_append, List.nil_append] at hS
                  have hBp := (hS.blk 0 rfl)
                  have hBq := (hS.blk 1 rfl)
                  replace hS := hS.pick 6 rfl
                  dsimp only [List.eraseIdx] at hS
                  replace hS := hS.pick 6 rfl
                  dsimp only [List.eraseIdx] at hS
                  replace hS := hS.pick 6 rfl
                  dsimp only [List.eraseIdx] at hS
                  replace hS := hS.pick 7 rfl
                  dsimp only [List.eraseIdx] at hS
                  replace hS := hS.pick 6 rfl
                  dsimp only [List.eraseIdx] at hS
                  replace hS := hS.pick 6 rfl
                  dsimp only [List.eraseIdx] at hS
                  replace hS := hS.pick 6 rfl
                  dsimp only [List.eraseIdx] at hS
                  replace hS := hS.take 7
                  simp only [List.take_succ_cons, List.take_zero] at hS
                  replace hS := hS.cuPut hcc h1 h1
                  refine qc_q HC (q_move rfl) rfl (by kernel_rfl) ?_
                  clear HC a; intro a HC
                  refine qc_call HC rfl en17 ((fun w' hw => cAt_w (hBp.ext hw))) rfl (by kernel_rfl) ?_
                  clear HC a; intro a HC
                  refine qc_q HC (q_move rfl) rfl (by kernel_rfl) ?_
                  clear HC a; intro a HC
                  refine qc_q HC (q_nilCheck rfl) rfl (by kernel_rfl) ?_
                  clear HC a; intro a HC
                  refine qc_q HC (q_fieldAddr rfl fo50_1) rfl (by kernel_rfl) ?_
                  clear HC a; intro a HC
                  refine qc_q HC (q_load rfl (hBq.ld ag3 rfl)) rfl (by kernel_rfl) ?_
                  clear HC a; intro a HC
                  refine qc_q HC (q_eql rfl rfl) rfl (by kernel_rfl) ?_
                  clear HC a; intro a HC
                  refine qc_q HC (q_move rfl) rfl (by kernel_rfl) ?_
                  clear HC a; intro a HC
                  refine qc_g HC (q_move rfl) (by kernel_rfl) (by kernel_rfl) (by kernel_rfl) ?_
                  clear HC a; intro a HC
                  refine qc_gcall0 HC rfl en18 ((fun w' hw => cLeft_w h1 (by omega) (hBp.ext hw))) (by kernel_rfl) (by kernel_rfl) (by kernel_rfl) ?_
                  clear HC a; intro a HC
                  refine qc_g HC (q_move rfl) (by kernel_rfl) (by kernel_rfl) (by kernel_rfl) ?_
                  clear HC a; intro a HC
                  refine qc_gcall0 HC rfl en22 ((fun w' hw => rLeft_w h1 (by omega) (hBq.ext hw))) (by kernel_rfl) (by kernel_rfl) (by kernel_rfl) ?_
                  clear HC a; intro a HC
                  refine qc_g HC (q_eql rfl rfl) (by kernel_rfl) (by kernel_rfl) (by kernel_rfl) ?_
                  clear HC a; intro a HC
                  refine qc_and (j := 7) HC rfl rfl rfl (by kernel_rfl) (by kernel_rfl) ?_
                  clear HC a; intro a HC
                  refine qc_q HC (q_assign rfl) rfl (by kernel_rfl) ?_
                  clear HC a; intro a HC
                  have H := HC.has; clear HC
                  refine qq_nil ?_
                  intro w54 hE55
                  replace hS := hS.ext hE55
                  refine then_normal ?_
                  refine wp_ret ?_
                  refine block_ret ?_
                  refine then_ret ?_
                  refine ret1 H (.inr rfl) rfl rfl ?_
                  refine ⟨congrArg Value.bool (by first | rfl | simp), _, ?_, ?_, hS⟩ <;> first | exact hl66 | exact he66 | exact hev.app hc25 | exact hev | exact hev.setX rfl | omega | (simp; done) | skip
                · skip
                  refine wp_skip ?_
                  refine block_normal ?_
                  refine then_normal ?_
                  refine wp_seq ?_
                  refine wp_region_lit ?_
                  replace hS := hS.pick 4 rfl
                  dsimp only [List.eraseIdx] at hS
                  replace hS := hS.starAt hcc
                  replace hS := St.star (rs1 := [cuR p v1 ca cd, rcR q v2 ca cd]) hS
                  simp only [List.cons_append, List.nil_append] at hS
                  refine n_q H (q_move rfl) rfl ?_
                  clear H a; intro a H
                  refine n_q H (q_move rfl) rfl ?_
                  clear H a; intro a H
                  refine n_q H (q_load rfl ((hS.blk 3 rfl).ldAll ag29 sz29)) rfl ?_
                  clear H a; intro a H
                  replace hS := hS.pick 1 rfl
                  dsimp only [List.eraseIdx] at hS
                  replace hS := hS.pick 1 rfl
                  dsimp only [List.eraseIdx] at hS
                  obtain ⟨fp168, hG168, hK168, hR168, hF168⟩ := hS.frame2
                  refine n_call H rfl en77 (number_w (o := o) (bs := bs) (fun w' hw => hG _ (hK168 _ hw)) (fun w' hw => hH _ (hK168 _ hw)) (fun w' hw => ((restAny (hR168 5 _ rfl _ hw) : arrs l w') _ (List.mem_of_getElem? hcc)).1) (fun w' hw => ((restAny (hR168 5 _ rfl _ hw) : arrs l w') _ (List.mem_of_getElem? hcc)).2.1) h1 h2 h3 hG168) rfl ?_
                  clear H a; intro v58 w56 hv a H
                  obtain ⟨rfl, a168, ha168, hE57⟩ := hv
                  replace hS := hF168 _ _ hE57
                  simp only [List.cons_append, List.nil_append] at hS
                  clear hG168 hK168 hR168 hF168
                  replace hS := hS.pick 6 rfl
                  dsimp only [List.eraseIdx] at hS
                  replace hS := hS.pick 6 rfl
                  dsimp only [List.eraseIdx] at hS
                  replace hS := hS.pick 6 rfl
                  dsimp only [List.eraseIdx] at hS
                  replace hS := hS.pick 7 rfl
                  dsimp only [List.eraseIdx] at hS
                  replace hS := hS.pick 6 rfl
                  dsimp only [List.eraseIdx] at hS
                  replace hS := hS.pick 6 rfl
                  dsimp only [List.eraseIdx] at hS
                  replace hS := hS.pick 6 rfl
                  dsimp only [List.eraseIdx] at hS
                  replace hS := hS.take 7
                  simp only [List.take_succ_cons, List.take_zero] at hS
                  replace hS := hS.cuPut hcc ha168 ha168
                  refine n_q H (q_assign rfl) rfl ?_
                  clear H a; intro a H
                  refine n_nil ?_
                  refine then_normal ?_
                  refine wp_ret ?_
                  refine ret1 H (.inr rfl) rfl rfl ?_
                  refine ⟨congrArg Value.bool (by first | rfl | simp), _, ?_, ?_, hS⟩ <;> first | exact hl66 | exact he66 | exact hev.app hc25 | exact hev | exact hev.setX rfl | omega | (simp; done) | skip

set_option maxHeartbeats 1500000 in
theorem wireReads_w {w : World} {A : Nat → Addr} {v : Value} {script : List OpM} (hG : EV A w) (hH : HE w) (h : SlR w 7 (Flat eOp) v script) (hok : ∀ o ∈ script, o.n ≤ 9223372036854775807 ∧ o.s.size ≤ 1048576) (hlen : script.length ≤ 1048576) :
    Calls Tryd.prog 5 [v].toArray w (Ret fun r w' => r = .bool true ∧ Ext w w') := by
  have hS := St.begin NB w
  obtain ⟨A0, c0, rfl, hl0, hm0, hn0⟩ := h.form
  refine enter Tryd.func5 rfl rfl rfl ?_
  intro a H
  dsimp only [enumL, Nat.zero_add, Nat.reduceAdd] at H
  refine wp_seq ?_
  refine wp_region_lit ?_
  refine n_q H (q_assign rfl) rfl ?_
  clear H a; intro a H
  refine n_nil ?_
  refine then_normal ?_
  refine wp_seq ?_
  refine wp_seq ?_
  refine wp_region_lit ?_
  refine n_call H rfl en11 (fixed_w (hG.ext hS.x) (hH.ext hS.x)) rfl ?_
  clear H a; intro v3 w1 hv a H
  obtain ⟨rfl, hE2⟩ := hv
  replace hS := hS.ext hE2
  refine n_q H (q_not rfl) rfl ?_
  clear H a; intro a H
  refine n_nil ?_
  refine then_normal ?_
  refine c_cond H rfl (fun hc7 => ?_) (fun hc7 => ?_)
  · skip
    cases hc7
  · skip
    refine wp_skip ?_
    refine then_normal ?_
    refine wp_seq ?_
    refine wp_region_lit ?_
    refine n_q H (q_build (cs := [.slice none 0 0, .slice none 0 0]) ze37 bd37 pl37 rfl (by kernel_rfl)) rfl ?_
    clear H a; intro a H
    refine n_box H rfl (cs := [.slice none 0 0, .slice none 0 0]) rfl rfl ?_
    clear H; intro bc w4 hN hE5 hs_bc; clear a; intro a H
    replace hS := hS.newBlk hN hE5 hs_bc; clear hN hE5
    replace hS := hS.cuNil
    refine n_q H (q_assign rfl) rfl ?_
    clear H a; intro a H
    refine n_nil ?_
    refine then_normal ?_
    refine wp_seq ?_
    refine wp_seq ?_
    refine wp_region_lit ?_
    refine n_q H (q_assign rfl) rfl ?_
    clear H a; intro a H
    refine n_nil ?_
    refine then_normal ?_
    refine wp_block ?_
    refine c_loop (σ := Nat × List CurM) (fun (i, l) => [(0, .slice A0 script.length c0), (3, .pointer (some ⟨bc, 0, none⟩)), (4, .int .i64 (i : Nat))]) (fun (i, l) wl => i ≤ script.length ∧ l.length ≤ i ∧ even l ∧ St NB w wl [cuS bc l]) (fun (i, l) => script.length - i) (0, []) H ⟨rfl, rfl, rfl, trivial⟩ ⟨Nat.zero_le _, Nat.le_refl _, fun c hc => (by cases hc), hS⟩ ?_
    clear H hS; clear a; intro xx a w6 H hR
    obtain ⟨i, l⟩ := xx
    simp only [ent, List.map_cons, List.map_nil] at H
    try dsimp only at hR
    obtain ⟨hi, hll, hev, hS⟩ := hR; try clear hR
    refine wp_seq ?_
    refine wp_seq ?_
    refine wp_region_lit ?_
    refine n_q H (q_move rfl) rfl ?_
    clear H a; intro a H
    refine n_q H (q_move rfl) rfl ?_
    clear H a; intro a H
    refine n_q H (q_lenSl Tryd.underlying22 rfl) rfl ?_
    clear H a; intro a H
    refine n_q H (q_lss rfl rfl) rfl ?_
    clear H a; intro a H
    refine n_nil ?_
    refine then_normal ?_
    refine c_cond H rfl (fun hc13 => ?_) (fun hc13 => ?_)
    · skip
      have hi1 : i < script.length := by simp at hc13; omega
      obtain ⟨o, hx⟩ := h.at hi1
      obtain ⟨ad0, had⟩ := h.addr hi1
      subst had
      have hok1 := hok o (List.mem_of_getElem? hx)
      refine wp_skip ?_
      refine then_normal ?_
      refine wp_seq ?_
      refine wp_block ?_
      refine wp_seq ?_
      refine wp_region_lit ?_
      refine n_q H (q_move rfl) rfl ?_
      clear H a; intro a H
      refine n_q H (q_move rfl) rfl ?_
      clear H a; intro a H
      refine n_q H (q_move rfl) rfl ?_
      clear H a; intro a H
      refine n_q H (q_indexAddr Tryd.underlying22 sz29 rfl rfl (by omega) (by omega)) rfl ?_
      clear H a; intro a H
      refine n_q H (q_load rfl (LdX.ext ((h.ldAgg ag29 sz29 hx)) hS.x)) rfl ?_
      clear H a; intro a H
      obtain ⟨fp21, hG21, hK21, hR21, hF21⟩ := hS.frame1
      refine n_call H rfl en21 (reads_w (o := o) hok1 hev (by omega) (fun w' hw => hG.ext (hK21 _ hw).ext) (fun w' hw => hH.ext (hK21 _ hw).ext) hG21) rfl ?_
      clear H a; intro v9 w7 hv a H
      obtain ⟨rfl, l21, hl21, he21, hE8⟩ := hv
      replace hS := hF21 _ _ hE8
      simp only [List.cons_append, List.nil_append] at hS
      clear hG21 hK21 hR21 hF21
      refine n_q H (q_not rfl) rfl ?_
      clear H a; intro a H
      refine n_nil ?_
      refine then_normal ?_
      refine c_cond H rfl (fun hc22 => ?_) (fun hc22 => ?_)
      · skip
        cases hc22
      · skip
        refine wp_skip ?_
        refine block_normal ?_
        refine then_normal ?_
        refine wp_region_lit ?_
        refine n_q H (q_move rfl) rfl ?_
        clear H a; intro a H
        refine n_q H (q_add rfl rfl (by constructor <;> omega)) rfl ?_
        clear H a; intro a H
        refine n_q H (q_assign rfl) rfl ?_
        clear H a; intro a H
        refine n_nil ?_
        refine then_normal ?_
        exact round (i + 1, l21) H ⟨rfl, rfl, rfl, trivial⟩ ⟨by omega, by omega, he21, hS⟩ (by first | omega | (dsimp only; omega))
    · skip
      refine wp_exit ?_
      refine then_exit ?_
      refine then_exit ?_
      refine block_exit ?_
      refine then_normal ?_
      refine wp_seq ?_
      refine wp_seq ?_
      refine wp_region_lit ?_
      refine n_q H (q_assign rfl) rfl ?_
      clear H a; intro a H
      refine n_nil ?_
      refine then_normal ?_
      refine wp_block ?_
      refine c_loop (σ := Nat × List CurM) (fun (j, l1) => [(3, .pointer (some ⟨bc, 0, none⟩)), (5, .int .i64 (j : Nat))]) (fun (j, l1) wl => even l1 ∧ St NB w wl [cuS bc l1]) (fun (j, l1) => l1.length - j) (0, l) H ⟨rfl, rfl, trivial⟩ ⟨hev, hS⟩ ?_
      clear H hS; clear a; intro xx a w10 H hR
      obtain ⟨j, l1⟩ := xx
      simp only [ent, List.map_cons, List.map_nil] at H
      try dsimp only at hR
      obtain ⟨hev1, hS⟩ := hR; try clear hR
      obtain ⟨vI, vW, hS2⟩ := hS.cuS
      replace hS := hS2
      clear hS2
      obtain ⟨AI, cI, hvI, hlI, hmI, _⟩ := (hS.own 1 rfl).form
      subst hvI
      simp only [maxLen] at hmI
      obtain ⟨AW, cW, hvW, _⟩ := (hS.own 2 rfl).form
      subst hvW
      refine wp_seq ?_
      refine wp_seq ?_
      refine wp_region_lit ?_
      refine n_q H (q_move rfl) rfl ?_
      clear H a; intro a H
      refine n_q H (q_move rfl) rfl ?_
      clear H a; intro a H
      refine n_q H (q_nilCheck rfl) rfl ?_
      clear H a; intro a H
      refine n_q H (q_fieldAddr0 rfl fo37_0) rfl ?_
      clear H a; intro a H
      refine n_q H (q_load rfl ((hS.blk 0 rfl).ld ag34 rfl)) rfl ?_
      clear H a; intro a H
      refine n_q H (q_lenSl Tryd.underlying34 rfl) rfl ?_
      clear H a; intro a H
      refine n_q H (q_lss rfl rfl) rfl ?_
      clear H a; intro a H
      refine n_nil ?_
      refine then_normal ?_
      refine c_cond H rfl (fun hc29 => ?_) (fun hc29 => ?_)
      · skip
        have hl1 : j < l1.length := by simp at hc29; omega
        obtain ⟨bI, cI2, hI⟩ := (hS.own 1 rfl).sm (by omega)
        cases hI
        obtain ⟨bW, cW2, hW⟩ := (hS.own 2 rfl).sm (by omega)
        cases hW
        obtain ⟨cc, hcc⟩ : ∃ c, l1[j]? = some c := ⟨_, List.getElem?_eq_getElem hl1⟩
        obtain ⟨p, q, v1, v2, bs, ca, ca2, cd⟩ := cc
        have hce : ca = ca2 := hev1 _ (List.mem_of_getElem? hcc)
        subst hce
        have hwf := ((hS.any 4 rfl) : arrs l1 _) _ (List.mem_of_getElem? hcc)
        have h1 : ca ≤ cd := hwf.2.2.1
        have h2 : cd ≤ bs.length := hwf.2.2.2.2.1
        have h3 : bs.length ≤ 70368744177664 := hwf.2.2.2.2.2
        clear hwf
        replace hS := hS.pick 3 rfl
        dsimp only [List.eraseIdx] at hS
        replace hS := hS.starAt hcc
        replace hS := St.star (rs1 := [cuR p v1 ca cd, rcR q v2 ca cd]) hS
        simp only [List.cons_append, List.nil_append] at hS
        refine wp_skip ?_
        refine then_normal ?_
        refine wp_seq ?_
        refine wp_block ?_
        refine wp_seq ?_
        refine c_ord [] 58 (by kernel_rfl) ?_
        obtain ⟨w11, hw11⟩ : ∃ x, x = w10.drew := ⟨_, rfl⟩
        rw [← hw11]
        have hE12 : Ext w10 w11 := by rw [hw11]; exact Ext.drew' _
        clear hw11
        replace hS := hS.ext hE12
        have hB0 := (hS.blk 3 rfl)
        have hO1 := (hS.own 4 rfl)
        have hO2 := (hS.own 5 rfl)
        refine k_take 0 H rfl (q_move rfl) rfl (by kernel_rfl) (by kernel_rfl) (by kernel_rfl) (by kernel_rfl) (fun _ _ _ h => h) ?_
        clear H a; intro a H
        refine k_take 1 H rfl (q_nilCheck rfl) rfl (by kernel_rfl) (by kernel_rfl) (by kernel_rfl) (by kernel_rfl) (fun _ _ _ h => h) ?_
        clear H a; intro a H
        refine k_take 2 H rfl (q_fieldAddr0 rfl fo37_0) rfl (by kernel_rfl) (by kernel_rfl) (by kernel_rfl) (by kernel_rfl) (fun _ _ _ h => h) ?_
        clear H a; intro a H
        refine k_take 3 H rfl (q_load rfl (LdC.k0 ((hS.blk 3 rfl).ld ag34 rfl))) rfl (by kernel_rfl) (by kernel_rfl) (by kernel_rfl) (by kernel_rfl) (fun _ _ _ h => h) ?_
        clear H a; intro a H
        refine k_take 4 H rfl (q_move rfl) rfl (by kernel_rfl) (by kernel_rfl) (by kernel_rfl) (by kernel_rfl) (fun _ _ _ h => h) ?_
        clear H a; intro a H
        refine k_take 5 H rfl (q_cast (q_indexAddr (ad := ⟨bI, 0, none⟩) (n := l1.length) (c := cI) Tryd.underlying34 sz39 rfl rfl (by omega) (by omega)) (show _ = Value.pointer (some ((⟨bI, 0, none⟩ : Addr).add (j * 1))) by rw [show (j : Int).toNat = j by omega])) rfl (by kernel_rfl) (by kernel_rfl) (by kernel_rfl) (by kernel_rfl) (fun _ _ _ h => h) ?_
        clear H a; intro a H
        refine k_take 6 H rfl (q_load rfl (LdC.k0 (own_ldC pP (hS.own 4 rfl) rfl ag39 hcc))) rfl (by kernel_rfl) (by kernel_rfl) (by kernel_rfl) (by kernel_rfl) (fun _ _ _ h => h) ?_
        clear H a; intro a H
        refine k_take 8 H rfl (q_move rfl) rfl (by kernel_rfl) (by kernel_rfl) (by kernel_rfl) (by kernel_rfl) (fun _ _ _ h => h) ?_
        clear H a; intro a H
        refine k_take 9 H rfl (q_nilCheck rfl) rfl (by kernel_rfl) (by kernel_rfl) (by kernel_rfl) (by kernel_rfl) (fun _ _ _ h => h) ?_
        clear H a; intro a H
        refine k_take 10 H rfl (q_fieldAddr0 rfl fo37_1) rfl (by kernel_rfl) (by kernel_rfl) (by kernel_rfl) (by kernel_rfl) (fun _ _ _ h => h) ?_
        clear H a; intro a H
        refine k_take 11 H rfl (q_load rfl (LdC.k0 ((hS.blk 3 rfl).ld ag35 rfl))) rfl (by kernel_rfl) (by kernel_rfl) (by kernel_rfl) (by kernel_rfl) (fun _ _ _ h => h) ?_
        clear H a; intro a H
        refine k_take 12 H rfl (q_move rfl) rfl (by kernel_rfl) (by kernel_rfl) (by kernel_rfl) (by kernel_rfl) (fun _ _ _ h => h) ?_
        clear H a; intro a H
        refine k_take 13 H rfl (q_cast (q_indexAddr (ad := ⟨bW, 0, none⟩) (n := l1.length) (c := cW) Tryd.underlying35 sz51 rfl rfl (by omega) (by omega)) (show _ = Value.pointer (some ((⟨bW, 0, none⟩ : Addr).add (j * 1))) by rw [show (j : Int).toNat = j by omega])) rfl (by kernel_rfl) (by kernel_rfl) (by kernel_rfl) (by kernel_rfl) (fun _ _ _ h => h) ?_
        clear H a; intro a H
        refine k_take 14 H rfl (q_load rfl (LdC.k0 (own_ldC pQ (hS.own 5 rfl) rfl ag51 hcc))) rfl (by kernel_rfl) (by kernel_rfl) (by kernel_rfl) (by kernel_rfl) (fun _ _ _ h => h) ?_
        clear H a; intro a H
        refine k_take 15 H rfl (q_nilCheck rfl) rfl (by kernel_rfl) (by kernel_rfl) (by kernel_rfl) (by kernel_rfl) (fun _ _ _ h => h) ?_
        clear H a; intro a H
        refine k_take 16 H rfl (q_fieldAddr rfl fo50_1) rfl (by kernel_rfl) (by kernel_rfl) (by kernel_rfl) (by kernel_rfl) (fun _ _ _ h => h) ?_
        clear H a; intro a H
        refine k_take 17 H rfl (q_load rfl (LdC.k0 (((hS.blk 1 rfl)).ld ag3 rfl))) rfl (by kernel_rfl) (by kernel_rfl) (by kernel_rfl) (by kernel_rfl) (fun _ _ _ h => h) ?_
        clear H a; intro a H
        refine k_call 7 H rfl rfl en17 (cAt_w (hS.blk 0 rfl)) rfl (by kernel_rfl) (fun v w hv => .inl (ChgF.of_ext hv.2)) ?_
        clear H a; intro v15 w13 hv a H
        obtain ⟨rfl, hE14⟩ := hv
        replace hS := hS.ext hE14
        have hX1 : Ext _ _ := hE14
        refine k_take 18 H rfl (q_cast (q_neq rfl rfl) (show _ = Value.bool false by simp)) rfl (by kernel_rfl) (by kernel_rfl) (by kernel_rfl) (by kernel_rfl) (fun _ _ _ h => h) ?_
        clear H a; intro a H
        refine k_take 19 H rfl (q_move rfl) rfl (by kernel_rfl) (by kernel_rfl) (by kernel_rfl) (by kernel_rfl) (fun _ _ _ h => h) ?_
        clear H a; intro a H
        refine kg_take 20 H rfl rfl rfl (q_move rfl) rfl (by kernel_rfl) (by kernel_rfl) (by kernel_rfl) (by kernel_rfl) (fun _ _ _ h => h) ?_
        clear H a; intro a H
        refine kg_take 21 H rfl rfl rfl (q_nilCheck rfl) rfl (by kernel_rfl) (by kernel_rfl) (by kernel_rfl) (by kernel_rfl) (fun _ _ _ h => h) ?_
        clear H a; intro a H
        refine kg_take 22 H rfl rfl rfl (q_fieldAddr0 rfl fo37_0) rfl (by kernel_rfl) (by kernel_rfl) (by kernel_rfl) (by kernel_rfl) (fun _ _ _ h => h) ?_
        clear H a; intro a H
        refine kg_take 23 H rfl rfl rfl (q_load rfl (LdC.old (hB0.ld ag34 rfl) hX1 (Nat.le_refl _) (by simp))) rfl (by kernel_rfl) (by kernel_rfl) (by kernel_rfl) (by kernel_rfl) (fun _ _ _ h => h) ?_
        clear H a; intro a H
        refine kg_take 24 H rfl rfl rfl (q_move rfl) rfl (by kernel_rfl) (by kernel_rfl) (by kernel_rfl) (by kernel_rfl) (fun _ _ _ h => h) ?_
        clear H a; intro a H
        refine kg_take 25 H rfl rfl rfl (q_cast (q_indexAddr (ad := ⟨bI, 0, none⟩) (n := l1.length) (c := cI) Tryd.underlying34 sz39 rfl rfl (by omega) (by omega)) (show _ = Value.pointer (some ((⟨bI, 0, none⟩ : Addr).add (j * 1))) by rw [show (j : Int).toNat = j by omega])) rfl (by kernel_rfl) (by kernel_rfl) (by kernel_rfl) (by kernel_rfl) (fun _ _ _ h => h) ?_
        clear H a; intro a H
        refine kg_take 26 H rfl rfl rfl (q_load rfl (LdC.old (own_ldC pP hO1 rfl ag39 hcc) hX1 (Nat.le_refl _) (by simp))) rfl (by kernel_rfl) (by kernel_rfl) (by kernel_rfl) (by kernel_rfl) (fun _ _ _ h => h) ?_
        clear H a; intro a H
        refine kg_take 28 H rfl rfl rfl (q_move rfl) rfl (by kernel_rfl) (by kernel_rfl) (by kernel_rfl) (by kernel_rfl) (fun _ _ _ h => h) ?_
        clear H a; intro a H
        refine kg_take 29 H rfl rfl rfl (q_nilCheck rfl) rfl (by kernel_rfl) (by kernel_rfl) (by kernel_rfl) (by kernel_rfl) (fun _ _ _ h => h) ?_
        clear H a; intro a H
        refine kg_take 30 H rfl rfl rfl (q_fieldAddr0 rfl fo37_1) rfl (by kernel_rfl) (by kernel_rfl) (by kernel_rfl) (by kernel_rfl) (fun _ _ _ h => h) ?_
        clear H a; intro a H
        refine kg_take 31 H rfl rfl rfl (q_load rfl (LdC.old (hB0.ld ag35 rfl) hX1 (Nat.le_refl _) (by simp))) rfl (by kernel_rfl) (by kernel_rfl) (by kernel_rfl) (by kernel_rfl) (fun _ _ _ h => h) ?_
        clear H a; intro a H
        refine kg_take 32 H rfl rfl rfl (q_move rfl) rfl (by kernel_rfl) (by kernel_rfl) (by kernel_rfl) (by kernel_rfl) (fun _ _ _ h => h) ?_
        clear H a; intro a H
        refine kg_take 33 H rfl rfl rfl (q_cast (q_indexAddr (ad := ⟨bW, 0, none⟩) (n := l1.length) (c := cW) Tryd.underlying35 sz51 rfl rfl (by omega) (by omega)) (show _ = Value.pointer (some ((⟨bW, 0, none⟩ : Addr).add (j * 1))) by rw [show (j : Int).toNat = j by omega])) rfl (by kernel_rfl) (by kernel_rfl) (by kernel_rfl) (by kernel_rfl) (fun _ _ _ h => h) ?_
        clear H a; intro a H
        refine kg_take 34 H rfl rfl rfl (q_load rfl (LdC.old (own_ldC pQ hO2 rfl ag51 hcc) hX1 (Nat.le_refl _) (by simp))) rfl (by kernel_rfl) (by kernel_rfl) (by kernel_rfl) (by kernel_rfl) (fun _ _ _ h => h) ?_
        clear H a; intro a H
        refine kg_call 27 H rfl rfl rfl rfl en18 (cLeft_w h1 (by omega) (hS.blk 0 rfl)) rfl (by kernel_rfl) (fun v w hv => .inl (ChgF.of_ext hv.2)) ?_
        clear H a; intro v18 w16 hv a H
        obtain ⟨rfl, hE17⟩ := hv
        replace hS := hS.ext hE17
        have hX2 := Ext.trans' hX1 hE17
        refine kg_call 35 H rfl rfl rfl rfl en22 (rLeft_w h1 (by omega) (hS.blk 1 rfl)) rfl (by kernel_rfl) (fun v w hv => .inl (ChgF.of_ext hv.2)) ?_
        clear H a; intro v21 w19 hv a H
        obtain ⟨rfl, hE20⟩ := hv
        replace hS := hS.ext hE20
        have hX3 := Ext.trans' hX2 hE20
        refine kg_take 36 H rfl rfl rfl (q_cast (q_neq rfl rfl) (show _ = Value.bool false by simp)) rfl (by kernel_rfl) (by kernel_rfl) (by kernel_rfl) (by kernel_rfl) (fun _ _ _ h => h) ?_
        clear H a; intro a H
        refine k_take 37 H rfl (q_pick rfl rfl rfl) rfl (by kernel_rfl) (by kernel_rfl) (by kernel_rfl) (by kernel_rfl) (fun _ _ _ h => h) ?_
        clear H a; intro a H
        refine k_take 38 H rfl (q_move rfl) rfl (by kernel_rfl) (by kernel_rfl) (by kernel_rfl) (by kernel_rfl) (fun _ _ _ h => h) ?_
        clear H a; intro a H
        refine kg_take 39 H rfl rfl rfl (q_move rfl) rfl (by kernel_rfl) (by kernel_rfl) (by kernel_rfl) (by kernel_rfl) (fun _ _ _ h => h) ?_
        clear H a; intro a H
        refine kg_take 40 H rfl rfl rfl (q_nilCheck rfl) rfl (by kernel_rfl) (by kernel_rfl) (by kernel_rfl) (by kernel_rfl) (fun _ _ _ h => h) ?_
        clear H a; intro a H
        refine kg_take 41 H rfl rfl rfl (q_fieldAddr0 rfl fo37_0) rfl (by kernel_rfl) (by kernel_rfl) (by kernel_rfl) (by kernel_rfl) (fun _ _ _ h => h) ?_
        clear H a; intro a H
        refine kg_take 42 H rfl rfl rfl (q_load rfl (LdC.old (hB0.ld ag34 rfl) hX3 (Nat.le_refl _) (by simp))) rfl (by kernel_rfl) (by kernel_rfl) (by kernel_rfl) (by kernel_rfl) (fun _ _ _ h => h) ?_
        clear H a; intro a H
        refine kg_take 43 H rfl rfl rfl (q_move rfl) rfl (by kernel_rfl) (by kernel_rfl) (by kernel_rfl) (by kernel_rfl) (fun _ _ _ h => h) ?_
        clear H a; intro a H
        refine kg_take 44 H rfl rfl rfl (q_cast (q_indexAddr (ad := ⟨bI, 0, none⟩) (n := l1.length) (c := cI) Tryd.underlying34 sz39 rfl rfl (by omega) (by omega)) (show _ = Value.pointer (some ((⟨bI, 0, none⟩ : Addr).add (j * 1))) by rw [show (j : Int).toNat = j by omega])) rfl (by kernel_rfl) (by kernel_rfl) (by kernel_rfl) (by kernel_rfl) (fun _ _ _ h => h) ?_
        clear H a; intro a H
        refine kg_take 45 H rfl rfl rfl (q_load rfl (LdC.old (own_ldC pP hO1 rfl ag39 hcc) hX3 (Nat.le_refl _) (by simp))) rfl (by kernel_rfl) (by kernel_rfl) (by kernel_rfl) (by kernel_rfl) (fun _ _ _ h => h) ?_
        clear H a; intro a H
        refine kg_take 47 H rfl rfl rfl (q_move rfl) rfl (by kernel_rfl) (by kernel_rfl) (by kernel_rfl) (by kernel_rfl) (fun _ _ _ h => h) ?_
        clear H a; intro a H
        refine kg_take 48 H rfl rfl rfl (q_nilCheck rfl) rfl (by kernel_rfl) (by kernel_rfl) (by kernel_rfl) (by kernel_rfl) (fun _ _ _ h => h) ?_
        clear H a; intro a H
        refine kg_take 49 H rfl rfl rfl (q_fieldAddr0 rfl fo37_1) rfl (by kernel_rfl) (by kernel_rfl) (by kernel_rfl) (by kernel_rfl) (fun _ _ _ h => h) ?_
        clear H a; intro a H
        refine kg_take 50 H rfl rfl rfl (q_load rfl (LdC.old (hB0.ld ag35 rfl) hX3 (Nat.le_refl _) (by simp))) rfl (by kernel_rfl) (by kernel_rfl) (by kernel_rfl) (by kernel_rfl) (fun _ _ _ h => h) ?_
        clear H a; intro a H
        refine kg_take 51 H rfl rfl rfl (q_move rfl) rfl (by kernel_rfl) (by kernel_rfl) (by kernel_rfl) (by kernel_rfl) (fun _ _ _ h => h) ?_
        clear H a; intro a H
        refine kg_take 52 H rfl rfl rfl (q_cast (q_indexAddr (ad := ⟨bW, 0, none⟩) (n := l1.length) (c := cW) Tryd.underlying35 sz51 rfl rfl (by omega) (by omega)) (show _ = Value.pointer (some ((⟨bW, 0, none⟩ : Addr).add (j * 1))) by rw [show (j : Int).toNat = j by omega])) rfl (by kernel_rfl) (by kernel_rfl) (by kernel_rfl) (by kernel_rfl) (fun _ _ _ h => h) ?_
        clear H a; intro a H
        refine kg_take 53 H rfl rfl rfl (q_load rfl (LdC.old (own_ldC pQ hO2 rfl ag51 hcc) hX3 (Nat.le_refl _) (by simp))) rfl (by kernel_rfl) (by kernel_rfl) (by kernel_rfl) (by kernel_rfl) (fun _ _ _ h => h) ?_
        clear H a; intro a H
        refine kg_call 46 H rfl rfl rfl rfl en24 (cEndX_w (hG.ext hS.x) h1 (by omega) (hS.blk 0 rfl)) rfl (by kernel_rfl) (fun v w hv => .inl (ChgF.of_ext (by obtain ⟨_, rfl, hE0⟩ := hv; exact hE0.x))) ?_
        clear H a; intro u78 w22 hv a H
        obtain ⟨_, rfl, hE23⟩ := hv
        replace hS := hS.new hE23
        simp only [List.cons_append, List.nil_append] at hS
        refine kg_call 54 H rfl rfl rfl rfl en25 (rEndedX_w h1 (by omega) (hS.blk 2 rfl)) rfl (by kernel_rfl) (fun v w hv => .inl (ChgF.of_ext hv.2)) ?_
        clear H a; intro v26 w24 hv a H
        obtain ⟨rfl, hE25⟩ := hv
        replace hS := hS.ext hE25
        refine kg_call 55 H rfl rfl rfl rfl en23 (same_self (hG.ext hS.x) (hH.ext hS.x) (hS.any 0 rfl)) rfl (by kernel_rfl) (fun v w hv => .inl (ChgF.of_ext hv.2)) ?_
        clear H a; intro v29 w27 hv a H
        obtain ⟨rfl, hE28⟩ := hv
        replace hS := hS.ext hE28
        refine kg_take 56 H rfl rfl rfl (q_not rfl) rfl (by kernel_rfl) (by kernel_rfl) (by kernel_rfl) (by kernel_rfl) (fun _ _ _ h => h) ?_
        clear H a; intro a H
        refine k_take 57 H rfl (q_pick rfl rfl rfl) rfl (by kernel_rfl) (by kernel_rfl) (by kernel_rfl) (by kernel_rfl) (fun _ _ _ h => h) ?_
        clear H a; intro a H
        refine k_done (by kernel_rfl) ?_
        refine then_normal ?_
        refine c_cond H rfl (fun hc89 => ?_) (fun hc89 => ?_)
        · skip
          first | cases hc89 | simp at hc89
        · skip
          refine wp_skip ?_
          refine block_normal ?_
          refine then_normal ?_
          refine wp_region_lit ?_
          refine n_q H (q_move rfl) rfl ?_
          clear H a; intro a H
          refine n_q H (q_add rfl rfl (by constructor <;> omega)) rfl ?_
          clear H a; intro a H
          refine n_q H (q_assign rfl) rfl ?_
          clear H a; intro a H
          refine n_nil ?_
          refine then_normal ?_
          replace hS := hS.pick 6 rfl
          dsimp only [List.eraseIdx] at hS
          replace hS := hS.pick 6 rfl
          dsimp only [List.eraseIdx] at hS
          replace hS := hS.pick 6 rfl
          dsimp only [List.eraseIdx] at hS
          replace hS := hS.pick 7 rfl
          dsimp only [List.eraseIdx] at hS
          replace hS := hS.pick 7 rfl
          dsimp only [List.eraseIdx] at hS
          replace hS := hS.pick 7 rfl
          dsimp only [List.eraseIdx] at hS
          replace hS := hS.pick 7 rfl
          dsimp only [List.eraseIdx] at hS
          replace hS := hS.take 7
          simp only [List.take_succ_cons, List.take_zero] at hS
          replace hS := hS.cuPut hcc h1 h1
          exact round (j + 1, l1.set j _) H ⟨rfl, rfl, trivial⟩ ⟨hev1.setX rfl, hS⟩ (by simp; omega)
      · skip
        refine wp_exit ?_
        refine then_exit ?_
        refine then_exit ?_
        refine block_exit ?_
        refine then_normal ?_
        refine wp_seq ?_
        refine wp_region_lit ?_
        refine n_q H (q_assign rfl) rfl ?_
        clear H a; intro a H
        refine n_nil ?_
        refine then_normal ?_
        refine wp_ret ?_
        refine ret1 H (.inr rfl) rfl rfl ?_
        exact ⟨rfl, hS.x⟩

end Go.Proofs.YtdglaodhmlocdaaDoor
