/- Part of a claim, shortened by a program from its texts: PtC. -/
import Derived.Test.YtfemfiiagjnhdaaGreatDoorQfF
set_option linter.unusedVariables false
set_option linter.unusedSimpArgs false
set_option maxRecDepth 10000
namespace Go.Proofs.YtfemfiiagjnhdaaGreatDoor
open Go Go.RowKit
theorem bd248 : bdB Tryz.prog 248=true:=by kernel_rfl
theorem pl248 : Tl Tryz.prog 248=some #[(0,1),(1,1),(2,1)]:=by kernel_rfl
theorem en100 : Zq Tryz.prog 100=true:=by kernel_rfl
theorem Ztx : Zq Tryz.prog 101=true:=by kernel_rfl
theorem Zty : Zq Tryz.prog 102=true:=by kernel_rfl
theorem en103 : Zq Tryz.prog 103=true:=by kernel_rfl
theorem Zk9 : Zq Tryz.prog 104=true:=by kernel_rfl
theorem en105 : Zq Tryz.prog 105=true:=by kernel_rfl
theorem en106 : Zq Tryz.prog 106=true:=by kernel_rfl
theorem en107 : Zq Tryz.prog 107=true:=by kernel_rfl
theorem en173 : Zq Tryz.prog 173=true:=by kernel_rfl
theorem Ztz : Zq Tryz.prog 175=true:=by kernel_rfl
theorem en177 : Zq Tryz.prog 177=true:=by kernel_rfl
theorem en178 : Zq Tryz.prog 178=true:=by kernel_rfl
theorem en179 : Zq Tryz.prog 179=true:=by kernel_rfl
theorem en180 : Zq Tryz.prog 180=true:=by kernel_rfl
theorem en181 : Zq Tryz.prog 181=true:=by kernel_rfl
theorem Zmv : Zq Tryz.prog 182=true:=by kernel_rfl
theorem Zt0 : Zq Tryz.prog 183=true:=by kernel_rfl
theorem Zt1 : Zq Tryz.prog 184=true:=by kernel_rfl
theorem Zt2 : Zq Tryz.prog 238=true:=by kernel_rfl
theorem en99 : Zq Tryz.prog 99=true:=by kernel_rfl
theorem Zmw : Zaw Tryz.prog 248 0=some 0:=by kernel_rfl
theorem Gi : Zaw Tryz.prog 248 1=some 1:=by kernel_rfl
theorem Zp6 : Zaw Tryz.prog 248 2=some 2:=by kernel_rfl
theorem sz4 : Jd Tryz.prog 4=some 1:=by kernel_rfl
theorem ze248 : Hb Tryz.prog 248=some [.slice none 0 0,.int .i64 0,.int .i64 0]:=by kernel_rfl
theorem ze39 : Hb Tryz.prog 39=some [.nilIface]:=by kernel_rfl
theorem Zhu {w : World} {A : Nat → Addr} {v0 : Value} {a0 : List UInt8} {v1 : Value} {a1 : List UInt8} (h0 : SlR w 1 (Zi eB) v0 a0) (h1 : SlR w 1 (Zi eB) v1 a1) {r : Bool} (hm : Tr a0 a1=some r) :
    Calls Tryz.prog 173 [v0,v1].toArray w (Ret fun u w'=>u=.bool r ∧ Ext w w'):=by
  have hS:=St.begin NB w
  unfold Tr at hm
  refine enter Tryz.func173 rfl rfl rfl ?_;intro a H;dsimp only [Qn,Nat.zero_add,Nat.reduceAdd] at H
  refine wp_seq (wp_region_lit (n_q H (Zb rfl) rfl ?_));clear H a;intro a H
  refine Ze (Za (wp_seq (wp_region_lit (n_q H (Zd rfl) rfl (W_q (Zmh Tryz.underlying100 Tryz.underlying5 Tryz.underlying9 rfl (fun w' hw=>((h0.ext (Zi.mono _) hS.x).ext (Zi.mono _) hw))) rfl (W_q (Zd rfl) rfl (W_q (Zmh Tryz.underlying100 Tryz.underlying5 Tryz.underlying9 rfl (fun w' hw=>((h1.ext (Zi.mono _) hS.x).ext (Zi.mono _) hw))) rfl (W_q (Zsw rfl rfl) rfl (W_q (Zb rfl) rfl ?_)))))))));clear H a;intro a H
  refine Ze (Za (wp_ret ?_))
  obtain rfl:=Option.some.inj hm
  refine Qx H (.inr rfl) rfl rfl ?_
  exact⟨rfl,hS.x⟩
theorem Zla {w : World} {A : Nat → Addr} {v0 : Value} {a0 : List UInt8} (hG : EV A w) (h0 : SlR w 1 (Zi eB) v0 a0) {r : List UInt8 × ErrM} (hm : Zab a0=some r) :
    Calls Tryz.prog 99 [v0].toArray w (Ret fun u w'=>∃ h_0 h_1,u=.tuple #[h_0,h_1] ∧ St NB w w' [ownR 5 1 h_0 r.1.length (r.1.flatMap eB),erQ A h_1 r.2]):=by
  have hS:=St.begin NB w
  unfold Zab at hm
  refine enter Tryz.func99 rfl rfl rfl ?_;intro a H;dsimp only [Qn,Nat.zero_add,Nat.reduceAdd] at H
  refine wp_seq (wp_region_lit (n_q H (Zb rfl) rfl (W_q (Zb rfl) rfl ?_)));clear H a;intro a H
  refine Ze (Za (wp_seq (wp_seq (wp_region_lit (n_q H (Zd rfl) rfl ?_)))));clear H a;intro a H
  obtain⟨aH,aI,aA,a9,bA⟩:=SlR.formV (h0.ext (Zi.mono _) hS.x)
  refine n_q H (Qc Tryz.underlying100 rfl aA) rfl (W_q (Yc (i:=a0.length) (j:=4) rfl rfl) rfl ?_);clear H a;intro a H
  refine Ze (Za (Zn H rfl (fun aC=>?_) (fun aC=>?_)))
  · replace hm:=Zu hm aC
    have aZ : a0.length < 4:=of_decide_eq_true aC
    refine wp_seq (Gw (by kernel_rfl) (by kernel_rfl) ?_)
    refine Xn H (Zf rfl ((hG.ext hS.x).ld Wz (by decide) Hv)) rfl ?_;clear H a;intro a H
    refine Xn H (Zb rfl) rfl ?_;clear H a;intro a H
    refine Xn H (Zb rfl) rfl ?_;clear H a;intro a H
    refine Tg ?_;intro bE aN
    replace hS:=hS.ext aN
    refine Za (wp_ret (Zh ?_))
    obtain rfl:=Option.some.inj hm
    replace hS:=hS.nilOwn 5 1
    replace hS:=hS.dVar (A:=A) (g:=Wz) (by decide)
    replace hS:=hS.pk1
    refine Zgd H (.inr rfl) rfl rfl rfl ?_
    exact⟨_,_,rfl,hS⟩
  replace hm:=Zv hm aC
  refine wp_skip (Za (wp_seq (wp_region_lit (n_q H (Zd rfl) rfl (W_q (Zd rfl) rfl (W_q (Qc Tryz.underlying100 rfl aA) rfl (W_q (Zg9 rfl rfl) rfl ?_)))))));clear H a;intro a H
  replace hm:=Za6 hm;obtain⟨aB,hm⟩:=hm
  refine n_q H (Zkn Tryz.underlying100 sz5 (show _=some (Value.slice aH a0.length aI) by rw [← aA];rfl) rfl aB.1 (by omega)) rfl (W_q (Zb rfl) rfl ?_);clear H a;intro a H
  refine Ze (Za (wp_seq (wp_seq (Tm [] 9 (by kernel_rfl) ?_))))
  obtain⟨aM,aF⟩ : ∃ x,x=w.drew:=⟨_,rfl⟩;rw [← aF];have aO : Ext w aM:=by rw [aF];exact Ext.drew' _
  clear aF
  replace hS:=hS.ext aO
  have bB:=hS
  have hW:=Nat.le_refl aM.heap.size
  refine Zg 0 H rfl (Zd rfl) rfl (by kernel_rfl) (by kernel_rfl) (by kernel_rfl) (by kernel_rfl) (fun _ _ _ h=>h) ?_;clear H a;intro a H
  refine Zg 3 H rfl (Zd rfl) rfl (by kernel_rfl) (by kernel_rfl) (by kernel_rfl) (by kernel_rfl) (fun _ _ _ h=>h) ?_;clear H a;intro a H
  refine Zg 4 H rfl (Zd rfl) rfl (by kernel_rfl) (by kernel_rfl) (by kernel_rfl) (by kernel_rfl) (fun _ _ _ h=>h) ?_;clear H a;intro a H
  obtain⟨bF,bG,aP,bC,bD⟩:=SlR.formV (SlR.takeV (h0.ext (Zi.mono _) hS.x) aA aB.1 aB.2)
  refine Zg 5 H rfl (Qc Tryz.underlying100 rfl aP) rfl (by kernel_rfl) (by kernel_rfl) (by kernel_rfl) (by kernel_rfl) (fun _ _ _ h=>h) ?_;clear H a;intro a H
  replace hm:=Za6 hm;obtain⟨aD,hm⟩:=hm
  obtain⟨aX,aY,aQ,aE⟩:=Zpm 1 (Zi eB) aH a0.length aI a0 (lo:=(((a0.take (IntKind.i64.wrap (((a0.length : Nat) : Int) - 4)).toNat).length : Nat) : Int)) (hi:=((a0.length : Nat) : Int)) aD.1 aD.2.1 aD.2.2
  rw [← aA] at aE
  refine Zg 6 H rfl (Xi (Zmf Tryz.underlying100 sz5 (show _=some (Value.slice aH a0.length aI) by rw [← aA];rfl) rfl aD.1 (by omega)) (show _=Value.slice aX (((a0.length : Nat) : Int).toNat - (((a0.take (IntKind.i64.wrap (((a0.length : Nat) : Int) - 4)).toNat).length : Nat) : Int).toNat) aY by rw [← aQ];simp)) rfl (by kernel_rfl) (by kernel_rfl) (by kernel_rfl) (by kernel_rfl) (fun _ _ _ h=>h) ?_;clear H a;intro a H
  replace hm:=Zj hm;obtain⟨bH,aR,hm⟩:=hm
  refine Qy 1 (by kernel_rfl) ?_
  refine Xg 1 H rfl rfl en137 (Zht (A:=A) (SlR.takeV (h0.ext (Zi.mono _) hS.x) aA aB.1 aB.2) aR) rfl (fun v w hv=>.inl (ChgF.of_ext (by obtain⟨_,hE0⟩:=hv;exact hE0))) ?_
  clear H;intro bI bJ hv;clear a;intro a H;obtain⟨rfl,aJ⟩:=hv
  replace hS:=hS.ext aJ
  replace hW:=Nat.le_trans hW aJ.size
  replace hm:=Zj hm;obtain⟨bK,aS,hm⟩:=hm
  refine Qy 2 (by kernel_rfl) ?_
  refine Xg 2 H rfl rfl en172 (Zgi (A:=A) aS) rfl (fun v w hv=>.inl (ChgF.of_ext (by obtain⟨_,_,hE0⟩:=hv;exact hE0.x))) ?_
  clear H;intro bL bM hv;clear a;intro a H;obtain⟨_,rfl,aK⟩:=hv
  replace hS:=hS.new aK;simp only [List.cons_append,List.nil_append] at hS
  replace hW:=Nat.le_trans hW aK.x.size
  replace hm:=Zj hm;obtain⟨bN,aT,hm⟩:=hm
  refine Qy 7 (by kernel_rfl) ?_
  refine Xg 7 H rfl rfl en173 (Zhu (A:=A) ((hS.own 0 rfl).slr rfl (fun _ _=>rfl)) (aE _ (h0.ext (Zi.mono _) hS.x)) aT) rfl (fun v w hv=>.inl (ChgF.of_ext (by obtain⟨_,hE0⟩:=hv;exact hE0))) ?_
  clear H;intro bO bP hv;clear a;intro a H;obtain⟨rfl,aL⟩:=hv
  replace hS:=hS.ext aL
  replace hW:=Nat.le_trans hW aL.size
  refine Zg 8 H rfl (Zb1 rfl) rfl (by kernel_rfl) (by kernel_rfl) (by kernel_rfl) (by kernel_rfl) (fun _ _ _ h=>h) ?_;clear H a;intro a H
  refine Xc (by kernel_rfl) ?_
  refine Za (Zn H rfl (fun aG=>?_) (fun aG=>?_))
  · replace hm:=Zu hm aG
    refine wp_seq (Gw (by kernel_rfl) (by kernel_rfl) ?_)
    refine Xn H (Zf rfl ((hG.ext hS.x).ld gSum (by decide) Hv)) rfl ?_;clear H a;intro a H
    refine Xn H (Zb rfl) rfl ?_;clear H a;intro a H
    refine Xn H (Zb rfl) rfl ?_;clear H a;intro a H
    refine Tg ?_;intro bQ aU
    replace hS:=hS.ext aU
    refine Za (wp_ret (Zh ?_))
    obtain rfl:=Option.some.inj hm
    replace hS:=hS.nilOwn 5 1
    replace hS:=hS.dVar (A:=A) (g:=gSum) (by decide)
    replace hS:=hS.pk1
    replace hS:=hS.tk2
    refine Zgd H (.inr rfl) rfl rfl rfl ?_
    exact⟨_,_,rfl,hS⟩
  replace hm:=Zv hm aG
  refine wp_skip (Za (wp_seq (wp_region_lit (n_q H (Zd rfl) rfl ?_))));clear H a;intro a H
  replace hm:=Zj hm;obtain⟨bR,aV,hm⟩:=hm
  refine Zk H rfl en171 (Zdr (A:=A) (SlR.takeV (h0.ext (Zi.mono _) hS.x) aA aB.1 aB.2) aV) rfl ?_
  clear H;intro bS bT hv;clear a;intro a H;obtain⟨_,rfl,aW⟩:=hv
  replace hS:=hS.new aW;simp only [List.cons_append,List.nil_append] at hS
  refine n_q H (Zb rfl) rfl (W_q (Zb rfl) rfl ?_);clear H a;intro a H
  refine Ze (Za (wp_ret ?_))
  obtain rfl:=Option.some.inj hm
  replace hS:=hS.dNil (A:=A)
  replace hS:=hS.pk1
  replace hS:=hS.tk2
  refine Zgd H (.inr rfl) rfl rfl rfl ?_
  exact⟨_,_,rfl,hS⟩
theorem Zj2 {w : World} {A : Nat → Addr} {v0 : Value} {a0 : List UInt8} (h0 : SlR w 1 (Zi eB) v0 a0) {r : GWireCursor} (hm : Zbl a0=some r) :
    Calls Tryz.prog 100 [v0].toArray w (Ret fun u w'=>∃ (h_0 : Nat) (h_1 : Value),u=.pointer (some ⟨h_0,0,none⟩) ∧ St NB w w' [blkR h_0 [h_1,.int .i64 r.at_,.int .i64 r.bound_] 248,ownR 5 1 h_1 r.b_.length (r.b_.flatMap eB)]):=by
  have hS:=St.begin NB w
  unfold Zbl at hm
  refine enter Tryz.func100 rfl rfl rfl ?_;intro a H;dsimp only [Qn,Nat.zero_add,Nat.reduceAdd] at H
  refine wp_seq (wp_region_lit (n_q H (Zb rfl) rfl ?_));clear H a;intro a H
  refine Ze (Za (wp_seq (wp_region_lit (n_q H (Zd rfl) rfl ?_))));clear H a;intro a H
  replace hm:=Zj hm;obtain⟨aH,aB,hm⟩:=hm
  refine Zk H rfl Ztu (Hi (A:=A) (h0.ext (Zi.mono _) hS.x) aB) rfl ?_
  clear H;intro aA aI hv;clear a;intro a H;obtain⟨_,rfl,aC⟩:=hv
  replace hS:=hS.new aC;simp only [List.cons_append,List.nil_append] at hS
  refine n_q H (Zd rfl) rfl ?_;clear H a;intro a H
  obtain⟨aJ,aK,aD,aF,aG⟩:=SlR.formV (h0.ext (Zi.mono _) hS.x)
  refine n_q H (Qc Tryz.underlying100 rfl aD) rfl (W_q (Qt (cs:=[aA,.int .i64 0,.int .i64 ((a0.length : Nat) : Int)]) ze248 bd248 pl248 rfl ((Qk (((hS.own 0 rfl).slr rfl (fun _ _=>rfl))).one rfl (by simp)).trans ((Qk rfl rfl (by simp)).trans rfl))) rfl ?_);clear H a;intro a H
  refine Yy H rfl (cs:=[aA,.int .i64 0,.int .i64 ((a0.length : Nat) : Int)]) rfl rfl ?_
  clear H;intro aL aM hN aE hs;clear a;intro a H
  replace hS:=hS.newBlk hN aE hs;clear hN hs
  refine n_q H (Zb rfl) rfl ?_;clear H a;intro a H
  refine Ze (Za (wp_ret ?_))
  obtain rfl:=Option.some.inj hm
  refine Qx H (.inr rfl) rfl rfl ?_
  exact⟨_,_,rfl,hS⟩
theorem Xz {w : World} {A : Nat → Addr} {fp : Nat → Prop} {b0 : Nat} {v0_0 : Value} {a0 : GWireCursor} (hP : Sep w fp [blkR b0 [v0_0,.int .i64 a0.at_,.int .i64 a0.bound_] 248]) (ro0_b : ∀ w',ChgP fp w w' → SlR w' 1 (Zi eB) v0_0 a0.b_) {r : Int × GWireCursor} (hm : Qv a0=some r) :
    Calls Tryz.prog 104 [.pointer (some ⟨b0,0,none⟩)].toArray w (Ret fun u w'=>u=.int .i64 r.1 ∧ St fp w w' [blkR b0 [v0_0,.int .i64 r.2.at_,.int .i64 r.2.bound_] 248]):=by
  have hS:=St.init hP
  unfold Qv at hm
  refine enter Tryz.func104 rfl rfl rfl ?_;intro a H;dsimp only [Qn,Nat.zero_add,Nat.reduceAdd] at H
  refine wp_seq (wp_region_lit (n_q H (Zb rfl) rfl ?_));clear H a;intro a H
  refine Ze (Za (wp_seq (Gw (by kernel_rfl) (by kernel_rfl) ?_)))
  refine Xn H (Zd rfl) rfl ?_;clear H a;intro a H
  refine Xn H (Qa rfl) rfl ?_;clear H a;intro a H
  refine Xn H (Zc rfl Zp6) rfl ?_;clear H a;intro a H
  refine Xn H (Zf rfl ((hS.blk 0 rfl).ld ag3 rfl)) rfl ?_;clear H a;intro a H
  refine Xn H (Zd rfl) rfl ?_;clear H a;intro a H
  refine Xn H (Qa rfl) rfl ?_;clear H a;intro a H
  refine Xn H (Zc rfl Gi) rfl ?_;clear H a;intro a H
  refine Xn H (Zf rfl ((hS.blk 0 rfl).ld ag3 rfl)) rfl ?_;clear H a;intro a H
  refine Xn H (Zg9 rfl rfl) rfl ?_;clear H a;intro a H
  refine Xn H (Zb rfl) rfl ?_;clear H a;intro a H
  refine Tg ?_;intro aB aA
  replace hS:=hS.ext aA
  refine Za (wp_ret ?_)
  obtain rfl:=Option.some.inj hm
  refine Qx H (.inr rfl) rfl rfl ?_
  exact⟨rfl,hS⟩
theorem Td {w : World} {A : Nat → Addr} {fp : Nat → Prop} {b0 : Nat} {v0_0 : Value} {a0 : GWireCursor} {a1 : Int} (hG : ∀ w',ChgP fp w w' → EV A w') (hP : Sep w fp [blkR b0 [v0_0,.int .i64 a0.at_,.int .i64 a0.bound_] 248]) (ro0_b : ∀ w',ChgP fp w w' → SlR w' 1 (Zi eB) v0_0 a0.b_) {r : List UInt8 × ErrM × GWireCursor} (hm : Xl a0 a1=some r) :
    Calls Tryz.prog 101 [.pointer (some ⟨b0,0,none⟩),.int .i64 a1].toArray w (Ret fun u w'=>∃ h_0 h_1,u=.tuple #[h_0,h_1] ∧ St fp w w' [blkR b0 [v0_0,.int .i64 r.2.2.at_,.int .i64 r.2.2.bound_] 248,ownR 5 1 h_0 r.1.length (r.1.flatMap eB),erQ A h_1 r.2.1]):=by
  have hS:=St.init hP
  unfold Xl at hm
  refine enter Tryz.func101 rfl rfl rfl ?_;intro a H;dsimp only [Qn,Nat.zero_add,Nat.reduceAdd] at H
  refine wp_seq (wp_region_lit (n_q H (Zb rfl) rfl (W_q (Zb rfl) rfl ?_)));clear H a;intro a H
  refine Ze (Za (wp_seq (wp_seq (wp_region_lit (n_q H (Zd rfl) rfl (W_q (Za5 rfl rfl) rfl ?_))))));clear H a;intro a H
  refine Ze (Za (Zn H rfl (fun aC=>?_) (fun aC=>?_)))
  · replace hm:=Zu hm aC
    refine wp_seq (Gw (by kernel_rfl) (by kernel_rfl) ?_)
    refine Xn H (Zf rfl ((hG _ hS.chg).ld gArg (by decide) Hv)) rfl ?_;clear H a;intro a H
    refine Xn H (Zb rfl) rfl ?_;clear H a;intro a H
    refine Xn H (Zb rfl) rfl ?_;clear H a;intro a H
    refine Tg ?_;intro bG aU
    replace hS:=hS.ext aU
    refine Za (wp_ret (Zh ?_))
    obtain rfl:=Option.some.inj hm
    replace hS:=hS.nilOwn 5 1
    replace hS:=hS.dVar (A:=A) (g:=gArg) (by decide)
    replace hS:=hS.pk1
    replace hS:=hS.pk2
    refine Zgd H (.inr rfl) rfl rfl rfl ?_
    exact⟨_,_,rfl,hS⟩
  replace hm:=Zv hm aC
  refine wp_skip (Za (wp_seq (wp_seq (wp_region_lit (n_q H (Zd rfl) rfl ?_)))));clear H a;intro a H
  obtain⟨bD,aI,aJ,aV,aK⟩:=hS.frame (rs1:=[blkR b0 [v0_0,.int .i64 a0.at_,.int .i64 a0.bound_] 248])
  replace hm:=Zj hm;obtain⟨aQ,aW,hm⟩:=hm
  refine Zk H rfl Zk9 (Xz (A:=A) aI (a0:=(⟨a0.b_,a0.at_,a0.bound_⟩ : GWireCursor)) (fun w' hw=>ro0_b _ (aJ _ hw)) aW) rfl ?_
  clear H;intro bH aH hv;clear a;intro a H;obtain⟨rfl,aX⟩:=hv
  replace hS:=aK _ _ aX;simp only [List.cons_append,List.nil_append] at hS;clear aI aJ aV aK
  refine n_q H (Zd rfl) rfl (W_q (Za5 rfl rfl) rfl ?_);clear H a;intro a H
  refine Ze (Za (Zn H rfl (fun aD=>?_) (fun aD=>?_)))
  · replace hm:=Zu hm aD
    refine wp_seq (Tm [] 8 (by kernel_rfl) ?_)
    obtain⟨aL,aE⟩ : ∃ x,x=aH.drew:=⟨_,rfl⟩;rw [← aE];have aY : Ext aH aL:=by rw [aE];exact Ext.drew' _
    clear aE
    replace hS:=hS.ext aY
    have aM:=hS
    have hW:=Nat.le_refl aL.heap.size
    refine Zg 0 H rfl (Zd rfl) rfl (by kernel_rfl) (by kernel_rfl) (by kernel_rfl) (by kernel_rfl) (fun _ _ _ h=>h) ?_;clear H a;intro a H
    refine Zg 1 H rfl (Qa rfl) rfl (by kernel_rfl) (by kernel_rfl) (by kernel_rfl) (by kernel_rfl) (fun _ _ _ h=>h) ?_;clear H a;intro a H
    refine Zg 2 H rfl (Zc rfl Gi) rfl (by kernel_rfl) (by kernel_rfl) (by kernel_rfl) (by kernel_rfl) (fun _ _ _ h=>h) ?_;clear H a;intro a H
    refine Qr 3 H rfl (Zf rfl (LdC.old ((aM.blk 0 rfl).ld ag3 rfl) Ext.rfl' (Nat.le_refl _) (by simp))) rfl (by kernel_rfl) (by kernel_rfl) (by kernel_rfl) (by kernel_rfl) (fun _ _ _ h=>h) ?_;clear H a;intro a H
    refine Qr 4 H rfl (Zf rfl (LdC.old ((hG _ aM.chg).ld Wz (by decide) Hv) Ext.rfl' (Nat.le_refl _) (by simp))) rfl (by kernel_rfl) (by kernel_rfl) (by kernel_rfl) (by kernel_rfl) (fun _ _ _ h=>h) ?_;clear H a;intro a H
    replace hm:=Zj hm;obtain⟨bI,aZ,hm⟩:=hm
    refine Qy 5 (by kernel_rfl) ?_
    refine Xg 5 H rfl rfl Zk4 (Hj (A:=A) (Xu.var (by decide) : IsE A aL _ (.v Wz)) aZ) rfl (fun v w hv=>.inl (ChgF.of_ext (by obtain⟨_,_,hE0⟩:=hv;exact hE0.x))) ?_
    clear H;intro bJ bK hv;clear a;intro a H;obtain⟨_,rfl,aN⟩:=hv
    replace hS:=hS.new aN;simp only [List.cons_append,List.nil_append] at hS
    replace hW:=Nat.le_trans hW aN.x.size
    refine Zg 6 H rfl (Zb rfl) rfl (by kernel_rfl) (by kernel_rfl) (by kernel_rfl) (by kernel_rfl) (fun _ _ _ h=>h) ?_;clear H a;intro a H
    refine Zg 7 H rfl (Zb rfl) rfl (by kernel_rfl) (by kernel_rfl) (by kernel_rfl) (by kernel_rfl) (fun _ _ _ h=>h) ?_;clear H a;intro a H
    refine Xc (by kernel_rfl) ?_
    refine Za (wp_ret (Zh ?_))
    obtain rfl:=Option.some.inj hm
    replace hS:=hS.nilOwn 5 1
    replace hS:=hS.pk1
    replace hS:=hS.pk1
    replace hS:=hS.pk2
    refine Zgd H (.inr rfl) rfl rfl rfl ?_
    exact⟨_,_,rfl,hS⟩
  replace hm:=Zv hm aD
  refine wp_skip (Za (wp_seq (Tm [] 17 (by kernel_rfl) ?_)))
  obtain⟨aR,aF⟩ : ∃ x,x=aH.drew:=⟨_,rfl⟩;rw [← aF];have a9 : Ext aH aR:=by rw [aF];exact Ext.drew' _
  clear aF
  replace hS:=hS.ext a9
  have aG:=hS
  have hW:=Nat.le_refl aR.heap.size
  refine Zg 0 H rfl (Zd rfl) rfl (by kernel_rfl) (by kernel_rfl) (by kernel_rfl) (by kernel_rfl) (fun _ _ _ h=>h) ?_;clear H a;intro a H
  refine Zg 1 H rfl (Qa rfl) rfl (by kernel_rfl) (by kernel_rfl) (by kernel_rfl) (by kernel_rfl) (fun _ _ _ h=>h) ?_;clear H a;intro a H
  refine Zg 2 H rfl (Zc rfl Zmw) rfl (by kernel_rfl) (by kernel_rfl) (by kernel_rfl) (by kernel_rfl) (fun _ _ _ h=>h) ?_;clear H a;intro a H
  refine Qr 3 H rfl (Zf rfl (LdC.old ((aG.blk 0 rfl).ld Zol rfl) Ext.rfl' (Nat.le_refl _) (by simp))) rfl (by kernel_rfl) (by kernel_rfl) (by kernel_rfl) (by kernel_rfl) (fun _ _ _ h=>h) ?_;clear H a;intro a H
  refine Zg 4 H rfl (Zd rfl) rfl (by kernel_rfl) (by kernel_rfl) (by kernel_rfl) (by kernel_rfl) (fun _ _ _ h=>h) ?_;clear H a;intro a H
  refine Zg 5 H rfl (Qa rfl) rfl (by kernel_rfl) (by kernel_rfl) (by kernel_rfl) (by kernel_rfl) (fun _ _ _ h=>h) ?_;clear H a;intro a H
  refine Zg 6 H rfl (Zc rfl Gi) rfl (by kernel_rfl) (by kernel_rfl) (by kernel_rfl) (by kernel_rfl) (fun _ _ _ h=>h) ?_;clear H a;intro a H
  refine Qr 7 H rfl (Zf rfl (LdC.old ((aG.blk 0 rfl).ld ag3 rfl) Ext.rfl' (Nat.le_refl _) (by simp))) rfl (by kernel_rfl) (by kernel_rfl) (by kernel_rfl) (by kernel_rfl) (fun _ _ _ h=>h) ?_;clear H a;intro a H
  refine Zg 8 H rfl (Zd rfl) rfl (by kernel_rfl) (by kernel_rfl) (by kernel_rfl) (by kernel_rfl) (fun _ _ _ h=>h) ?_;clear H a;intro a H
  refine Zg 9 H rfl (Qa rfl) rfl (by kernel_rfl) (by kernel_rfl) (by kernel_rfl) (by kernel_rfl) (fun _ _ _ h=>h) ?_;clear H a;intro a H
  refine Zg 10 H rfl (Zc rfl Gi) rfl (by kernel_rfl) (by kernel_rfl) (by kernel_rfl) (by kernel_rfl) (fun _ _ _ h=>h) ?_;clear H a;intro a H
  refine Qr 11 H rfl (Zf rfl (LdC.old ((aG.blk 0 rfl).ld ag3 rfl) Ext.rfl' (Nat.le_refl _) (by simp))) rfl (by kernel_rfl) (by kernel_rfl) (by kernel_rfl) (by kernel_rfl) (fun _ _ _ h=>h) ?_;clear H a;intro a H
  refine Zg 12 H rfl (Zd rfl) rfl (by kernel_rfl) (by kernel_rfl) (by kernel_rfl) (by kernel_rfl) (fun _ _ _ h=>h) ?_;clear H a;intro a H
  refine Zg 13 H rfl (Uo rfl rfl) rfl (by kernel_rfl) (by kernel_rfl) (by kernel_rfl) (by kernel_rfl) (fun _ _ _ h=>h) ?_;clear H a;intro a H
  obtain⟨aS,aT,aO,bE,bF⟩:=SlR.formV (ro0_b _ hS.chg)
  replace hm:=Za6 hm;obtain⟨aA,hm⟩:=hm
  obtain⟨bL,bM,bA,aB⟩:=Zpm 1 (Zi eB) aS a0.b_.length aT a0.b_ (lo:=aQ.2.at_) (hi:=(IntKind.i64.wrap (aQ.2.at_ + a1))) aA.1 aA.2.1 aA.2.2
  rw [← aO] at aB
  refine Zg 14 H rfl (Xi (Zo9 Tryz.underlying100 sz5 (show _=some (Value.slice aS a0.b_.length aT) by rw [← aO];rfl) rfl rfl aA.1 aA.2.1 (by omega)) bA) rfl (by kernel_rfl) (by kernel_rfl) (by kernel_rfl) (by kernel_rfl) (fun _ _ _ h=>h) ?_;clear H a;intro a H
  replace hm:=Zj hm;obtain⟨bN,bB,hm⟩:=hm
  refine Qy 15 (by kernel_rfl) ?_
  refine Xg 15 H rfl rfl Ztu (Hi (A:=A) (aB _ (ro0_b _ hS.chg)) bB) rfl (fun v w hv=>.inl (ChgF.of_ext (by obtain⟨_,_,hE0⟩:=hv;exact hE0.x))) ?_
  clear H;intro bO bP hv;clear a;intro a H;obtain⟨_,rfl,aP⟩:=hv
  replace hS:=hS.new aP;simp only [List.cons_append,List.nil_append] at hS
  replace hW:=Nat.le_trans hW aP.x.size
  refine Zg 16 H rfl (Zb rfl) rfl (by kernel_rfl) (by kernel_rfl) (by kernel_rfl) (by kernel_rfl) (fun _ _ _ h=>h) ?_;clear H a;intro a H
  refine Xc (by kernel_rfl) ?_
  refine Za (wp_seq (wp_region_lit (n_q H (Zd rfl) rfl (W_q (Qa rfl) rfl (W_q (Zc rfl Gi) rfl (W_q (Zf rfl ((hS.blk 1 rfl).ld ag3 rfl)) rfl (W_q (Zd rfl) rfl (W_q (Uo rfl rfl) rfl (W_q (Qa rfl) rfl (W_q (Zc rfl Gi) rfl ?_))))))))));clear H a;intro a H
  replace hS:=hS.pk1
  refine Kb H rfl rfl sz3 (hS.blk 0 rfl) (by simp) rfl ?_
  clear H;intro bQ hN bC hz;clear a;intro a H;replace hS:=hS.setBlk hN bC;clear hN hz
  try simp only [List.set_cons_succ,List.set_cons_zero] at hS
  refine Ze (Za (wp_seq (wp_region_lit (n_q H (Zd rfl) rfl (W_q (Zb rfl) rfl (W_q (Zb rfl) rfl ?_))))));clear H a;intro a H
  refine Ze (Za (wp_ret ?_))
  obtain rfl:=Option.some.inj hm
  replace hS:=hS.dNil (A:=A)
  replace hS:=hS.pk2
  replace hS:=hS.pk2
  refine Zgd H (.inr rfl) rfl rfl rfl ?_
  exact⟨_,_,rfl,hS⟩
theorem Hu {w : World} {A : Nat → Addr} {fp : Nat → Prop} {b0 : Nat} {v0_0 : Value} {a0 : GWireCursor} {a1 : Int} {a2 : Int} (hP : Sep w fp [blkR b0 [v0_0,.int .i64 a0.at_,.int .i64 a0.bound_] 248]) (ro0_b : ∀ w',ChgP fp w w' → SlR w' 1 (Zi eB) v0_0 a0.b_) {r : Int × GWireCursor} (hm : Xo a0 a1 a2=some r) :
    Calls Tryz.prog 238 [.pointer (some ⟨b0,0,none⟩),.int .i64 a1,.int .i64 a2].toArray w (Ret fun u w'=>u=.int .i64 r.1 ∧ St fp w w' [blkR b0 [v0_0,.int .i64 r.2.at_,.int .i64 r.2.bound_] 248]):=by
  have hS:=St.init hP
  unfold Xo at hm
  refine enter Tryz.func238 rfl rfl rfl ?_;intro a H;dsimp only [Qn,Nat.zero_add,Nat.reduceAdd] at H
  refine wp_seq (wp_region_lit (n_q H (Zb rfl) rfl ?_));clear H a;intro a H
  refine Ze (Za (wp_seq (wp_region_lit (n_q H (Zb rfl) rfl ?_))));clear H a;intro a H
  refine Ze (Za (wp_seq (wp_seq (Gw (by kernel_rfl) (by kernel_rfl) ?_))))
  refine Xn H (Zd rfl) rfl ?_;clear H a;intro a H
  refine Xn H (Qa rfl) rfl ?_;clear H a;intro a H
  refine Xn H (Zc rfl Zmw) rfl ?_;clear H a;intro a H
  refine Xn H (Zf rfl ((hS.blk 0 rfl).ld Zol rfl)) rfl ?_;clear H a;intro a H
  refine Xn H (Zd rfl) rfl ?_;clear H a;intro a H
  refine Xn H (Qa rfl) rfl ?_;clear H a;intro a H
  refine Xn H (Zc rfl Gi) rfl ?_;clear H a;intro a H
  refine Xn H (Zf rfl ((hS.blk 0 rfl).ld ag3 rfl)) rfl ?_;clear H a;intro a H
  refine Xn H (Zd rfl) rfl ?_;clear H a;intro a H
  refine Xn H (Uo rfl rfl) rfl ?_;clear H a;intro a H
  refine Xn H (Zd rfl) rfl ?_;clear H a;intro a H
  refine Xn H (Qa rfl) rfl ?_;clear H a;intro a H
  refine Xn H (Zc rfl Gi) rfl ?_;clear H a;intro a H
  refine Xn H (Zf rfl ((hS.blk 0 rfl).ld ag3 rfl)) rfl ?_;clear H a;intro a H
  refine Xn H (Zd rfl) rfl ?_;clear H a;intro a H
  refine Xn H (Uo rfl rfl) rfl ?_;clear H a;intro a H
  refine Xn H (Zd rfl) rfl ?_;clear H a;intro a H
  refine Xn H (Uo rfl rfl) rfl ?_;clear H a;intro a H
  obtain⟨aK,aL,aI,aX,aY⟩:=SlR.formV (ro0_b _ hS.chg)
  replace hm:=Za6 hm;obtain⟨aC,hm⟩:=hm
  obtain⟨aQ,aR,aN,aB⟩:=Zpm 1 (Zi eB) aK a0.b_.length aL a0.b_ (lo:=(IntKind.i64.wrap (a0.at_ + a1))) (hi:=(IntKind.i64.wrap ((IntKind.i64.wrap (a0.at_ + a1)) + a2))) aC.1 aC.2.1 aC.2.2
  rw [← aI] at aB
  refine Xn H (Xi (Zo9 Tryz.underlying100 sz5 (show _=some (Value.slice aK a0.b_.length aL) by rw [← aI];rfl) rfl rfl aC.1 aC.2.1 (by omega)) aN) rfl ?_;clear H a;intro a H
  obtain⟨bA,bB,aE,aZ,a9⟩:=SlR.formV (aB _ (ro0_b _ hS.chg))
  refine Xn H (Qc Tryz.underlying100 rfl aE) rfl ?_;clear H a;intro a H
  refine Xn H (Zd rfl) rfl ?_;clear H a;intro a H
  refine Tg ?_;intro bC aO
  replace hS:=hS.ext aO
  refine Za (wp_block ?_)
  replace hm:=Zj hm;obtain⟨aM,hm,aP⟩:=hm;replace hm:=Ql hm;obtain⟨aS,hm⟩:=hm
  refine Kr (σ:=Nat × Int × Nat) (fun (m,aD,aA)=>[(0,.pointer (some ⟨b0,0,none⟩)),(7,.int .i64 aD),(28,.slice aQ ((IntKind.i64.wrap ((IntKind.i64.wrap (a0.at_ + a1)) + a2)).toNat - (IntKind.i64.wrap (a0.at_ + a1)).toNat) aR),(29,.int .i64 ((((a0.b_.drop (IntKind.i64.wrap (a0.at_ + a1)).toNat).take ((IntKind.i64.wrap ((IntKind.i64.wrap (a0.at_ + a1)) + a2)).toNat - (IntKind.i64.wrap (a0.at_ + a1)).toNat)).length : Nat) : Int)),(30,.int .i64 ((aA : Nat) : Int))]) (fun (m,aD,aA) wl=>Ye (Xp a0 a1 a2) m (aD,aA)=some aM ∧ St fp w wl [blkR b0 [v0_0,.int .i64 a0.at_,.int .i64 a0.bound_] 248]) (fun (m,aD,aA)=>m) (aS,0,0) H ⟨rfl,rfl,rfl,rfl,rfl,trivial⟩ ⟨hm,hS⟩ ?_
  clear H hS hm a;intro xx a bD H hR;obtain⟨m,aD,aA⟩:=xx;simp only [ent,List.map_cons,List.map_nil] at H;(try dsimp only at hR);obtain⟨hm,hS⟩:=hR
  replace hm:=Qh hm;obtain⟨aT,bE,rfl,hm,aJ⟩:=hm;try dsimp only [Xp] at hm
  refine wp_seq (wp_region_lit (n_q H (Yc (i:=aA) (j:=(((a0.b_.drop (IntKind.i64.wrap (a0.at_ + a1)).toNat).take ((IntKind.i64.wrap ((IntKind.i64.wrap (a0.at_ + a1)) + a2)).toNat - (IntKind.i64.wrap (a0.at_ + a1)).toNat)).length)) rfl rfl) rfl ?_));clear H a;intro a H
  refine Ze (Za (wp_seq (Zn H rfl (fun aF=>?_) (fun aF=>?_))))
  · replace hm:=Zu hm aF
    have aV : aA < ((a0.b_.drop (IntKind.i64.wrap (a0.at_ + a1)).toNat).take ((IntKind.i64.wrap ((IntKind.i64.wrap (a0.at_ + a1)) + a2)).toNat - (IntKind.i64.wrap (a0.at_ + a1)).toNat)).length:=of_decide_eq_true aF
    refine wp_skip (Za (wp_seq (wp_block (wp_seq (wp_region_lit ?_)))))
    replace hm:=Zj hm;obtain⟨aU,aG,hm⟩:=hm
    obtain⟨aW,aH⟩:=SlR.adV (aB _ (ro0_b _ hS.chg)) aE aG
    refine n_q H (Ug (i:=aA) Tryz.underlying100 sz5 rfl aE aH rfl (Zb5 aG)) rfl (W_q (Zf rfl (SlR.ldOneV (aB _ (ro0_b _ hS.chg)) aE aH ag5 aG rfl)) rfl (W_q (Zb rfl) rfl ?_));clear H a;intro a H
    refine Ze (Za (wp_region_lit (n_q H (Zd rfl) rfl (W_q (q_shl rfl rfl (by decide)) rfl (W_q (Zd rfl) rfl (W_q (Xi (Hz Tryz.underlying5 Tryz.underlying3 ⟨_,rfl⟩ rfl) (Zff _)) rfl (W_q (q_or rfl rfl) rfl (W_q (Zb rfl) rfl ?_))))))));clear H a;intro a H
    refine Ze (Zo (Za (wp_region_lit (n_q H (Yt (i:=aA) (j:=1) rfl rfl (by omega)) rfl (W_q (Zd rfl) rfl ?_)))));clear H a;intro a H
    refine Ze (Za ?_)
    obtain rfl:=Option.some.inj hm
    exact Uz (aT,(bitOr .i64 (shL .i64 aD 8) (aU.toNat : Int)),aA + 1) H ⟨rfl,rfl,rfl,rfl,rfl,trivial⟩ ⟨aJ,hS⟩ (Nat.lt_succ_self _)
  replace hm:=Zv hm aF
  refine wp_exit (Zr (Zr (Qf ?_)))
  obtain rfl:=Option.some.inj hm;have hz : _=aM:=aJ;subst hz;replace hm:=aP;try dsimp only at hm
  refine Za (wp_seq (wp_region_lit (n_q H (Zd rfl) rfl (W_q (Zb rfl) rfl ?_))));clear H a;intro a H
  refine Ze (Za (wp_ret ?_))
  obtain rfl:=Option.some.inj hm
  refine Qx H (.inr rfl) rfl rfl ?_
  exact⟨rfl,hS⟩
theorem Gx {w : World} {A : Nat → Addr} {fp : Nat → Prop} {b0 : Nat} {v0_0 : Value} {a0 : GWireCursor} {a1 : Int} {a2 : Int} {a3 : Int} (hG : ∀ w',ChgP fp w w' → EV A w') (hP : Sep w fp [blkR b0 [v0_0,.int .i64 a0.at_,.int .i64 a0.bound_] 248]) (ro0_b : ∀ w',ChgP fp w w' → SlR w' 1 (Zi eB) v0_0 a0.b_) {r : Int × ErrM × GWireCursor} (hm : Qm a0 a1 a2 a3=some r) :
    Calls Tryz.prog 175 [.pointer (some ⟨b0,0,none⟩),.int .i64 a1,.int .i64 a2,.int .i64 a3].toArray w (Ret fun u w'=>∃ h_0,u=.tuple #[.int .i64 r.1,h_0] ∧ St fp w w' [blkR b0 [v0_0,.int .i64 r.2.2.at_,.int .i64 r.2.2.bound_] 248,erQ A h_0 r.2.1]):=by
  have hS:=St.init hP
  unfold Qm at hm
  refine enter Tryz.func175 rfl rfl rfl ?_;intro a H;dsimp only [Qn,Nat.zero_add,Nat.reduceAdd] at H
  refine wp_seq (wp_region_lit (n_q H (Zb rfl) rfl (W_q (Zb rfl) rfl ?_)));clear H a;intro a H
  refine Ze (Za (wp_seq (wp_seq (wp_region_lit (n_c H (fun HC=>?_))))));clear H
  refine Zfx HC (Zd rfl) rfl (by kernel_rfl) (V_q (Th rfl rfl) rfl (by kernel_rfl) (V_q (Zd rfl) rfl (by kernel_rfl) (V_g (Zd rfl) (by kernel_rfl) (by kernel_rfl) (by kernel_rfl) (V_g (Th rfl rfl) (by kernel_rfl) (by kernel_rfl) (by kernel_rfl) (Zrj (j:=2) rfl rfl rfl (by kernel_rfl) (by kernel_rfl) (V_q (Zd rfl) rfl (by kernel_rfl) (V_g (Zd rfl) (by kernel_rfl) (by kernel_rfl) (by kernel_rfl) (V_g (Th rfl rfl) (by kernel_rfl) (by kernel_rfl) (by kernel_rfl) (Zrj (j:=6) rfl rfl rfl (by kernel_rfl) (by kernel_rfl) ?_)))))))));clear HC a;intro a HC
  have H:=HC.has;clear HC
  refine Ze (Za (Zn H rfl (fun aA=>?_) (fun aA=>?_)))
  · replace hm:=Zu hm aA
    refine wp_seq (Gw (by kernel_rfl) (by kernel_rfl) ?_)
    refine Xn H (Zf rfl ((hG _ hS.chg).ld gArg (by decide) Hv)) rfl ?_;clear H a;intro a H
    refine Xn H (Zb rfl) rfl ?_;clear H a;intro a H
    refine Xn H (Zb rfl) rfl ?_;clear H a;intro a H
    refine Tg ?_;intro bH aU
    replace hS:=hS.ext aU
    refine Za (wp_ret (Zh ?_))
    obtain rfl:=Option.some.inj hm
    replace hS:=hS.dVar (A:=A) (g:=gArg) (by decide)
    replace hS:=hS.pk1
    refine Zgd H (.inr rfl) rfl rfl rfl ?_
    exact⟨_,rfl,hS⟩
  replace hm:=Zv hm aA
  refine wp_skip (Za (wp_seq (wp_seq (wp_region_lit (n_q H (Zd rfl) rfl ?_)))));clear H a;intro a H
  obtain⟨bF,aG,aH,aV,aI⟩:=hS.frame (rs1:=[blkR b0 [v0_0,.int .i64 a0.at_,.int .i64 a0.bound_] 248])
  replace hm:=Zj hm;obtain⟨aF,aW,hm⟩:=hm
  refine Zk H rfl Zk9 (Xz (A:=A) aG (a0:=(⟨a0.b_,a0.at_,a0.bound_⟩ : GWireCursor)) (fun w' hw=>ro0_b _ (aH _ hw)) aW) rfl ?_
  clear H;intro bI aS hv;clear a;intro a H;obtain⟨rfl,aX⟩:=hv
  replace hS:=aI _ _ aX;simp only [List.cons_append,List.nil_append] at hS;clear aG aH aV aI
  refine n_q H (Zd rfl) rfl (W_q (Za5 rfl rfl) rfl ?_);clear H a;intro a H
  refine Ze (Za (Zn H rfl (fun aB=>?_) (fun aB=>?_)))
  · replace hm:=Zu hm aB
    refine wp_seq (Tm [] 8 (by kernel_rfl) ?_)
    obtain⟨aJ,aC⟩ : ∃ x,x=aS.drew:=⟨_,rfl⟩;rw [← aC];have aY : Ext aS aJ:=by rw [aC];exact Ext.drew' _
    clear aC
    replace hS:=hS.ext aY
    have aK:=hS
    have hW:=Nat.le_refl aJ.heap.size
    refine Zg 0 H rfl (Zd rfl) rfl (by kernel_rfl) (by kernel_rfl) (by kernel_rfl) (by kernel_rfl) (fun _ _ _ h=>h) ?_;clear H a;intro a H
    refine Zg 1 H rfl (Qa rfl) rfl (by kernel_rfl) (by kernel_rfl) (by kernel_rfl) (by kernel_rfl) (fun _ _ _ h=>h) ?_;clear H a;intro a H
    refine Zg 2 H rfl (Zc rfl Gi) rfl (by kernel_rfl) (by kernel_rfl) (by kernel_rfl) (by kernel_rfl) (fun _ _ _ h=>h) ?_;clear H a;intro a H
    refine Qr 3 H rfl (Zf rfl (LdC.old ((aK.blk 0 rfl).ld ag3 rfl) Ext.rfl' (Nat.le_refl _) (by simp))) rfl (by kernel_rfl) (by kernel_rfl) (by kernel_rfl) (by kernel_rfl) (fun _ _ _ h=>h) ?_;clear H a;intro a H
    refine Qr 4 H rfl (Zf rfl (LdC.old ((hG _ aK.chg).ld Wz (by decide) Hv) Ext.rfl' (Nat.le_refl _) (by simp))) rfl (by kernel_rfl) (by kernel_rfl) (by kernel_rfl) (by kernel_rfl) (fun _ _ _ h=>h) ?_;clear H a;intro a H
    replace hm:=Zj hm;obtain⟨bJ,aZ,hm⟩:=hm
    refine Qy 5 (by kernel_rfl) ?_
    refine Xg 5 H rfl rfl Zk4 (Hj (A:=A) (Xu.var (by decide) : IsE A aJ _ (.v Wz)) aZ) rfl (fun v w hv=>.inl (ChgF.of_ext (by obtain⟨_,_,hE0⟩:=hv;exact hE0.x))) ?_
    clear H;intro bK bL hv;clear a;intro a H;obtain⟨_,rfl,aL⟩:=hv
    replace hS:=hS.new aL;simp only [List.cons_append,List.nil_append] at hS
    replace hW:=Nat.le_trans hW aL.x.size
    refine Zg 6 H rfl (Zb rfl) rfl (by kernel_rfl) (by kernel_rfl) (by kernel_rfl) (by kernel_rfl) (fun _ _ _ h=>h) ?_;clear H a;intro a H
    refine Zg 7 H rfl (Zb rfl) rfl (by kernel_rfl) (by kernel_rfl) (by kernel_rfl) (by kernel_rfl) (fun _ _ _ h=>h) ?_;clear H a;intro a H
    refine Xc (by kernel_rfl) ?_
    refine Za (wp_ret (Zh ?_))
    obtain rfl:=Option.some.inj hm
    replace hS:=hS.pk1
    refine Zgd H (.inr rfl) rfl rfl rfl ?_
    exact⟨_,rfl,hS⟩
  replace hm:=Zv hm aB
  refine wp_skip (Za (wp_seq (wp_region_lit (n_q H (Zd rfl) rfl (W_q (Zd rfl) rfl ?_)))));clear H a;intro a H
  obtain⟨bG,aM,aN,a9,aO⟩:=hS.frame (rs1:=[blkR b0 [v0_0,.int .i64 aF.2.at_,.int .i64 aF.2.bound_] 248])
  replace hm:=Zj hm;obtain⟨bM,bA,hm⟩:=hm
  refine Zk H rfl Zt2 (Hu (A:=A) aM (a0:=(⟨a0.b_,aF.2.at_,aF.2.bound_⟩ : GWireCursor)) (fun w' hw=>ro0_b _ (aN _ hw)) bA) rfl ?_
  clear H;intro bN aT hv;clear a;intro a H;obtain⟨rfl,bB⟩:=hv
  replace hS:=aO _ _ bB;simp only [List.cons_append,List.nil_append] at hS;clear aM aN a9 aO
  refine n_q H (Zb rfl) rfl ?_;clear H a;intro a H
  refine Ze (Za (wp_seq (wp_seq (wp_region_lit (n_c H (fun HC=>?_))))));clear H
  refine Zfx HC (Zd rfl) rfl (by kernel_rfl) (V_q (Zd rfl) rfl (by kernel_rfl) (V_q (Za5 rfl rfl) rfl (by kernel_rfl) (V_q (Zd rfl) rfl (by kernel_rfl) (V_g (Zd rfl) (by kernel_rfl) (by kernel_rfl) (by kernel_rfl) (V_g (Zd rfl) (by kernel_rfl) (by kernel_rfl) (by kernel_rfl) (V_g (Zcd rfl rfl) (by kernel_rfl) (by kernel_rfl) (by kernel_rfl) (Zml (j:=3) rfl rfl rfl (by kernel_rfl) (by kernel_rfl) ?_)))))));clear HC a;intro a HC
  have H:=HC.has;clear HC
  refine Ze (Za (Zn H rfl (fun aD=>?_) (fun aD=>?_)))
  · replace hm:=Zu hm aD
    refine wp_seq (Tm [] 8 (by kernel_rfl) ?_)
    obtain⟨aP,aE⟩ : ∃ x,x=aT.drew:=⟨_,rfl⟩;rw [← aE];have bC : Ext aT aP:=by rw [aE];exact Ext.drew' _
    clear aE
    replace hS:=hS.ext bC
    have aQ:=hS
    have hW:=Nat.le_refl aP.heap.size
    refine Zg 0 H rfl (Zd rfl) rfl (by kernel_rfl) (by kernel_rfl) (by kernel_rfl) (by kernel_rfl) (fun _ _ _ h=>h) ?_;clear H a;intro a H
    refine Zg 1 H rfl (Qa rfl) rfl (by kernel_rfl) (by kernel_rfl) (by kernel_rfl) (by kernel_rfl) (fun _ _ _ h=>h) ?_;clear H a;intro a H
    refine Zg 2 H rfl (Zc rfl Gi) rfl (by kernel_rfl) (by kernel_rfl) (by kernel_rfl) (by kernel_rfl) (fun _ _ _ h=>h) ?_;clear H a;intro a H
    refine Qr 3 H rfl (Zf rfl (LdC.old ((aQ.blk 0 rfl).ld ag3 rfl) Ext.rfl' (Nat.le_refl _) (by simp))) rfl (by kernel_rfl) (by kernel_rfl) (by kernel_rfl) (by kernel_rfl) (fun _ _ _ h=>h) ?_;clear H a;intro a H
    refine Qr 4 H rfl (Zf rfl (LdC.old ((hG _ aQ.chg).ld Vn (by decide) Hv) Ext.rfl' (Nat.le_refl _) (by simp))) rfl (by kernel_rfl) (by kernel_rfl) (by kernel_rfl) (by kernel_rfl) (fun _ _ _ h=>h) ?_;clear H a;intro a H
    replace hm:=Zj hm;obtain⟨bO,bD,hm⟩:=hm
    refine Qy 5 (by kernel_rfl) ?_
    refine Xg 5 H rfl rfl Zk4 (Hj (A:=A) (Xu.var (by decide) : IsE A aP _ (.v Vn)) bD) rfl (fun v w hv=>.inl (ChgF.of_ext (by obtain⟨_,_,hE0⟩:=hv;exact hE0.x))) ?_
    clear H;intro bP bQ hv;clear a;intro a H;obtain⟨_,rfl,aR⟩:=hv
    replace hS:=hS.new aR;simp only [List.cons_append,List.nil_append] at hS
    replace hW:=Nat.le_trans hW aR.x.size
    refine Zg 6 H rfl (Zb rfl) rfl (by kernel_rfl) (by kernel_rfl) (by kernel_rfl) (by kernel_rfl) (fun _ _ _ h=>h) ?_;clear H a;intro a H
    refine Zg 7 H rfl (Zb rfl) rfl (by kernel_rfl) (by kernel_rfl) (by kernel_rfl) (by kernel_rfl) (fun _ _ _ h=>h) ?_;clear H a;intro a H
    refine Xc (by kernel_rfl) ?_
    refine Za (wp_ret (Zh ?_))
    obtain rfl:=Option.some.inj hm
    replace hS:=hS.pk1
    refine Zgd H (.inr rfl) rfl rfl rfl ?_
    exact⟨_,rfl,hS⟩
  replace hm:=Zv hm aD
  refine wp_skip (Za (wp_seq (wp_region_lit (n_q H (Zd rfl) rfl (W_q (Qa rfl) rfl (W_q (Zc rfl Gi) rfl (W_q (Zf rfl ((hS.blk 0 rfl).ld ag3 rfl)) rfl (W_q (Zd rfl) rfl (W_q (Uo rfl rfl) rfl (W_q (Qa rfl) rfl (W_q (Zc rfl Gi) rfl ?_)))))))))));clear H a;intro a H
  refine Kb H rfl rfl sz3 (hS.blk 0 rfl) (by simp) rfl ?_
  clear H;intro bR hN bE hz;clear a;intro a H;replace hS:=hS.setBlk hN bE;clear hN hz
  try simp only [List.set_cons_succ,List.set_cons_zero] at hS
  refine Ze (Za (wp_seq (wp_region_lit (n_q H (Zd rfl) rfl (W_q (Zb rfl) rfl (W_q (Zb rfl) rfl ?_))))));clear H a;intro a H
  refine Ze (Za (wp_ret ?_))
  obtain rfl:=Option.some.inj hm
  replace hS:=hS.dNil (A:=A)
  replace hS:=hS.pk1
  refine Zgd H (.inr rfl) rfl rfl rfl ?_
  exact⟨_,rfl,hS⟩
theorem Te {w : World} {A : Nat → Addr} {fp : Nat → Prop} {b0 : Nat} {v0_0 : Value} {a0 : GWireCursor} (hG : ∀ w',ChgP fp w w' → EV A w') (hP : Sep w fp [blkR b0 [v0_0,.int .i64 a0.at_,.int .i64 a0.bound_] 248]) (ro0_b : ∀ w',ChgP fp w w' → SlR w' 1 (Zi eB) v0_0 a0.b_) {r : Int × ErrM × GWireCursor} (hm : Yn a0=some r) :
    Calls Tryz.prog 102 [.pointer (some ⟨b0,0,none⟩)].toArray w (Ret fun u w'=>∃ h_0,u=.tuple #[.int .i64 r.1,h_0] ∧ St fp w w' [blkR b0 [v0_0,.int .i64 r.2.2.at_,.int .i64 r.2.2.bound_] 248,erQ A h_0 r.2.1]):=by
  have hS:=St.init hP
  unfold Yn at hm
  refine enter Tryz.func102 rfl rfl rfl ?_;intro a H;dsimp only [Qn,Nat.zero_add,Nat.reduceAdd] at H
  refine wp_seq (wp_region_lit (n_q H (Zb rfl) rfl (W_q (Zb rfl) rfl ?_)));clear H a;intro a H
  refine Ze (Za (wp_seq (wp_region_lit (n_q H (Zd rfl) rfl ?_))));clear H a;intro a H
  replace hm:=Zj hm;obtain⟨aJ,aD,hm⟩:=hm
  refine Zk H rfl Zrq (Za9 (A:=A) aD) rfl ?_
  clear H;intro aK aL hv;clear a;intro a H;obtain⟨rfl,aE⟩:=hv
  replace hS:=hS.ext aE
  obtain⟨aI,aB,aA,aF,aC⟩:=hS.frame (rs1:=[blkR b0 [v0_0,.int .i64 a0.at_,.int .i64 a0.bound_] 248])
  replace hm:=Zj hm;obtain⟨aM,aG,hm⟩:=hm
  refine Zk H rfl Ztz (Gx (A:=A) (fun w' hw=>hG _ (aA _ hw)) aB (a0:=(⟨a0.b_,a0.at_,a0.bound_⟩ : GWireCursor)) (fun w' hw=>ro0_b _ (aA _ hw)) aG) rfl ?_
  clear H;intro aN aO hv;clear a;intro a H;obtain⟨aP,rfl,aH⟩:=hv
  replace hS:=aC _ _ aH;simp only [List.cons_append,List.nil_append] at hS;clear aB aA aF aC
  refine n_q H (Zm rfl rfl) rfl (W_q (Zm rfl rfl) rfl (W_q (Zb rfl) rfl (W_q (Zb rfl) rfl ?_)));clear H a;intro a H
  refine Ze (Za (wp_ret ?_))
  obtain rfl:=Option.some.inj hm
  refine Zgd H (.inr rfl) rfl rfl rfl ?_
  exact⟨_,rfl,hS⟩
theorem Za3 {w : World} {A : Nat → Addr} {fp : Nat → Prop} {b0 : Nat} {v0_0 : Value} {a0 : GWireCursor} (hG : ∀ w',ChgP fp w w' → EV A w') (hP : Sep w fp [blkR b0 [v0_0,.int .i64 a0.at_,.int .i64 a0.bound_] 248]) (ro0_b : ∀ w',ChgP fp w w' → SlR w' 1 (Zi eB) v0_0 a0.b_) {r : Bool × ErrM × GWireCursor} (hm : Vb a0=some r) :
    Calls Tryz.prog 103 [.pointer (some ⟨b0,0,none⟩)].toArray w (Ret fun u w'=>∃ h_0,u=.tuple #[.bool r.1,h_0] ∧ St fp w w' [blkR b0 [v0_0,.int .i64 r.2.2.at_,.int .i64 r.2.2.bound_] 248,erQ A h_0 r.2.1]):=by
  have hS:=St.init hP
  unfold Vb at hm
  refine enter Tryz.func103 rfl rfl rfl ?_;intro a H;dsimp only [Qn,Nat.zero_add,Nat.reduceAdd] at H
  refine wp_seq (wp_region_lit (n_q H (Zb rfl) rfl (W_q (Zb rfl) rfl ?_)));clear H a;intro a H
  refine Ze (Za (wp_seq (wp_region_lit (n_q H (Zd rfl) rfl ?_))));clear H a;intro a H
  obtain⟨aG,aB,aA,aD,aC⟩:=hS.frame (rs1:=[blkR b0 [v0_0,.int .i64 a0.at_,.int .i64 a0.bound_] 248])
  replace hm:=Zj hm;obtain⟨aH,aE,hm⟩:=hm
  refine Zk H rfl Ztz (Gx (A:=A) (fun w' hw=>hG _ (aA _ hw)) aB (a0:=(⟨a0.b_,a0.at_,a0.bound_⟩ : GWireCursor)) (fun w' hw=>ro0_b _ (aA _ hw)) aE) rfl ?_
  clear H;intro aI aJ hv;clear a;intro a H;obtain⟨aK,rfl,aF⟩:=hv
  replace hS:=aC _ _ aF;simp only [List.cons_append,List.nil_append] at hS;clear aB aA aD aC
  refine n_q H (Zd rfl) rfl (W_q (Zm rfl rfl) rfl (W_q (Zm rfl rfl) rfl (W_q (Zb rfl) rfl (W_q (Zb rfl) rfl ?_))));clear H a;intro a H
  refine Ze (Za (wp_seq (wp_region_lit (n_q H (Zd rfl) rfl (W_q (Jy rfl rfl) rfl (W_q (Zd rfl) rfl (W_q (Zb rfl) rfl (W_q (Zb rfl) rfl ?_))))))));clear H a;intro a H
  refine Ze (Za (wp_ret ?_))
  obtain rfl:=Option.some.inj hm
  refine Zgd H (.inr rfl) rfl rfl rfl ?_
  exact⟨_,rfl,hS⟩
theorem Zed {w : World} {A : Nat → Addr} {fp : Nat → Prop} {b0 : Nat} {v0_0 : Value} {a0 : GWireCursor} (hG : ∀ w',ChgP fp w w' → EV A w') (hP : Sep w fp [blkR b0 [v0_0,.int .i64 a0.at_,.int .i64 a0.bound_] 248]) (ro0_b : ∀ w',ChgP fp w w' → SlR w' 1 (Zi eB) v0_0 a0.b_) {r : Int × Int × ErrM × GWireCursor} (hm : Vc a0=some r) :
    Calls Tryz.prog 177 [.pointer (some ⟨b0,0,none⟩)].toArray w (Ret fun u w'=>∃ h_0,u=.tuple #[.int .i64 r.1,.int .i64 r.2.1,h_0] ∧ St fp w w' [blkR b0 [v0_0,.int .i64 r.2.2.2.at_,.int .i64 r.2.2.2.bound_] 248,erQ A h_0 r.2.2.1]):=by
  have hS:=St.init hP
  unfold Vc at hm
  refine enter Tryz.func177 rfl rfl rfl ?_;intro a H;dsimp only [Qn,Nat.zero_add,Nat.reduceAdd] at H
  refine wp_seq (wp_region_lit (n_q H (Zb rfl) rfl (W_q (Zb rfl) rfl (W_q (Zb rfl) rfl ?_))));clear H a;intro a H
  refine Ze (Za (wp_seq (wp_seq (wp_region_lit (n_q H (Zd rfl) rfl ?_)))));clear H a;intro a H
  obtain⟨bC,aE,aF,aR,aG⟩:=hS.frame (rs1:=[blkR b0 [v0_0,.int .i64 a0.at_,.int .i64 a0.bound_] 248])
  replace hm:=Zj hm;obtain⟨aD,aS,hm⟩:=hm
  refine Zk H rfl Zk9 (Xz (A:=A) aE (a0:=(⟨a0.b_,a0.at_,a0.bound_⟩ : GWireCursor)) (fun w' hw=>ro0_b _ (aF _ hw)) aS) rfl ?_
  clear H;intro bF aQ hv;clear a;intro a H;obtain⟨rfl,aT⟩:=hv
  replace hS:=aG _ _ aT;simp only [List.cons_append,List.nil_append] at hS;clear aE aF aR aG
  refine n_q H (Za5 rfl rfl) rfl ?_;clear H a;intro a H
  refine Ze (Za (Zn H rfl (fun aB=>?_) (fun aB=>?_)))
  · replace hm:=Zu hm aB
    refine wp_seq (Tm [] 9 (by kernel_rfl) ?_)
    obtain⟨aH,aC⟩ : ∃ x,x=aQ.drew:=⟨_,rfl⟩;rw [← aC];have aU : Ext aQ aH:=by rw [aC];exact Ext.drew' _
    clear aC
    replace hS:=hS.ext aU
    have aI:=hS
    have hW:=Nat.le_refl aH.heap.size
    refine Zg 0 H rfl (Zd rfl) rfl (by kernel_rfl) (by kernel_rfl) (by kernel_rfl) (by kernel_rfl) (fun _ _ _ h=>h) ?_;clear H a;intro a H
    refine Zg 1 H rfl (Qa rfl) rfl (by kernel_rfl) (by kernel_rfl) (by kernel_rfl) (by kernel_rfl) (fun _ _ _ h=>h) ?_;clear H a;intro a H
    refine Zg 2 H rfl (Zc rfl Gi) rfl (by kernel_rfl) (by kernel_rfl) (by kernel_rfl) (by kernel_rfl) (fun _ _ _ h=>h) ?_;clear H a;intro a H
    refine Qr 3 H rfl (Zf rfl (LdC.old ((aI.blk 0 rfl).ld ag3 rfl) Ext.rfl' (Nat.le_refl _) (by simp))) rfl (by kernel_rfl) (by kernel_rfl) (by kernel_rfl) (by kernel_rfl) (fun _ _ _ h=>h) ?_;clear H a;intro a H
    refine Qr 4 H rfl (Zf rfl (LdC.old ((hG _ aI.chg).ld Wz (by decide) Hv) Ext.rfl' (Nat.le_refl _) (by simp))) rfl (by kernel_rfl) (by kernel_rfl) (by kernel_rfl) (by kernel_rfl) (fun _ _ _ h=>h) ?_;clear H a;intro a H
    replace hm:=Zj hm;obtain⟨bG,aV,hm⟩:=hm
    refine Qy 5 (by kernel_rfl) ?_
    refine Xg 5 H rfl rfl Zk4 (Hj (A:=A) (Xu.var (by decide) : IsE A aH _ (.v Wz)) aV) rfl (fun v w hv=>.inl (ChgF.of_ext (by obtain⟨_,_,hE0⟩:=hv;exact hE0.x))) ?_
    clear H;intro u32 bH hv;clear a;intro a H;obtain⟨_,rfl,aJ⟩:=hv
    replace hS:=hS.new aJ;simp only [List.cons_append,List.nil_append] at hS
    replace hW:=Nat.le_trans hW aJ.x.size
    refine Zg 6 H rfl (Zb rfl) rfl (by kernel_rfl) (by kernel_rfl) (by kernel_rfl) (by kernel_rfl) (fun _ _ _ h=>h) ?_;clear H a;intro a H
    refine Zg 7 H rfl (Zb rfl) rfl (by kernel_rfl) (by kernel_rfl) (by kernel_rfl) (by kernel_rfl) (fun _ _ _ h=>h) ?_;clear H a;intro a H
    refine Zg 8 H rfl (Zb rfl) rfl (by kernel_rfl) (by kernel_rfl) (by kernel_rfl) (by kernel_rfl) (fun _ _ _ h=>h) ?_;clear H a;intro a H
    refine Xc (by kernel_rfl) ?_
    refine Za (wp_ret (Zh ?_))
    obtain rfl:=Option.some.inj hm
    replace hS:=hS.pk1
    refine Zhd H (.inr rfl) rfl (vs:=[.int .i64 0,.int .i64 0,u32]) (Wl rfl (Wl rfl (Wl rfl Hd))) ?_
    exact⟨_,rfl,hS⟩
  replace hm:=Zv hm aB
  refine wp_skip (Za (wp_seq (wp_region_lit (n_q H (Zd rfl) rfl ?_))));clear H a;intro a H
  obtain⟨bD,aK,aL,aW,aM⟩:=hS.frame (rs1:=[blkR b0 [v0_0,.int .i64 aD.2.at_,.int .i64 aD.2.bound_] 248])
  replace hm:=Zj hm;obtain⟨aA,aX,hm⟩:=hm
  refine Zk H rfl Zt2 (Hu (A:=A) aK (a0:=(⟨a0.b_,aD.2.at_,aD.2.bound_⟩ : GWireCursor)) (fun w' hw=>ro0_b _ (aL _ hw)) aX) rfl ?_
  clear H;intro bI bJ hv;clear a;intro a H;obtain⟨rfl,aY⟩:=hv
  replace hS:=aM _ _ aY;simp only [List.cons_append,List.nil_append] at hS;clear aK aL aW aM
  refine n_q H (Zd rfl) rfl ?_;clear H a;intro a H
  obtain⟨bE,aN,aO,aZ,aP⟩:=hS.frame (rs1:=[blkR b0 [v0_0,.int .i64 aA.2.at_,.int .i64 aA.2.bound_] 248])
  replace hm:=Zj hm;obtain⟨bB,a9,hm⟩:=hm
  refine Zk H rfl Zt2 (Hu (A:=A) aN (a0:=(⟨a0.b_,aA.2.at_,aA.2.bound_⟩ : GWireCursor)) (fun w' hw=>ro0_b _ (aO _ hw)) a9) rfl ?_
  clear H;intro bK bL hv;clear a;intro a H;obtain⟨rfl,bA⟩:=hv
  replace hS:=aP _ _ bA;simp only [List.cons_append,List.nil_append] at hS;clear aN aO aZ aP
  refine n_q H (Zb rfl) rfl (W_q (Zb rfl) rfl (W_q (Zb rfl) rfl ?_));clear H a;intro a H
  refine Ze (Za (wp_ret ?_))
  obtain rfl:=Option.some.inj hm
  replace hS:=hS.dNil (A:=A)
  replace hS:=hS.pk1
  refine Zhd H (.inr rfl) rfl (vs:=[.int .i64 aA.1,.int .i64 bB.1,.nilIface]) (Wl rfl (Wl rfl (Wl rfl Hd))) ?_
  exact⟨_,rfl,hS⟩
theorem Zdt {w : World} {A : Nat → Addr} {fp : Nat → Prop} {b0 : Nat} {v0_0 : Value} {a0 : GWireCursor} {a1 : Int} (hG : ∀ w',ChgP fp w w' → EV A w') (hP : Sep w fp [blkR b0 [v0_0,.int .i64 a0.at_,.int .i64 a0.bound_] 248]) (ro0_b : ∀ w',ChgP fp w w' → SlR w' 1 (Zi eB) v0_0 a0.b_) {r : Option GWireCursor × ErrM × GWireCursor} (hm : Yo a0 a1=some r) :
    Calls Tryz.prog 178 [.pointer (some ⟨b0,0,none⟩),.int .i64 a1].toArray w (Ret fun u w'=>∃ h_0 h_1,u=.tuple #[h_0,h_1] ∧ St fp w w' [blkR b0 [v0_0,.int .i64 r.2.2.at_,.int .i64 r.2.2.bound_] 248,optR (fun (x : GWireCursor) b=>blkR b [v0_0,.int .i64 x.at_,.int .i64 x.bound_] 248) h_0 r.1,erQ A h_1 r.2.1]):=by
  have hS:=St.init hP
  unfold Yo at hm
  refine enter Tryz.func178 rfl rfl rfl ?_;intro a H;dsimp only [Qn,Nat.zero_add,Nat.reduceAdd] at H
  refine wp_seq (wp_region_lit (n_q H (Zb rfl) rfl (W_q (Zb rfl) rfl ?_)));clear H a;intro a H
  refine Ze (Za (wp_seq (wp_seq (wp_region_lit (n_q H (Zd rfl) rfl (W_q (Zd rfl) rfl ?_))))));clear H a;intro a H
  obtain⟨aX,aG,aH,aO,aI⟩:=hS.frame (rs1:=[blkR b0 [v0_0,.int .i64 a0.at_,.int .i64 a0.bound_] 248])
  replace hm:=Zj hm;obtain⟨aA,aP,hm⟩:=hm
  refine Zk H rfl Zk9 (Xz (A:=A) aG (a0:=(⟨a0.b_,a0.at_,a0.bound_⟩ : GWireCursor)) (fun w' hw=>ro0_b _ (aH _ hw)) aP) rfl ?_
  clear H;intro aY aF hv;clear a;intro a H;obtain⟨rfl,aQ⟩:=hv
  replace hS:=aI _ _ aQ;simp only [List.cons_append,List.nil_append] at hS;clear aG aH aO aI
  refine n_q H (Zg9 rfl rfl) rfl (W_q (Zcd rfl rfl) rfl ?_);clear H a;intro a H
  refine Ze (Za (Zn H rfl (fun aB=>?_) (fun aB=>?_)))
  · replace hm:=Zu hm aB
    refine wp_seq (Tm [] 9 (by kernel_rfl) ?_)
    obtain⟨aJ,aC⟩ : ∃ x,x=aF.drew:=⟨_,rfl⟩;rw [← aC];have aR : Ext aF aJ:=by rw [aC];exact Ext.drew' _
    clear aC
    replace hS:=hS.ext aR
    have aK:=hS
    have hW:=Nat.le_refl aJ.heap.size
    refine Zg 0 H rfl (Zd rfl) rfl (by kernel_rfl) (by kernel_rfl) (by kernel_rfl) (by kernel_rfl) (fun _ _ _ h=>h) ?_;clear H a;intro a H
    refine Zg 1 H rfl (Qa rfl) rfl (by kernel_rfl) (by kernel_rfl) (by kernel_rfl) (by kernel_rfl) (fun _ _ _ h=>h) ?_;clear H a;intro a H
    refine Zg 2 H rfl (Zc rfl Gi) rfl (by kernel_rfl) (by kernel_rfl) (by kernel_rfl) (by kernel_rfl) (fun _ _ _ h=>h) ?_;clear H a;intro a H
    refine Qr 3 H rfl (Zf rfl (LdC.old ((aK.blk 0 rfl).ld ag3 rfl) Ext.rfl' (Nat.le_refl _) (by simp))) rfl (by kernel_rfl) (by kernel_rfl) (by kernel_rfl) (by kernel_rfl) (fun _ _ _ h=>h) ?_;clear H a;intro a H
    refine Zg 4 H rfl (Uo rfl rfl) rfl (by kernel_rfl) (by kernel_rfl) (by kernel_rfl) (by kernel_rfl) (fun _ _ _ h=>h) ?_;clear H a;intro a H
    refine Qr 5 H rfl (Zf rfl (LdC.old ((hG _ aK.chg).ld Ur (by decide) Hv) Ext.rfl' (Nat.le_refl _) (by simp))) rfl (by kernel_rfl) (by kernel_rfl) (by kernel_rfl) (by kernel_rfl) (fun _ _ _ h=>h) ?_;clear H a;intro a H
    replace hm:=Zj hm;obtain⟨aZ,aS,hm⟩:=hm
    refine Qy 6 (by kernel_rfl) ?_
    refine Xg 6 H rfl rfl Zk4 (Hj (A:=A) (Xu.var (by decide) : IsE A aJ _ (.v Ur)) aS) rfl (fun v w hv=>.inl (ChgF.of_ext (by obtain⟨_,_,hE0⟩:=hv;exact hE0.x))) ?_
    clear H;intro u32 a9 hv;clear a;intro a H;obtain⟨_,rfl,aL⟩:=hv
    replace hS:=hS.new aL;simp only [List.cons_append,List.nil_append] at hS
    replace hW:=Nat.le_trans hW aL.x.size
    refine Zg 7 H rfl (Zb rfl) rfl (by kernel_rfl) (by kernel_rfl) (by kernel_rfl) (by kernel_rfl) (fun _ _ _ h=>h) ?_;clear H a;intro a H
    refine Zg 8 H rfl (Zb rfl) rfl (by kernel_rfl) (by kernel_rfl) (by kernel_rfl) (by kernel_rfl) (fun _ _ _ h=>h) ?_;clear H a;intro a H
    refine Xc (by kernel_rfl) ?_
    refine Za (wp_ret (Zh ?_))
    obtain rfl:=Option.some.inj hm
    replace hS:=St.optNone (fun (x : GWireCursor) b=>blkR b [v0_0,.int .i64 x.at_,.int .i64 x.bound_] 248) hS
    replace hS:=hS.pk1
    replace hS:=hS.pk1
    replace hS:=hS.pk2
    refine Zgd H (.inr rfl) rfl rfl rfl ?_
    exact⟨_,_,rfl,hS⟩
  replace hm:=Zv hm aB
  refine wp_skip (Za (wp_seq (Tm [] 19 (by kernel_rfl) ?_)))
  obtain⟨aM,aD⟩ : ∃ x,x=aF.drew:=⟨_,rfl⟩;rw [← aD];have aT : Ext aF aM:=by rw [aD];exact Ext.drew' _
  clear aD
  replace hS:=hS.ext aT
  have aE:=hS
  have hW:=Nat.le_refl aM.heap.size
  refine Zg 0 H rfl (Zd rfl) rfl (by kernel_rfl) (by kernel_rfl) (by kernel_rfl) (by kernel_rfl) (fun _ _ _ h=>h) ?_;clear H a;intro a H
  refine Zg 1 H rfl (Qa rfl) rfl (by kernel_rfl) (by kernel_rfl) (by kernel_rfl) (by kernel_rfl) (fun _ _ _ h=>h) ?_;clear H a;intro a H
  refine Zg 2 H rfl (Zc rfl Zmw) rfl (by kernel_rfl) (by kernel_rfl) (by kernel_rfl) (by kernel_rfl) (fun _ _ _ h=>h) ?_;clear H a;intro a H
  refine Qr 3 H rfl (Zf rfl (LdC.old ((aE.blk 0 rfl).ld Zol rfl) Ext.rfl' (Nat.le_refl _) (by simp))) rfl (by kernel_rfl) (by kernel_rfl) (by kernel_rfl) (by kernel_rfl) (fun _ _ _ h=>h) ?_;clear H a;intro a H
  refine Zg 4 H rfl (Zd rfl) rfl (by kernel_rfl) (by kernel_rfl) (by kernel_rfl) (by kernel_rfl) (fun _ _ _ h=>h) ?_;clear H a;intro a H
  refine Zg 5 H rfl (Qa rfl) rfl (by kernel_rfl) (by kernel_rfl) (by kernel_rfl) (by kernel_rfl) (fun _ _ _ h=>h) ?_;clear H a;intro a H
  refine Zg 6 H rfl (Zc rfl Gi) rfl (by kernel_rfl) (by kernel_rfl) (by kernel_rfl) (by kernel_rfl) (fun _ _ _ h=>h) ?_;clear H a;intro a H
  refine Qr 7 H rfl (Zf rfl (LdC.old ((aE.blk 0 rfl).ld ag3 rfl) Ext.rfl' (Nat.le_refl _) (by simp))) rfl (by kernel_rfl) (by kernel_rfl) (by kernel_rfl) (by kernel_rfl) (fun _ _ _ h=>h) ?_;clear H a;intro a H
  refine Zg 8 H rfl (Uo rfl rfl) rfl (by kernel_rfl) (by kernel_rfl) (by kernel_rfl) (by kernel_rfl) (fun _ _ _ h=>h) ?_;clear H a;intro a H
  refine Zg 9 H rfl (Zd rfl) rfl (by kernel_rfl) (by kernel_rfl) (by kernel_rfl) (by kernel_rfl) (fun _ _ _ h=>h) ?_;clear H a;intro a H
  refine Zg 10 H rfl (Qa rfl) rfl (by kernel_rfl) (by kernel_rfl) (by kernel_rfl) (by kernel_rfl) (fun _ _ _ h=>h) ?_;clear H a;intro a H
  refine Zg 11 H rfl (Zc rfl Gi) rfl (by kernel_rfl) (by kernel_rfl) (by kernel_rfl) (by kernel_rfl) (fun _ _ _ h=>h) ?_;clear H a;intro a H
  refine Qr 12 H rfl (Zf rfl (LdC.old ((aE.blk 0 rfl).ld ag3 rfl) Ext.rfl' (Nat.le_refl _) (by simp))) rfl (by kernel_rfl) (by kernel_rfl) (by kernel_rfl) (by kernel_rfl) (fun _ _ _ h=>h) ?_;clear H a;intro a H
  refine Zg 13 H rfl (Uo rfl rfl) rfl (by kernel_rfl) (by kernel_rfl) (by kernel_rfl) (by kernel_rfl) (fun _ _ _ h=>h) ?_;clear H a;intro a H
  refine Zg 14 H rfl (Zd rfl) rfl (by kernel_rfl) (by kernel_rfl) (by kernel_rfl) (by kernel_rfl) (fun _ _ _ h=>h) ?_;clear H a;intro a H
  refine Zg 15 H rfl (Uo rfl rfl) rfl (by kernel_rfl) (by kernel_rfl) (by kernel_rfl) (by kernel_rfl) (fun _ _ _ h=>h) ?_;clear H a;intro a H
  refine Zg 16 H rfl (Qt (cs:=[v0_0,.int .i64 (IntKind.i64.wrap (aA.2.at_ + 3)),.int .i64 (IntKind.i64.wrap ((IntKind.i64.wrap (aA.2.at_ + 3)) + a1))]) ze248 bd248 pl248 rfl ((Qk ((ro0_b _ hS.chg)).one rfl (by simp)).trans ((Qk rfl rfl (by simp)).trans ((Qk rfl rfl (by simp)).trans rfl)))) rfl (by kernel_rfl) (by kernel_rfl) (by kernel_rfl) (by kernel_rfl) (fun _ _ _ h=>h) ?_;clear H a;intro a H
  refine k_box 17 H rfl rfl (cs:=[v0_0,.int .i64 (IntKind.i64.wrap (aA.2.at_ + 3)),.int .i64 (IntKind.i64.wrap ((IntKind.i64.wrap (aA.2.at_ + 3)) + a1))]) rfl rfl (by kernel_rfl) ?_
  clear H;intro aW bA hN aN hs;clear a;intro a H
  have aV : aM.heap.size ≤ aW:=hs ▸ hW
  replace hS:=hS.newBlk hN aN hs;clear hN hs
  replace hW:=Nat.le_trans hW aN.size
  refine Zg 18 H rfl (Zb rfl) rfl (by kernel_rfl) (by kernel_rfl) (by kernel_rfl) (by kernel_rfl) (fun _ _ _ h=>h) ?_;clear H a;intro a H
  refine Xc (by kernel_rfl) ?_
  refine Za (wp_seq (wp_region_lit (n_q H (Zd rfl) rfl (W_q (Zd rfl) rfl (W_q (Qa rfl) rfl (W_q (Zc rfl Zp6) rfl (W_q (Zf rfl ((hS.blk 0 rfl).ld ag3 rfl)) rfl (W_q (Qa rfl) rfl (W_q (Zc rfl Gi) rfl ?_)))))))));clear H a;intro a H
  replace hS:=hS.pk1
  refine Kb H rfl rfl sz3 (hS.blk 0 rfl) (by simp) rfl ?_
  clear H;intro bB hN aU hz;clear a;intro a H;replace hS:=hS.setBlk hN aU;clear hN hz
  try simp only [List.set_cons_succ,List.set_cons_zero] at hS
  refine Ze (Za (wp_seq (wp_region_lit (n_q H (Zd rfl) rfl (W_q (Zb rfl) rfl (W_q (Zb rfl) rfl ?_))))));clear H a;intro a H
  refine Ze (Za (wp_ret ?_))
  obtain rfl:=Option.some.inj hm
  replace hS:=hS.pk1
  replace hS:=St.optSome (g:=(fun (x : GWireCursor) b=>blkR b [v0_0,.int .i64 x.at_,.int .i64 x.bound_] 248)) (⟨a0.b_,(IntKind.i64.wrap (aA.2.at_ + 3)),(IntKind.i64.wrap ((IntKind.i64.wrap (aA.2.at_ + 3)) + a1))⟩ : GWireCursor) hS
  replace hS:=hS.dNil (A:=A)
  replace hS:=hS.pk1
  replace hS:=hS.pk2
  refine Zgd H (.inr rfl) rfl rfl rfl ?_
  exact⟨_,_,rfl,hS⟩
theorem Zee {w : World} {A : Nat → Addr} {fp : Nat → Prop} {b0 : Nat} {v0_0 : Value} {a0 : GWireCursor} (hG : ∀ w',ChgP fp w w' → EV A w') (hP : Sep w fp [blkR b0 [v0_0,.int .i64 a0.at_,.int .i64 a0.bound_] 248]) (ro0_b : ∀ w',ChgP fp w w' → SlR w' 1 (Zi eB) v0_0 a0.b_) {r : Int × Option GWireCursor × ErrM × GWireCursor} (hm : Js a0=some r) :
    Calls Tryz.prog 105 [.pointer (some ⟨b0,0,none⟩)].toArray w (Ret fun u w'=>∃ h_0 h_1,u=.tuple #[.int .i64 r.1,h_0,h_1] ∧ St fp w w' [blkR b0 [v0_0,.int .i64 r.2.2.2.at_,.int .i64 r.2.2.2.bound_] 248,optR (fun (x : GWireCursor) b=>blkR b [v0_0,.int .i64 x.at_,.int .i64 x.bound_] 248) h_0 r.2.1,erQ A h_1 r.2.2.1]):=by
  have hS:=St.init hP
  unfold Js at hm
  refine enter Tryz.func105 rfl rfl rfl ?_;intro a H;dsimp only [Qn,Nat.zero_add,Nat.reduceAdd] at H
  refine wp_seq (wp_region_lit (n_q H (Zb rfl) rfl (W_q (Zb rfl) rfl (W_q (Zb rfl) rfl ?_))));clear H a;intro a H
  refine Ze (Za (wp_seq (wp_region_lit (n_q H (Zd rfl) rfl ?_))));clear H a;intro a H
  obtain⟨bC,aI,aB,aT,aJ⟩:=hS.frame (rs1:=[blkR b0 [v0_0,.int .i64 a0.at_,.int .i64 a0.bound_] 248])
  replace hm:=Zj hm;obtain⟨aA,aU,hm⟩:=hm
  refine Zk H rfl en177 (Zed (A:=A) (fun w' hw=>hG _ (aB _ hw)) aI (a0:=(⟨a0.b_,a0.at_,a0.bound_⟩ : GWireCursor)) (fun w' hw=>ro0_b _ (aB _ hw)) aU) rfl ?_
  clear H;intro bE aH hv;clear a;intro a H;obtain⟨aK,rfl,aV⟩:=hv
  replace hS:=aJ _ _ aV;simp only [List.cons_append,List.nil_append] at hS;clear aI aB aT aJ
  refine n_q H (Zd rfl) rfl (W_q (Zm rfl rfl) rfl (W_q (Zm rfl rfl) rfl (W_q (Zm rfl rfl) rfl (W_q (Zb rfl) rfl (W_q (Zb rfl) rfl (W_q (Zb rfl) rfl ?_))))));clear H a;intro a H
  refine Ze (Za (wp_seq (wp_seq (wp_region_lit (n_q H (Zd rfl) rfl (W_q (Xi (Vr Tryz.underlying39 rfl rfl (hS.any 1 rfl : IsE A aH aK aA.2.2.1).form) (show _=Value.bool (!decide (aA.2.2.1=.nil)) by rw [Xu.isNil (hS.any 1 rfl : IsE A aH aK aA.2.2.1)])) rfl ?_))))));clear H a;intro a H
  refine Ze (Za (Zn H rfl (fun aC=>?_) (fun aC=>?_)))
  · replace hm:=Zu hm aC
    refine wp_seq (wp_region_lit (n_q H (Zd rfl) rfl (W_q (Zb rfl) rfl (W_q (Zb rfl) rfl (W_q (Zb rfl) rfl ?_)))));clear H a;intro a H
    refine Ze (Za (wp_ret (Zh ?_)))
    obtain rfl:=Option.some.inj hm
    replace hS:=St.optNone (fun (x : GWireCursor) b=>blkR b [v0_0,.int .i64 x.at_,.int .i64 x.bound_] 248) hS
    replace hS:=hS.pk2
    replace hS:=hS.pk1
    replace hS:=hS.pk2
    refine Zhd H (.inr rfl) rfl (vs:=[.int .i64 0,.pointer none,aK]) (Wl rfl (Wl rfl (Wl rfl Hd))) ?_
    exact⟨_,_,rfl,hS⟩
  replace hm:=Zv hm aC
  refine wp_skip (Za (wp_seq (wp_seq (wp_region_lit (n_q H (Zd rfl) rfl (W_q (Jy rfl rfl) rfl ?_))))));clear H a;intro a H
  refine Ze (Za (Zn H rfl (fun aD=>?_) (fun aD=>?_)))
  · replace hm:=Zu hm aD
    refine wp_seq (Tm [] 9 (by kernel_rfl) ?_)
    obtain⟨aL,aE⟩ : ∃ x,x=aH.drew:=⟨_,rfl⟩;rw [← aE];have aW : Ext aH aL:=by rw [aE];exact Ext.drew' _
    clear aE
    replace hS:=hS.ext aW
    have aM:=hS
    have hW:=Nat.le_refl aL.heap.size
    refine Zg 0 H rfl (Zd rfl) rfl (by kernel_rfl) (by kernel_rfl) (by kernel_rfl) (by kernel_rfl) (fun _ _ _ h=>h) ?_;clear H a;intro a H
    refine Zg 1 H rfl (Qa rfl) rfl (by kernel_rfl) (by kernel_rfl) (by kernel_rfl) (by kernel_rfl) (fun _ _ _ h=>h) ?_;clear H a;intro a H
    refine Zg 2 H rfl (Zc rfl Gi) rfl (by kernel_rfl) (by kernel_rfl) (by kernel_rfl) (by kernel_rfl) (fun _ _ _ h=>h) ?_;clear H a;intro a H
    refine Qr 3 H rfl (Zf rfl (LdC.old ((aM.blk 0 rfl).ld ag3 rfl) Ext.rfl' (Nat.le_refl _) (by simp))) rfl (by kernel_rfl) (by kernel_rfl) (by kernel_rfl) (by kernel_rfl) (fun _ _ _ h=>h) ?_;clear H a;intro a H
    refine Qr 4 H rfl (Zf rfl (LdC.old ((hG _ aM.chg).ld Zok (by decide) Hv) Ext.rfl' (Nat.le_refl _) (by simp))) rfl (by kernel_rfl) (by kernel_rfl) (by kernel_rfl) (by kernel_rfl) (fun _ _ _ h=>h) ?_;clear H a;intro a H
    replace hm:=Zj hm;obtain⟨bF,aX,hm⟩:=hm
    refine Qy 5 (by kernel_rfl) ?_
    refine Xg 5 H rfl rfl Zk4 (Hj (A:=A) (Xu.var (by decide) : IsE A aL _ (.v Zok)) aX) rfl (fun v w hv=>.inl (ChgF.of_ext (by obtain⟨_,_,hE0⟩:=hv;exact hE0.x))) ?_
    clear H;intro bA bG hv;clear a;intro a H;obtain⟨_,rfl,aN⟩:=hv
    replace hS:=hS.new aN;simp only [List.cons_append,List.nil_append] at hS
    replace hW:=Nat.le_trans hW aN.x.size
    refine Zg 6 H rfl (Zb rfl) rfl (by kernel_rfl) (by kernel_rfl) (by kernel_rfl) (by kernel_rfl) (fun _ _ _ h=>h) ?_;clear H a;intro a H
    refine Zg 7 H rfl (Zb rfl) rfl (by kernel_rfl) (by kernel_rfl) (by kernel_rfl) (by kernel_rfl) (fun _ _ _ h=>h) ?_;clear H a;intro a H
    refine Zg 8 H rfl (Zb rfl) rfl (by kernel_rfl) (by kernel_rfl) (by kernel_rfl) (by kernel_rfl) (fun _ _ _ h=>h) ?_;clear H a;intro a H
    refine Xc (by kernel_rfl) ?_
    refine Za (wp_ret (Zh ?_))
    obtain rfl:=Option.some.inj hm
    replace hS:=St.optNone (fun (x : GWireCursor) b=>blkR b [v0_0,.int .i64 x.at_,.int .i64 x.bound_] 248) hS
    replace hS:=hS.pk1
    replace hS:=hS.pk1
    replace hS:=hS.pk2
    replace hS:=hS.tk3
    refine Zhd H (.inr rfl) rfl (vs:=[.int .i64 0,.pointer none,bA]) (Wl rfl (Wl rfl (Wl rfl Hd))) ?_
    exact⟨_,_,rfl,hS⟩
  replace hm:=Zv hm aD
  refine wp_skip (Za (wp_seq (wp_region_lit (n_q H (Zd rfl) rfl (W_q (Zd rfl) rfl ?_)))));clear H a;intro a H
  obtain⟨bD,aO,aF,aY,aP⟩:=hS.frame (rs1:=[blkR b0 [v0_0,.int .i64 aA.2.2.2.at_,.int .i64 aA.2.2.2.bound_] 248])
  replace hm:=Zj hm;obtain⟨aQ,aZ,hm⟩:=hm
  refine Zk H rfl en178 (Zdt (A:=A) (fun w' hw=>hG _ (aF _ hw)) aO (a0:=(⟨a0.b_,aA.2.2.2.at_,aA.2.2.2.bound_⟩ : GWireCursor)) (fun w' hw=>ro0_b _ (aF _ hw)) aZ) rfl ?_
  clear H;intro bH aS hv;clear a;intro a H;obtain⟨bB,aR,rfl,a9⟩:=hv
  replace hS:=aP _ _ a9;simp only [List.cons_append,List.nil_append] at hS;clear aO aF aY aP
  refine n_q H (Zd rfl) rfl (W_q (Zm rfl rfl) rfl (W_q (Zm rfl rfl) rfl (W_q (Zb rfl) rfl (W_q (Zb rfl) rfl ?_))));clear H a;intro a H
  refine Ze (Za (wp_seq (wp_seq (wp_region_lit (n_q H (Zd rfl) rfl (W_q (Xi (Vr Tryz.underlying39 rfl rfl (hS.any 2 rfl : IsE A aS aR aQ.2.1).form) (show _=Value.bool (!decide (aQ.2.1=.nil)) by rw [Xu.isNil (hS.any 2 rfl : IsE A aS aR aQ.2.1)])) rfl ?_))))));clear H a;intro a H
  refine Ze (Za (Zn H rfl (fun aG=>?_) (fun aG=>?_)))
  · replace hm:=Zu hm aG
    refine wp_seq (wp_region_lit (n_q H (Zd rfl) rfl (W_q (Zb rfl) rfl (W_q (Zb rfl) rfl (W_q (Zb rfl) rfl ?_)))));clear H a;intro a H
    refine Ze (Za (wp_ret (Zh ?_)))
    obtain rfl:=Option.some.inj hm
    replace hS:=St.optNone (fun (x : GWireCursor) b=>blkR b [v0_0,.int .i64 x.at_,.int .i64 x.bound_] 248) hS
    replace hS:=hS.pk3
    replace hS:=hS.pk1
    replace hS:=hS.pk2
    replace hS:=hS.tk3
    refine Zhd H (.inr rfl) rfl (vs:=[.int .i64 0,.pointer none,aR]) (Wl rfl (Wl rfl (Wl rfl Hd))) ?_
    exact⟨_,_,rfl,hS⟩
  replace hm:=Zv hm aG
  refine wp_skip (Za (wp_seq (wp_region_lit (n_q H (Zd rfl) rfl (W_q (Zd rfl) rfl (W_q (Zb rfl) rfl (W_q (Zb rfl) rfl (W_q (Zb rfl) rfl ?_))))))));clear H a;intro a H
  refine Ze (Za (wp_ret ?_))
  obtain rfl:=Option.some.inj hm
  replace hS:=hS.dNil (A:=A)
  replace hS:=hS.pk2
  replace hS:=hS.pk2
  replace hS:=hS.tk3
  refine Zhd H (.inr rfl) rfl (vs:=[.int .i64 aA.1,bB,.nilIface]) (Wl rfl (Wl rfl (Wl rfl Hd))) ?_
  exact⟨_,_,rfl,hS⟩
theorem Kw {w : World} {A : Nat → Addr} {fp : Nat → Prop} {b0 : Nat} {v0_0 : Value} {a0 : GWireCursor} (hG : ∀ w',ChgP fp w w' → EV A w') (hP : Sep w fp [blkR b0 [v0_0,.int .i64 a0.at_,.int .i64 a0.bound_] 248]) (ro0_b : ∀ w',ChgP fp w w' → SlR w' 1 (Zi eB) v0_0 a0.b_) {r : Int × ErrM × GWireCursor} (hm : Xv a0=some r) :
    Calls Tryz.prog 182 [.pointer (some ⟨b0,0,none⟩)].toArray w (Ret fun u w'=>∃ h_0,u=.tuple #[.int .i64 r.1,h_0] ∧ St fp w w' [blkR b0 [v0_0,.int .i64 r.2.2.at_,.int .i64 r.2.2.bound_] 248,erQ A h_0 r.2.1]):=by
  have hS:=St.init hP
  unfold Xv at hm
  refine enter Tryz.func182 rfl rfl rfl ?_;intro a H;dsimp only [Qn,Nat.zero_add,Nat.reduceAdd] at H
  refine wp_seq (wp_region_lit (n_q H (Zb rfl) rfl (W_q (Zb rfl) rfl ?_)));clear H a;intro a H
  refine Ze (Za (wp_seq (wp_region_lit (n_q H (Zd rfl) rfl ?_))));clear H a;intro a H
  replace hm:=Zj hm;obtain⟨aJ,aD,hm⟩:=hm
  refine Zk H rfl Zrq (Za9 (A:=A) aD) rfl ?_
  clear H;intro aK aL hv;clear a;intro a H;obtain⟨rfl,aE⟩:=hv
  replace hS:=hS.ext aE
  obtain⟨aI,aB,aA,aF,aC⟩:=hS.frame (rs1:=[blkR b0 [v0_0,.int .i64 a0.at_,.int .i64 a0.bound_] 248])
  replace hm:=Zj hm;obtain⟨aM,aG,hm⟩:=hm
  refine Zk H rfl Ztz (Gx (A:=A) (fun w' hw=>hG _ (aA _ hw)) aB (a0:=(⟨a0.b_,a0.at_,a0.bound_⟩ : GWireCursor)) (fun w' hw=>ro0_b _ (aA _ hw)) aG) rfl ?_
  clear H;intro aN aO hv;clear a;intro a H;obtain⟨aP,rfl,aH⟩:=hv
  replace hS:=aC _ _ aH;simp only [List.cons_append,List.nil_append] at hS;clear aB aA aF aC
  refine n_q H (Zm rfl rfl) rfl (W_q (Zm rfl rfl) rfl (W_q (Zb rfl) rfl (W_q (Zb rfl) rfl ?_)));clear H a;intro a H
  refine Ze (Za (wp_ret ?_))
  obtain rfl:=Option.some.inj hm
  refine Zgd H (.inr rfl) rfl rfl rfl ?_
  exact⟨_,rfl,hS⟩
theorem Zj3 {w : World} {A : Nat → Addr} {fp : Nat → Prop} {b0 : Nat} {v0_0 : Value} {a0 : GWireCursor} (hG : ∀ w',ChgP fp w w' → EV A w') (hP : Sep w fp [blkR b0 [v0_0,.int .i64 a0.at_,.int .i64 a0.bound_] 248]) (ro0_b : ∀ w',ChgP fp w w' → SlR w' 1 (Zi eB) v0_0 a0.b_) {r : GPagePlan × ErrM × GWireCursor} (hm : Hh a0=some r) :
    Calls Tryz.prog 179 [.pointer (some ⟨b0,0,none⟩)].toArray w (Ret fun u w'=>∃ h_0,u=.tuple #[.agg (Zw r.1).toArray,h_0] ∧ St fp w w' [blkR b0 [v0_0,.int .i64 r.2.2.at_,.int .i64 r.2.2.bound_] 248,erQ A h_0 r.2.1]):=by
  have hS:=St.init hP
  unfold Hh at hm
  refine enter Tryz.func179 rfl rfl rfl ?_;intro a H;dsimp only [Qn,Nat.zero_add,Nat.reduceAdd] at H
  refine wp_seq (wp_region_lit (Jb H Zgo rfl ?_))
  clear H;intro bE bF hN aP hs;clear a;intro a H
  replace hS:=hS.newBlk hN aP hs;clear hN hs
  refine n_q H (Zb rfl) rfl ?_;clear H a;intro a H
  refine Ze (Za (wp_seq (wp_region_lit (n_q H (Zd rfl) rfl ?_))));clear H a;intro a H
  replace hS:=hS.pk1
  obtain⟨bB,aF,aB,aQ,aG⟩:=hS.frame (rs1:=[blkR b0 [v0_0,.int .i64 a0.at_,.int .i64 a0.bound_] 248])
  replace hm:=Zj hm;obtain⟨aA,aR,hm⟩:=hm
  refine Zk H rfl Zmv (Kw (A:=A) (fun w' hw=>hG _ (aB _ hw)) aF (a0:=(⟨a0.b_,a0.at_,a0.bound_⟩ : GWireCursor)) (fun w' hw=>ro0_b _ (aB _ hw)) aR) rfl ?_
  clear H;intro bG aO hv;clear a;intro a H;obtain⟨aH,rfl,aS⟩:=hv
  replace hS:=aG _ _ aS;simp only [List.cons_append,List.nil_append] at hS;clear aF aB aQ aG
  refine n_q H (Zd rfl) rfl (W_q (Zm rfl rfl) rfl (W_q (Zm rfl rfl) rfl (W_q (Zb rfl) rfl (W_q (Zb rfl) rfl ?_))));clear H a;intro a H
  refine Ze (Za (wp_seq (wp_seq (wp_region_lit (n_q H (Zd rfl) rfl (W_q (Xi (Vr Tryz.underlying39 rfl rfl (hS.any 1 rfl : IsE A aO aH aA.2.1).form) (show _=Value.bool (!decide (aA.2.1=.nil)) by rw [Xu.isNil (hS.any 1 rfl : IsE A aO aH aA.2.1)])) rfl ?_))))));clear H a;intro a H
  refine Ze (Za (Zn H rfl (fun aC=>?_) (fun aC=>?_)))
  · replace hm:=Zu hm aC
    refine wp_seq (wp_region_lit (n_q H (Qt (cs:=[.int .i64 0,.string ⟨#[]⟩]) Zgo Zro Zrp rfl (by kernel_rfl)) rfl (W_q (Zd rfl) rfl ?_)));clear H a;intro a H
    replace hS:=hS.pk2
    refine Qi H rfl rfl (vs:=[.int .i64 0,.string ⟨#[]⟩]) rfl Zax (hS.blk 0 rfl) rfl (by simp) ?_
    clear H;intro bH hN aT hz;clear a;intro a H;replace hS:=hS.setBlk hN aT;clear hN hz
    refine n_q H (Zb rfl) rfl ?_;clear H a;intro a H
    refine Ze (Za (wp_ret (Zh ?_)))
    obtain rfl:=Option.some.inj hm
    replace hS:=hS.pk2
    replace hS:=hS.pk2
    refine Zhd H (.inr rfl) rfl (vs:=[.agg #[.int .i64 0,.string ⟨#[]⟩],aH]) (He rfl ((hS.blk 2 rfl).ldAll Zk0 Zax) (Wl rfl Hd)) ?_
    replace hS:=hS.tk2
    exact⟨_,rfl,hS⟩
  replace hm:=Zv hm aC
  refine wp_skip (Za (wp_seq (wp_region_lit (n_q H (Zd rfl) rfl (W_q (Zd rfl) rfl ?_)))));clear H a;intro a H
  obtain⟨bC,aI,aJ,aU,aK⟩:=hS.frame (rs1:=[blkR b0 [v0_0,.int .i64 aA.2.2.at_,.int .i64 aA.2.2.bound_] 248])
  replace hm:=Zj hm;obtain⟨aE,aV,hm⟩:=hm
  refine Zk H rfl Zk9 (Xz (A:=A) aI (a0:=(⟨a0.b_,aA.2.2.at_,aA.2.2.bound_⟩ : GWireCursor)) (fun w' hw=>ro0_b _ (aJ _ hw)) aV) rfl ?_
  clear H;intro bI bJ hv;clear a;intro a H;obtain⟨rfl,aW⟩:=hv
  replace hS:=aK _ _ aW;simp only [List.cons_append,List.nil_append] at hS;clear aI aJ aU aK
  obtain⟨bD,aL,aD,aX,aM⟩:=hS.frame (rs1:=[blkR b0 [v0_0,.int .i64 aE.2.at_,.int .i64 aE.2.bound_] 248])
  replace hm:=Zj hm;obtain⟨aN,aY,hm⟩:=hm
  refine Zk H rfl Ztx (Td (A:=A) (fun w' hw=>hG _ (aD _ hw)) aL (a0:=(⟨a0.b_,aE.2.at_,aE.2.bound_⟩ : GWireCursor)) (fun w' hw=>ro0_b _ (aD _ hw)) aY) rfl ?_
  clear H;intro bK bL hv;clear a;intro a H;obtain⟨bM,bA,rfl,aZ⟩:=hv
  replace hS:=aM _ _ aZ;simp only [List.cons_append,List.nil_append] at hS;clear aL aD aX aM
  refine n_q H (Zd rfl) rfl (W_q (Zm rfl rfl) rfl (W_q (Zm rfl rfl) rfl (W_q (Zb rfl) rfl (W_q (Zb rfl) rfl ?_))));clear H a;intro a H
  refine Ze (Za (wp_seq (wp_region_lit (n_q H (Zd rfl) rfl (W_q (Zd rfl) rfl (W_q (Zmh Tryz.underlying100 Tryz.underlying5 Tryz.underlying9 rfl (fun w' hw=>(((hS.own 1 rfl).slr rfl (fun _ _=>rfl)).ext (Zi.mono _) hw))) rfl (W_q (Qt (cs:=[.int .i64 aA.1,.string (Zge aN.1)]) Zgo Zro Zrp rfl (by kernel_rfl)) rfl (W_q (Zd rfl) rfl ?_))))))));clear H a;intro a H
  replace hS:=hS.pk4
  refine Qi H rfl rfl (vs:=[.int .i64 aA.1,.string (Zge aN.1)]) rfl Zax (hS.blk 0 rfl) rfl (by simp) ?_
  clear H;intro bN hN a9 hz;clear a;intro a H;replace hS:=hS.setBlk hN a9;clear hN hz
  refine n_q H (Zb rfl) rfl ?_;clear H a;intro a H
  refine Ze (Za (wp_ret ?_))
  obtain rfl:=Option.some.inj hm
  replace hS:=hS.pk3
  replace hS:=hS.pk2
  replace hS:=hS.tk3
  refine Zhd H (.inr rfl) rfl (vs:=[.agg #[.int .i64 aA.1,.string (Zge aN.1)],bA]) (He rfl ((hS.blk 2 rfl).ldAll Zk0 Zax) (Wl rfl Hd)) ?_
  replace hS:=hS.tk2
  exact⟨_,rfl,hS⟩
theorem Zb6 {w : World} {A : Nat → Addr} {v0 : Value} {a0 : List (Value × ErrM)} (h0 : SlR w 1 (REr A) v0 a0) {r : Value × ErrM} (hm : Zdo a0=some r) :
    Calls Tryz.prog 183 [v0].toArray w (Ret fun u w'=>u=r.1 ∧ Ext w w'):=by
  have hS:=St.begin NB w
  unfold Zdo at hm
  refine enter Tryz.func183 rfl rfl rfl ?_;intro a H;dsimp only [Qn,Nat.zero_add,Nat.reduceAdd] at H
  refine wp_seq (wp_region_lit (n_q H (Zb rfl) rfl ?_));clear H a;intro a H
  refine Ze (Za (wp_seq (wp_seq (wp_region_lit (n_q H (Zd rfl) rfl ?_)))));clear H a;intro a H
  obtain⟨aU,aV,aB,aS,aT⟩:=SlR.formV (h0.ext (REr.mono A) hS.x)
  refine n_q H (Qc Tryz.underlying314 rfl aB) rfl (W_q (Zd rfl) rfl ?_);clear H a;intro a H
  refine Ze (Za (wp_block ?_))
  replace hm:=Zj hm;obtain⟨aI,hm,aJ⟩:=hm;replace hm:=Ql hm;obtain⟨aL,hm⟩:=hm
  refine Kr (σ:=Nat × Nat) (fun (m,aA)=>[(5,v0),(6,.int .i64 ((a0.length : Nat) : Int)),(7,.int .i64 ((aA : Nat) : Int))]) (fun (m,aA) wl=>Ye (Jz a0) m aA=some aI ∧ St NB w wl []) (fun (m,aA)=>m) (aL,0) H ⟨rfl,rfl,rfl,trivial⟩ ⟨hm,hS⟩ ?_
  clear H hS hm a;intro xx a aW H hR;obtain⟨m,aA⟩:=xx;simp only [ent,List.map_cons,List.map_nil] at H;(try dsimp only at hR);obtain⟨hm,hS⟩:=hR
  replace hm:=Qh hm;obtain⟨aM,aX,rfl,hm,aD⟩:=hm;try dsimp only [Jz] at hm
  refine wp_seq (wp_region_lit (n_q H (Yc (i:=aA) (j:=a0.length) rfl rfl) rfl ?_));clear H a;intro a H
  refine Ze (Za (wp_seq (Zn H rfl (fun aC=>?_) (fun aC=>?_))))
  · replace hm:=Zu hm aC
    have aP : aA < a0.length:=of_decide_eq_true aC
    refine wp_skip (Za (wp_seq (wp_block (wp_seq (wp_region_lit ?_)))))
    replace hm:=Zj hm;obtain⟨aN,aE,hm⟩:=hm
    obtain⟨aQ,aG⟩:=SlR.adV (h0.ext (REr.mono A) hS.x) aB aE
    obtain⟨aR,aO,⟨rfl,aH⟩,aK⟩:=SlR.elV h0 aB aG aE
    refine n_q H (Ug (i:=aA) Tryz.underlying314 sz39 rfl aB aG rfl (Zb5 aE)) rfl (W_q (Zf rfl (LdX.ext (ldElH Hv aK) hS.x)) rfl (W_q (Zb rfl) rfl ?_));clear H a;intro a H
    refine Ze (Za (wp_seq (wp_region_lit (n_q H (Zd rfl) rfl (W_q (Xi (Vr Tryz.underlying39 rfl rfl (Xu.ext aH hS.x).form) (show _=Value.bool (!decide (aN.2=.nil)) by rw [Xu.isNil (Xu.ext aH hS.x)])) rfl ?_)))));clear H a;intro a H
    refine Ze (Za (Zn H rfl (fun aF=>?_) (fun aF=>?_)))
    · replace hm:=Zu hm aF
      refine wp_seq (wp_region_lit (n_q H (Zd rfl) rfl (W_q (Zb rfl) rfl ?_)));clear H a;intro a H
      refine Ze (Za (wp_ret (Zl (Zh (Zh (Zl (Zh ?_)))))))
      obtain rfl:=Option.some.inj hm;have hz : _=aI:=aD;subst hz;replace hm:=aJ;try dsimp only at hm
      obtain rfl:=Option.some.inj hm
      refine Qx H (.inr rfl) rfl rfl ?_
      exact⟨rfl,hS.x⟩
    replace hm:=Zv hm aF
    refine wp_skip (Zo (Za (wp_region_lit (n_q H (Yt (i:=aA) (j:=1) rfl rfl (by omega)) rfl (W_q (Zd rfl) rfl ?_)))));clear H a;intro a H
    refine Ze (Za ?_)
    obtain rfl:=Option.some.inj hm
    exact Uz (aM,aA + 1) H ⟨rfl,rfl,rfl,trivial⟩ ⟨aD,hS⟩ (Nat.lt_succ_self _)
  replace hm:=Zv hm aC
  refine wp_exit (Zr (Zr (Qf ?_)))
  obtain rfl:=Option.some.inj hm;have hz : _=aI:=aD;subst hz;replace hm:=aJ;try dsimp only at hm
  refine Za (wp_seq (wp_region_lit (n_q H (Zb rfl) rfl ?_)));clear H a;intro a H
  refine Ze (Za (wp_ret ?_))
  obtain rfl:=Option.some.inj hm
  refine Qx H (.inr rfl) rfl rfl ?_
  exact⟨rfl,hS.x⟩
theorem Zbq (ps : List (Value × ErrM)) : Zdo ps=some (pickE ps):=by
  have key : ∀ m k,k + m=ps.length → (Gk (Jz ps) k).bind (fun q=>match q with | .inl _=>some (.nilIface,.nil) | .inr p=>some p)=some (pickE (ps.drop k)):=by
    intro m
    induction m with
    | zero=>
      intro k hk
      have e : ps.drop k=[]:=List.drop_eq_nil_of_le (by omega)
      rw [Yr (show Jz ps k=some (.inr (.inl ())) by simp [Jz,show ¬ k < ps.length by omega]),e];rfl
    | succ m ih=>
      intro k hk
      have hlt : k < ps.length:=by omega
      have hx : ps[k]? = some ps[k]:=List.getElem?_eq_getElem hlt
      have hd : ps.drop k=ps[k] :: ps.drop (k + 1):=List.drop_eq_getElem_cons hlt
      by_cases e : ps[k].2=.nil
      · rw [Ks (show Jz ps k=some (.inl (k + 1)) by simp [Jz,hlt,e]),ih (k + 1) (by omega),hd]
        simp only [pickE,e,if_true]
      · rw [Yr (show Jz ps k=some (.inr (.inr ps[k])) by simp [Jz,hlt,e]),hd]
        simp only [pickE,e,if_false,Option.bind_some]
  exact key ps.length 0 (by omega)
theorem Tf {w : World} {A : Nat → Addr} {fp : Nat → Prop} {b0 : Nat} {v0_0 : Value} {a0 : GWireCursor} (hG : ∀ w',ChgP fp w w' → EV A w') (hP : Sep w fp [blkR b0 [v0_0,.int .i64 a0.at_,.int .i64 a0.bound_] 248]) (ro0_b : ∀ w',ChgP fp w w' → SlR w' 1 (Zi eB) v0_0 a0.b_) {r : ErrM × GWireCursor} (hm : Kg a0=some r) :
    Calls Tryz.prog 184 [.pointer (some ⟨b0,0,none⟩)].toArray w (Ret fun u w'=>∃ h_0,u=h_0 ∧ St fp w w' [blkR b0 [v0_0,.int .i64 r.2.at_,.int .i64 r.2.bound_] 248,erQ A h_0 r.1]):=by
  have hS:=St.init hP
  unfold Kg at hm
  refine enter Tryz.func184 rfl rfl rfl ?_;intro a H;dsimp only [Qn,Nat.zero_add,Nat.reduceAdd] at H
  refine wp_seq (wp_region_lit (n_q H (Zb rfl) rfl ?_));clear H a;intro a H
  refine Ze (Za (wp_seq (wp_seq (wp_region_lit (n_q H (Zd rfl) rfl ?_)))));clear H a;intro a H
  obtain⟨aO,aC,aD,aJ,aE⟩:=hS.frame (rs1:=[blkR b0 [v0_0,.int .i64 a0.at_,.int .i64 a0.bound_] 248])
  replace hm:=Zj hm;obtain⟨aP,aK,hm⟩:=hm
  refine Zk H rfl Zk9 (Xz (A:=A) aC (a0:=(⟨a0.b_,a0.at_,a0.bound_⟩ : GWireCursor)) (fun w' hw=>ro0_b _ (aD _ hw)) aK) rfl ?_
  clear H;intro aQ aI hv;clear a;intro a H;obtain⟨rfl,aL⟩:=hv
  replace hS:=aE _ _ aL;simp only [List.cons_append,List.nil_append] at hS;clear aC aD aJ aE
  refine n_q H (Zcd rfl rfl) rfl ?_;clear H a;intro a H
  refine Ze (Za (Zn H rfl (fun aA=>?_) (fun aA=>?_)))
  · replace hm:=Zu hm aA
    refine wp_seq (Tm [] 7 (by kernel_rfl) ?_)
    obtain⟨aF,aB⟩ : ∃ x,x=aI.drew:=⟨_,rfl⟩;rw [← aB];have aM : Ext aI aF:=by rw [aB];exact Ext.drew' _
    clear aB
    replace hS:=hS.ext aM
    have aG:=hS
    have hW:=Nat.le_refl aF.heap.size
    refine Zg 0 H rfl (Zd rfl) rfl (by kernel_rfl) (by kernel_rfl) (by kernel_rfl) (by kernel_rfl) (fun _ _ _ h=>h) ?_;clear H a;intro a H
    refine Zg 1 H rfl (Qa rfl) rfl (by kernel_rfl) (by kernel_rfl) (by kernel_rfl) (by kernel_rfl) (fun _ _ _ h=>h) ?_;clear H a;intro a H
    refine Zg 2 H rfl (Zc rfl Gi) rfl (by kernel_rfl) (by kernel_rfl) (by kernel_rfl) (by kernel_rfl) (fun _ _ _ h=>h) ?_;clear H a;intro a H
    refine Qr 3 H rfl (Zf rfl (LdC.old ((aG.blk 0 rfl).ld ag3 rfl) Ext.rfl' (Nat.le_refl _) (by simp))) rfl (by kernel_rfl) (by kernel_rfl) (by kernel_rfl) (by kernel_rfl) (fun _ _ _ h=>h) ?_;clear H a;intro a H
    refine Qr 4 H rfl (Zf rfl (LdC.old ((hG _ aG.chg).ld Zoj (by decide) Hv) Ext.rfl' (Nat.le_refl _) (by simp))) rfl (by kernel_rfl) (by kernel_rfl) (by kernel_rfl) (by kernel_rfl) (fun _ _ _ h=>h) ?_;clear H a;intro a H
    replace hm:=Zj hm;obtain⟨aR,aN,hm⟩:=hm
    refine Qy 5 (by kernel_rfl) ?_
    refine Xg 5 H rfl rfl Zk4 (Hj (A:=A) (Xu.var (by decide) : IsE A aF _ (.v Zoj)) aN) rfl (fun v w hv=>.inl (ChgF.of_ext (by obtain⟨_,_,hE0⟩:=hv;exact hE0.x))) ?_
    clear H;intro u32 aS hv;clear a;intro a H;obtain⟨_,rfl,aH⟩:=hv
    replace hS:=hS.new aH;simp only [List.cons_append,List.nil_append] at hS
    replace hW:=Nat.le_trans hW aH.x.size
    refine Zg 6 H rfl (Zb rfl) rfl (by kernel_rfl) (by kernel_rfl) (by kernel_rfl) (by kernel_rfl) (fun _ _ _ h=>h) ?_;clear H a;intro a H
    refine Xc (by kernel_rfl) ?_
    refine Za (wp_ret (Zh ?_))
    obtain rfl:=Option.some.inj hm
    replace hS:=hS.pk1
    refine Qx H (.inr rfl) rfl rfl ?_
    exact⟨_,rfl,hS⟩
  replace hm:=Zv hm aA
  refine wp_skip (Za (wp_seq (wp_region_lit (n_q H (Zb rfl) rfl ?_))));clear H a;intro a H
  refine Ze (Za (wp_ret ?_))
  obtain rfl:=Option.some.inj hm
  replace hS:=hS.dNil (A:=A)
  replace hS:=hS.pk1
  refine Qx H (.inr rfl) rfl rfl ?_
  exact⟨_,rfl,hS⟩
theorem Zj4 {w : World} {A : Nat → Addr} {fp : Nat → Prop} {b0 : Nat} {v0_0 : Value} {a0 : GWireCursor} (hG : ∀ w',ChgP fp w w' → EV A w') (hP : Sep w fp [blkR b0 [v0_0,.int .i64 a0.at_,.int .i64 a0.bound_] 248]) (ro0_b : ∀ w',ChgP fp w w' → SlR w' 1 (Zi eB) v0_0 a0.b_) {r : GProcPlan × ErrM × GWireCursor} (hm : Ta a0=some r) :
    Calls Tryz.prog 180 [.pointer (some ⟨b0,0,none⟩)].toArray w (Ret fun u w'=>∃ h_0,u=.tuple #[.agg (Zs r.1).toArray,h_0] ∧ St fp w w' [blkR b0 [v0_0,.int .i64 r.2.2.at_,.int .i64 r.2.2.bound_] 248,erQ A h_0 r.2.1]):=by
  have hS:=St.init hP
  unfold Ta at hm
  refine enter Tryz.func180 rfl rfl rfl ?_;intro a H;dsimp only [Qn,Nat.zero_add,Nat.reduceAdd] at H
  refine wp_seq (wp_region_lit (Jb H Zhs rfl ?_))
  clear H;intro bL bS hN aW hs;clear a;intro a H
  replace hS:=hS.newBlk hN aW hs;clear hN hs
  refine n_q H (Zb rfl) rfl ?_;clear H a;intro a H
  refine Ze (Za (wp_seq (wp_region_lit (n_q H (Zd rfl) rfl ?_))));clear H a;intro a H
  replace hS:=hS.pk1
  obtain⟨bO,aO,aJ,aX,aP⟩:=hS.frame (rs1:=[blkR b0 [v0_0,.int .i64 a0.at_,.int .i64 a0.bound_] 248])
  replace hm:=Zj hm;obtain⟨aA,aY,hm⟩:=hm
  refine Zk H rfl Zty (Te (A:=A) (fun w' hw=>hG _ (aJ _ hw)) aO (a0:=(⟨a0.b_,a0.at_,a0.bound_⟩ : GWireCursor)) (fun w' hw=>ro0_b _ (aJ _ hw)) aY) rfl ?_
  clear H;intro bT bU hv;clear a;intro a H;obtain⟨aD,rfl,aZ⟩:=hv
  replace hS:=aP _ _ aZ;simp only [List.cons_append,List.nil_append] at hS;clear aO aJ aX aP
  refine n_q H (Zd rfl) rfl (W_q (Zm rfl rfl) rfl (W_q (Zm rfl rfl) rfl (W_q (Zb rfl) rfl (W_q (Zb rfl) rfl ?_))));clear H a;intro a H
  refine Ze (Za (wp_seq (wp_region_lit (n_q H (Zd rfl) rfl ?_))));clear H a;intro a H
  obtain⟨bP,aQ,aK,a9,aR⟩:=hS.frame (rs1:=[blkR b0 [v0_0,.int .i64 aA.2.2.at_,.int .i64 aA.2.2.bound_] 248])
  replace hm:=Zj hm;obtain⟨aB,bA,hm⟩:=hm
  refine Zk H rfl Zmv (Kw (A:=A) (fun w' hw=>hG _ (aK _ hw)) aQ (a0:=(⟨a0.b_,aA.2.2.at_,aA.2.2.bound_⟩ : GWireCursor)) (fun w' hw=>ro0_b _ (aK _ hw)) bA) rfl ?_
  clear H;intro bV bW hv;clear a;intro a H;obtain⟨aE,rfl,bB⟩:=hv
  replace hS:=aR _ _ bB;simp only [List.cons_append,List.nil_append] at hS;clear aQ aK a9 aR
  refine n_q H (Zd rfl) rfl (W_q (Zm rfl rfl) rfl (W_q (Zm rfl rfl) rfl (W_q (Zb rfl) rfl (W_q (Zb rfl) rfl ?_))));clear H a;intro a H
  refine Ze (Za (wp_seq (wp_region_lit (n_q H (Zd rfl) rfl ?_))));clear H a;intro a H
  obtain⟨bQ,aS,aL,bC,aT⟩:=hS.frame (rs1:=[blkR b0 [v0_0,.int .i64 aB.2.2.at_,.int .i64 aB.2.2.bound_] 248])
  replace hm:=Zj hm;obtain⟨aC,bD,hm⟩:=hm
  refine Zk H rfl en103 (Za3 (A:=A) (fun w' hw=>hG _ (aL _ hw)) aS (a0:=(⟨a0.b_,aB.2.2.at_,aB.2.2.bound_⟩ : GWireCursor)) (fun w' hw=>ro0_b _ (aL _ hw)) bD) rfl ?_
  clear H;intro bX bY hv;clear a;intro a H;obtain⟨aF,rfl,bE⟩:=hv
  replace hS:=aT _ _ bE;simp only [List.cons_append,List.nil_append] at hS;clear aS aL bC aT
  refine n_q H (Zd rfl) rfl (W_q (Zm rfl rfl) rfl (W_q (Zm rfl rfl) rfl (W_q (Zb rfl) rfl (W_q (Zb rfl) rfl ?_))));clear H a;intro a H
  refine Ze (Za (wp_seq (wp_region_lit (n_q H (Zd rfl) rfl (W_q (Zd rfl) rfl (W_q (Zd rfl) rfl (W_q (Qt (cs:=[.int .i64 aA.1,.int .i64 aB.1,.bool aC.1]) Zhs bd116 pl116 rfl (by kernel_rfl)) rfl (W_q (Zd rfl) rfl (W_q (Zd rfl) rfl (W_q (Zd rfl) rfl (W_q (Zd rfl) rfl ?_)))))))))));clear H a;intro a H
  obtain⟨bR,aU,aM,bF,aV⟩:=hS.frame (rs1:=[blkR b0 [v0_0,.int .i64 aC.2.2.at_,.int .i64 aC.2.2.bound_] 248])
  replace hm:=Zj hm;obtain⟨aG,bG,hm⟩:=hm
  refine Zk H rfl Zt1 (Tf (A:=A) (fun w' hw=>hG _ (aM _ hw)) aU (a0:=(⟨a0.b_,aC.2.2.at_,aC.2.2.bound_⟩ : GWireCursor)) (fun w' hw=>ro0_b _ (aM _ hw)) bG) rfl ?_
  clear H;intro aH aN hv;clear a;intro a H;obtain⟨_,rfl,bH⟩:=hv
  replace hS:=aV _ _ bH;simp only [List.cons_append,List.nil_append] at hS;clear aU aM bF aV
  refine Qb H Tryz.underlying314 sz39 ze39 rfl rfl rfl (cs:=[aD,aE,aF,aH]) ((Qk (hS.any 4 rfl : IsE A aN aD aA.2.1).one rfl (by simp)).trans ((Qk (hS.any 3 rfl : IsE A aN aE aB.2.1).one rfl (by simp)).trans ((Qk (hS.any 2 rfl : IsE A aN aF aC.2.1).one rfl (by simp)).trans ((Qk (hS.any 1 rfl : IsE A aN aH aG.1).one rfl (by simp)).trans rfl)))) rfl ?_
  clear H;intro bM aI hN bI hs;clear a;intro a H
  replace hS:=hS.newBlk hN bI hs;clear hN hs
  refine Zk H rfl Zt0 (Zb6 (A:=A) (SlR.ofBlk (k:=1) (R:=REr A) [[aD],[aE],[aF],[aH]] [(aD,aA.2.1),(aE,aB.2.1),(aF,aC.2.1),(aH,aG.1)] (hS.blk 0 rfl) (DIn.cons rfl (by simp [(hS.any 5 rfl : IsE A aI aD aA.2.1).one]) ⟨rfl,(hS.any 5 rfl : IsE A aI aD aA.2.1)⟩ (DIn.cons rfl (by simp [(hS.any 4 rfl : IsE A aI aE aB.2.1).one]) ⟨rfl,(hS.any 4 rfl : IsE A aI aE aB.2.1)⟩ (DIn.cons rfl (by simp [(hS.any 3 rfl : IsE A aI aF aC.2.1).one]) ⟨rfl,(hS.any 3 rfl : IsE A aI aF aC.2.1)⟩ (DIn.cons rfl (by simp [(hS.any 2 rfl : IsE A aI aH aG.1).one]) ⟨rfl,(hS.any 2 rfl : IsE A aI aH aG.1)⟩ trivial)))) rfl (by simp [maxLen])) (Zbq _)) rfl ?_
  clear H;intro bZ bN hv;clear a;intro a H;obtain⟨rfl,bJ⟩:=hv;replace hS:=hS.ext bJ
  replace hS:=hS.pk2
  replace hS:=hS.pk3
  replace hS:=hS.pk4
  replace hS:=hS.pk5
  replace hS:=(St.pickE [(aD,aA.2.1),(aE,aB.2.1),(aF,aC.2.1),(aH,aG.1)] rfl hS : St fp w bN [erQ A ((pickE [(aD,aA.2.1),(aE,aB.2.1),(aF,aC.2.1),(aH,aG.1)]).1) (Zgn [aA.2.1,aB.2.1,aC.2.1,aG.1]),blkR bM [aD,aE,aF,aH] 39,blkR b0 [v0_0,.int .i64 aG.2.at_,.int .i64 aG.2.bound_] 248,blkR bL [.int .i64 0,.int .i64 0,.bool false] 116])
  replace hS:=hS.pk3
  refine Qi H rfl rfl (vs:=[.int .i64 aA.1,.int .i64 aB.1,.bool aC.1]) rfl Zay (hS.blk 0 rfl) rfl (by simp) ?_
  clear H;intro b6 hN bK hz;clear a;intro a H;replace hS:=hS.setBlk hN bK;clear hN hz
  refine n_q H (Zb rfl) rfl ?_;clear H a;intro a H
  refine Ze (Za (wp_ret ?_))
  obtain rfl:=Option.some.inj hm
  replace hS:=hS.pk1
  replace hS:=hS.pk3
  replace hS:=hS.tk3
  refine Zhd H (.inr rfl) rfl (vs:=[.agg #[.int .i64 aA.1,.int .i64 aB.1,.bool aC.1],(pickE [(aD,aA.2.1),(aE,aB.2.1),(aF,aC.2.1),(aH,aG.1)]).1]) (He rfl ((hS.blk 2 rfl).ldAll Zk1 Zay) (Wl rfl Hd)) ?_
  replace hS:=hS.tk2
  exact⟨_,rfl,hS⟩
theorem Zhv {w : World} {A : Nat → Addr} {fp : Nat → Prop} {b0 : Nat} {v0_0 : Value} {a0 : GWireCursor} (hG : ∀ w',ChgP fp w w' → EV A w') (hP : Sep w fp [blkR b0 [v0_0,.int .i64 a0.at_,.int .i64 a0.bound_] 248]) (ro0_b : ∀ w',ChgP fp w w' → SlR w' 1 (Zi eB) v0_0 a0.b_) {r : GPortPlan × ErrM × GWireCursor} (hm : Gg a0=some r) :
    Calls Tryz.prog 181 [.pointer (some ⟨b0,0,none⟩)].toArray w (Ret fun u w'=>∃ h_0,u=.tuple #[.agg (Zp r.1).toArray,h_0] ∧ St fp w w' [blkR b0 [v0_0,.int .i64 r.2.2.at_,.int .i64 r.2.2.bound_] 248,erQ A h_0 r.2.1]):=by
  have hS:=St.init hP
  unfold Gg at hm
  refine enter Tryz.func181 rfl rfl rfl ?_;intro a H;dsimp only [Qn,Nat.zero_add,Nat.reduceAdd] at H
  refine wp_seq (wp_region_lit (Jb H Zgp rfl ?_))
  clear H;intro bT b7 hN bA hs;clear a;intro a H
  replace hS:=hS.newBlk hN bA hs;clear hN hs
  refine n_q H (Zb rfl) rfl ?_;clear H a;intro a H
  refine Ze (Za (wp_seq (wp_region_lit (n_q H (Zd rfl) rfl ?_))));clear H a;intro a H
  replace hS:=hS.pk1
  obtain⟨bW,aR,aM,bB,aS⟩:=hS.frame (rs1:=[blkR b0 [v0_0,.int .i64 a0.at_,.int .i64 a0.bound_] 248])
  replace hm:=Zj hm;obtain⟨aA,bC,hm⟩:=hm
  refine Zk H rfl Zmv (Kw (A:=A) (fun w' hw=>hG _ (aM _ hw)) aR (a0:=(⟨a0.b_,a0.at_,a0.bound_⟩ : GWireCursor)) (fun w' hw=>ro0_b _ (aM _ hw)) bC) rfl ?_
  clear H;intro b8 b9 hv;clear a;intro a H;obtain⟨aE,rfl,bD⟩:=hv
  replace hS:=aS _ _ bD;simp only [List.cons_append,List.nil_append] at hS;clear aR aM bB aS
  refine n_q H (Zd rfl) rfl (W_q (Zm rfl rfl) rfl (W_q (Zm rfl rfl) rfl (W_q (Zb rfl) rfl (W_q (Zb rfl) rfl ?_))));clear H a;intro a H
  refine Ze (Za (wp_seq (wp_region_lit (n_q H (Zd rfl) rfl ?_))));clear H a;intro a H
  obtain⟨bX,aT,aN,bE,aU⟩:=hS.frame (rs1:=[blkR b0 [v0_0,.int .i64 aA.2.2.at_,.int .i64 aA.2.2.bound_] 248])
  replace hm:=Zj hm;obtain⟨aB,bF,hm⟩:=hm
  refine Zk H rfl Zmv (Kw (A:=A) (fun w' hw=>hG _ (aN _ hw)) aT (a0:=(⟨a0.b_,aA.2.2.at_,aA.2.2.bound_⟩ : GWireCursor)) (fun w' hw=>ro0_b _ (aN _ hw)) bF) rfl ?_
  clear H;intro cA cB hv;clear a;intro a H;obtain⟨aF,rfl,bG⟩:=hv
  replace hS:=aU _ _ bG;simp only [List.cons_append,List.nil_append] at hS;clear aT aN bE aU
  refine n_q H (Zd rfl) rfl (W_q (Zm rfl rfl) rfl (W_q (Zm rfl rfl) rfl (W_q (Zb rfl) rfl (W_q (Zb rfl) rfl ?_))));clear H a;intro a H
  refine Ze (Za (wp_seq (wp_region_lit (n_q H (Zd rfl) rfl ?_))));clear H a;intro a H
  obtain⟨bY,aV,aO,bH,aW⟩:=hS.frame (rs1:=[blkR b0 [v0_0,.int .i64 aB.2.2.at_,.int .i64 aB.2.2.bound_] 248])
  replace hm:=Zj hm;obtain⟨aC,bI,hm⟩:=hm
  refine Zk H rfl Zmv (Kw (A:=A) (fun w' hw=>hG _ (aO _ hw)) aV (a0:=(⟨a0.b_,aB.2.2.at_,aB.2.2.bound_⟩ : GWireCursor)) (fun w' hw=>ro0_b _ (aO _ hw)) bI) rfl ?_
  clear H;intro cC cD hv;clear a;intro a H;obtain⟨aG,rfl,bJ⟩:=hv
  replace hS:=aW _ _ bJ;simp only [List.cons_append,List.nil_append] at hS;clear aV aO bH aW
  refine n_q H (Zd rfl) rfl (W_q (Zm rfl rfl) rfl (W_q (Zm rfl rfl) rfl (W_q (Zb rfl) rfl (W_q (Zb rfl) rfl ?_))));clear H a;intro a H
  refine Ze (Za (wp_seq (wp_region_lit (n_q H (Zd rfl) rfl ?_))));clear H a;intro a H
  obtain⟨bZ,aX,aP,bK,aY⟩:=hS.frame (rs1:=[blkR b0 [v0_0,.int .i64 aC.2.2.at_,.int .i64 aC.2.2.bound_] 248])
  replace hm:=Zj hm;obtain⟨aD,bL,hm⟩:=hm
  refine Zk H rfl Zmv (Kw (A:=A) (fun w' hw=>hG _ (aP _ hw)) aX (a0:=(⟨a0.b_,aC.2.2.at_,aC.2.2.bound_⟩ : GWireCursor)) (fun w' hw=>ro0_b _ (aP _ hw)) bL) rfl ?_
  clear H;intro cF cG hv;clear a;intro a H;obtain⟨aH,rfl,bM⟩:=hv
  replace hS:=aY _ _ bM;simp only [List.cons_append,List.nil_append] at hS;clear aX aP bK aY
  refine n_q H (Zd rfl) rfl (W_q (Zm rfl rfl) rfl (W_q (Zm rfl rfl) rfl (W_q (Zb rfl) rfl (W_q (Zb rfl) rfl ?_))));clear H a;intro a H
  refine Ze (Za (wp_seq (wp_region_lit (n_q H (Zd rfl) rfl (W_q (Zd rfl) rfl (W_q (Zd rfl) rfl (W_q (Zd rfl) rfl (W_q (Qt (cs:=[.int .i64 aA.1,.int .i64 aB.1,.int .i64 aC.1,.int .i64 aD.1]) Zgp bd118 pl118 rfl (by kernel_rfl)) rfl (W_q (Zd rfl) rfl (W_q (Zd rfl) rfl (W_q (Zd rfl) rfl (W_q (Zd rfl) rfl (W_q (Zd rfl) rfl ?_)))))))))))));clear H a;intro a H
  obtain⟨b6,aZ,aQ,bN,a9⟩:=hS.frame (rs1:=[blkR b0 [v0_0,.int .i64 aD.2.2.at_,.int .i64 aD.2.2.bound_] 248])
  replace hm:=Zj hm;obtain⟨aI,bO,hm⟩:=hm
  refine Zk H rfl Zt1 (Tf (A:=A) (fun w' hw=>hG _ (aQ _ hw)) aZ (a0:=(⟨a0.b_,aD.2.2.at_,aD.2.2.bound_⟩ : GWireCursor)) (fun w' hw=>ro0_b _ (aQ _ hw)) bO) rfl ?_
  clear H;intro aJ aL hv;clear a;intro a H;obtain⟨_,rfl,bP⟩:=hv
  replace hS:=a9 _ _ bP;simp only [List.cons_append,List.nil_append] at hS;clear aZ aQ bN a9
  refine Qb H Tryz.underlying314 sz39 ze39 rfl rfl rfl (cs:=[aE,aF,aG,aH,aJ]) ((Qk (hS.any 5 rfl : IsE A aL aE aA.2.1).one rfl (by simp)).trans ((Qk (hS.any 4 rfl : IsE A aL aF aB.2.1).one rfl (by simp)).trans ((Qk (hS.any 3 rfl : IsE A aL aG aC.2.1).one rfl (by simp)).trans ((Qk (hS.any 2 rfl : IsE A aL aH aD.2.1).one rfl (by simp)).trans ((Qk (hS.any 1 rfl : IsE A aL aJ aI.1).one rfl (by simp)).trans rfl))))) rfl ?_
  clear H;intro bU aK hN bQ hs;clear a;intro a H
  replace hS:=hS.newBlk hN bQ hs;clear hN hs
  refine Zk H rfl Zt0 (Zb6 (A:=A) (SlR.ofBlk (k:=1) (R:=REr A) [[aE],[aF],[aG],[aH],[aJ]] [(aE,aA.2.1),(aF,aB.2.1),(aG,aC.2.1),(aH,aD.2.1),(aJ,aI.1)] (hS.blk 0 rfl) (DIn.cons rfl (by simp [(hS.any 6 rfl : IsE A aK aE aA.2.1).one]) ⟨rfl,(hS.any 6 rfl : IsE A aK aE aA.2.1)⟩ (DIn.cons rfl (by simp [(hS.any 5 rfl : IsE A aK aF aB.2.1).one]) ⟨rfl,(hS.any 5 rfl : IsE A aK aF aB.2.1)⟩ (DIn.cons rfl (by simp [(hS.any 4 rfl : IsE A aK aG aC.2.1).one]) ⟨rfl,(hS.any 4 rfl : IsE A aK aG aC.2.1)⟩ (DIn.cons rfl (by simp [(hS.any 3 rfl : IsE A aK aH aD.2.1).one]) ⟨rfl,(hS.any 3 rfl : IsE A aK aH aD.2.1)⟩ (DIn.cons rfl (by simp [(hS.any 2 rfl : IsE A aK aJ aI.1).one]) ⟨rfl,(hS.any 2 rfl : IsE A aK aJ aI.1)⟩ trivial))))) rfl (by simp [maxLen])) (Zbq _)) rfl ?_
  clear H;intro cH bV hv;clear a;intro a H;obtain⟨rfl,bR⟩:=hv;replace hS:=hS.ext bR
  replace hS:=hS.pk2
  replace hS:=hS.pk3
  replace hS:=hS.pk4
  replace hS:=hS.pk5
  replace hS:=hS.pk6
  replace hS:=(St.pickE [(aE,aA.2.1),(aF,aB.2.1),(aG,aC.2.1),(aH,aD.2.1),(aJ,aI.1)] rfl hS : St fp w bV [erQ A ((pickE [(aE,aA.2.1),(aF,aB.2.1),(aG,aC.2.1),(aH,aD.2.1),(aJ,aI.1)]).1) (Zgn [aA.2.1,aB.2.1,aC.2.1,aD.2.1,aI.1]),blkR bU [aE,aF,aG,aH,aJ] 39,blkR b0 [v0_0,.int .i64 aI.2.at_,.int .i64 aI.2.bound_] 248,blkR bT [.int .i64 0,.int .i64 0,.int .i64 0,.int .i64 0] 118])
  replace hS:=hS.pk3
  refine Qi H rfl rfl (vs:=[.int .i64 aA.1,.int .i64 aB.1,.int .i64 aC.1,.int .i64 aD.1]) rfl Gp (hS.blk 0 rfl) rfl (by simp) ?_
  clear H;intro cI hN bS hz;clear a;intro a H;replace hS:=hS.setBlk hN bS;clear hN hz
  refine n_q H (Zb rfl) rfl ?_;clear H a;intro a H
  refine Ze (Za (wp_ret ?_))
  obtain rfl:=Option.some.inj hm
  replace hS:=hS.pk1
  replace hS:=hS.pk3
  replace hS:=hS.tk3
  refine Zhd H (.inr rfl) rfl (vs:=[.agg #[.int .i64 aA.1,.int .i64 aB.1,.int .i64 aC.1,.int .i64 aD.1],(pickE [(aE,aA.2.1),(aF,aB.2.1),(aG,aC.2.1),(aH,aD.2.1),(aJ,aI.1)]).1]) (He rfl ((hS.blk 2 rfl).ldAll Zdp Gp) (Wl rfl Hd)) ?_
  replace hS:=hS.tk2
  exact⟨_,rfl,hS⟩
theorem Zlb {w : World} {A : Nat → Addr} {fp : Nat → Prop} {b0 : Nat} {v0_0 : Value} {v0_1 : Value} {v0_2 : Value} {v0_3 : Value} {a0 : GPlan} {a1 : Int} {b2 : Nat} {v2_0 : Value} {a2 : GWireCursor} (hG : ∀ w',ChgP fp w w' → EV A w') (hP : Sep w fp [blkR b0 [.int .i64 a0.Id,.bool a0.Mobile,v0_0,v0_1,v0_2,.int .i64 a0.Events,v0_3] 27,ownR 114 2 v0_0 a0.Pages.length (a0.Pages.flatMap Zw),ownR 116 3 v0_1 a0.Procs.length (a0.Procs.flatMap Zs),ownR 118 4 v0_2 a0.Ports.length (a0.Ports.flatMap Zp),ownR 3 1 v0_3 a0.Sems.length (a0.Sems.flatMap eI),blkR b2 [v2_0,.int .i64 a2.at_,.int .i64 a2.bound_] 248]) (ro2_b : ∀ w',ChgP fp w w' → SlR w' 1 (Zi eB) v2_0 a2.b_) {r : ErrM × GPlan × GWireCursor} (hm : Kh a0 a1 a2=some r) :
    Calls Tryz.prog 106 [.pointer (some ⟨b0,0,none⟩),.int .i64 a1,.pointer (some ⟨b2,0,none⟩)].toArray w (Ret fun u w'=>∃ h_0 h_1 h_2 h_3 h_4,u=h_0 ∧ St fp w w' [blkR b0 [.int .i64 r.2.1.Id,.bool r.2.1.Mobile,h_1,h_2,h_3,.int .i64 r.2.1.Events,h_4] 27,ownR 114 2 h_1 r.2.1.Pages.length (r.2.1.Pages.flatMap Zw),ownR 116 3 h_2 r.2.1.Procs.length (r.2.1.Procs.flatMap Zs),ownR 118 4 h_3 r.2.1.Ports.length (r.2.1.Ports.flatMap Zp),ownR 3 1 h_4 r.2.1.Sems.length (r.2.1.Sems.flatMap eI),blkR b2 [v2_0,.int .i64 r.2.2.at_,.int .i64 r.2.2.bound_] 248,erQ A h_0 r.1]):=by
  have hS:=St.init hP
  unfold Kh at hm
  refine enter Tryz.func106 rfl rfl rfl ?_;intro a H;dsimp only [Qn,Nat.zero_add,Nat.reduceAdd] at H
  refine wp_seq (wp_region_lit (n_q H (Zb rfl) rfl ?_));clear H a;intro a H
  refine Ze (Za (wp_seq (wp_seq (wp_region_lit (n_q H (Zd rfl) rfl ?_)))));clear H a;intro a H
  refine Ze (Za (wp_block (wp_seq (wp_region_lit (n_q H (Jy rfl rfl) rfl (W_q (Zb rfl) rfl ?_))))));clear H a;intro a H
  refine Ze (Za (Zn H rfl (fun aW=>?_) (fun aW=>?_)))
  · replace hm:=Zu hm aW
    refine wp_seq (wp_region_lit (n_q H (Zd rfl) rfl ?_));clear H a;intro a H
    replace hS:=hS.pk5
    obtain⟨eU,bR,aX,dH,bS⟩:=hS.frame (rs1:=[blkR b2 [v2_0,.int .i64 a2.at_,.int .i64 a2.bound_] 248])
    replace hm:=Zj hm;obtain⟨aU,dI,hm⟩:=hm
    refine Zk H rfl en179 (Zj3 (A:=A) (fun w' hw=>hG _ (aX _ hw)) bR (a0:=(⟨a2.b_,a2.at_,a2.bound_⟩ : GWireCursor)) (fun w' hw=>ro2_b _ (aX _ hw)) dI) rfl ?_
    clear H;intro fM fN hv;clear a;intro a H;obtain⟨fO,rfl,dJ⟩:=hv
    replace hS:=bS _ _ dJ;simp only [List.cons_append,List.nil_append] at hS;clear bR aX dH bS
    refine n_q H (Zd rfl) rfl (W_q (Zm rfl rfl) rfl (W_q (Zm rfl rfl) rfl ?_));clear H a;intro a H
    refine Jb H Zgo rfl ?_
    clear H;intro fP fQ hN dK hs;clear a;intro a H
    replace hS:=hS.newBlk hN dK hs;clear hN hs
    refine Qi H rfl rfl (vs:=[.int .i64 aU.1.Rights,.string aU.1.Init]) rfl Zax (hS.blk 0 rfl) rfl (by simp) ?_
    clear H;intro dE hN dL hz;clear a;intro a H;replace hS:=hS.setBlk hN dL;clear hN hz
    refine n_q H (Zb rfl) rfl ?_;clear H a;intro a H
    refine Ze (Za (wp_seq (Tm [] 7 (by kernel_rfl) ?_)))
    obtain⟨bT,aY⟩ : ∃ x,x=dE.drew:=⟨_,rfl⟩;rw [← aY];have dM : Ext dE bT:=by rw [aY];exact Ext.drew' _
    clear aY
    replace hS:=hS.ext dM
    have bU:=hS
    have hW:=Nat.le_refl bT.heap.size
    refine Zg 0 H rfl (Zd rfl) rfl (by kernel_rfl) (by kernel_rfl) (by kernel_rfl) (by kernel_rfl) (fun _ _ _ h=>h) ?_;clear H a;intro a H
    refine Zg 1 H rfl (Zd rfl) rfl (by kernel_rfl) (by kernel_rfl) (by kernel_rfl) (by kernel_rfl) (fun _ _ _ h=>h) ?_;clear H a;intro a H
    refine Zg 2 H rfl (Qa rfl) rfl (by kernel_rfl) (by kernel_rfl) (by kernel_rfl) (by kernel_rfl) (fun _ _ _ h=>h) ?_;clear H a;intro a H
    refine Zg 3 H rfl (Zc rfl Zap) rfl (by kernel_rfl) (by kernel_rfl) (by kernel_rfl) (by kernel_rfl) (fun _ _ _ h=>h) ?_;clear H a;intro a H
    refine Qr 4 H rfl (Zf rfl (LdC.old ((bU.blk 3 rfl).ld Zmo rfl) Ext.rfl' (Nat.le_refl _) (by simp))) rfl (by kernel_rfl) (by kernel_rfl) (by kernel_rfl) (by kernel_rfl) (fun _ _ _ h=>h) ?_;clear H a;intro a H
    refine Zhm 5 4 H rfl (Zf rfl (LdC.old ((bU.blk 0 rfl).ldAll Zk0 Zax) Ext.rfl' (Nat.le_refl _) (by simp))) rfl (by kernel_rfl) (by kernel_rfl) (by kernel_rfl) (by kernel_rfl) (fun _ _ _ h=>h) ?_;clear H a;intro a H
    refine Zal 6 H rfl Tryz.underlying22 Zax Zgo rfl rfl rfl (cs:=[.int .i64 aU.1.Rights,.string aU.1.Init]) (by kernel_rfl) rfl (by kernel_rfl) ?_
    clear H;intro eH fR hN bV hs;clear a;intro a H
    have eD : bT.heap.size ≤ eH:=hs ▸ hW
    replace hS:=hS.newBlk hN bV hs;clear hN hs
    replace hW:=Nat.le_trans hW bV.size
    replace hS:=hS.blkOwnL (e:=Zw) (k:=2) [aU.1] rfl rfl (by simp [maxLen])
    replace hS:=hS.pk5
    replace hm:=Za6 hm;obtain⟨dN,hm⟩:=hm
    refine Zrh (e:=Zw) 7 H rfl rfl rfl Tryz.underlying22 Tryz.underlying22 (by simp) el114 (hS.own 0 rfl) (((hS.own 1 rfl).slr rfl (fun _ _=>rfl)).src (fun _ _=>rfl)) Zem dN (by simp only [maxLen];omega) rfl (by kernel_rfl) (.inr (by kernel_rfl)) ?_
    clear H;intro fS fT hN bW hb;clear a;intro a H;replace hS:=hS.setOwn hN bW hb;clear hN hb
    replace hW:=Nat.le_trans hW bW.size
    refine Zg 8 H rfl (Qa rfl) rfl (by kernel_rfl) (by kernel_rfl) (by kernel_rfl) (by kernel_rfl) (fun _ _ _ h=>h) ?_;clear H a;intro a H
    refine Zg 9 H rfl (Zc rfl Zap) rfl (by kernel_rfl) (by kernel_rfl) (by kernel_rfl) (by kernel_rfl) (fun _ _ _ h=>h) ?_;clear H a;intro a H
    replace hS:=hS.pk5
    refine Zjl 10 H rfl rfl rfl sz22 (hS.blk 0 rfl) (by simp) (((hS.own 1 rfl).slr rfl (fun _ _=>rfl))).one (by kernel_rfl) (.inr (by kernel_rfl)) ?_
    clear H;intro fU hN bX hz;clear a;intro a H;replace hS:=hS.setBlk hN bX;clear hN hz;replace hW:=Nat.le_trans hW bX.size
    try simp only [List.set_cons_succ,List.set_cons_zero] at hS
    refine Xc (by kernel_rfl) ?_
    refine Za (wp_seq (wp_region_lit (n_q H (Zd rfl) rfl (W_q (Zb rfl) rfl ?_))));clear H a;intro a H
    refine Ze (Za (wp_ret (Zl (Zh ?_))))
    obtain rfl:=Option.some.inj hm
    replace hS:=hS.pk5
    replace hS:=hS.pk5
    replace hS:=hS.pk8
    replace hS:=hS.pk8
    replace hS:=hS.pk8
    replace hS:=hS.pk6
    replace hS:=hS.pk6
    replace hS:=hS.tk7
    refine Qx H (.inr rfl) rfl rfl ?_
    exact⟨_,_,_,_,_,rfl,hS⟩
  replace hm:=Zv hm aW
  refine wp_seq (wp_region_lit (n_q H (Jy rfl rfl) rfl (W_q (Zb rfl) rfl ?_)));clear H a;intro a H
  refine Ze (Za (Zn H rfl (fun aZ=>?_) (fun aZ=>?_)))
  · replace hm:=Zu hm aZ
    refine wp_seq (wp_region_lit (n_q H (Zd rfl) rfl ?_));clear H a;intro a H
    replace hS:=hS.pk5
    obtain⟨eV,bY,a9,dO,bZ⟩:=hS.frame (rs1:=[blkR b2 [v2_0,.int .i64 a2.at_,.int .i64 a2.bound_] 248])
    replace hm:=Zj hm;obtain⟨aK,dP,hm⟩:=hm
    refine Zk H rfl en180 (Zj4 (A:=A) (fun w' hw=>hG _ (a9 _ hw)) bY (a0:=(⟨a2.b_,a2.at_,a2.bound_⟩ : GWireCursor)) (fun w' hw=>ro2_b _ (a9 _ hw)) dP) rfl ?_
    clear H;intro fV fW hv;clear a;intro a H;obtain⟨fX,rfl,dQ⟩:=hv
    replace hS:=bZ _ _ dQ;simp only [List.cons_append,List.nil_append] at hS;clear bY a9 dO bZ
    refine n_q H (Zd rfl) rfl (W_q (Zm rfl rfl) rfl (W_q (Zm rfl rfl) rfl ?_));clear H a;intro a H
    refine Jb H Zhs rfl ?_
    clear H;intro fY fZ hN dR hs;clear a;intro a H
    replace hS:=hS.newBlk hN dR hs;clear hN hs
    refine Qi H rfl rfl (vs:=[.int .i64 aK.1.Entry,.int .i64 aK.1.Prio,.bool aK.1.Auto]) rfl Zay (hS.blk 0 rfl) rfl (by simp) ?_
    clear H;intro dF hN dS hz;clear a;intro a H;replace hS:=hS.setBlk hN dS;clear hN hz
    refine n_q H (Zb rfl) rfl ?_;clear H a;intro a H
    refine Ze (Za (wp_seq (Tm [] 7 (by kernel_rfl) ?_)))
    obtain⟨b6,bA⟩ : ∃ x,x=dF.drew:=⟨_,rfl⟩;rw [← bA];have dT : Ext dF b6:=by rw [bA];exact Ext.drew' _
    clear bA
    replace hS:=hS.ext dT
    have b7:=hS
    have hW:=Nat.le_refl b6.heap.size
    refine Zg 0 H rfl (Zd rfl) rfl (by kernel_rfl) (by kernel_rfl) (by kernel_rfl) (by kernel_rfl) (fun _ _ _ h=>h) ?_;clear H a;intro a H
    refine Zg 1 H rfl (Zd rfl) rfl (by kernel_rfl) (by kernel_rfl) (by kernel_rfl) (by kernel_rfl) (fun _ _ _ h=>h) ?_;clear H a;intro a H
    refine Zg 2 H rfl (Qa rfl) rfl (by kernel_rfl) (by kernel_rfl) (by kernel_rfl) (by kernel_rfl) (fun _ _ _ h=>h) ?_;clear H a;intro a H
    refine Zg 3 H rfl (Zc rfl Zbn) rfl (by kernel_rfl) (by kernel_rfl) (by kernel_rfl) (by kernel_rfl) (fun _ _ _ h=>h) ?_;clear H a;intro a H
    refine Qr 4 H rfl (Zf rfl (LdC.old ((b7.blk 3 rfl).ld Zom rfl) Ext.rfl' (Nat.le_refl _) (by simp))) rfl (by kernel_rfl) (by kernel_rfl) (by kernel_rfl) (by kernel_rfl) (fun _ _ _ h=>h) ?_;clear H a;intro a H
    refine Zhm 5 4 H rfl (Zf rfl (LdC.old ((b7.blk 0 rfl).ldAll Zk1 Zay) Ext.rfl' (Nat.le_refl _) (by simp))) rfl (by kernel_rfl) (by kernel_rfl) (by kernel_rfl) (by kernel_rfl) (fun _ _ _ h=>h) ?_;clear H a;intro a H
    refine Zal 6 H rfl Tryz.underlying23 Zay Zhs rfl rfl rfl (cs:=[.int .i64 aK.1.Entry,.int .i64 aK.1.Prio,.bool aK.1.Auto]) (by kernel_rfl) rfl (by kernel_rfl) ?_
    clear H;intro eJ f3 hN b8 hs;clear a;intro a H
    have eE : b6.heap.size ≤ eJ:=hs ▸ hW
    replace hS:=hS.newBlk hN b8 hs;clear hN hs
    replace hW:=Nat.le_trans hW b8.size
    replace hS:=hS.blkOwnL (e:=Zs) (k:=3) [aK.1] rfl rfl (by simp [maxLen])
    replace hS:=hS.pk6
    replace hm:=Za6 hm;obtain⟨dU,hm⟩:=hm
    refine Zrh (e:=Zs) 7 H rfl rfl rfl Tryz.underlying23 Tryz.underlying23 (by simp) el116 (hS.own 0 rfl) (((hS.own 1 rfl).slr rfl (fun _ _=>rfl)).src (fun _ _=>rfl)) Zen dU (by simp only [maxLen];omega) rfl (by kernel_rfl) (.inr (by kernel_rfl)) ?_
    clear H;intro f5 f6 hN b9 hb;clear a;intro a H;replace hS:=hS.setOwn hN b9 hb;clear hN hb
    replace hW:=Nat.le_trans hW b9.size
    refine Zg 8 H rfl (Qa rfl) rfl (by kernel_rfl) (by kernel_rfl) (by kernel_rfl) (by kernel_rfl) (fun _ _ _ h=>h) ?_;clear H a;intro a H
    refine Zg 9 H rfl (Zc rfl Zbn) rfl (by kernel_rfl) (by kernel_rfl) (by kernel_rfl) (by kernel_rfl) (fun _ _ _ h=>h) ?_;clear H a;intro a H
    replace hS:=hS.pk5
    refine Zjl 10 H rfl rfl rfl sz23 (hS.blk 0 rfl) (by simp) (((hS.own 1 rfl).slr rfl (fun _ _=>rfl))).one (by kernel_rfl) (.inr (by kernel_rfl)) ?_
    clear H;intro f7 hN cA hz;clear a;intro a H;replace hS:=hS.setBlk hN cA;clear hN hz;replace hW:=Nat.le_trans hW cA.size
    try simp only [List.set_cons_succ,List.set_cons_zero] at hS
    refine Xc (by kernel_rfl) ?_
    refine Za (wp_seq (wp_region_lit (n_q H (Zd rfl) rfl (W_q (Zb rfl) rfl ?_))));clear H a;intro a H
    refine Ze (Za (wp_ret (Zl (Zh ?_))))
    obtain rfl:=Option.some.inj hm
    replace hS:=hS.pk5
    replace hS:=hS.pk5
    replace hS:=hS.pk8
    replace hS:=hS.pk8
    replace hS:=hS.pk5
    replace hS:=hS.pk8
    replace hS:=hS.pk6
    replace hS:=hS.tk7
    refine Qx H (.inr rfl) rfl rfl ?_
    exact⟨_,_,_,_,_,rfl,hS⟩
  replace hm:=Zv hm aZ
  refine wp_seq (wp_region_lit (n_q H (Jy rfl rfl) rfl (W_q (Zb rfl) rfl ?_)));clear H a;intro a H
  refine Ze (Za (Zn H rfl (fun bB=>?_) (fun bB=>?_)))
  · replace hm:=Zu hm bB
    refine wp_seq (wp_region_lit (n_q H (Zd rfl) rfl ?_));clear H a;intro a H
    replace hS:=hS.pk5
    obtain⟨eW,cB,bC,dV,cC⟩:=hS.frame (rs1:=[blkR b2 [v2_0,.int .i64 a2.at_,.int .i64 a2.bound_] 248])
    replace hm:=Zj hm;obtain⟨aH,dW,hm⟩:=hm
    refine Zk H rfl en181 (Zhv (A:=A) (fun w' hw=>hG _ (bC _ hw)) cB (a0:=(⟨a2.b_,a2.at_,a2.bound_⟩ : GWireCursor)) (fun w' hw=>ro2_b _ (bC _ hw)) dW) rfl ?_
    clear H;intro f8 f9 hv;clear a;intro a H;obtain⟨gA,rfl,dX⟩:=hv
    replace hS:=cC _ _ dX;simp only [List.cons_append,List.nil_append] at hS;clear cB bC dV cC
    refine n_q H (Zd rfl) rfl (W_q (Zm rfl rfl) rfl (W_q (Zm rfl rfl) rfl ?_));clear H a;intro a H
    refine Jb H Zgp rfl ?_
    clear H;intro gB gC hN dY hs;clear a;intro a H
    replace hS:=hS.newBlk hN dY hs;clear hN hs
    refine Qi H rfl rfl (vs:=[.int .i64 aH.1.Kind,.int .i64 aH.1.Size,.int .i64 aH.1.Depth,.int .i64 aH.1.Refresh]) rfl Gp (hS.blk 0 rfl) rfl (by simp) ?_
    clear H;intro dG hN dZ hz;clear a;intro a H;replace hS:=hS.setBlk hN dZ;clear hN hz
    refine n_q H (Zb rfl) rfl ?_;clear H a;intro a H
    refine Ze (Za (wp_seq (Tm [] 7 (by kernel_rfl) ?_)))
    obtain⟨cD,bD⟩ : ∃ x,x=dG.drew:=⟨_,rfl⟩;rw [← bD];have d5 : Ext dG cD:=by rw [bD];exact Ext.drew' _
    clear bD
    replace hS:=hS.ext d5
    have cF:=hS
    have hW:=Nat.le_refl cD.heap.size
    refine Zg 0 H rfl (Zd rfl) rfl (by kernel_rfl) (by kernel_rfl) (by kernel_rfl) (by kernel_rfl) (fun _ _ _ h=>h) ?_;clear H a;intro a H
    refine Zg 1 H rfl (Zd rfl) rfl (by kernel_rfl) (by kernel_rfl) (by kernel_rfl) (by kernel_rfl) (fun _ _ _ h=>h) ?_;clear H a;intro a H
    refine Zg 2 H rfl (Qa rfl) rfl (by kernel_rfl) (by kernel_rfl) (by kernel_rfl) (by kernel_rfl) (fun _ _ _ h=>h) ?_;clear H a;intro a H
    refine Zg 3 H rfl (Zc rfl Tu) rfl (by kernel_rfl) (by kernel_rfl) (by kernel_rfl) (by kernel_rfl) (fun _ _ _ h=>h) ?_;clear H a;intro a H
    refine Qr 4 H rfl (Zf rfl (LdC.old ((cF.blk 3 rfl).ld Zk2 rfl) Ext.rfl' (Nat.le_refl _) (by simp))) rfl (by kernel_rfl) (by kernel_rfl) (by kernel_rfl) (by kernel_rfl) (fun _ _ _ h=>h) ?_;clear H a;intro a H
    refine Zhm 5 4 H rfl (Zf rfl (LdC.old ((cF.blk 0 rfl).ldAll Zdp Gp) Ext.rfl' (Nat.le_refl _) (by simp))) rfl (by kernel_rfl) (by kernel_rfl) (by kernel_rfl) (by kernel_rfl) (fun _ _ _ h=>h) ?_;clear H a;intro a H
    refine Zal 6 H rfl Tryz.underlying24 Gp Zgp rfl rfl rfl (cs:=[.int .i64 aH.1.Kind,.int .i64 aH.1.Size,.int .i64 aH.1.Depth,.int .i64 aH.1.Refresh]) (by kernel_rfl) rfl (by kernel_rfl) ?_
    clear H;intro eK gD hN cG hs;clear a;intro a H
    have eG : cD.heap.size ≤ eK:=hs ▸ hW
    replace hS:=hS.newBlk hN cG hs;clear hN hs
    replace hW:=Nat.le_trans hW cG.size
    replace hS:=hS.blkOwnL (e:=Zp) (k:=4) [aH.1] rfl rfl (by simp [maxLen])
    replace hS:=hS.pk7
    replace hm:=Za6 hm;obtain⟨d6,hm⟩:=hm
    refine Zrh (e:=Zp) 7 H rfl rfl rfl Tryz.underlying24 Tryz.underlying24 (by simp) el118 (hS.own 0 rfl) (((hS.own 1 rfl).slr rfl (fun _ _=>rfl)).src (fun _ _=>rfl)) Zeo d6 (by simp only [maxLen];omega) rfl (by kernel_rfl) (.inr (by kernel_rfl)) ?_
    clear H;intro eX gE hN bF hb;clear a;intro a H;replace hS:=hS.setOwn hN bF hb;clear hN hb
    replace hW:=Nat.le_trans hW bF.size
    refine Zg 8 H rfl (Qa rfl) rfl (by kernel_rfl) (by kernel_rfl) (by kernel_rfl) (by kernel_rfl) (fun _ _ _ h=>h) ?_;clear H a;intro a H
    refine Zg 9 H rfl (Zc rfl Tu) rfl (by kernel_rfl) (by kernel_rfl) (by kernel_rfl) (by kernel_rfl) (fun _ _ _ h=>h) ?_;clear H a;intro a H
    replace hS:=hS.pk5
    refine Zjl 10 H rfl rfl rfl sz24 (hS.blk 0 rfl) (by simp) (((hS.own 1 rfl).slr rfl (fun _ _=>rfl))).one (by kernel_rfl) (.inr (by kernel_rfl)) ?_
    clear H;intro eY hN bG hz;clear a;intro a H;replace hS:=hS.setBlk hN bG;clear hN hz;replace hW:=Nat.le_trans hW bG.size
    try simp only [List.set_cons_succ,List.set_cons_zero] at hS
    refine Xc (by kernel_rfl) ?_
    refine Za (wp_seq (wp_region_lit (n_q H (Zd rfl) rfl (W_q (Zb rfl) rfl ?_))));clear H a;intro a H
    refine Ze (Za (wp_ret (Zl (Zh ?_))))
    obtain rfl:=Option.some.inj hm
    replace hS:=hS.pk5
    replace hS:=hS.pk5
    replace hS:=hS.pk8
    replace hS:=hS.pk4
    replace hS:=hS.pk8
    replace hS:=hS.pk8
    replace hS:=hS.pk6
    replace hS:=hS.tk7
    refine Qx H (.inr rfl) rfl rfl ?_
    exact⟨_,_,_,_,_,rfl,hS⟩
  replace hm:=Zv hm bB
  refine wp_seq (wp_region_lit (n_q H (Jy rfl rfl) rfl (W_q (Zb rfl) rfl ?_)));clear H a;intro a H
  refine Ze (Za (Zn H rfl (fun aM=>?_) (fun aM=>?_)))
  · replace hm:=Zu hm aM
    refine wp_seq (wp_region_lit (n_q H (Zd rfl) rfl ?_));clear H a;intro a H
    replace hS:=hS.pk5
    obtain⟨eN,bH,aN,cL,bI⟩:=hS.frame (rs1:=[blkR b2 [v2_0,.int .i64 a2.at_,.int .i64 a2.bound_] 248])
    replace hm:=Zj hm;obtain⟨aA,cM,hm⟩:=hm
    refine Zk H rfl Zmv (Kw (A:=A) (fun w' hw=>hG _ (aN _ hw)) bH (a0:=(⟨a2.b_,a2.at_,a2.bound_⟩ : GWireCursor)) (fun w' hw=>ro2_b _ (aN _ hw)) cM) rfl ?_
    clear H;intro eZ e7 hv;clear a;intro a H;obtain⟨aC,rfl,cN⟩:=hv
    replace hS:=bI _ _ cN;simp only [List.cons_append,List.nil_append] at hS;clear bH aN cL bI
    refine n_q H (Zd rfl) rfl (W_q (Zm rfl rfl) rfl (W_q (Zm rfl rfl) rfl (W_q (Zb rfl) rfl (W_q (Zb rfl) rfl ?_))));clear H a;intro a H
    refine Ze (Za (wp_seq (wp_region_lit (n_q H (Zd rfl) rfl (W_q (Zd rfl) rfl (W_q (Qa rfl) rfl (W_q (Zc rfl Zdq) rfl ?_)))))));clear H a;intro a H
    replace hS:=hS.pk2
    refine Kb H rfl rfl sz3 (hS.blk 0 rfl) (by simp) rfl ?_
    clear H;intro e8 hN cO hz;clear a;intro a H;replace hS:=hS.setBlk hN cO;clear hN hz
    try simp only [List.set_cons_succ,List.set_cons_zero] at hS
    refine Ze (Za (wp_seq (wp_region_lit (n_q H (Zd rfl) rfl (W_q (Zd rfl) rfl ?_)))));clear H a;intro a H
    replace hS:=hS.pk1
    obtain⟨eO,bJ,aO,cP,bK⟩:=hS.frame (rs1:=[blkR b2 [v2_0,.int .i64 aA.2.2.at_,.int .i64 aA.2.2.bound_] 248])
    replace hm:=Zj hm;obtain⟨aD,cQ,hm⟩:=hm
    refine Zk H rfl Zt1 (Tf (A:=A) (fun w' hw=>hG _ (aO _ hw)) bJ (a0:=(⟨a2.b_,aA.2.2.at_,aA.2.2.bound_⟩ : GWireCursor)) (fun w' hw=>ro2_b _ (aO _ hw)) cQ) rfl ?_
    clear H;intro aE cH hv;clear a;intro a H;obtain⟨_,rfl,cR⟩:=hv
    replace hS:=bK _ _ cR;simp only [List.cons_append,List.nil_append] at hS;clear bJ aO cP bK
    refine Qb H Tryz.underlying314 sz39 ze39 rfl rfl rfl (cs:=[aC,aE]) ((Qk (hS.any 3 rfl : IsE A cH aC aA.2.1).one rfl (by simp)).trans ((Qk (hS.any 1 rfl : IsE A cH aE aD.1).one rfl (by simp)).trans rfl)) rfl ?_
    clear H;intro d7 aP hN cT hs;clear a;intro a H
    replace hS:=hS.newBlk hN cT hs;clear hN hs
    refine Zk H rfl Zt0 (Zb6 (A:=A) (SlR.ofBlk (k:=1) (R:=REr A) [[aC],[aE]] [(aC,aA.2.1),(aE,aD.1)] (hS.blk 0 rfl) (DIn.cons rfl (by simp [(hS.any 4 rfl : IsE A aP aC aA.2.1).one]) ⟨rfl,(hS.any 4 rfl : IsE A aP aC aA.2.1)⟩ (DIn.cons rfl (by simp [(hS.any 2 rfl : IsE A aP aE aD.1).one]) ⟨rfl,(hS.any 2 rfl : IsE A aP aE aD.1)⟩ trivial)) rfl (by simp [maxLen])) (Zbq _)) rfl ?_
    clear H;intro e9 d8 hv;clear a;intro a H;obtain⟨rfl,cU⟩:=hv;replace hS:=hS.ext cU
    replace hS:=hS.pk2
    replace hS:=hS.pk4
    replace hS:=(St.pickE [(aC,aA.2.1),(aE,aD.1)] rfl hS : St fp w d8 [erQ A ((pickE [(aC,aA.2.1),(aE,aD.1)]).1) (Zgn [aA.2.1,aD.1]),blkR d7 [aC,aE] 39,blkR b2 [v2_0,.int .i64 aD.2.at_,.int .i64 aD.2.bound_] 248,blkR b0 [.int .i64 a0.Id,.bool a0.Mobile,v0_0,v0_1,v0_2,.int .i64 aA.1,v0_3] 27,ownR 114 2 v0_0 a0.Pages.length (a0.Pages.flatMap Zw),ownR 116 3 v0_1 a0.Procs.length (a0.Procs.flatMap Zs),ownR 118 4 v0_2 a0.Ports.length (a0.Ports.flatMap Zp),ownR 3 1 v0_3 a0.Sems.length (a0.Sems.flatMap eI)])
    refine n_q H (Zb rfl) rfl ?_;clear H a;intro a H
    refine Ze (Za (wp_ret (Zl (Zh ?_))))
    obtain rfl:=Option.some.inj hm
    replace hS:=hS.pk2
    replace hS:=hS.pk7
    replace hS:=hS.pk7
    replace hS:=hS.pk7
    replace hS:=hS.pk7
    replace hS:=hS.pk7
    replace hS:=hS.tk7
    refine Qx H (.inr rfl) rfl rfl ?_
    exact⟨_,_,_,_,_,rfl,hS⟩
  replace hm:=Zv hm aM
  refine wp_seq (wp_region_lit (n_q H (Jy rfl rfl) rfl (W_q (Zb rfl) rfl ?_)));clear H a;intro a H
  refine Ze (Za (Zn H rfl (fun aQ=>?_) (fun aQ=>?_)))
  · replace hm:=Zu hm aQ
    refine wp_seq (wp_region_lit (n_q H (Zd rfl) rfl (W_q (Zd rfl) rfl ?_)));clear H a;intro a H
    replace hS:=hS.pk5
    obtain⟨eP,bL,bM,cV,bN⟩:=hS.frame (rs1:=[blkR b2 [v2_0,.int .i64 a2.at_,.int .i64 a2.bound_] 248])
    replace hm:=Zj hm;obtain⟨aR,cW,hm⟩:=hm
    refine Zk H rfl Zk9 (Xz (A:=A) bL (a0:=(⟨a2.b_,a2.at_,a2.bound_⟩ : GWireCursor)) (fun w' hw=>ro2_b _ (bM _ hw)) cW) rfl ?_
    clear H;intro fA fB hv;clear a;intro a H;obtain⟨rfl,cX⟩:=hv
    replace hS:=bN _ _ cX;simp only [List.cons_append,List.nil_append] at hS;clear bL bM cV bN
    obtain⟨eQ,bO,aS,cY,bP⟩:=hS.frame (rs1:=[blkR b2 [v2_0,.int .i64 aR.2.at_,.int .i64 aR.2.bound_] 248])
    replace hm:=Zj hm;obtain⟨aF,cZ,hm⟩:=hm
    refine Zk H rfl Ztx (Td (A:=A) (fun w' hw=>hG _ (aS _ hw)) bO (a0:=(⟨a2.b_,aR.2.at_,aR.2.bound_⟩ : GWireCursor)) (fun w' hw=>ro2_b _ (aS _ hw)) cZ) rfl ?_
    clear H;intro fC fD hv;clear a;intro a H;obtain⟨cI,cJ,rfl,c7⟩:=hv
    replace hS:=bP _ _ c7;simp only [List.cons_append,List.nil_append] at hS;clear bO aS cY bP
    refine n_q H (Zd rfl) rfl (W_q (Zm rfl rfl) rfl (W_q (Zm rfl rfl) rfl (W_q (Zb rfl) rfl (W_q (Zb rfl) rfl ?_))));clear H a;intro a H
    refine Ze (Za (wp_seq (wp_seq (wp_region_lit (n_q H (Zd rfl) rfl ?_)))));clear H a;intro a H
    obtain⟨fE,fF,aI,eR,eT⟩:=SlR.formV ((hS.own 1 rfl).slr rfl (fun _ _=>rfl))
    refine n_q H (Qc Tryz.underlying100 rfl aI) rfl (W_q (Zd rfl) rfl ?_);clear H a;intro a H
    refine Ze (Za (wp_block ?_))
    replace hS:=hS.pk7
    replace hS:=hS.pk7
    replace hS:=hS.pk7
    replace hS:=hS.pk7
    replace hS:=hS.pk7
    replace hS:=hS.pk6
    replace hS:=hS.pk7
    replace hm:=Zj hm;obtain⟨cK,hm,c9⟩:=hm;replace hm:=Ql hm;obtain⟨d9,hm⟩:=hm
    refine Kr (σ:=Nat × Nat × (List Int) × Value) (fun (m,aB,aG,aL)=>[(0,.pointer (some ⟨b0,0,none⟩)),(2,.pointer (some ⟨b2,0,none⟩)),(16,cJ),(99,cI),(100,.int .i64 ((aF.1.length : Nat) : Int)),(101,.int .i64 ((aB : Nat) : Int))]) (fun (m,aB,aG,aL) wl=>Ye (Gh aF) m (aB,aG)=some cK ∧ St fp w wl [erQ A cJ aF.2.1,ownR 5 1 cI aF.1.length (aF.1.flatMap eB),blkR b0 [.int .i64 a0.Id,.bool a0.Mobile,v0_0,v0_1,v0_2,.int .i64 a0.Events,aL] 27,ownR 114 2 v0_0 a0.Pages.length (a0.Pages.flatMap Zw),ownR 116 3 v0_1 a0.Procs.length (a0.Procs.flatMap Zs),ownR 118 4 v0_2 a0.Ports.length (a0.Ports.flatMap Zp),ownR 3 1 aL aG.length (aG.flatMap eI),blkR b2 [v2_0,.int .i64 aF.2.2.at_,.int .i64 aF.2.2.bound_] 248]) (fun (m,aB,aG,aL)=>m) (d9,0,a0.Sems,v0_3) H ⟨rfl,rfl,rfl,rfl,rfl,rfl,trivial⟩ ⟨hm,hS⟩ ?_
    clear H hS hm a;intro xx a fG H hR;obtain⟨m,aB,aG,aL⟩:=xx;simp only [ent,List.map_cons,List.map_nil] at H;(try dsimp only at hR);obtain⟨hm,hS⟩:=hR
    replace hm:=Qh hm;obtain⟨eA,fH,rfl,hm,bQ⟩:=hm;try dsimp only [Gh] at hm
    refine wp_seq (wp_region_lit (n_q H (Yc (i:=aB) (j:=aF.1.length) rfl rfl) rfl ?_));clear H a;intro a H
    refine Ze (Za (wp_seq (Zn H rfl (fun aJ=>?_) (fun aJ=>?_))))
    · replace hm:=Zu hm aJ
      have eL : aB < aF.1.length:=of_decide_eq_true aJ
      refine wp_skip (Za (wp_seq (wp_block (wp_seq (wp_region_lit ?_)))))
      replace hm:=Zj hm;obtain⟨bE,aT,hm⟩:=hm
      obtain⟨eM,aV⟩:=SlR.adV ((hS.own 1 rfl).slr rfl (fun _ _=>rfl)) aI aT
      refine n_q H (Ug (i:=aB) Tryz.underlying100 sz5 rfl aI aV rfl (Zb5 aT)) rfl (W_q (Zf rfl (SlR.ldOneV ((hS.own 1 rfl).slr rfl (fun _ _=>rfl)) aI aV ag5 aT rfl)) rfl (W_q (Zb rfl) rfl ?_));clear H a;intro a H
      refine Ze (Za (wp_region_lit (n_q H (Zd rfl) rfl (W_q (Zd rfl) rfl (W_q (Qa rfl) rfl (W_q (Zc rfl Zbx) rfl (W_q (Zf rfl ((hS.blk 2 rfl).ld Zil rfl)) rfl (W_q (Zd rfl) rfl (W_q (Xi (Hz Tryz.underlying5 Tryz.underlying3 ⟨_,rfl⟩ rfl) (Zff _)) rfl ?_)))))))));clear H a;intro a H
      refine Qb H Tryz.underlying25 sz3 ze3 rfl rfl rfl (cs:=[.int .i64 (bE.toNat : Int)]) (by kernel_rfl) rfl ?_
      clear H;intro fI fJ hN dA hs;clear a;intro a H
      replace hS:=hS.newBlk hN dA hs;clear hN hs
      replace hS:=hS.blkOwnL (e:=eI) (k:=1) [(bE.toNat : Int)] rfl rfl (by simp [maxLen])
      replace hS:=hS.pk7
      replace hm:=Za6 hm;obtain⟨dB,hm⟩:=hm
      refine Zbv (e:=eI) H rfl rfl Tryz.underlying25 Tryz.underlying25 (by simp) el3 (hS.own 0 rfl) (((hS.own 1 rfl).slr rfl (fun _ _=>rfl)).src (fun _ _=>rfl)) Zhg dB (by simp only [maxLen];omega) rfl ?_
      clear H;intro eC fK hN dC hb;clear a;intro a H;replace hS:=hS.setOwn hN dC hb;clear hN hb
      refine n_q H (Qa rfl) rfl (W_q (Zc rfl Zbx) rfl ?_);clear H a;intro a H
      replace hS:=hS.pk4
      refine Kb H rfl rfl sz25 (hS.blk 0 rfl) (by simp) (((hS.own 1 rfl).slr rfl (fun _ _=>rfl))).one ?_
      clear H;intro fL hN dD hz;clear a;intro a H;replace hS:=hS.setBlk hN dD;clear hN hz
      try simp only [List.set_cons_succ,List.set_cons_zero] at hS
      refine Ze (Zo (Za (wp_region_lit (n_q H (Yt (i:=aB) (j:=1) rfl rfl (by omega)) rfl (W_q (Zd rfl) rfl ?_)))));clear H a;intro a H
      refine Ze (Za ?_)
      obtain rfl:=Option.some.inj hm
      replace hS:=hS.pk8
      replace hS:=hS.pk2
      replace hS:=hS.pk8
      replace hS:=hS.pk8
      replace hS:=hS.pk8
      replace hS:=hS.pk5
      replace hS:=hS.pk8
      replace hS:=hS.pk8
      replace hS:=hS.tk8
      exact Uz (eA,aB + 1,(aG ++ [(bE.toNat : Int)]),eC) H ⟨rfl,rfl,rfl,rfl,rfl,rfl,trivial⟩ ⟨bQ,hS⟩ (Nat.lt_succ_self _)
    replace hm:=Zv hm aJ
    refine wp_exit (Zr (Zr (Qf ?_)))
    obtain rfl:=Option.some.inj hm;have hz : _=cK:=bQ;subst hz;replace hm:=c9;try dsimp only at hm
    refine Za (wp_seq (wp_region_lit (n_q H (Zd rfl) rfl (W_q (Zb rfl) rfl ?_))));clear H a;intro a H
    refine Ze (Za (wp_ret (Zl (Zh ?_))))
    obtain rfl:=Option.some.inj hm
    replace hS:=hS.pk7
    replace hS:=hS.pk7
    replace hS:=hS.pk7
    replace hS:=hS.pk7
    replace hS:=hS.pk7
    replace hS:=hS.pk7
    replace hS:=hS.tk7
    refine Qx H (.inr rfl) rfl rfl ?_
    exact⟨_,_,_,_,_,rfl,hS⟩
  replace hm:=Zv hm aQ
  refine wp_skip (Zo (Za (wp_seq (wp_region_lit (n_q H (Zf rfl ((hG _ hS.chg).ld Zok (by decide) Hv)) rfl (W_q (Zb rfl) rfl ?_))))));clear H a;intro a H
  refine Ze (Za (wp_ret ?_))
  obtain rfl:=Option.some.inj hm
  replace hS:=hS.dVar (A:=A) (g:=Zok) (by decide)
  replace hS:=hS.pk6
  replace hS:=hS.pk6
  replace hS:=hS.pk6
  replace hS:=hS.pk6
  replace hS:=hS.pk6
  replace hS:=hS.pk6
  refine Qx H (.inr rfl) rfl rfl ?_
  exact⟨_,_,_,_,_,rfl,hS⟩
theorem Zdu {w : World} {A : Nat → Addr} {v0 : Value} {a0 : List UInt8} {v1 : Value} {a1 : List UInt8} (h0 : SlR w 1 (Zi eB) v0 a0) (h1 : SlR w 1 (Zi eB) v1 a1) {r : Bool} (hm : Ke a0 a1=some r) :
    Calls Tryz.prog 107 [v0,v1].toArray w (Ret fun u w'=>u=.bool r ∧ Ext w w'):=by
  have hS:=St.begin NB w
  unfold Ke at hm
  refine enter Tryz.func107 rfl rfl rfl ?_;intro a H;dsimp only [Qn,Nat.zero_add,Nat.reduceAdd] at H
  refine wp_seq (wp_region_lit (n_q H (Zb rfl) rfl ?_));clear H a;intro a H
  refine Ze (Za (wp_seq (wp_seq (wp_region_lit (n_q H (Zd rfl) rfl ?_)))));clear H a;intro a H
  obtain⟨aX,aY,aB,aT,aU⟩:=SlR.formV (h0.ext (Zi.mono _) hS.x)
  refine n_q H (Qc Tryz.underlying100 rfl aB) rfl (W_q (Zd rfl) rfl ?_);clear H a;intro a H
  obtain⟨aZ,a9,aC,aV,aW⟩:=SlR.formV (h1.ext (Zi.mono _) hS.x)
  refine n_q H (Qc Tryz.underlying100 rfl aC) rfl (W_q (Zel (i:=a0.length) (j:=a1.length) rfl rfl) rfl ?_);clear H a;intro a H
  refine Ze (Za (Zn H rfl (fun aE=>?_) (fun aE=>?_)))
  · replace hm:=Zu hm aE
    refine wp_seq (wp_region_lit (n_q H (Zb rfl) rfl ?_));clear H a;intro a H
    refine Ze (Za (wp_ret (Zh ?_)))
    obtain rfl:=Option.some.inj hm
    refine Qx H (.inr rfl) rfl rfl ?_
    exact⟨rfl,hS.x⟩
  replace hm:=Zv hm aE
  refine wp_skip (Za (wp_seq (wp_seq (wp_region_lit (n_q H (Zd rfl) rfl (W_q (Qc Tryz.underlying100 rfl aB) rfl (W_q (Zd rfl) rfl ?_)))))));clear H a;intro a H
  refine Ze (Za (wp_block ?_))
  replace hm:=Zj hm;obtain⟨aL,hm,aM⟩:=hm;replace hm:=Ql hm;obtain⟨aO,hm⟩:=hm
  refine Kr (σ:=Nat × Nat) (fun (m,aA)=>[(0,v0),(1,v1),(12,.int .i64 ((a0.length : Nat) : Int)),(13,.int .i64 ((aA : Nat) : Int))]) (fun (m,aA) wl=>Ye (Ju a0 a1) m aA=some aL ∧ St NB w wl []) (fun (m,aA)=>m) (aO,0) H ⟨rfl,rfl,rfl,rfl,trivial⟩ ⟨hm,hS⟩ ?_
  clear H hS hm a;intro xx a bA H hR;obtain⟨m,aA⟩:=xx;simp only [ent,List.map_cons,List.map_nil] at H;(try dsimp only at hR);obtain⟨hm,hS⟩:=hR
  replace hm:=Qh hm;obtain⟨aP,bB,rfl,hm,aF⟩:=hm;try dsimp only [Ju] at hm
  refine wp_seq (wp_region_lit (n_q H (Yc (i:=aA) (j:=a0.length) rfl rfl) rfl ?_));clear H a;intro a H
  refine Ze (Za (wp_seq (Zn H rfl (fun aD=>?_) (fun aD=>?_))))
  · replace hm:=Zu hm aD
    have aQ : aA < a0.length:=of_decide_eq_true aD
    refine wp_skip (Za (wp_seq (wp_block (wp_seq (wp_region_lit (n_q H (Zd rfl) rfl (W_q (Zb rfl) rfl ?_)))))));clear H a;intro a H
    refine Ze (Za (wp_seq (Gw (by kernel_rfl) (by kernel_rfl) ?_)))
    refine Xn H (Zd rfl) rfl ?_;clear H a;intro a H
    refine Xn H (Zd rfl) rfl ?_;clear H a;intro a H
    replace hm:=Zj hm;obtain⟨bC,aG,hm⟩:=hm
    obtain⟨aR,aJ⟩:=SlR.adV (h0.ext (Zi.mono _) hS.x) aB aG
    refine Xn H (Ug (i:=aA) Tryz.underlying100 sz5 rfl aB aJ rfl (Zb5 aG)) rfl ?_;clear H a;intro a H
    refine Xn H (Zf rfl (SlR.ldOneV (h0.ext (Zi.mono _) hS.x) aB aJ ag5 aG rfl)) rfl ?_;clear H a;intro a H
    refine Xn H (Zd rfl) rfl ?_;clear H a;intro a H
    refine Xn H (Zd rfl) rfl ?_;clear H a;intro a H
    replace hm:=Zj hm;obtain⟨bD,aH,hm⟩:=hm
    obtain⟨aS,aK⟩:=SlR.adV (h1.ext (Zi.mono _) hS.x) aC aH
    refine Xn H (Ug (i:=aA) Tryz.underlying100 sz5 rfl aC aK rfl (Zb5 aH)) rfl ?_;clear H a;intro a H
    refine Xn H (Zf rfl (SlR.ldOneV (h1.ext (Zi.mono _) hS.x) aC aK ag5 aH rfl)) rfl ?_;clear H a;intro a H
    refine Xn H (Th rfl rfl) rfl ?_;clear H a;intro a H
    refine Tg ?_;intro bE aN
    replace hS:=hS.ext aN
    refine Za (Zn H rfl (fun aI=>?_) (fun aI=>?_))
    · replace hm:=Zu hm aI
      refine wp_seq (wp_region_lit (n_q H (Zb rfl) rfl ?_));clear H a;intro a H
      refine Ze (Za (wp_ret (Zl (Zh (Zh (Zl (Zh ?_)))))))
      obtain rfl:=Option.some.inj hm;have hz : _=aL:=aF;subst hz;replace hm:=aM;try dsimp only at hm
      obtain rfl:=Option.some.inj hm
      refine Qx H (.inr rfl) rfl rfl ?_
      exact⟨rfl,hS.x⟩
    replace hm:=Zv hm aI
    refine wp_skip (Zo (Za (wp_region_lit (n_q H (Yt (i:=aA) (j:=1) rfl rfl (by omega)) rfl (W_q (Zd rfl) rfl ?_)))));clear H a;intro a H
    refine Ze (Za ?_)
    obtain rfl:=Option.some.inj hm
    exact Uz (aP,aA + 1) H ⟨rfl,rfl,rfl,rfl,trivial⟩ ⟨aF,hS⟩ (Nat.lt_succ_self _)
  replace hm:=Zv hm aD
  refine wp_exit (Zr (Zr (Qf ?_)))
  obtain rfl:=Option.some.inj hm;have hz : _=aL:=aF;subst hz;replace hm:=aM;try dsimp only at hm
  refine Za (wp_seq (wp_region_lit (n_q H (Zb rfl) rfl ?_)));clear H a;intro a H
  refine Ze (Za (wp_ret ?_))
  obtain rfl:=Option.some.inj hm
  refine Qx H (.inr rfl) rfl rfl ?_
  exact⟨rfl,hS.x⟩
set_option maxHeartbeats 1000000 in
theorem Zfn {w : World} {A : Nat → Addr} {v0 : Value} {a0 : List UInt8} (hG : EV A w) (h0 : SlR w 1 (Zi eB) v0 a0) {r : GPlan × ErrM} (hm : Ku a0=some r) :
    Calls Tryz.prog 49 [v0].toArray w (Ret fun u w'=>∃ h_0 h_1 h_2 h_3 h_4,u=.tuple #[.agg #[.int .i64 r.1.Id,.bool r.1.Mobile,h_0,h_1,h_2,.int .i64 r.1.Events,h_3],h_4] ∧ St NB w w' [ownR 114 2 h_0 r.1.Pages.length (r.1.Pages.flatMap Zw),ownR 116 3 h_1 r.1.Procs.length (r.1.Procs.flatMap Zs),ownR 118 4 h_2 r.1.Ports.length (r.1.Ports.flatMap Zp),ownR 3 1 h_3 r.1.Sems.length (r.1.Sems.flatMap eI),erQ A h_4 r.2]):=by
  have hS:=St.begin NB w
  unfold Ku at hm
  refine enter Tryz.func49 rfl rfl rfl ?_;intro a H;dsimp only [Qn,Nat.zero_add,Nat.reduceAdd] at H
  refine wp_seq (wp_region_lit (Jb H Zms rfl ?_))
  clear H;intro bE gW hN eV hs;clear a;intro a H
  replace hS:=hS.newBlk hN eV hs;clear hN hs
  refine n_q H (Zb rfl) rfl ?_;clear H a;intro a H
  refine Ze (Za (wp_seq (wp_region_lit (n_q H (Zd rfl) rfl ?_))));clear H a;intro a H
  replace hm:=Zj hm;obtain⟨bF,eW,hm⟩:=hm
  refine Zk H rfl en99 (Zla (A:=A) (hG.ext hS.x) (h0.ext (Zi.mono _) hS.x) eW) rfl ?_
  clear H;intro gX aZ hv;clear a;intro a H;obtain⟨gY,c7,rfl,eX⟩:=hv
  replace hS:=hS.new eX;simp only [List.cons_append,List.nil_append] at hS
  refine n_q H (Zd rfl) rfl (W_q (Zm rfl rfl) rfl (W_q (Zm rfl rfl) rfl (W_q (Zb rfl) rfl (W_q (Zb rfl) rfl ?_))));clear H a;intro a H
  refine Ze (Za (wp_seq (wp_seq (wp_region_lit (n_q H (Zd rfl) rfl (W_q (Xi (Vr Tryz.underlying39 rfl rfl (hS.any 1 rfl : IsE A aZ c7 bF.2).form) (show _=Value.bool (!decide (bF.2=.nil)) by rw [Xu.isNil (hS.any 1 rfl : IsE A aZ c7 bF.2)])) rfl ?_))))));clear H a;intro a H
  refine Ze (Za (Zn H rfl (fun bS=>?_) (fun bS=>?_)))
  · replace hm:=Zu hm bS
    refine wp_seq (wp_region_lit (n_q H (Qt (cs:=[.int .i64 0,.bool false,.slice none 0 0,.slice none 0 0,.slice none 0 0,.int .i64 0,.slice none 0 0]) Zms Zts Ztt rfl (by kernel_rfl)) rfl (W_q (Zd rfl) rfl ?_)));clear H a;intro a H
    replace hS:=hS.pk2
    refine Qi H rfl rfl (vs:=[.int .i64 0,.bool false,.slice none 0 0,.slice none 0 0,.slice none 0 0,.int .i64 0,.slice none 0 0]) rfl Zav (hS.blk 0 rfl) rfl (by simp) ?_
    clear H;intro gZ hN eY hz;clear a;intro a H;replace hS:=hS.setBlk hN eY;clear hN hz
    refine n_q H (Zb rfl) rfl ?_;clear H a;intro a H
    refine Ze (Za (wp_ret (Zh ?_)))
    obtain rfl:=Option.some.inj hm
    replace hS:=hS.nilOwn 114 2
    replace hS:=hS.nilOwn 116 3
    replace hS:=hS.nilOwn 118 4
    replace hS:=hS.nilOwn 3 1
    replace hS:=hS.pk4
    replace hS:=hS.pk6
    replace hS:=hS.pk2
    replace hS:=hS.pk3
    replace hS:=hS.pk4
    replace hS:=hS.pk5
    replace hS:=hS.tk6
    refine Zhd H (.inr rfl) rfl (vs:=[.agg #[.int .i64 0,.bool false,.slice none 0 0,.slice none 0 0,.slice none 0 0,.int .i64 0,.slice none 0 0],c7]) (He rfl ((hS.blk 5 rfl).ldAll Zda Zav) (Wl rfl Hd)) ?_
    replace hS:=hS.tk5
    exact⟨_,_,_,_,_,rfl,hS⟩
  replace hm:=Zv hm bS
  refine wp_skip (Za (wp_seq (wp_seq (wp_region_lit (n_q H (Zd rfl) rfl ?_)))));clear H a;intro a H
  obtain⟨fS,fT,bT,f8,f9⟩:=SlR.formV ((hS.own 0 rfl).slr rfl (fun _ _=>rfl))
  refine n_q H (Qc Tryz.underlying100 rfl bT) rfl (W_q (Yc (i:=bF.1.length) (j:=15) rfl rfl) rfl ?_);clear H a;intro a H
  refine Ze (Za (Zn H rfl (fun bG=>?_) (fun bG=>?_)))
  · replace hm:=Zu hm bG
    have fU : bF.1.length < 15:=of_decide_eq_true bG
    refine wp_seq (Tm (kB w.heap.size [] aZ.drew.heap.size) 4 (by kernel_rfl) ?_)
    obtain⟨eR,bU⟩ : ∃ x,x=aZ.drew:=⟨_,rfl⟩;rw [← bU];have eZ : Ext aZ eR:=by rw [bU];exact Ext.drew' _
    clear bU
    replace hS:=hS.ext eZ
    have e7:=hS.x.size
    have hW:=Nat.le_refl eR.heap.size
    refine Zg 0 H rfl (Qt (cs:=[.int .i64 0,.bool false,.slice none 0 0,.slice none 0 0,.slice none 0 0,.int .i64 0,.slice none 0 0]) Zms Zts Ztt rfl (by kernel_rfl)) rfl (by kernel_rfl) (by kernel_rfl) (by kernel_rfl) (by kernel_rfl) (fun _ _ _ h=>h) ?_;clear H a;intro a H
    refine Qr 1 H rfl (Zf rfl (LdC.old (hG.ld Wz (by decide) Hv) hS.x e7 Zi7)) rfl (by kernel_rfl) (by kernel_rfl) (by kernel_rfl) (by kernel_rfl) (fun _ _ _ h=>h) ?_;clear H a;intro a H
    replace hS:=hS.pk2
    refine Qg 2 H rfl rfl rfl (vs:=[.int .i64 0,.bool false,.slice none 0 0,.slice none 0 0,.slice none 0 0,.int .i64 0,.slice none 0 0]) rfl Zav (hS.blk 0 rfl) rfl (by simp) (by kernel_rfl) (.inl (fun h=>Zi6 h (hS.ge (i:=0) rfl) Zcj)) ?_
    clear H;intro g6 hN c9 hz;clear a;intro a H;replace hS:=hS.setBlk hN c9;clear hN hz;replace hW:=Nat.le_trans hW c9.size
    refine Zg 3 H rfl (Zb rfl) rfl (by kernel_rfl) (by kernel_rfl) (by kernel_rfl) (by kernel_rfl) (fun _ _ _ h=>h) ?_;clear H a;intro a H
    refine Xc (by kernel_rfl) ?_
    refine Za (wp_ret (Zh ?_))
    obtain rfl:=Option.some.inj hm
    replace hS:=hS.nilOwn 114 2
    replace hS:=hS.nilOwn 116 3
    replace hS:=hS.nilOwn 118 4
    replace hS:=hS.nilOwn 3 1
    replace hS:=hS.dVar (A:=A) (g:=Wz) (by decide)
    replace hS:=hS.pk5
    replace hS:=hS.pk1
    replace hS:=hS.pk2
    replace hS:=hS.pk3
    replace hS:=hS.pk4
    replace hS:=hS.pk5
    replace hS:=hS.tk6
    refine Zhd H (.inr rfl) rfl (vs:=[.agg #[.int .i64 0,.bool false,.slice none 0 0,.slice none 0 0,.slice none 0 0,.int .i64 0,.slice none 0 0],sv 340 A Wz]) (He rfl ((hS.blk 5 rfl).ldAll Zda Zav) (Wl rfl Hd)) ?_
    replace hS:=hS.tk5
    exact⟨_,_,_,_,_,rfl,hS⟩
  replace hm:=Zv hm bG
  refine wp_skip (Za (wp_seq (wp_seq (wp_region_lit (n_q H (Zd rfl) rfl ?_)))));clear H a;intro a H
  replace hm:=Za6 hm;obtain⟨bV,hm⟩:=hm
  refine n_q H (Zkn Tryz.underlying100 sz5 (show _=some (Value.slice fS bF.1.length fT) by rw [← bT];rfl) rfl bV.1 (by omega)) rfl (W_q (Zmh Tryz.underlying100 Tryz.underlying5 Tryz.underlying9 rfl (fun w' hw=>((SlR.takeV ((hS.own 0 rfl).slr rfl (fun _ _=>rfl)) bT bV.1 bV.2).ext (Zi.mono _) hw))) rfl (W_q (q_neqS rfl rfl) rfl ?_));clear H a;intro a H
  refine Ze (Za (Zn H rfl (fun bW=>?_) (fun bW=>?_)))
  · replace hm:=Zu hm bW
    refine wp_seq (Tm (kB w.heap.size [] aZ.drew.heap.size) 4 (by kernel_rfl) ?_)
    obtain⟨eT,bX⟩ : ∃ x,x=aZ.drew:=⟨_,rfl⟩;rw [← bX];have e8 : Ext aZ eT:=by rw [bX];exact Ext.drew' _
    clear bX
    replace hS:=hS.ext e8
    have e9:=hS.x.size
    have hW:=Nat.le_refl eT.heap.size
    refine Zg 0 H rfl (Qt (cs:=[.int .i64 0,.bool false,.slice none 0 0,.slice none 0 0,.slice none 0 0,.int .i64 0,.slice none 0 0]) Zms Zts Ztt rfl (by kernel_rfl)) rfl (by kernel_rfl) (by kernel_rfl) (by kernel_rfl) (by kernel_rfl) (fun _ _ _ h=>h) ?_;clear H a;intro a H
    refine Qr 1 H rfl (Zf rfl (LdC.old (hG.ld Zju (by decide) Hv) hS.x e9 Zi7)) rfl (by kernel_rfl) (by kernel_rfl) (by kernel_rfl) (by kernel_rfl) (fun _ _ _ h=>h) ?_;clear H a;intro a H
    replace hS:=hS.pk2
    refine Qg 2 H rfl rfl rfl (vs:=[.int .i64 0,.bool false,.slice none 0 0,.slice none 0 0,.slice none 0 0,.int .i64 0,.slice none 0 0]) rfl Zav (hS.blk 0 rfl) rfl (by simp) (by kernel_rfl) (.inl (fun h=>Zi6 h (hS.ge (i:=0) rfl) Zcj)) ?_
    clear H;intro g7 hN dA hz;clear a;intro a H;replace hS:=hS.setBlk hN dA;clear hN hz;replace hW:=Nat.le_trans hW dA.size
    refine Zg 3 H rfl (Zb rfl) rfl (by kernel_rfl) (by kernel_rfl) (by kernel_rfl) (by kernel_rfl) (fun _ _ _ h=>h) ?_;clear H a;intro a H
    refine Xc (by kernel_rfl) ?_
    refine Za (wp_ret (Zh ?_))
    obtain rfl:=Option.some.inj hm
    replace hS:=hS.nilOwn 114 2
    replace hS:=hS.nilOwn 116 3
    replace hS:=hS.nilOwn 118 4
    replace hS:=hS.nilOwn 3 1
    replace hS:=hS.dVar (A:=A) (g:=Zju) (by decide)
    replace hS:=hS.pk5
    replace hS:=hS.pk1
    replace hS:=hS.pk2
    replace hS:=hS.pk3
    replace hS:=hS.pk4
    replace hS:=hS.pk5
    replace hS:=hS.tk6
    refine Zhd H (.inr rfl) rfl (vs:=[.agg #[.int .i64 0,.bool false,.slice none 0 0,.slice none 0 0,.slice none 0 0,.int .i64 0,.slice none 0 0],sv 340 A Zju]) (He rfl ((hS.blk 5 rfl).ldAll Zda Zav) (Wl rfl Hd)) ?_
    replace hS:=hS.tk5
    exact⟨_,_,_,_,_,rfl,hS⟩
  replace hm:=Zv hm bW
  refine wp_skip (Za (wp_seq (wp_region_lit (n_q H (Zd rfl) rfl ?_))));clear H a;intro a H
  replace hm:=Zj hm;obtain⟨aM,fA,hm⟩:=hm
  refine Zk H rfl en100 (Zj2 (A:=A) ((hS.own 0 rfl).slr rfl (fun _ _=>rfl)) fA) rfl ?_
  clear H;intro g8 g9 hv;clear a;intro a H;obtain⟨aP,aQ,rfl,fB⟩:=hv
  replace hS:=hS.new fB;simp only [List.cons_append,List.nil_append] at hS
  refine n_q H (Zb rfl) rfl ?_;clear H a;intro a H
  refine Ze (Za (wp_seq (wp_region_lit (n_q H (Zd rfl) rfl ?_))));clear H a;intro a H
  obtain⟨gA,dB,dC,dD,dE⟩:=hS.frame (rs1:=[blkR aP [aQ,.int .i64 aM.at_,.int .i64 aM.bound_] 248])
  replace hm:=Zj hm;obtain⟨b8,fC,hm⟩:=hm
  refine Zk H rfl Ztx (Td (A:=A) (fun w' hw=>hG.ext (dC _ hw).ext) dB (a0:=(⟨aM.b_,aM.at_,aM.bound_⟩ : GWireCursor)) (fun w' hw=>(To (dD 0 _ rfl _ hw)).slr rfl (fun _ _=>rfl)) fC) rfl ?_
  clear H;intro hH hJ hv;clear a;intro a H;obtain⟨hU,hY,rfl,fD⟩:=hv
  replace hS:=dE _ _ fD;simp only [List.cons_append,List.nil_append] at hS;clear dB dC dD dE
  refine Ze (Za (wp_seq (wp_seq (wp_region_lit (n_q H (Zd rfl) rfl ?_)))));clear H a;intro a H
  obtain⟨gB,dF,dG,dH,dI⟩:=hS.frame (rs1:=[blkR aP [aQ,.int .i64 b8.2.2.at_,.int .i64 b8.2.2.bound_] 248])
  replace hm:=Zj hm;obtain⟨b9,fE,hm⟩:=hm
  refine Zk H rfl Zty (Te (A:=A) (fun w' hw=>hG.ext (dG _ hw).ext) dF (a0:=(⟨aM.b_,b8.2.2.at_,b8.2.2.bound_⟩ : GWireCursor)) (fun w' hw=>(To (dH 2 _ rfl _ hw)).slr rfl (fun _ _=>rfl)) fE) rfl ?_
  clear H;intro hZ dJ hv;clear a;intro a H;obtain⟨iA,rfl,fF⟩:=hv
  replace hS:=dI _ _ fF;simp only [List.cons_append,List.nil_append] at hS;clear dF dG dH dI
  refine n_q H (Zd rfl) rfl (W_q (Zm rfl rfl) rfl (W_q (Zm rfl rfl) rfl (W_q (Zb rfl) rfl (W_q (Zb rfl) rfl ?_))));clear H a;intro a H
  refine Ze (Za (wp_seq (wp_region_lit (n_q H (Zd rfl) rfl (W_q (Zd rfl) rfl ?_)))));clear H a;intro a H
  obtain⟨iB,iC,fG,gC,gD⟩:=SlR.formV (h0.ext (Zi.mono _) hS.x)
  refine n_q H (Qc Tryz.underlying100 rfl fG) rfl (W_q (Th rfl rfl) rfl ?_);clear H a;intro a H
  refine Ze (Za (Zn H rfl (fun bY=>?_) (fun bY=>?_)))
  · replace hm:=Zu hm bY
    refine wp_seq (Tm (kB w.heap.size (aP :: []) dJ.drew.heap.size) 4 (by kernel_rfl) ?_)
    obtain⟨eU,bZ⟩ : ∃ x,x=dJ.drew:=⟨_,rfl⟩;rw [← bZ];have fH : Ext dJ eU:=by rw [bZ];exact Ext.drew' _
    clear bZ
    replace hS:=hS.ext fH
    have dK:=(hS.blk 0 rfl).lt
    have fI:=hS.x.size
    have hW:=Nat.le_refl eU.heap.size
    refine Zg 0 H rfl (Qt (cs:=[.int .i64 0,.bool false,.slice none 0 0,.slice none 0 0,.slice none 0 0,.int .i64 0,.slice none 0 0]) Zms Zts Ztt rfl (by kernel_rfl)) rfl (by kernel_rfl) (by kernel_rfl) (by kernel_rfl) (by kernel_rfl) (fun _ _ _ h=>h) ?_;clear H a;intro a H
    refine Qr 1 H rfl (Zf rfl (LdC.old (hG.ld Ur (by decide) Hv) hS.x fI Zi7)) rfl (by kernel_rfl) (by kernel_rfl) (by kernel_rfl) (by kernel_rfl) (fun _ _ _ h=>h) ?_;clear H a;intro a H
    replace hS:=hS.pk7
    refine Qg 2 H rfl rfl rfl (vs:=[.int .i64 0,.bool false,.slice none 0 0,.slice none 0 0,.slice none 0 0,.int .i64 0,.slice none 0 0]) rfl Zav (hS.blk 0 rfl) rfl (by simp) (by kernel_rfl) (.inl (fun h=>Zi6 h (hS.ge (i:=0) rfl) (Zck (hS.ne (i:=0) (j:=1) (by decide) rfl rfl) Zcj))) ?_
    clear H;intro iD hN dL hz;clear a;intro a H;replace hS:=hS.setBlk hN dL;clear hN hz;replace hW:=Nat.le_trans hW dL.size
    refine Zg 3 H rfl (Zb rfl) rfl (by kernel_rfl) (by kernel_rfl) (by kernel_rfl) (by kernel_rfl) (fun _ _ _ h=>h) ?_;clear H a;intro a H
    refine Xc (by kernel_rfl) ?_
    refine Za (wp_ret (Zh ?_))
    obtain rfl:=Option.some.inj hm
    replace hS:=hS.nilOwn 114 2
    replace hS:=hS.nilOwn 116 3
    replace hS:=hS.nilOwn 118 4
    replace hS:=hS.nilOwn 3 1
    replace hS:=hS.dVar (A:=A) (g:=Ur) (by decide)
    replace hS:=hS.pk5
    replace hS:=hS.pk1
    replace hS:=hS.pk2
    replace hS:=hS.pk3
    replace hS:=hS.pk4
    replace hS:=hS.pk5
    replace hS:=hS.tk6
    refine Zhd H (.inr rfl) rfl (vs:=[.agg #[.int .i64 0,.bool false,.slice none 0 0,.slice none 0 0,.slice none 0 0,.int .i64 0,.slice none 0 0],sv 340 A Ur]) (He rfl ((hS.blk 5 rfl).ldAll Zda Zav) (Wl rfl Hd)) ?_
    replace hS:=hS.tk5
    exact⟨_,_,_,_,_,rfl,hS⟩
  replace hm:=Zv hm bY
  refine wp_skip (Za (wp_seq (wp_region_lit (Jb H Zms rfl ?_))))
  clear H;intro aO gE hN dY hs;clear a;intro a H
  replace hS:=hS.newBlk hN dY hs;clear hN hs
  refine Ze (Za (wp_seq (wp_region_lit (n_q H (Zd rfl) rfl ?_))));clear H a;intro a H
  replace hS:=hS.pk1
  obtain⟨fV,cA,cB,cC,cD⟩:=hS.frame (rs1:=[blkR aP [aQ,.int .i64 b9.2.2.at_,.int .i64 b9.2.2.bound_] 248])
  replace hm:=Zj hm;obtain⟨bA,dZ,hm⟩:=hm
  refine Zk H rfl Zty (Te (A:=A) (fun w' hw=>hG.ext (cB _ hw).ext) cA (a0:=(⟨aM.b_,b9.2.2.at_,b9.2.2.bound_⟩ : GWireCursor)) (fun w' hw=>(To (cC 4 _ rfl _ hw)).slr rfl (fun _ _=>rfl)) dZ) rfl ?_
  clear H;intro gF gG hv;clear a;intro a H;obtain⟨gH,rfl,d5⟩:=hv
  replace hS:=cD _ _ d5;simp only [List.cons_append,List.nil_append] at hS;clear cA cB cC cD
  refine n_q H (Zd rfl) rfl (W_q (Zm rfl rfl) rfl (W_q (Zm rfl rfl) rfl (W_q (Zc rfl Zfg) rfl ?_)));clear H a;intro a H
  replace hS:=hS.pk2
  refine Kb H rfl rfl sz3 (hS.blk 0 rfl) (by simp) rfl ?_
  clear H;intro gI hN d6 hz;clear a;intro a H;replace hS:=hS.setBlk hN d6;clear hN hz
  try simp only [List.set_cons_succ,List.set_cons_zero] at hS
  refine Ze (Za (wp_seq (wp_region_lit (n_q H (Zd rfl) rfl ?_))));clear H a;intro a H
  replace hS:=hS.pk1
  obtain⟨fW,cF,cG,cH,cI⟩:=hS.frame (rs1:=[blkR aP [aQ,.int .i64 bA.2.2.at_,.int .i64 bA.2.2.bound_] 248])
  replace hm:=Zj hm;obtain⟨bH,d7,hm⟩:=hm
  refine Zk H rfl en103 (Za3 (A:=A) (fun w' hw=>hG.ext (cG _ hw).ext) cF (a0:=(⟨aM.b_,bA.2.2.at_,bA.2.2.bound_⟩ : GWireCursor)) (fun w' hw=>(To (cH 5 _ rfl _ hw)).slr rfl (fun _ _=>rfl)) d7) rfl ?_
  clear H;intro gJ gK hv;clear a;intro a H;obtain⟨fJ,rfl,d8⟩:=hv
  replace hS:=cI _ _ d8;simp only [List.cons_append,List.nil_append] at hS;clear cF cG cH cI
  refine n_q H (Zd rfl) rfl (W_q (Zm rfl rfl) rfl (W_q (Zm rfl rfl) rfl (W_q (Zc rfl Zn0) rfl ?_)));clear H a;intro a H
  replace hS:=hS.pk2
  refine Kb H rfl rfl sz4 (hS.blk 0 rfl) (by simp) rfl ?_
  clear H;intro gL hN d9 hz;clear a;intro a H;replace hS:=hS.setBlk hN d9;clear hN hz
  try simp only [List.set_cons_succ,List.set_cons_zero] at hS
  refine n_q H (Zb rfl) rfl ?_;clear H a;intro a H
  refine Ze (Za (wp_seq (wp_block ?_)))
  replace hS:=hS.nilOwn 114 2
  replace hS:=hS.nilOwn 116 3
  replace hS:=hS.nilOwn 118 4
  replace hS:=hS.nilOwn 3 1
  replace hS:=hS.pk1
  replace hS:=hS.pk2
  replace hS:=hS.pk3
  replace hS:=hS.pk4
  replace hS:=hS.pick 11 rfl;dsimp only [List.eraseIdx] at hS
  replace hS:=hS.pk6
  replace hS:=hS.pick 14 rfl;dsimp only [List.eraseIdx] at hS
  replace hS:=hS.pk8
  replace hS:=hS.tk9
  replace hm:=Zj hm;obtain⟨dM,hm,eA⟩:=hm;replace hm:=Ql hm;obtain⟨fK,hm⟩:=hm
  refine Kr (σ:=Nat × ErrM × Int × Int × Int × Bool × (List GPagePlan) × (List GProcPlan) × (List GPortPlan) × Int × (List Int) × Value × Value × Value × Value × Value) (fun (m,aL,aR,aS,aE,aF,aA,aB,aC,aG,aD,aN,aH,aI,aJ,aK)=>[(0,v0),(2,.pointer (some ⟨bE,0,none⟩)),(5,aN),(6,.pointer (some ⟨aP,0,none⟩)),(9,.pointer (some ⟨aO,0,none⟩))]) (fun (m,aL,aR,aS,aE,aF,aA,aB,aC,aG,aD,aN,aH,aI,aJ,aK) wl=>Ye (Qw aM) m (aL,aR,aS,aE,aF,aA,aB,aC,aG,aD)=some dM ∧ St NB w wl [erQ A aN aL,blkR bE [.int .i64 0,.bool false,.slice none 0 0,.slice none 0 0,.slice none 0 0,.int .i64 0,.slice none 0 0] 27,blkR aP [aQ,.int .i64 aR,.int .i64 aS] 248,ownR 5 1 aQ aM.b_.length (aM.b_.flatMap eB),blkR aO [.int .i64 aE,.bool aF,aH,aI,aJ,.int .i64 aG,aK] 27,ownR 114 2 aH aA.length (aA.flatMap Zw),ownR 116 3 aI aB.length (aB.flatMap Zs),ownR 118 4 aJ aC.length (aC.flatMap Zp),ownR 3 1 aK aD.length (aD.flatMap eI)]) (fun (m,aL,aR,aS,aE,aF,aA,aB,aC,aG,aD,aN,aH,aI,aJ,aK)=>m) (fK,bH.2.1,bH.2.2.at_,bH.2.2.bound_,bA.1,bH.1,([] : List GPagePlan),([] : List GProcPlan),([] : List GPortPlan),0,([] : List Int),fJ,.slice none 0 0,.slice none 0 0,.slice none 0 0,.slice none 0 0) H ⟨rfl,rfl,rfl,rfl,rfl,trivial⟩ ⟨hm,hS⟩ ?_
  clear H hS hm a;intro xx a dN H hR;obtain⟨m,aL,aR,aS,aE,aF,aA,aB,aC,aG,aD,aN,aH,aI,aJ,aK⟩:=xx;simp only [ent,List.map_cons,List.map_nil] at H;(try dsimp only at hR);obtain⟨hm,hS⟩:=hR
  replace hm:=Qh hm;obtain⟨dO,fL,rfl,hm,bI⟩:=hm;try dsimp only [Qw] at hm
  refine wp_seq ?_
  replace hm:=Zj hm;obtain⟨gM,hm,cJ⟩:=hm
  refine Gm (σ:=Bool × Int × Int) H (fun (bJ,aX,aY)=>[(0,v0),(2,.pointer (some ⟨bE,0,none⟩)),(5,aN),(6,.pointer (some ⟨aP,0,none⟩)),(9,.pointer (some ⟨aO,0,none⟩)),(67,.bool bJ)]) (fun (bJ,aX,aY) wl=>(Uj aM aL aE aF aA aB aC aG aD) (bJ,aX,aY)=some fL ∧ St NB w wl [erQ A aN aL,blkR bE [.int .i64 0,.bool false,.slice none 0 0,.slice none 0 0,.slice none 0 0,.int .i64 0,.slice none 0 0] 27,blkR aP [aQ,.int .i64 aX,.int .i64 aY] 248,ownR 5 1 aQ aM.b_.length (aM.b_.flatMap eB),blkR aO [.int .i64 aE,.bool aF,aH,aI,aJ,.int .i64 aG,aK] 27,ownR 114 2 aH aA.length (aA.flatMap Zw),ownR 116 3 aI aB.length (aB.flatMap Zs),ownR 118 4 aJ aC.length (aC.flatMap Zp),ownR 3 1 aK aD.length (aD.flatMap eI)]) ?_ ?_
  · skip
    refine wp_region_lit (n_q H (Zd rfl) rfl (W_q (Xi (Zc9 Tryz.underlying39 rfl rfl (hS.any 0 rfl : IsE A dN aN aL).form) (show _=Value.bool (decide (aL=.nil)) by rw [Xu.isNil (hS.any 0 rfl : IsE A dN aN aL)])) rfl (W_q (Zd rfl) rfl ?_)));clear H a;intro a H
    rcases Bool.eq_false_or_eq_true (decide (aL=.nil)) with aW|aW
    · replace H:=H.know 63 rfl aW
      replace hm:=Zu hm aW
      refine Kq H rfl rfl (n_q H (Zd rfl) rfl (Zy rfl rfl ?_));clear H a;intro a H
      replace hS:=hS.pk2
      obtain⟨fX,cK,eC,cL,cM⟩:=hS.frame (rs1:=[blkR aP [aQ,.int .i64 aR,.int .i64 aS] 248])
      replace hm:=Zj hm;obtain⟨b6,eD,hm⟩:=hm
      refine Zk H rfl Zk9 (Xz (A:=A) cK (a0:=(⟨aM.b_,aR,aS⟩ : GWireCursor)) (fun w' hw=>(To (cL 2 _ rfl _ hw)).slr rfl (fun _ _=>rfl)) eD) rfl ?_
      clear H;intro gN gO hv;clear a;intro a H;obtain⟨rfl,eE⟩:=hv
      replace hS:=cM _ _ eE;simp only [List.cons_append,List.nil_append] at hS;clear cK eC cL cM
      refine Kq H rfl rfl (n_q H (Zcd rfl rfl) rfl (W_q (Zx rfl rfl) rfl ?_));clear H a;intro a H
      refine Ze (Za ?_)
      obtain rfl:=Option.some.inj hm;replace hm:=cJ;try dsimp only at hm
      replace hS:=hS.pk8
      replace hS:=hS.pk8
      replace hS:=hS.pk8
      replace hS:=hS.pk8
      replace hS:=hS.pk8
      replace hS:=hS.pk8
      replace hS:=hS.pk6
      replace hS:=hS.pk8
      replace hS:=hS.pk8
      exact Uy (decide (0 < b6.1),b6.2.at_,b6.2.bound_) H ⟨rfl,rfl,rfl,rfl,rfl,rfl,trivial⟩ ⟨hm,hS⟩
    replace H:=H.know 63 rfl aW
    replace hm:=Zv hm aW
    refine Tp H rfl rfl (by decide) rfl (Zz rfl rfl (by decide) rfl (Zz rfl rfl (by decide) rfl (W_q (Zt rfl rfl) rfl ?_)));clear H a;intro a H
    refine Ze (Za ?_)
    obtain rfl:=Option.some.inj hm;replace hm:=cJ;try dsimp only at hm
    exact Uy (false,aR,aS) H ⟨rfl,rfl,rfl,rfl,rfl,rfl,trivial⟩ ⟨hm,hS⟩
  clear H hS hm a;intro xx a bB H hR
  obtain⟨bJ,aX,aY⟩:=xx
  simp only [ent,List.map_cons,List.map_nil] at H;(try dsimp only at hR);obtain⟨hm,hS⟩:=hR;try dsimp only [Uj] at hm
  refine Zn H rfl (fun bK=>?_) (fun bK=>?_)
  · replace hm:=Zu hm bK
    refine wp_skip (Za (wp_block (wp_seq (wp_region_lit (n_q H (Zb rfl) rfl ?_)))));clear H a;intro a H
    refine Ze (Za (wp_seq (wp_region_lit (n_q H (Zb rfl) rfl ?_))));clear H a;intro a H
    refine Ze (Za (wp_seq (wp_region_lit (n_q H (Zd rfl) rfl ?_))));clear H a;intro a H
    replace hS:=hS.pk2
    obtain⟨fY,cN,cO,cP,cQ⟩:=hS.frame (rs1:=[blkR aP [aQ,.int .i64 aX,.int .i64 aY] 248])
    replace hm:=Zj hm;obtain⟨aT,eG,hm⟩:=hm
    refine Zk H rfl en105 (Zee (A:=A) (fun w' hw=>hG.ext (cO _ hw).ext) cN (a0:=(⟨aM.b_,aX,aY⟩ : GWireCursor)) (fun w' hw=>(To (cP 2 _ rfl _ hw)).slr rfl (fun _ _=>rfl)) eG) rfl ?_
    clear H;intro gP dP hv;clear a;intro a H;obtain⟨gQ,b7,rfl,eH⟩:=hv
    replace hS:=cQ _ _ eH;simp only [List.cons_append,List.nil_append] at hS;clear cN cO cP cQ
    refine n_q H (Zd rfl) rfl (W_q (Zm rfl rfl) rfl (W_q (Zm rfl rfl) rfl (W_q (Zm rfl rfl) rfl (W_q (Zb rfl) rfl (W_q (Zb rfl) rfl (W_q (Zb rfl) rfl ?_))))));clear H a;intro a H
    refine Ze (Za (wp_seq (wp_region_lit (n_q H (Zd rfl) rfl (W_q (Xi (Zc9 Tryz.underlying39 rfl rfl (hS.any 2 rfl : IsE A dP b7 aT.2.2.1).form) (show _=Value.bool (decide (aT.2.2.1=.nil)) by rw [Xu.isNil (hS.any 2 rfl : IsE A dP b7 aT.2.2.1)])) rfl ?_)))));clear H a;intro a H
    refine Ze (Za (Zn H rfl (fun bL=>?_) (fun bL=>?_)))
    · replace hm:=Zu hm bL
      refine wp_region_lit (n_q H (Zd rfl) rfl (W_q (Zd rfl) rfl ?_));clear H a;intro a H
      replace hm:=Zj hm;obtain⟨bM,eJ,hm⟩:=hm
      replace hS:=hS.pk1
      obtain⟨fM,hv,hS'⟩:=St.optOpen eJ hS;clear hS;subst hv;have hS:=hS';clear hS';try dsimp only at hS
      replace hS:=hS.pk10
      replace hS:=hS.pk10
      replace hS:=hS.pk10
      replace hS:=hS.pk10
      replace hS:=hS.pk10
      obtain⟨fZ,cR,cT,cU,cV⟩:=hS.frame (rs1:=[blkR aO [.int .i64 aE,.bool aF,aH,aI,aJ,.int .i64 aG,aK] 27,ownR 114 2 aH aA.length (aA.flatMap Zw),ownR 116 3 aI aB.length (aB.flatMap Zs),ownR 118 4 aJ aC.length (aC.flatMap Zp),ownR 3 1 aK aD.length (aD.flatMap eI),blkR fM [aQ,.int .i64 bM.at_,.int .i64 bM.bound_] 248])
      replace hm:=Zj hm;obtain⟨aU,eK,hm⟩:=hm
      refine Zk H rfl en106 (Zlb (A:=A) (fun w' hw=>hG.ext (cT _ hw).ext) cR (a2:=(⟨aM.b_,bM.at_,bM.bound_⟩ : GWireCursor)) (fun w' hw=>(To (cU 4 _ rfl _ hw)).slr rfl (fun _ _=>rfl)) eK) rfl ?_
      clear H;intro fN gR hv;clear a;intro a H;obtain⟨_,fO,fP,fQ,fR,rfl,eL⟩:=hv
      replace hS:=cV _ _ eL;simp only [List.cons_append,List.nil_append] at hS;clear cR cT cU cV
      refine n_q H (Zb rfl) rfl ?_;clear H a;intro a H
      refine Ze (Zo (Za ?_))
      obtain rfl:=Option.some.inj hm
      replace hS:=hS.pk4
      replace hS:=hS.pk4
      replace hS:=hS.pk4
      replace hS:=hS.pk4
      replace hS:=hS.pk4
      replace hS:=hS.pick 11 rfl;dsimp only [List.eraseIdx] at hS
      replace hS:=hS.pk8
      replace hS:=hS.pick 11 rfl;dsimp only [List.eraseIdx] at hS
      replace hS:=hS.pk9
      replace hS:=hS.tk9
      exact Uz (dO,aU.1,aT.2.2.2.at_,aT.2.2.2.bound_,aU.2.1.Id,aU.2.1.Mobile,aU.2.1.Pages,aU.2.1.Procs,aU.2.1.Ports,aU.2.1.Events,aU.2.1.Sems,fN,fO,fP,fQ,fR) H ⟨rfl,rfl,rfl,rfl,rfl,trivial⟩ ⟨bI,hS⟩ (Nat.lt_succ_self _)
    replace hm:=Zv hm bL
    refine wp_skip (Zo (Za ?_))
    obtain rfl:=Option.some.inj hm
    replace hS:=hS.pk10
    replace hS:=hS.pk10
    replace hS:=hS.pk10
    replace hS:=hS.pk10
    replace hS:=hS.pk10
    replace hS:=hS.pk10
    replace hS:=hS.pk6
    replace hS:=hS.pk10
    replace hS:=hS.pk9
    replace hS:=hS.tk9
    exact Uz (dO,aT.2.2.1,aT.2.2.2.at_,aT.2.2.2.bound_,aE,aF,aA,aB,aC,aG,aD,b7,aH,aI,aJ,aK) H ⟨rfl,rfl,rfl,rfl,rfl,trivial⟩ ⟨bI,hS⟩ (Nat.lt_succ_self _)
  replace hm:=Zv hm bK
  refine wp_exit (Zr (Zr (Qf ?_)))
  obtain rfl:=Option.some.inj hm;have hz : _=dM:=bI;subst hz;replace hm:=eA;try dsimp only at hm
  refine Za (wp_seq (wp_seq (wp_region_lit (n_q H (Zd rfl) rfl (W_q (Xi (Vr Tryz.underlying39 rfl rfl (hS.any 0 rfl : IsE A bB aN aL).form) (show _=Value.bool (!decide (aL=.nil)) by rw [Xu.isNil (hS.any 0 rfl : IsE A bB aN aL)])) rfl ?_)))));clear H a;intro a H
  refine Ze (Za (Zn H rfl (fun bN=>?_) (fun bN=>?_)))
  · replace hm:=Zu hm bN
    refine wp_seq (Tm (kB w.heap.size (aP :: (aO :: [])) bB.drew.heap.size) 4 (by kernel_rfl) ?_)
    obtain⟨dQ,bO⟩ : ∃ x,x=bB.drew:=⟨_,rfl⟩;rw [← bO];have eM : Ext bB dQ:=by rw [bO];exact Ext.drew' _
    clear bO
    replace hS:=hS.ext eM
    have dK:=(hS.blk 2 rfl).lt
    have cZ:=(hS.blk 4 rfl).lt
    have eN:=hS.x.size
    have hW:=Nat.le_refl dQ.heap.size
    refine Zg 0 H rfl (Qt (cs:=[.int .i64 0,.bool false,.slice none 0 0,.slice none 0 0,.slice none 0 0,.int .i64 0,.slice none 0 0]) Zms Zts Ztt rfl (by kernel_rfl)) rfl (by kernel_rfl) (by kernel_rfl) (by kernel_rfl) (by kernel_rfl) (fun _ _ _ h=>h) ?_;clear H a;intro a H
    refine Qr 1 H rfl (Zf rfl (LdC.old (hG.ld Hp (by decide) Hv) hS.x eN Zi7)) rfl (by kernel_rfl) (by kernel_rfl) (by kernel_rfl) (by kernel_rfl) (fun _ _ _ h=>h) ?_;clear H a;intro a H
    replace hS:=hS.pk1
    refine Qg 2 H rfl rfl rfl (vs:=[.int .i64 0,.bool false,.slice none 0 0,.slice none 0 0,.slice none 0 0,.int .i64 0,.slice none 0 0]) rfl Zav (hS.blk 0 rfl) rfl (by simp) (by kernel_rfl) (.inl (fun h=>Zi6 h (hS.ge (i:=0) rfl) (Zck (hS.ne (i:=0) (j:=2) (by decide) rfl rfl) (Zck (hS.ne (i:=0) (j:=4) (by decide) rfl rfl) Zcj)))) ?_
    clear H;intro gS hN cW hz;clear a;intro a H;replace hS:=hS.setBlk hN cW;clear hN hz;replace hW:=Nat.le_trans hW cW.size
    refine Zg 3 H rfl (Zb rfl) rfl (by kernel_rfl) (by kernel_rfl) (by kernel_rfl) (by kernel_rfl) (fun _ _ _ h=>h) ?_;clear H a;intro a H
    refine Xc (by kernel_rfl) ?_
    refine Za (wp_ret (Zh ?_))
    obtain rfl:=Option.some.inj hm
    replace hS:=hS.nilOwn 114 2
    replace hS:=hS.nilOwn 116 3
    replace hS:=hS.nilOwn 118 4
    replace hS:=hS.nilOwn 3 1
    replace hS:=hS.dVar (A:=A) (g:=Hp) (by decide)
    replace hS:=hS.pk5
    replace hS:=hS.pk1
    replace hS:=hS.pk2
    replace hS:=hS.pk3
    replace hS:=hS.pk4
    replace hS:=hS.pk5
    replace hS:=hS.tk6
    refine Zhd H (.inr rfl) rfl (vs:=[.agg #[.int .i64 0,.bool false,.slice none 0 0,.slice none 0 0,.slice none 0 0,.int .i64 0,.slice none 0 0],sv 340 A Hp]) (He rfl ((hS.blk 5 rfl).ldAll Zda Zav) (Wl rfl Hd)) ?_
    replace hS:=hS.tk5
    exact⟨_,_,_,_,_,rfl,hS⟩
  replace hm:=Zv hm bN
  refine wp_skip (Za (wp_seq (wp_seq (wp_region_lit (n_q H (Zf rfl ((hS.blk 4 rfl).ldAll Zda Zav)) rfl ?_)))));clear H a;intro a H
  replace hm:=Zj hm;obtain⟨bP,eO,hm⟩:=hm
  refine Zk H rfl en47 (Zai (A:=A) (hG.ext hS.x) (⟨_,_,_,_,rfl,((hS.own 5 rfl).slr rfl (fun _ _=>rfl)),((hS.own 6 rfl).slr rfl (fun _ _=>rfl)),((hS.own 7 rfl).slr rfl (fun _ _=>rfl)),((hS.own 8 rfl).slr rfl (fun _ _=>rfl))⟩ : Xa _ [.int .i64 aE,.bool aF,aH,aI,aJ,.int .i64 aG,aK] (⟨aE,aF,aA,aB,aC,aG,aD⟩ : GPlan)) eO) rfl ?_
  clear H;intro gT dR hv;clear a;intro a H;obtain⟨gU,dS,rfl,eP⟩:=hv
  replace hS:=hS.new eP;simp only [List.cons_append,List.nil_append] at hS
  refine n_q H (Zd rfl) rfl (W_q (Zm rfl rfl) rfl (W_q (Zm rfl rfl) rfl (W_q (Zb rfl) rfl (W_q (Zb rfl) rfl ?_))));clear H a;intro a H
  refine Ze (Za ?_)
  replace hm:=Zj hm;obtain⟨gV,hm,cX⟩:=hm
  refine Gm (σ:=Bool) H (fun a9=>[(2,.pointer (some ⟨bE,0,none⟩)),(9,.pointer (some ⟨aO,0,none⟩)),(95,.bool a9)]) (fun a9 wl=>(We aE aF aA aB aC aG aD) a9=some r ∧ St NB w wl [blkR bE [.int .i64 0,.bool false,.slice none 0 0,.slice none 0 0,.slice none 0 0,.int .i64 0,.slice none 0 0] 27,blkR aO [.int .i64 aE,.bool aF,aH,aI,aJ,.int .i64 aG,aK] 27,ownR 114 2 aH aA.length (aA.flatMap Zw),ownR 116 3 aI aB.length (aB.flatMap Zs),ownR 118 4 aJ aC.length (aC.flatMap Zp),ownR 3 1 aK aD.length (aD.flatMap eI)]) ?_ ?_
  · skip
    refine wp_region_lit (n_q H (Zd rfl) rfl (W_q (Xi (Vr Tryz.underlying39 rfl rfl (hS.any 1 rfl : IsE A dR dS bP.2).form) (show _=Value.bool (!decide (bP.2=.nil)) by rw [Xu.isNil (hS.any 1 rfl : IsE A dR dS bP.2)])) rfl (W_q (Zd rfl) rfl ?_)));clear H a;intro a H
    rcases Bool.eq_false_or_eq_true (!decide (bP.2=.nil)) with aV|aV
    · replace H:=H.know 90 rfl aV
      replace hm:=Zu hm aV
      refine Tp H rfl rfl (by decide) rfl (Zz rfl rfl (by decide) rfl (Zz rfl rfl (by decide) rfl (Zz rfl rfl (by decide) rfl (W_q (Zx rfl rfl) rfl ?_))));clear H a;intro a H
      refine Ze (Za ?_)
      obtain rfl:=Option.some.inj hm;replace hm:=cX;try dsimp only at hm
      replace hS:=hS.pk10
      replace hS:=hS.pk10
      replace hS:=hS.pk10
      replace hS:=hS.pk10
      replace hS:=hS.pk10
      replace hS:=hS.pk8
      replace hS:=hS.tk6
      exact Uy true H ⟨rfl,rfl,rfl,trivial⟩ ⟨hm,hS⟩
    replace H:=H.know 90 rfl aV
    replace hm:=Zv hm aV
    refine Kq H rfl rfl (n_q H (Zd rfl) rfl (Zy rfl rfl (W_q (Zd rfl) rfl (Zy rfl rfl ?_))));clear H a;intro a H
    replace hm:=Zj hm;obtain⟨eQ,dT,hm⟩:=hm
    refine Zk H rfl en107 (Zdu (A:=A) ((hS.own 0 rfl).slr rfl (fun _ _=>rfl)) (h0.ext (Zi.mono _) hS.x) dT) rfl ?_
    clear H;intro f3 f5 hv;clear a;intro a H;obtain⟨rfl,dU⟩:=hv
    replace hS:=hS.ext dU
    refine Kq H rfl rfl (n_q H (Zb1 rfl) rfl (W_q (Zt rfl rfl) rfl ?_));clear H a;intro a H
    refine Ze (Za ?_)
    obtain rfl:=Option.some.inj hm;replace hm:=cX;try dsimp only at hm
    replace hS:=hS.pk10
    replace hS:=hS.pk10
    replace hS:=hS.pk10
    replace hS:=hS.pk10
    replace hS:=hS.pk10
    replace hS:=hS.pk8
    replace hS:=hS.tk6
    exact Uy (!eQ) H ⟨rfl,rfl,rfl,trivial⟩ ⟨hm,hS⟩
  clear H hS hm a;intro a9 a bQ H hR
  simp only [ent,List.map_cons,List.map_nil] at H;(try dsimp only at hR);obtain⟨hm,hS⟩:=hR;try dsimp only [We] at hm
  refine Zn H rfl (fun bC=>?_) (fun bC=>?_)
  · replace hm:=Zu hm bC
    refine wp_seq (Tm (kB w.heap.size (aO :: []) bQ.drew.heap.size) 4 (by kernel_rfl) ?_)
    obtain⟨cY,bD⟩ : ∃ x,x=bQ.drew:=⟨_,rfl⟩;rw [← bD];have dV : Ext bQ cY:=by rw [bD];exact Ext.drew' _
    clear bD
    replace hS:=hS.ext dV
    have cZ:=(hS.blk 1 rfl).lt
    have dW:=hS.x.size
    have hW:=Nat.le_refl cY.heap.size
    refine Zg 0 H rfl (Qt (cs:=[.int .i64 0,.bool false,.slice none 0 0,.slice none 0 0,.slice none 0 0,.int .i64 0,.slice none 0 0]) Zms Zts Ztt rfl (by kernel_rfl)) rfl (by kernel_rfl) (by kernel_rfl) (by kernel_rfl) (by kernel_rfl) (fun _ _ _ h=>h) ?_;clear H a;intro a H
    refine Qr 1 H rfl (Zf rfl (LdC.old (hG.ld Hp (by decide) Hv) hS.x dW Zi7)) rfl (by kernel_rfl) (by kernel_rfl) (by kernel_rfl) (by kernel_rfl) (fun _ _ _ h=>h) ?_;clear H a;intro a H
    refine Qg 2 H rfl rfl rfl (vs:=[.int .i64 0,.bool false,.slice none 0 0,.slice none 0 0,.slice none 0 0,.int .i64 0,.slice none 0 0]) rfl Zav (hS.blk 0 rfl) rfl (by simp) (by kernel_rfl) (.inl (fun h=>Zi6 h (hS.ge (i:=0) rfl) (Zck (hS.ne (i:=0) (j:=1) (by decide) rfl rfl) Zcj))) ?_
    clear H;intro f6 hN bR hz;clear a;intro a H;replace hS:=hS.setBlk hN bR;clear hN hz;replace hW:=Nat.le_trans hW bR.size
    refine Zg 3 H rfl (Zb rfl) rfl (by kernel_rfl) (by kernel_rfl) (by kernel_rfl) (by kernel_rfl) (fun _ _ _ h=>h) ?_;clear H a;intro a H
    refine Xc (by kernel_rfl) ?_
    refine Za (wp_ret (Zh ?_))
    obtain rfl:=Option.some.inj hm
    replace hS:=hS.nilOwn 114 2
    replace hS:=hS.nilOwn 116 3
    replace hS:=hS.nilOwn 118 4
    replace hS:=hS.nilOwn 3 1
    replace hS:=hS.dVar (A:=A) (g:=Hp) (by decide)
    replace hS:=hS.pk5
    replace hS:=hS.pk1
    replace hS:=hS.pk2
    replace hS:=hS.pk3
    replace hS:=hS.pk4
    replace hS:=hS.pk5
    replace hS:=hS.tk6
    refine Zhd H (.inr rfl) rfl (vs:=[.agg #[.int .i64 0,.bool false,.slice none 0 0,.slice none 0 0,.slice none 0 0,.int .i64 0,.slice none 0 0],sv 340 A Hp]) (He rfl ((hS.blk 5 rfl).ldAll Zda Zav) (Wl rfl Hd)) ?_
    replace hS:=hS.tk5
    exact⟨_,_,_,_,_,rfl,hS⟩
  replace hm:=Zv hm bC
  refine wp_skip (Za (wp_seq (wp_region_lit (n_q H (Zf rfl ((hS.blk 1 rfl).ldAll Zda Zav)) rfl ?_))));clear H a;intro a H
  refine Qi H rfl rfl (vs:=[.int .i64 aE,.bool aF,aH,aI,aJ,.int .i64 aG,aK]) rfl Zav (hS.blk 0 rfl) rfl (by simp [(((hS.own 2 rfl).slr rfl (fun _ _=>rfl))).one,(((hS.own 3 rfl).slr rfl (fun _ _=>rfl))).one,(((hS.own 4 rfl).slr rfl (fun _ _=>rfl))).one,(((hS.own 5 rfl).slr rfl (fun _ _=>rfl))).one]) ?_
  clear H;intro f7 hN dX hz;clear a;intro a H;replace hS:=hS.setBlk hN dX;clear hN hz
  refine n_q H (Zb rfl) rfl ?_;clear H a;intro a H
  refine Ze (Za (wp_ret ?_))
  obtain rfl:=Option.some.inj hm
  replace hS:=hS.dNil (A:=A)
  replace hS:=hS.pk1
  replace hS:=hS.pk1
  replace hS:=hS.pk6
  replace hS:=hS.pk6
  replace hS:=hS.pk6
  replace hS:=hS.pk6
  replace hS:=hS.tk6
  refine Zhd H (.inr rfl) rfl (vs:=[.agg #[.int .i64 aE,.bool aF,aH,aI,aJ,.int .i64 aG,aK],.nilIface]) (He rfl ((hS.blk 5 rfl).ldAll Zda Zav) (Wl rfl Hd)) ?_
  replace hS:=hS.tk5
  exact⟨_,_,_,_,_,rfl,hS⟩
end Go.Proofs.YtfemfiiagjnhdaaGreatDoor
