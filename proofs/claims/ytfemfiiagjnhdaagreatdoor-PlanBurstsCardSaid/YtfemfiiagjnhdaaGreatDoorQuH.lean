/- Part of a claim, shortened by a program from its texts: PtU1. -/
import Derived.Test.YtfemfiiagjnhdaaGreatDoorQuG
set_option linter.unusedVariables false
set_option linter.unusedSimpArgs false
set_option maxRecDepth 10000
namespace Go.Proofs.YtfemfiiagjnhdaaGreatDoor
open Go Go.RowKit
theorem en14 : Zp Tryz.prog 14=true:=by kernel_rfl
theorem en33 : Zp Tryz.prog 33=true:=by kernel_rfl
theorem en45 : Zp Tryz.prog 45=true:=by kernel_rfl
theorem en48 : Zp Tryz.prog 48=true:=by kernel_rfl
theorem en49 : Zp Tryz.prog 49=true:=by kernel_rfl
theorem Zpl : Zay Tryz.prog 103 0=some 0:=by kernel_rfl
theorem Zlo : Zay Tryz.prog 103 3=some 15:=by kernel_rfl
theorem Zlp : Zay Tryz.prog 103 4=some 16:=by kernel_rfl
theorem Zat {w : World} {A : Nat → Addr} {v0 : Value} {a0 : List UInt8} {a1 : Int} {a2 : Int} (h0 : SlR w 1 (Zq eB) v0 a0) {r : List UInt8 × Bool} (hm : Yp a0 a1 a2=some r) :
    Calls Tryz.prog 48 [v0,.int .i64 a1,.int .u32 a2].toArray w (Ret fun u w'=>∃ h_0,u=.tuple #[h_0,.bool r.2] ∧ St NB w w' [ownR 5 1 h_0 r.1.length (r.1.flatMap eB)]):=by
  have hS:=St.begin NB w
  unfold Yp at hm
  refine enter Tryz.func48 rfl rfl rfl ?_;intro a H;dsimp only [Qo,Nat.zero_add,Nat.reduceAdd] at H
  refine wp_seq (wp_region_lit (n_q H (Zb rfl) rfl (W_q (Zb rfl) rfl ?_)));clear H a;intro a H
  refine Ze (Za (wp_seq (wp_region_lit (Zx H Tryz.underlying100 sz5 ze5 rfl rfl rfl (cs:=[]) rfl rfl ?_))))
  clear H;intro bV bW hN bA hs;clear a;intro a H
  replace hS:=hS.newBlk hN bA hs;clear hN hs
  replace hS:=hS.blkOwnL (e:=eB) (k:=1) ([] : List UInt8) rfl rfl (by simp [maxLen])
  refine n_q H (Zc rfl) rfl ?_;clear H a;intro a H
  replace hm:=Tw hm;obtain⟨bB,hm⟩:=hm
  refine Zaw (e:=eB) H rfl rfl Tryz.underlying100 Tryz.underlying100 (by simp) el5 (hS.own 0 rfl) ((h0.ext (Zq.mono _) hS.x).src (fun _ _=>rfl)) Zbq bB (by simp only [maxLen];omega) rfl ?_
  clear H;intro aN bX hN bC hb;clear a;intro a H;replace hS:=hS.setOwn hN bC hb;clear hN hb
  refine n_q H (Zb rfl) rfl ?_;clear H a;intro a H
  refine Ze (Za (wp_seq (wp_region_lit (n_q H (Zb rfl) rfl ?_))));clear H a;intro a H
  refine Ze (Za (wp_seq (wp_seq (wp_region_lit (n_q H (Zb rfl) rfl ?_)))));clear H a;intro a H
  refine Ze (Za (wp_block ?_))
  replace hm:=Zk hm;obtain⟨aZ,hm,bD⟩:=hm;replace hm:=Qk hm;obtain⟨bE,hm⟩:=hm
  refine Kh (σ:=Nat × (List UInt8) × Bool × Nat) (fun (m,aD,aF,aA)=>[(0,v0),(1,.int .i64 a1),(2,.int .u32 a2),(8,aN),(9,.bool aF),(10,.int .i64 ((aA : Nat) : Int))]) (fun (m,aD,aF,aA) wl=>Kl (Jq a0 a1 a2) m (aD,aF,aA)=some aZ ∧ St NB w wl [ownR 5 1 aN aD.length (aD.flatMap eB)]) (fun (m,aD,aF,aA)=>m) (bE,(([] : List UInt8) ++ a0),false,0) H ⟨rfl,rfl,rfl,rfl,rfl,rfl,trivial⟩ ⟨hm,hS⟩ ?_
  clear H hS hm a;intro xx a a9 H hR;obtain⟨m,aD,aF,aA⟩:=xx;simp only [ent,List.map_cons,List.map_nil] at H;(try dsimp only at hR);obtain⟨hm,hS⟩:=hR
  replace hm:=Qd hm;obtain⟨bF,bG,rfl,hm,aP⟩:=hm;try dsimp only [Jq] at hm
  refine wp_seq (wp_seq (wp_region_lit (n_q H (Zc rfl) rfl (W_q (Ki (i:=aA) (j:=32) rfl rfl) rfl ?_))));clear H a;intro a H
  refine Ze (Za (Zl H rfl (fun aG=>?_) (fun aG=>?_)))
  · replace hm:=Zt hm aG
    have bJ : aA < 32:=of_decide_eq_true aG
    refine wp_skip (Za ?_)
    replace hm:=Zk hm;obtain⟨bY,hm,aQ⟩:=hm
    refine Ga (σ:=(List UInt8) × Bool) H (fun (aC,aE)=>[(0,v0),(1,.int .i64 a1),(2,.int .u32 a2),(8,aN),(9,.bool aE),(10,.int .i64 ((aA : Nat) : Int))]) (fun (aC,aE) wl=>(Vh aA) (aC,aE)=some bG ∧ St NB w wl [ownR 5 1 aN aC.length (aC.flatMap eB)]) ?_ ?_
    · skip
      refine wp_block (wp_seq (wp_region_lit (n_q H (Zc rfl) rfl (W_q (Zc rfl) rfl (W_q (Xy rfl rfl) rfl (W_q (Zb rfl) rfl ?_))))));clear H a;intro a H
      refine Ze (Za (wp_seq (wp_region_lit (n_c H (fun HC=>?_)))));clear H
      refine Hk HC (Zc rfl) rfl (by kernel_rfl) (V_q (Zc rfl) rfl (by kernel_rfl) (V_q (Zgq rfl rfl (by omega)) rfl (by kernel_rfl) (V_q (q_and rfl rfl) rfl (by kernel_rfl) (V_q (Wu rfl rfl) rfl (by kernel_rfl) (V_q (Zc rfl) rfl (by kernel_rfl) (V_g (Zc rfl) (by kernel_rfl) (by kernel_rfl) (by kernel_rfl) (V_g (Zc rfl) (by kernel_rfl) (by kernel_rfl) (by kernel_rfl) ?_)))))));clear HC a;intro a HC
      obtain⟨bO,bP,aT,bK,bL⟩:=SlR.formV (h0.ext (Zq.mono _) hS.x)
      refine Ze3 HC (Qh Tryz.underlying100 rfl aT) (by kernel_rfl) (by kernel_rfl) (by kernel_rfl) (V_g (Gp rfl rfl) (by kernel_rfl) (by kernel_rfl) (by kernel_rfl) (V_g (Wh rfl rfl) (by kernel_rfl) (by kernel_rfl) (by kernel_rfl) (Zoz (j:=5) rfl rfl rfl (by kernel_rfl) (by kernel_rfl) ?_)));clear HC a;intro a HC
      have H:=HC.has;clear HC
      refine Ze (Za (Zl H rfl (fun aH=>?_) (fun aH=>?_)))
      · replace hm:=Zt hm aH
        refine wp_seq (Gx [] 10 (by kernel_rfl) ?_)
        obtain⟨aR,aI⟩ : ∃ x,x=a9.drew:=⟨_,rfl⟩;rw [← aI];have aU : Ext a9 aR:=by rw [aI];exact Ext.drew' _
        clear aI
        replace hS:=hS.ext aU
        have aV:=hS
        have hW:=Nat.le_refl aR.heap.size
        refine Zh 0 H rfl (Zc rfl) rfl (by kernel_rfl) (by kernel_rfl) (by kernel_rfl) (by kernel_rfl) (fun _ _ _ h=>h) ?_;clear H a;intro a H
        refine Zh 1 H rfl (Zc rfl) rfl (by kernel_rfl) (by kernel_rfl) (by kernel_rfl) (by kernel_rfl) (fun _ _ _ h=>h) ?_;clear H a;intro a H
        refine Zh 2 H rfl (Zki rfl rfl (by decide)) rfl (by kernel_rfl) (by kernel_rfl) (by kernel_rfl) (by kernel_rfl) (fun _ _ _ h=>h) ?_;clear H a;intro a H
        obtain⟨bQ,bR,aB,bM,bN⟩:=SlR.formV ((hS.own 0 rfl).slr rfl (fun _ _=>rfl))
        replace hm:=Zk hm;obtain⟨aS,aW,hm⟩:=hm
        obtain⟨h0x550,h1x550,aJ⟩:=Zi9 aW
        obtain⟨bH,aK⟩:=SlR.adV ((hS.own 0 rfl).slr rfl (fun _ _=>rfl)) aB aJ
        refine Zh 3 H rfl (Zoc Tryz.underlying100 sz5 rfl aB aK rfl h0x550 h1x550) rfl (by kernel_rfl) (by kernel_rfl) (by kernel_rfl) (by kernel_rfl) (fun _ _ _ h=>h) ?_;clear H a;intro a H
        refine Xq 4 H rfl (Zf rfl (LdC.old (SlR.ldOneV ((aV.own 0 rfl).slr rfl (fun _ _=>rfl)) aB aK ag5 aJ rfl) Ext.rfl' (Nat.le_refl _) (by simp))) rfl (by kernel_rfl) (by kernel_rfl) (by kernel_rfl) (by kernel_rfl) (fun _ _ _ h=>h) ?_;clear H a;intro a H
        refine Zh 5 H rfl (Zc rfl) rfl (by kernel_rfl) (by kernel_rfl) (by kernel_rfl) (by kernel_rfl) (fun _ _ _ h=>h) ?_;clear H a;intro a H
        refine Zh 6 H rfl (Zd6 rfl rfl (by decide)) rfl (by kernel_rfl) (by kernel_rfl) (by kernel_rfl) (by kernel_rfl) (fun _ _ _ h=>h) ?_;clear H a;intro a H
        replace hm:=Tw hm;obtain⟨aX,hm⟩:=hm
        refine Zh 7 H rfl (Zoi rfl rfl aX) rfl (by kernel_rfl) (by kernel_rfl) (by kernel_rfl) (by kernel_rfl) (fun _ _ _ h=>h) ?_;clear H a;intro a H
        refine Zh 8 H rfl (Zmm rfl rfl) rfl (by kernel_rfl) (by kernel_rfl) (by kernel_rfl) (by kernel_rfl) (fun _ _ _ h=>h) ?_;clear H a;intro a H
        replace hm:=Zk hm;obtain⟨bS,aY,hm⟩:=hm
        obtain⟨h0x552,h1x552,aL⟩:=Zi9 aY
        obtain⟨bI,aM⟩:=SlR.adV ((hS.own 0 rfl).slr rfl (fun _ _=>rfl)) aB aL
        refine Zh 9 H rfl (Zoc Tryz.underlying100 sz5 rfl aB aM rfl h0x552 h1x552) rfl (by kernel_rfl) (by kernel_rfl) (by kernel_rfl) (by kernel_rfl) (fun _ _ _ h=>h) ?_;clear H a;intro a H
        refine Zlb (e:=eB) (x':=(Qq (Yr .u8 (aS.toNat : Int) (shL .u8 1 (Int.tmod (IntKind.i64.wrap (a1 + ((aA : Nat) : Int))) 8))))) 10 H rfl rfl rfl sz5 (hS.own 0 rfl) aB aM (Zb9 aL) (by rw [eB_xor];rfl) (Zbq _) (fun _=>rfl) (by kernel_rfl) (.inr (by kernel_rfl)) ?_
        clear H;intro bT hN aO;clear a;intro a H;replace hS:=hS.setOwn hN aO (.inl rfl);clear hN;replace hW:=Nat.le_trans hW aO.size
        refine Xh (by kernel_rfl) ?_
        refine Za (wp_region_lit (n_q H (Zb rfl) rfl ?_));clear H a;intro a H
        refine Ze (Zn (Za ?_))
        obtain rfl:=Option.some.inj hm;replace hm:=aQ;try dsimp only at hm
        exact Wa ((aD.set ((IntKind.i64.wrap (Int.tdiv (IntKind.i64.wrap (a1 + ((aA : Nat) : Int))) 8)).toNat) (Qq (Yr .u8 (aS.toNat : Int) (shL .u8 1 (Int.tmod (IntKind.i64.wrap (a1 + ((aA : Nat) : Int))) 8))))),true) H ⟨rfl,rfl,rfl,rfl,rfl,rfl,trivial⟩ ⟨hm,hS⟩
      · replace hm:=Zu hm aH
        refine wp_skip (Zn (Za ?_))
        obtain rfl:=Option.some.inj hm;replace hm:=aQ;try dsimp only at hm
        exact Wa (aD,aF) H ⟨rfl,rfl,rfl,rfl,rfl,rfl,trivial⟩ ⟨hm,hS⟩
    · clear H hS hm a;intro xx a bU H hR
      obtain⟨aC,aE⟩:=xx
      simp only [ent,List.map_cons,List.map_nil] at H;(try dsimp only at hR);obtain⟨hm,hS⟩:=hR;try dsimp only [Vh] at hm
      refine wp_region_lit (n_q H (Zc rfl) rfl (W_q (Yx (i:=aA) (j:=1) rfl rfl (by omega)) rfl (W_q (Zb rfl) rfl ?_)));clear H a;intro a H
      refine Ze (Za ?_)
      obtain rfl:=Option.some.inj hm
      exact Wm (bF,aC,aE,aA + 1) H ⟨rfl,rfl,rfl,rfl,rfl,rfl,trivial⟩ ⟨aP,hS⟩ (Nat.lt_succ_self _)
  · replace hm:=Zu hm aG
    refine wp_exit (Zo (Zo (Qb ?_)))
    obtain rfl:=Option.some.inj hm;have hz : _=aZ:=aP;subst hz;replace hm:=bD;try dsimp only at hm
    refine Za (wp_seq (wp_region_lit (n_q H (Zc rfl) rfl (W_q (Zc rfl) rfl (W_q (Zb rfl) rfl (W_q (Zb rfl) rfl ?_))))));clear H a;intro a H
    refine Ze (Za (wp_ret ?_))
    obtain rfl:=Option.some.inj hm
    refine Zb0 H (.inr rfl) rfl rfl rfl ?_
    exact⟨_,rfl,hS⟩
set_option maxHeartbeats 1000000 in
theorem Zbn {w : World} {A : Nat → Addr} {cs0 : List Value} {a0 : GL10Case} (hG : EV A w) (hH : HE w) (h0 : Zci w cs0 a0) {r : Bool} (hm : Yg a0=some r) :
    Calls Tryz.prog 7 [.agg cs0.toArray].toArray w (Ret fun u w'=>u=.bool r ∧ Ext w w'):=by
  obtain⟨aD,aE,aF,aG,aL,aM,aN,aO,aP,rfl,aU,aV,aW,aX,fV,fW,fX,fY,fZ⟩:=h0
  have hS:=St.begin NB w
  unfold Yg at hm
  refine enter Tryz.func7 rfl rfl rfl ?_;intro a H;dsimp only [Qo,Nat.zero_add,Nat.reduceAdd] at H
  refine wp_seq (wp_region_lit (Uc H rfl (cs:=[.int .i64 a0.P.Id,.bool a0.P.Mobile,aD,aE,aF,.int .i64 a0.P.Events,aG,.int .i64 a0.Q.Id,.bool a0.Q.Mobile,aL,aM,aN,.int .i64 a0.Q.Events,aO,aP,.int .i64 a0.At,.int .u32 a0.Mask]) rfl rfl ?_))
  clear H;intro aS jJ hN eY hs;clear a;intro a H
  replace hS:=hS.newBlk hN eY hs;clear hN hs
  refine n_q H (Zb rfl) rfl ?_;clear H a;intro a H
  refine Ze (Za (wp_seq (wp_seq (wp_region_lit ?_))))
  replace hm:=Zk hm;obtain⟨jK,eZ,hm⟩:=hm
  refine Zj H rfl en45 (Zei (A:=A) (hG.ext hS.x) (hH.ext hS.x) eZ) rfl ?_
  clear H;intro jL jM hv;clear a;intro a H;obtain⟨rfl,e7⟩:=hv
  replace hS:=hS.ext e7
  refine n_q H (Zgp rfl) rfl ?_;clear H a;intro a H
  refine Ze (Za (Zl H rfl (fun bY=>?_) (fun bY=>?_)))
  · replace hm:=Zt hm bY
    refine wp_seq (wp_region_lit (n_q H (Zb rfl) rfl ?_));clear H a;intro a H
    refine Ze (Za (wp_ret (Zg ?_)))
    obtain rfl:=Option.some.inj hm
    replace hS:=hS.tk0
    refine Jb H (.inr rfl) rfl rfl ?_
    exact⟨rfl,hS.x⟩
  · replace hm:=Zu hm bY
    refine wp_skip (Za (wp_seq (wp_region_lit (n_q H (Zd rfl Zpl) rfl (W_q (Zf rfl ((hS.blk 0 rfl).ldPart 0 7 Za0 Gy (by simp))) rfl ?_)))));clear H a;intro a H
    refine Xj H Zj2 rfl ?_
    clear H;intro jN jO hN e8 hs;clear a;intro a H
    replace hS:=hS.newBlk hN e8 hs;clear hN hs
    refine Zr H rfl rfl (vs:=[.int .i64 a0.P.Id,.bool a0.P.Mobile,aD,aE,aF,.int .i64 a0.P.Events,aG]) rfl Gy (hS.blk 0 rfl) rfl (by simp [((aU.ext (Zq.mono _) hS.x)).one,((aV.ext (Zq.mono _) hS.x)).one,((aW.ext (Zq.mono _) hS.x)).one,((aX.ext (Zq.mono _) hS.x)).one]) ?_
    clear H;intro jP hN e9 hz;clear a;intro a H;replace hS:=hS.setBlk hN e9;clear hN hz
    refine Ze (Za (wp_seq (wp_seq (wp_region_lit (n_q H (Zf rfl ((hS.blk 0 rfl).ldAll Za0 Gy)) rfl ?_)))));clear H a;intro a H
    replace hm:=Zk hm;obtain⟨jQ,fA,hm⟩:=hm
    refine Zj H rfl en33 (Zg9 (A:=A) (⟨_,_,_,_,rfl,(aU.ext (Zq.mono _) hS.x),(aV.ext (Zq.mono _) hS.x),(aW.ext (Zq.mono _) hS.x),(aX.ext (Zq.mono _) hS.x)⟩ : Xm _ [.int .i64 a0.P.Id,.bool a0.P.Mobile,aD,aE,aF,.int .i64 a0.P.Events,aG] a0.P) fA) rfl ?_
    clear H;intro jR jS hv;clear a;intro a H;obtain⟨rfl,fB⟩:=hv
    replace hS:=hS.ext fB
    refine n_q H (Zgp rfl) rfl ?_;clear H a;intro a H
    refine Ze (Za (Zl H rfl (fun bZ=>?_) (fun bZ=>?_)))
    · replace hm:=Zt hm bZ
      refine wp_region_lit ?_
      replace hm:=Zk hm;obtain⟨aY,fC,hm⟩:=hm
      refine Zj H rfl en46 (Za8 (A:=A) fC) rfl ?_
      clear H;intro jT jU hv;clear a;intro a H;obtain⟨eP,eQ,eT,eU,rfl,fD⟩:=hv
      replace hS:=hS.new fD;simp only [List.cons_append,List.nil_append] at hS
      replace hS:=hS.pk4
      refine Zr H rfl rfl (vs:=[.int .i64 aY.Id,.bool aY.Mobile,eP,eQ,eT,.int .i64 aY.Events,eU]) rfl Gy (hS.blk 0 rfl) rfl (by simp [(((hS.own 1 rfl).slr rfl (fun _ _=>rfl))).one,(((hS.own 2 rfl).slr rfl (fun _ _=>rfl))).one,(((hS.own 3 rfl).slr rfl (fun _ _=>rfl))).one,(((hS.own 4 rfl).slr rfl (fun _ _=>rfl))).one]) ?_
      clear H;intro jV hN fE hz;clear a;intro a H;replace hS:=hS.setBlk hN fE;clear hN hz
      refine Ze (Za (wp_seq (wp_region_lit (n_q H (Zf rfl ((hS.blk 0 rfl).ldAll Za0 Gy)) rfl ?_))));clear H a;intro a H
      replace hm:=Zk hm;obtain⟨cG,fF,hm⟩:=hm
      refine Zj H rfl en14 (Zdi (A:=A) (⟨_,_,_,_,rfl,((hS.own 1 rfl).slr rfl (fun _ _=>rfl)),((hS.own 2 rfl).slr rfl (fun _ _=>rfl)),((hS.own 3 rfl).slr rfl (fun _ _=>rfl)),((hS.own 4 rfl).slr rfl (fun _ _=>rfl))⟩ : Xm _ [.int .i64 aY.Id,.bool aY.Mobile,eP,eQ,eT,.int .i64 aY.Events,eU] aY) fF) rfl ?_
      clear H;intro jW jX hv;clear a;intro a H;obtain⟨gA,gB,gC,gD,rfl,fG⟩:=hv
      replace hS:=hS.new fG;simp only [List.cons_append,List.nil_append] at hS
      replace hm:=Zk hm;obtain⟨aB,fH,hm⟩:=hm
      refine Zj H rfl en47 (Gm (A:=A) (hG.ext hS.x) (⟨_,_,_,_,rfl,((hS.own 0 rfl).slr rfl (fun _ _=>rfl)),((hS.own 1 rfl).slr rfl (fun _ _=>rfl)),((hS.own 2 rfl).slr rfl (fun _ _=>rfl)),((hS.own 3 rfl).slr rfl (fun _ _=>rfl))⟩ : Xm _ [.int .i64 cG.Id,.bool cG.Mobile,gA,gB,gC,.int .i64 cG.Events,gD] cG) fH) rfl ?_
      clear H;intro jY eV hv;clear a;intro a H;obtain⟨bF,eW,rfl,fI⟩:=hv
      replace hS:=hS.new fI;simp only [List.cons_append,List.nil_append] at hS
      refine n_q H (Zc rfl) rfl (W_q (Zi rfl rfl) rfl (W_q (Zi rfl rfl) rfl (W_q (Zb rfl) rfl (W_q (Zb rfl) rfl ?_))));clear H a;intro a H
      refine Ze (Za (wp_seq (wp_seq (wp_region_lit (n_c H (fun HC=>?_))))));clear H
      refine Hk HC (Zc rfl) rfl (by kernel_rfl) (V_q (Qt (Jr Tryz.underlying39 rfl rfl (hS.any 1 rfl : IsE A eV eW aB.2).form) (show _=Value.bool (!decide (aB.2=.nil)) by rw [Xa.isNil (hS.any 1 rfl : IsE A eV eW aB.2)])) rfl (by kernel_rfl) (V_q (Zc rfl) rfl (by kernel_rfl) (V_g (Zc rfl) (by kernel_rfl) (by kernel_rfl) (by kernel_rfl) ?_)));clear HC a;intro a HC
      obtain⟨gE,gF,aK,iJ,iK⟩:=SlR.formV ((hS.own 0 rfl).slr rfl (fun _ _=>rfl))
      refine Ze3 HC (Qh Tryz.underlying100 rfl aK) (by kernel_rfl) (by kernel_rfl) (by kernel_rfl) (V_g (Zk4 (i:=aB.1.length) (j:=0) rfl rfl) (by kernel_rfl) (by kernel_rfl) (by kernel_rfl) (Zdz (j:=2) rfl rfl rfl (by kernel_rfl) (by kernel_rfl) ?_));clear HC a;intro a HC
      have H:=HC.has;clear HC
      refine Ze (Za (Zl H rfl (fun b7=>?_) (fun b7=>?_)))
      · replace hm:=Zt hm b7
        refine wp_seq (wp_region_lit (n_q H (Zb rfl) rfl ?_));clear H a;intro a H
        refine Ze (Za (wp_ret (Zg ?_)))
        obtain rfl:=Option.some.inj hm
        replace hS:=hS.tk0
        refine Jb H (.inr rfl) rfl rfl ?_
        exact⟨rfl,hS.x⟩
      · replace hm:=Zu hm b7
        refine wp_skip (Za (wp_seq (wp_region_lit (n_q H (Zd rfl Zlo) rfl (W_q (Zf rfl ((hS.blk 11 rfl).ld ag3 rfl)) rfl (W_q (Wo Tryz.underlying3 Tryz.underlying107 ⟨_,rfl⟩ rfl) rfl (W_q (Zc rfl) rfl (W_q (Qh Tryz.underlying100 rfl aK) rfl (W_q (Gp rfl rfl) rfl (W_q (Wo Tryz.underlying3 Tryz.underlying107 ⟨_,rfl⟩ rfl) rfl ?_))))))))));clear H a;intro a H
        replace hm:=Tw hm;obtain⟨fJ,hm⟩:=hm
        refine n_q H (Zd6 rfl rfl fJ) rfl (W_q (Wo Tryz.underlying107 Tryz.underlying3 ⟨_,rfl⟩ rfl) rfl (W_q (Zb rfl) rfl ?_));clear H a;intro a H
        refine Ze (Za (wp_seq (wp_seq (wp_region_lit (n_q H (Zb rfl) rfl ?_)))));clear H a;intro a H
        refine Ze (Za (wp_block ?_))
        replace hS:=hS.pick 11 rfl;dsimp only [List.eraseIdx] at hS
        replace hS:=hS.pk1
        replace hS:=hS.tk2
        replace hm:=Zk hm;obtain⟨cR,hm,cT⟩:=hm;replace hm:=Qk hm;obtain⟨gG,hm⟩:=hm
        refine Kh (σ:=Nat × Nat) (fun (m,aI)=>[(1,.pointer (some ⟨aS,0,none⟩)),(4,bF),(6,.int .i64 (IntKind.i64.wrap (Int.tmod (IntKind.u64.wrap a0.At) (IntKind.u64.wrap (IntKind.i64.wrap (8 * ((aB.1.length : Nat) : Int))))))),(7,.int .i64 ((aI : Nat) : Int))]) (fun (m,aI) wl=>Kl (Qs a0 aB) m aI=some cR ∧ St NB w wl [ownR 5 1 bF aB.1.length (aB.1.flatMap eB),blkR aS [.int .i64 a0.P.Id,.bool a0.P.Mobile,aD,aE,aF,.int .i64 a0.P.Events,aG,.int .i64 a0.Q.Id,.bool a0.Q.Mobile,aL,aM,aN,.int .i64 a0.Q.Events,aO,aP,.int .i64 a0.At,.int .u32 a0.Mask] 103]) (fun (m,aI)=>m) (gG,0) H ⟨rfl,rfl,rfl,rfl,trivial⟩ ⟨hm,hS⟩ ?_
        clear H hS hm a;intro xx a eX H hR;obtain⟨m,aI⟩:=xx;simp only [ent,List.map_cons,List.map_nil] at H;(try dsimp only at hR);obtain⟨hm,hS⟩:=hR
        replace hm:=Qd hm;obtain⟨gH,gI,rfl,hm,b8⟩:=hm;try dsimp only [Qs] at hm
        refine wp_seq (wp_seq (wp_region_lit (n_q H (Zc rfl) rfl (W_q (Ki (i:=aI) (j:=8) rfl rfl) rfl ?_))));clear H a;intro a H
        refine Ze (Za (Zl H rfl (fun bG=>?_) (fun bG=>?_)))
        · replace hm:=Zt hm bG
          have gK : aI < 8:=of_decide_eq_true bG
          refine wp_skip (Za ?_)
          replace hm:=Zk hm;obtain⟨jZ,hm,b9⟩:=hm
          refine Ga (σ:=Unit) H (fun u_=>[(1,.pointer (some ⟨aS,0,none⟩)),(4,bF),(6,.int .i64 (IntKind.i64.wrap (Int.tmod (IntKind.u64.wrap a0.At) (IntKind.u64.wrap (IntKind.i64.wrap (8 * ((aB.1.length : Nat) : Int))))))),(7,.int .i64 ((aI : Nat) : Int))]) (fun u_ wl=>(Jv aI) ()=some gI ∧ St NB w wl [ownR 5 1 bF aB.1.length (aB.1.flatMap eB),blkR aS [.int .i64 a0.P.Id,.bool a0.P.Mobile,aD,aE,aF,.int .i64 a0.P.Events,aG,.int .i64 a0.Q.Id,.bool a0.Q.Mobile,aL,aM,aN,.int .i64 a0.Q.Events,aO,aP,.int .i64 a0.At,.int .u32 a0.Mask] 103]) ?_ ?_
          · skip
            refine wp_block (wp_seq (Gx [] 18 (by kernel_rfl) ?_))
            obtain⟨cU,bH⟩ : ∃ x,x=eX.drew:=⟨_,rfl⟩;rw [← bH];have dU : Ext eX cU:=by rw [bH];exact Ext.drew' _
            clear bH
            replace hS:=hS.ext dU
            have dV:=hS
            have hW:=Nat.le_refl cU.heap.size
            refine Zh 0 H rfl (Zc rfl) rfl (by kernel_rfl) (by kernel_rfl) (by kernel_rfl) (by kernel_rfl) (fun _ _ _ h=>h) ?_;clear H a;intro a H
            refine Zh 1 H rfl (Zc rfl) rfl (by kernel_rfl) (by kernel_rfl) (by kernel_rfl) (by kernel_rfl) (fun _ _ _ h=>h) ?_;clear H a;intro a H
            refine Zh 2 H rfl (Zc rfl) rfl (by kernel_rfl) (by kernel_rfl) (by kernel_rfl) (by kernel_rfl) (fun _ _ _ h=>h) ?_;clear H a;intro a H
            refine Zh 3 H rfl (Gp rfl rfl) rfl (by kernel_rfl) (by kernel_rfl) (by kernel_rfl) (by kernel_rfl) (fun _ _ _ h=>h) ?_;clear H a;intro a H
            refine Zh 4 H rfl (Xy rfl rfl) rfl (by kernel_rfl) (by kernel_rfl) (by kernel_rfl) (by kernel_rfl) (fun _ _ _ h=>h) ?_;clear H a;intro a H
            refine Zh 5 H rfl (Zc rfl) rfl (by kernel_rfl) (by kernel_rfl) (by kernel_rfl) (by kernel_rfl) (fun _ _ _ h=>h) ?_;clear H a;intro a H
            refine Zh 6 H rfl (Qh Tryz.underlying100 rfl aK) rfl (by kernel_rfl) (by kernel_rfl) (by kernel_rfl) (by kernel_rfl) (fun _ _ _ h=>h) ?_;clear H a;intro a H
            refine Zh 7 H rfl (Gp rfl rfl) rfl (by kernel_rfl) (by kernel_rfl) (by kernel_rfl) (by kernel_rfl) (fun _ _ _ h=>h) ?_;clear H a;intro a H
            replace hm:=Tw hm;obtain⟨dW,hm⟩:=hm
            refine Zh 8 H rfl (Zd6 rfl rfl dW) rfl (by kernel_rfl) (by kernel_rfl) (by kernel_rfl) (by kernel_rfl) (fun _ _ _ h=>h) ?_;clear H a;intro a H
            refine Zh 9 H rfl (Zd rfl Zlp) rfl (by kernel_rfl) (by kernel_rfl) (by kernel_rfl) (by kernel_rfl) (fun _ _ _ h=>h) ?_;clear H a;intro a H
            refine Xq 10 H rfl (Zf rfl (LdC.old ((dV.blk 1 rfl).ld Zo0 rfl) Ext.rfl' (Nat.le_refl _) (by simp))) rfl (by kernel_rfl) (by kernel_rfl) (by kernel_rfl) (by kernel_rfl) (fun _ _ _ h=>h) ?_;clear H a;intro a H
            refine Zh 11 H rfl (q_or rfl rfl) rfl (by kernel_rfl) (by kernel_rfl) (by kernel_rfl) (by kernel_rfl) (fun _ _ _ h=>h) ?_;clear H a;intro a H
            replace hm:=Zk hm;obtain⟨iL,dX,hm⟩:=hm
            refine Xl 12 (by kernel_rfl) ?_
            refine Xo 12 H rfl rfl en48 (Zat (A:=A) ((hS.own 0 rfl).slr rfl (fun _ _=>rfl)) dX) rfl (fun v w hv=>.inl (ChgF.of_ext (by obtain⟨_,_,hE0⟩:=hv;exact hE0.x))) ?_
            clear H;intro iM iN hv;clear a;intro a H;obtain⟨iO,rfl,cH⟩:=hv
            replace hS:=hS.new cH;simp only [List.cons_append,List.nil_append] at hS
            replace hW:=Nat.le_trans hW cH.x.size
            refine Zh 13 H rfl (Zc rfl) rfl (by kernel_rfl) (by kernel_rfl) (by kernel_rfl) (by kernel_rfl) (fun _ _ _ h=>h) ?_;clear H a;intro a H
            refine Zh 14 H rfl (Zi rfl rfl) rfl (by kernel_rfl) (by kernel_rfl) (by kernel_rfl) (by kernel_rfl) (fun _ _ _ h=>h) ?_;clear H a;intro a H
            refine Zh 15 H rfl (Zi rfl rfl) rfl (by kernel_rfl) (by kernel_rfl) (by kernel_rfl) (by kernel_rfl) (fun _ _ _ h=>h) ?_;clear H a;intro a H
            refine Zh 16 H rfl (Zb rfl) rfl (by kernel_rfl) (by kernel_rfl) (by kernel_rfl) (by kernel_rfl) (fun _ _ _ h=>h) ?_;clear H a;intro a H
            refine Zh 17 H rfl (Zb rfl) rfl (by kernel_rfl) (by kernel_rfl) (by kernel_rfl) (by kernel_rfl) (fun _ _ _ h=>h) ?_;clear H a;intro a H
            refine Xh (by kernel_rfl) ?_
            refine Za (wp_seq (wp_region_lit (n_q H (Zc rfl) rfl ?_)));clear H a;intro a H
            refine Ze (Za (Zl H rfl (fun bI=>?_) (fun bI=>?_)))
            · replace hm:=Zt hm bI
              refine wp_seq (wp_region_lit (n_q H (Zc rfl) rfl ?_));clear H a;intro a H
              replace hm:=Zk hm;obtain⟨cA,dY,hm⟩:=hm
              refine Zj H rfl en49 (Wk (A:=A) (hG.ext hS.x) ((hS.own 0 rfl).slr rfl (fun _ _=>rfl)) dY) rfl ?_
              clear H;intro iP cV hv;clear a;intro a H;obtain⟨iQ,iR,iS,iT,cW,rfl,dZ⟩:=hv
              replace hS:=hS.new dZ;simp only [List.cons_append,List.nil_append] at hS
              refine n_q H (Zc rfl) rfl (W_q (Zi rfl rfl) rfl (W_q (Zi rfl rfl) rfl (W_q (Zb rfl) rfl ?_)));clear H a;intro a H
              refine Ze (Za (wp_seq (wp_region_lit (n_q H (Zc rfl) rfl (W_q (Qt (Tn Tryz.underlying39 rfl rfl (hS.any 4 rfl : IsE A cV cW cA.2).form) (show _=Value.bool (decide (cA.2=.nil)) by rw [Xa.isNil (hS.any 4 rfl : IsE A cV cW cA.2)])) rfl ?_)))));clear H a;intro a H
              refine Ze (Za (Zl H rfl (fun bJ=>?_) (fun bJ=>?_)))
              · replace hm:=Zt hm bJ
                refine wp_seq (wp_region_lit (n_q H (Zb rfl) rfl ?_));clear H a;intro a H
                refine Ze (Za (wp_ret (Zm (Zg (Zg (Zm (Zg ?_)))))))
                obtain rfl:=Option.some.inj hm;replace hm:=b9;try dsimp only at hm
                obtain rfl:=Option.some.inj hm;have hz : _=cR:=b8;subst hz;replace hm:=cT;try dsimp only at hm
                obtain rfl:=Option.some.inj hm
                replace hS:=hS.tk0
                refine Jb H (.inr rfl) rfl rfl ?_
                exact⟨rfl,hS.x⟩
              · replace hm:=Zu hm bJ
                refine wp_skip (Zn (Za ?_))
                obtain rfl:=Option.some.inj hm;replace hm:=b9;try dsimp only at hm
                replace hS:=hS.pk7
                replace hS:=hS.pk7
                replace hS:=hS.tk2
                exact Wa () H ⟨rfl,rfl,rfl,rfl,trivial⟩ ⟨hm,hS⟩
            · replace hm:=Zu hm bI
              refine wp_skip (Zn (Za ?_))
              obtain rfl:=Option.some.inj hm;replace hm:=b9;try dsimp only at hm
              replace hS:=hS.pk2
              replace hS:=hS.pk2
              replace hS:=hS.tk2
              exact Wa () H ⟨rfl,rfl,rfl,rfl,trivial⟩ ⟨hm,hS⟩
          · clear H hS hm a;intro u_ a iU H hR
            simp only [ent,List.map_cons,List.map_nil] at H;(try dsimp only at hR);obtain⟨hm,hS⟩:=hR;try dsimp only [Jv] at hm
            refine wp_region_lit (n_q H (Zc rfl) rfl (W_q (Yx (i:=aI) (j:=1) rfl rfl (by omega)) rfl (W_q (Zb rfl) rfl ?_)));clear H a;intro a H
            refine Ze (Za ?_)
            obtain rfl:=Option.some.inj hm
            exact Wm (gH,aI + 1) H ⟨rfl,rfl,rfl,rfl,trivial⟩ ⟨b8,hS⟩ (Nat.lt_succ_self _)
        · replace hm:=Zu hm bG
          refine wp_exit (Zo (Zo (Qb ?_)))
          obtain rfl:=Option.some.inj hm;have hz : _=cR:=b8;subst hz;replace hm:=cT;try dsimp only at hm
          refine Za (wp_seq (wp_seq (wp_region_lit (n_q H (Zb rfl) rfl ?_))));clear H a;intro a H
          refine Ze (Za (wp_block ?_))
          replace hS:=hS.tk1
          replace hm:=Zk hm;obtain⟨cB,hm,cI⟩:=hm;replace hm:=Qk hm;obtain⟨fK,hm⟩:=hm
          refine Kh (σ:=Nat × Int) (fun (m,aQ)=>[(4,bF),(10,.int .i64 aQ)]) (fun (m,aQ) wl=>Kl (Qz aB) m aQ=some cB ∧ St NB w wl [ownR 5 1 bF aB.1.length (aB.1.flatMap eB)]) (fun (m,aQ)=>m) (fK,0) H ⟨rfl,rfl,trivial⟩ ⟨hm,hS⟩ ?_
          clear H hS hm a;intro xx a iV H hR;obtain⟨m,aQ⟩:=xx;simp only [ent,List.map_cons,List.map_nil] at H;(try dsimp only at hR);obtain⟨hm,hS⟩:=hR
          replace hm:=Qd hm;obtain⟨fL,iW,rfl,hm,bK⟩:=hm;try dsimp only [Qz] at hm
          refine wp_seq (wp_seq (wp_region_lit (n_q H (Zc rfl) rfl (W_q (Zc rfl) rfl (W_q (Qh Tryz.underlying100 rfl aK) rfl (W_q (Wh rfl rfl) rfl ?_))))));clear H a;intro a H
          refine Ze (Za (Zl H rfl (fun bL=>?_) (fun bL=>?_)))
          · replace hm:=Zt hm bL
            refine wp_skip (Za (wp_seq (wp_block (wp_seq (wp_region_lit (n_q H (Zc rfl) rfl (W_q (Zc rfl) rfl (W_q (Zc rfl) rfl ?_))))))));clear H a;intro a H
            replace hm:=Tw hm;obtain⟨bM,hm⟩:=hm
            refine n_q H (Ziy Tryz.underlying100 sz5 (show _=some (Value.slice gE aB.1.length gF) by rw [← aK];rfl) rfl rfl bM.1 (Int.le_refl _) (by omega)) rfl ?_;clear H a;intro a H
            replace hm:=Zk hm;obtain⟨cC,d5,hm⟩:=hm
            refine Zj H rfl en49 (Wk (A:=A) (hG.ext hS.x) (SlR.takeV3 ((hS.own 0 rfl).slr rfl (fun _ _=>rfl)) aK bM.1 bM.2) d5) rfl ?_
            clear H;intro iX cX hv;clear a;intro a H;obtain⟨iY,iZ,i0,i1,cY,rfl,d6⟩:=hv
            replace hS:=hS.new d6;simp only [List.cons_append,List.nil_append] at hS
            refine n_q H (Zc rfl) rfl (W_q (Zi rfl rfl) rfl (W_q (Zi rfl rfl) rfl (W_q (Zb rfl) rfl ?_)));clear H a;intro a H
            refine Ze (Za (wp_seq (wp_region_lit (n_q H (Zc rfl) rfl (W_q (Qt (Tn Tryz.underlying39 rfl rfl (hS.any 4 rfl : IsE A cX cY cC.2).form) (show _=Value.bool (decide (cC.2=.nil)) by rw [Xa.isNil (hS.any 4 rfl : IsE A cX cY cC.2)])) rfl ?_)))));clear H a;intro a H
            refine Ze (Za (Zl H rfl (fun bN=>?_) (fun bN=>?_)))
            · replace hm:=Zt hm bN
              refine wp_seq (wp_region_lit (n_q H (Zb rfl) rfl ?_));clear H a;intro a H
              refine Ze (Za (wp_ret (Zm (Zg (Zg (Zm (Zg ?_)))))))
              obtain rfl:=Option.some.inj hm;have hz : _=cB:=bK;subst hz;replace hm:=cI;try dsimp only at hm
              obtain rfl:=Option.some.inj hm
              replace hS:=hS.tk0
              refine Jb H (.inr rfl) rfl rfl ?_
              exact⟨rfl,hS.x⟩
            · replace hm:=Zu hm bN
              refine wp_skip (Zn (Za (wp_region_lit (n_q H (Zc rfl) rfl (W_q (Zc rfl) rfl (W_q (Qh Tryz.underlying100 rfl aK) rfl (W_q (Zki rfl rfl (by decide)) rfl (W_q (Xy rfl rfl) rfl (W_q (Xy rfl rfl) rfl (W_q (Zb rfl) rfl ?_))))))))));clear H a;intro a H
              refine Ze (Za ?_)
              obtain rfl:=Option.some.inj hm
              replace hS:=hS.pk5
              replace hS:=hS.tk1
              exact Wm (fL,(IntKind.i64.wrap (aQ + (IntKind.i64.wrap (1 + (IntKind.i64.wrap (Int.tdiv ((aB.1.length : Nat) : Int) 200))))))) H ⟨rfl,rfl,trivial⟩ ⟨bK,hS⟩ (Nat.lt_succ_self _)
          · replace hm:=Zu hm bL
            refine wp_exit (Zo (Zo (Qb ?_)))
            obtain rfl:=Option.some.inj hm;have hz : _=cB:=bK;subst hz;replace hm:=cI;try dsimp only at hm
            refine Za (wp_seq (wp_region_lit (Zx H Tryz.underlying100 sz5 ze5 rfl rfl rfl (cs:=[]) rfl rfl ?_)))
            clear H;intro i2 i3 hN d7 hs;clear a;intro a H
            replace hS:=hS.newBlk hN d7 hs;clear hN hs
            replace hS:=hS.blkOwnL (e:=eB) (k:=1) ([] : List UInt8) rfl rfl (by simp [maxLen])
            refine n_q H (Zc rfl) rfl ?_;clear H a;intro a H
            replace hm:=Tw hm;obtain⟨d8,hm⟩:=hm
            refine Zaw (e:=eB) H rfl rfl Tryz.underlying100 Tryz.underlying100 (by simp) el5 (hS.own 0 rfl) (((hS.own 1 rfl).slr rfl (fun _ _=>rfl)).src (fun _ _=>rfl)) Zbq d8 (by simp only [maxLen];omega) rfl ?_
            clear H;intro i4 i5 hN d9 hb;clear a;intro a H;replace hS:=hS.setOwn hN d9 hb;clear hN hb
            refine Zx H Tryz.underlying100 sz5 ze5 rfl rfl rfl (cs:=[.int .u8 0]) (by kernel_rfl) rfl ?_
            clear H;intro i6 i7 hN eA hs;clear a;intro a H
            replace hS:=hS.newBlk hN eA hs;clear hN hs
            replace hS:=hS.blkOwnL (e:=eB) (k:=1) [(Qq 0)] (by kernel_rfl) rfl (by simp [maxLen])
            replace hS:=hS.pk1
            replace hm:=Tw hm;obtain⟨eC,hm⟩:=hm
            refine Zaw (e:=eB) H rfl rfl Tryz.underlying100 Tryz.underlying100 (by simp) el5 (hS.own 0 rfl) (((hS.own 1 rfl).slr rfl (fun _ _=>rfl)).src (fun _ _=>rfl)) Zbq eC (by simp only [maxLen];omega) rfl ?_
            clear H;intro i8 i9 hN eD hb;clear a;intro a H;replace hS:=hS.setOwn hN eD hb;clear hN hb
            replace hm:=Zk hm;obtain⟨cD,eE,hm⟩:=hm
            refine Zj H rfl en49 (Wk (A:=A) (hG.ext hS.x) ((hS.own 0 rfl).slr rfl (fun _ _=>rfl)) eE) rfl ?_
            clear H;intro jA cZ hv;clear a;intro a H;obtain⟨jB,jC,jD,jE,dA,rfl,eG⟩:=hv
            replace hS:=hS.new eG;simp only [List.cons_append,List.nil_append] at hS
            refine n_q H (Zc rfl) rfl (W_q (Zi rfl rfl) rfl (W_q (Zi rfl rfl) rfl (W_q (Zb rfl) rfl ?_)));clear H a;intro a H
            refine Ze (Za (wp_seq (wp_region_lit (n_q H (Zc rfl) rfl (W_q (Qt (Jr Tryz.underlying39 rfl rfl (hS.any 4 rfl : IsE A cZ dA cD.2).form) (show _=Value.bool (!decide (cD.2=.nil)) by rw [Xa.isNil (hS.any 4 rfl : IsE A cZ dA cD.2)])) rfl (W_q (Zb rfl) rfl ?_))))));clear H a;intro a H
            refine Ze (Za (wp_ret ?_))
            obtain rfl:=Option.some.inj hm
            replace hS:=hS.tk0
            refine Jb H (.inr rfl) rfl rfl ?_
            exact⟨rfl,hS.x⟩
    · replace hm:=Zu hm bZ
      refine wp_skip (Za (wp_seq (wp_region_lit (n_q H (Zf rfl ((hS.blk 0 rfl).ldAll Za0 Gy)) rfl ?_))));clear H a;intro a H
      replace hm:=Zk hm;obtain⟨bO,eH,hm⟩:=hm
      refine Zj H rfl en14 (Zdi (A:=A) (⟨_,_,_,_,rfl,(aU.ext (Zq.mono _) hS.x),(aV.ext (Zq.mono _) hS.x),(aW.ext (Zq.mono _) hS.x),(aX.ext (Zq.mono _) hS.x)⟩ : Xm _ [.int .i64 a0.P.Id,.bool a0.P.Mobile,aD,aE,aF,.int .i64 a0.P.Events,aG] a0.P) eH) rfl ?_
      clear H;intro jF jG hv;clear a;intro a H;obtain⟨fM,fN,fO,fP,rfl,eJ⟩:=hv
      replace hS:=hS.new eJ;simp only [List.cons_append,List.nil_append] at hS
      replace hm:=Zk hm;obtain⟨aA,eK,hm⟩:=hm
      refine Zj H rfl en47 (Gm (A:=A) (hG.ext hS.x) (⟨_,_,_,_,rfl,((hS.own 0 rfl).slr rfl (fun _ _=>rfl)),((hS.own 1 rfl).slr rfl (fun _ _=>rfl)),((hS.own 2 rfl).slr rfl (fun _ _=>rfl)),((hS.own 3 rfl).slr rfl (fun _ _=>rfl))⟩ : Xm _ [.int .i64 bO.Id,.bool bO.Mobile,fM,fN,fO,.int .i64 bO.Events,fP] bO) eK) rfl ?_
      clear H;intro jH dB hv;clear a;intro a H;obtain⟨aR,dC,rfl,eL⟩:=hv
      replace hS:=hS.new eL;simp only [List.cons_append,List.nil_append] at hS
      refine n_q H (Zc rfl) rfl (W_q (Zi rfl rfl) rfl (W_q (Zi rfl rfl) rfl (W_q (Zb rfl) rfl (W_q (Zb rfl) rfl ?_))));clear H a;intro a H
      refine Ze (Za (wp_seq (wp_seq (wp_region_lit (n_c H (fun HC=>?_))))));clear H
      refine Hk HC (Zc rfl) rfl (by kernel_rfl) (V_q (Qt (Jr Tryz.underlying39 rfl rfl (hS.any 1 rfl : IsE A dB dC aA.2).form) (show _=Value.bool (!decide (aA.2=.nil)) by rw [Xa.isNil (hS.any 1 rfl : IsE A dB dC aA.2)])) rfl (by kernel_rfl) (V_q (Zc rfl) rfl (by kernel_rfl) (V_g (Zc rfl) (by kernel_rfl) (by kernel_rfl) (by kernel_rfl) ?_)));clear HC a;intro a HC
      obtain⟨fQ,fR,aH,gL,gM⟩:=SlR.formV ((hS.own 0 rfl).slr rfl (fun _ _=>rfl))
      refine Ze3 HC (Qh Tryz.underlying100 rfl aH) (by kernel_rfl) (by kernel_rfl) (by kernel_rfl) (V_g (Zk4 (i:=aA.1.length) (j:=0) rfl rfl) (by kernel_rfl) (by kernel_rfl) (by kernel_rfl) (Zdz (j:=2) rfl rfl rfl (by kernel_rfl) (by kernel_rfl) ?_));clear HC a;intro a HC
      have H:=HC.has;clear HC
      refine Ze (Za (Zl H rfl (fun bP=>?_) (fun bP=>?_)))
      · replace hm:=Zt hm bP
        refine wp_seq (wp_region_lit (n_q H (Zb rfl) rfl ?_));clear H a;intro a H
        refine Ze (Za (wp_ret (Zg ?_)))
        obtain rfl:=Option.some.inj hm
        replace hS:=hS.tk0
        refine Jb H (.inr rfl) rfl rfl ?_
        exact⟨rfl,hS.x⟩
      · replace hm:=Zu hm bP
        refine wp_skip (Za (wp_seq (wp_region_lit (n_q H (Zd rfl Zlo) rfl (W_q (Zf rfl ((hS.blk 7 rfl).ld ag3 rfl)) rfl (W_q (Wo Tryz.underlying3 Tryz.underlying107 ⟨_,rfl⟩ rfl) rfl (W_q (Zc rfl) rfl (W_q (Qh Tryz.underlying100 rfl aH) rfl (W_q (Gp rfl rfl) rfl (W_q (Wo Tryz.underlying3 Tryz.underlying107 ⟨_,rfl⟩ rfl) rfl ?_))))))))));clear H a;intro a H
        replace hm:=Tw hm;obtain⟨eM,hm⟩:=hm
        refine n_q H (Zd6 rfl rfl eM) rfl (W_q (Wo Tryz.underlying107 Tryz.underlying3 ⟨_,rfl⟩ rfl) rfl (W_q (Zb rfl) rfl ?_));clear H a;intro a H
        refine Ze (Za (wp_seq (wp_seq (wp_region_lit (n_q H (Zb rfl) rfl ?_)))));clear H a;intro a H
        refine Ze (Za (wp_block ?_))
        replace hS:=hS.pk7
        replace hS:=hS.pk1
        replace hS:=hS.tk2
        replace hm:=Zk hm;obtain⟨cF,hm,cJ⟩:=hm;replace hm:=Qk hm;obtain⟨fS,hm⟩:=hm
        refine Kh (σ:=Nat × Nat) (fun (m,aC)=>[(1,.pointer (some ⟨aS,0,none⟩)),(4,aR),(6,.int .i64 (IntKind.i64.wrap (Int.tmod (IntKind.u64.wrap a0.At) (IntKind.u64.wrap (IntKind.i64.wrap (8 * ((aA.1.length : Nat) : Int))))))),(7,.int .i64 ((aC : Nat) : Int))]) (fun (m,aC) wl=>Kl (Ky a0 aA) m aC=some cF ∧ St NB w wl [ownR 5 1 aR aA.1.length (aA.1.flatMap eB),blkR aS [.int .i64 a0.P.Id,.bool a0.P.Mobile,aD,aE,aF,.int .i64 a0.P.Events,aG,.int .i64 a0.Q.Id,.bool a0.Q.Mobile,aL,aM,aN,.int .i64 a0.Q.Events,aO,aP,.int .i64 a0.At,.int .u32 a0.Mask] 103]) (fun (m,aC)=>m) (fS,0) H ⟨rfl,rfl,rfl,rfl,trivial⟩ ⟨hm,hS⟩ ?_
        clear H hS hm a;intro xx a dD H hR;obtain⟨m,aC⟩:=xx;simp only [ent,List.map_cons,List.map_nil] at H;(try dsimp only at hR);obtain⟨hm,hS⟩:=hR
        replace hm:=Qd hm;obtain⟨fT,fU,rfl,hm,bQ⟩:=hm;try dsimp only [Ky] at hm
        refine wp_seq (wp_seq (wp_region_lit (n_q H (Zc rfl) rfl (W_q (Ki (i:=aC) (j:=8) rfl rfl) rfl ?_))));clear H a;intro a H
        refine Ze (Za (Zl H rfl (fun aT=>?_) (fun aT=>?_)))
        · replace hm:=Zt hm aT
          have gJ : aC < 8:=of_decide_eq_true aT
          refine wp_skip (Za ?_)
          replace hm:=Zk hm;obtain⟨jI,hm,bR⟩:=hm
          refine Ga (σ:=Unit) H (fun u_=>[(1,.pointer (some ⟨aS,0,none⟩)),(4,aR),(6,.int .i64 (IntKind.i64.wrap (Int.tmod (IntKind.u64.wrap a0.At) (IntKind.u64.wrap (IntKind.i64.wrap (8 * ((aA.1.length : Nat) : Int))))))),(7,.int .i64 ((aC : Nat) : Int))]) (fun u_ wl=>(Wc aC) ()=some fU ∧ St NB w wl [ownR 5 1 aR aA.1.length (aA.1.flatMap eB),blkR aS [.int .i64 a0.P.Id,.bool a0.P.Mobile,aD,aE,aF,.int .i64 a0.P.Events,aG,.int .i64 a0.Q.Id,.bool a0.Q.Mobile,aL,aM,aN,.int .i64 a0.Q.Events,aO,aP,.int .i64 a0.At,.int .u32 a0.Mask] 103]) ?_ ?_
          · skip
            refine wp_block (wp_seq (Gx [] 18 (by kernel_rfl) ?_))
            obtain⟨cK,aZ⟩ : ∃ x,x=dD.drew:=⟨_,rfl⟩;rw [← aZ];have dE : Ext dD cK:=by rw [aZ];exact Ext.drew' _
            clear aZ
            replace hS:=hS.ext dE
            have dF:=hS
            have hW:=Nat.le_refl cK.heap.size
            refine Zh 0 H rfl (Zc rfl) rfl (by kernel_rfl) (by kernel_rfl) (by kernel_rfl) (by kernel_rfl) (fun _ _ _ h=>h) ?_;clear H a;intro a H
            refine Zh 1 H rfl (Zc rfl) rfl (by kernel_rfl) (by kernel_rfl) (by kernel_rfl) (by kernel_rfl) (fun _ _ _ h=>h) ?_;clear H a;intro a H
            refine Zh 2 H rfl (Zc rfl) rfl (by kernel_rfl) (by kernel_rfl) (by kernel_rfl) (by kernel_rfl) (fun _ _ _ h=>h) ?_;clear H a;intro a H
            refine Zh 3 H rfl (Gp rfl rfl) rfl (by kernel_rfl) (by kernel_rfl) (by kernel_rfl) (by kernel_rfl) (fun _ _ _ h=>h) ?_;clear H a;intro a H
            refine Zh 4 H rfl (Xy rfl rfl) rfl (by kernel_rfl) (by kernel_rfl) (by kernel_rfl) (by kernel_rfl) (fun _ _ _ h=>h) ?_;clear H a;intro a H
            refine Zh 5 H rfl (Zc rfl) rfl (by kernel_rfl) (by kernel_rfl) (by kernel_rfl) (by kernel_rfl) (fun _ _ _ h=>h) ?_;clear H a;intro a H
            refine Zh 6 H rfl (Qh Tryz.underlying100 rfl aH) rfl (by kernel_rfl) (by kernel_rfl) (by kernel_rfl) (by kernel_rfl) (fun _ _ _ h=>h) ?_;clear H a;intro a H
            refine Zh 7 H rfl (Gp rfl rfl) rfl (by kernel_rfl) (by kernel_rfl) (by kernel_rfl) (by kernel_rfl) (fun _ _ _ h=>h) ?_;clear H a;intro a H
            replace hm:=Tw hm;obtain⟨dG,hm⟩:=hm
            refine Zh 8 H rfl (Zd6 rfl rfl dG) rfl (by kernel_rfl) (by kernel_rfl) (by kernel_rfl) (by kernel_rfl) (fun _ _ _ h=>h) ?_;clear H a;intro a H
            refine Zh 9 H rfl (Zd rfl Zlp) rfl (by kernel_rfl) (by kernel_rfl) (by kernel_rfl) (by kernel_rfl) (fun _ _ _ h=>h) ?_;clear H a;intro a H
            refine Xq 10 H rfl (Zf rfl (LdC.old ((dF.blk 1 rfl).ld Zo0 rfl) Ext.rfl' (Nat.le_refl _) (by simp))) rfl (by kernel_rfl) (by kernel_rfl) (by kernel_rfl) (by kernel_rfl) (fun _ _ _ h=>h) ?_;clear H a;intro a H
            refine Zh 11 H rfl (q_or rfl rfl) rfl (by kernel_rfl) (by kernel_rfl) (by kernel_rfl) (by kernel_rfl) (fun _ _ _ h=>h) ?_;clear H a;intro a H
            replace hm:=Zk hm;obtain⟨gN,dH,hm⟩:=hm
            refine Xl 12 (by kernel_rfl) ?_
            refine Xo 12 H rfl rfl en48 (Zat (A:=A) ((hS.own 0 rfl).slr rfl (fun _ _=>rfl)) dH) rfl (fun v w hv=>.inl (ChgF.of_ext (by obtain⟨_,_,hE0⟩:=hv;exact hE0.x))) ?_
            clear H;intro gO gP hv;clear a;intro a H;obtain⟨gQ,rfl,bW⟩:=hv
            replace hS:=hS.new bW;simp only [List.cons_append,List.nil_append] at hS
            replace hW:=Nat.le_trans hW bW.x.size
            refine Zh 13 H rfl (Zc rfl) rfl (by kernel_rfl) (by kernel_rfl) (by kernel_rfl) (by kernel_rfl) (fun _ _ _ h=>h) ?_;clear H a;intro a H
            refine Zh 14 H rfl (Zi rfl rfl) rfl (by kernel_rfl) (by kernel_rfl) (by kernel_rfl) (by kernel_rfl) (fun _ _ _ h=>h) ?_;clear H a;intro a H
            refine Zh 15 H rfl (Zi rfl rfl) rfl (by kernel_rfl) (by kernel_rfl) (by kernel_rfl) (by kernel_rfl) (fun _ _ _ h=>h) ?_;clear H a;intro a H
            refine Zh 16 H rfl (Zb rfl) rfl (by kernel_rfl) (by kernel_rfl) (by kernel_rfl) (by kernel_rfl) (fun _ _ _ h=>h) ?_;clear H a;intro a H
            refine Zh 17 H rfl (Zb rfl) rfl (by kernel_rfl) (by kernel_rfl) (by kernel_rfl) (by kernel_rfl) (fun _ _ _ h=>h) ?_;clear H a;intro a H
            refine Xh (by kernel_rfl) ?_
            refine Za (wp_seq (wp_region_lit (n_q H (Zc rfl) rfl ?_)));clear H a;intro a H
            refine Ze (Za (Zl H rfl (fun a9=>?_) (fun a9=>?_)))
            · replace hm:=Zt hm a9
              refine wp_seq (wp_region_lit (n_q H (Zc rfl) rfl ?_));clear H a;intro a H
              replace hm:=Zk hm;obtain⟨bS,dI,hm⟩:=hm
              refine Zj H rfl en49 (Wk (A:=A) (hG.ext hS.x) ((hS.own 0 rfl).slr rfl (fun _ _=>rfl)) dI) rfl ?_
              clear H;intro gR cL hv;clear a;intro a H;obtain⟨gS,gT,gU,gV,cM,rfl,dJ⟩:=hv
              replace hS:=hS.new dJ;simp only [List.cons_append,List.nil_append] at hS
              refine n_q H (Zc rfl) rfl (W_q (Zi rfl rfl) rfl (W_q (Zi rfl rfl) rfl (W_q (Zb rfl) rfl ?_)));clear H a;intro a H
              refine Ze (Za (wp_seq (wp_region_lit (n_q H (Zc rfl) rfl (W_q (Qt (Tn Tryz.underlying39 rfl rfl (hS.any 4 rfl : IsE A cL cM bS.2).form) (show _=Value.bool (decide (bS.2=.nil)) by rw [Xa.isNil (hS.any 4 rfl : IsE A cL cM bS.2)])) rfl ?_)))));clear H a;intro a H
              refine Ze (Za (Zl H rfl (fun bA=>?_) (fun bA=>?_)))
              · replace hm:=Zt hm bA
                refine wp_seq (wp_region_lit (n_q H (Zb rfl) rfl ?_));clear H a;intro a H
                refine Ze (Za (wp_ret (Zm (Zg (Zg (Zm (Zg ?_)))))))
                obtain rfl:=Option.some.inj hm;replace hm:=bR;try dsimp only at hm
                obtain rfl:=Option.some.inj hm;have hz : _=cF:=bQ;subst hz;replace hm:=cJ;try dsimp only at hm
                obtain rfl:=Option.some.inj hm
                replace hS:=hS.tk0
                refine Jb H (.inr rfl) rfl rfl ?_
                exact⟨rfl,hS.x⟩
              · replace hm:=Zu hm bA
                refine wp_skip (Zn (Za ?_))
                obtain rfl:=Option.some.inj hm;replace hm:=bR;try dsimp only at hm
                replace hS:=hS.pk7
                replace hS:=hS.pk7
                replace hS:=hS.tk2
                exact Wa () H ⟨rfl,rfl,rfl,rfl,trivial⟩ ⟨hm,hS⟩
            · replace hm:=Zu hm a9
              refine wp_skip (Zn (Za ?_))
              obtain rfl:=Option.some.inj hm;replace hm:=bR;try dsimp only at hm
              replace hS:=hS.pk2
              replace hS:=hS.pk2
              replace hS:=hS.tk2
              exact Wa () H ⟨rfl,rfl,rfl,rfl,trivial⟩ ⟨hm,hS⟩
          · clear H hS hm a;intro u_ a gW H hR
            simp only [ent,List.map_cons,List.map_nil] at H;(try dsimp only at hR);obtain⟨hm,hS⟩:=hR;try dsimp only [Wc] at hm
            refine wp_region_lit (n_q H (Zc rfl) rfl (W_q (Yx (i:=aC) (j:=1) rfl rfl (by omega)) rfl (W_q (Zb rfl) rfl ?_)));clear H a;intro a H
            refine Ze (Za ?_)
            obtain rfl:=Option.some.inj hm
            exact Wm (fT,aC + 1) H ⟨rfl,rfl,rfl,rfl,trivial⟩ ⟨bQ,hS⟩ (Nat.lt_succ_self _)
        · replace hm:=Zu hm aT
          refine wp_exit (Zo (Zo (Qb ?_)))
          obtain rfl:=Option.some.inj hm;have hz : _=cF:=bQ;subst hz;replace hm:=cJ;try dsimp only at hm
          refine Za (wp_seq (wp_seq (wp_region_lit (n_q H (Zb rfl) rfl ?_))));clear H a;intro a H
          refine Ze (Za (wp_block ?_))
          replace hS:=hS.tk1
          replace hm:=Zk hm;obtain⟨bT,hm,bX⟩:=hm;replace hm:=Qk hm;obtain⟨eN,hm⟩:=hm
          refine Kh (σ:=Nat × Int) (fun (m,aJ)=>[(4,aR),(10,.int .i64 aJ)]) (fun (m,aJ) wl=>Kl (Yf aA) m aJ=some bT ∧ St NB w wl [ownR 5 1 aR aA.1.length (aA.1.flatMap eB)]) (fun (m,aJ)=>m) (eN,0) H ⟨rfl,rfl,trivial⟩ ⟨hm,hS⟩ ?_
          clear H hS hm a;intro xx a gX H hR;obtain⟨m,aJ⟩:=xx;simp only [ent,List.map_cons,List.map_nil] at H;(try dsimp only at hR);obtain⟨hm,hS⟩:=hR
          replace hm:=Qd hm;obtain⟨eO,gY,rfl,hm,bB⟩:=hm;try dsimp only [Yf] at hm
          refine wp_seq (wp_seq (wp_region_lit (n_q H (Zc rfl) rfl (W_q (Zc rfl) rfl (W_q (Qh Tryz.underlying100 rfl aH) rfl (W_q (Wh rfl rfl) rfl ?_))))));clear H a;intro a H
          refine Ze (Za (Zl H rfl (fun bC=>?_) (fun bC=>?_)))
          · replace hm:=Zt hm bC
            refine wp_skip (Za (wp_seq (wp_block (wp_seq (wp_region_lit (n_q H (Zc rfl) rfl (W_q (Zc rfl) rfl (W_q (Zc rfl) rfl ?_))))))));clear H a;intro a H
            replace hm:=Tw hm;obtain⟨bD,hm⟩:=hm
            refine n_q H (Ziy Tryz.underlying100 sz5 (show _=some (Value.slice fQ aA.1.length fR) by rw [← aH];rfl) rfl rfl bD.1 (Int.le_refl _) (by omega)) rfl ?_;clear H a;intro a H
            replace hm:=Zk hm;obtain⟨bU,dK,hm⟩:=hm
            refine Zj H rfl en49 (Wk (A:=A) (hG.ext hS.x) (SlR.takeV3 ((hS.own 0 rfl).slr rfl (fun _ _=>rfl)) aH bD.1 bD.2) dK) rfl ?_
            clear H;intro gZ cN hv;clear a;intro a H;obtain⟨g6,g7,g8,g9,cO,rfl,dL⟩:=hv
            replace hS:=hS.new dL;simp only [List.cons_append,List.nil_append] at hS
            refine n_q H (Zc rfl) rfl (W_q (Zi rfl rfl) rfl (W_q (Zi rfl rfl) rfl (W_q (Zb rfl) rfl ?_)));clear H a;intro a H
            refine Ze (Za (wp_seq (wp_region_lit (n_q H (Zc rfl) rfl (W_q (Qt (Tn Tryz.underlying39 rfl rfl (hS.any 4 rfl : IsE A cN cO bU.2).form) (show _=Value.bool (decide (bU.2=.nil)) by rw [Xa.isNil (hS.any 4 rfl : IsE A cN cO bU.2)])) rfl ?_)))));clear H a;intro a H
            refine Ze (Za (Zl H rfl (fun bE=>?_) (fun bE=>?_)))
            · replace hm:=Zt hm bE
              refine wp_seq (wp_region_lit (n_q H (Zb rfl) rfl ?_));clear H a;intro a H
              refine Ze (Za (wp_ret (Zm (Zg (Zg (Zm (Zg ?_)))))))
              obtain rfl:=Option.some.inj hm;have hz : _=bT:=bB;subst hz;replace hm:=bX;try dsimp only at hm
              obtain rfl:=Option.some.inj hm
              replace hS:=hS.tk0
              refine Jb H (.inr rfl) rfl rfl ?_
              exact⟨rfl,hS.x⟩
            · replace hm:=Zu hm bE
              refine wp_skip (Zn (Za (wp_region_lit (n_q H (Zc rfl) rfl (W_q (Zc rfl) rfl (W_q (Qh Tryz.underlying100 rfl aH) rfl (W_q (Zki rfl rfl (by decide)) rfl (W_q (Xy rfl rfl) rfl (W_q (Xy rfl rfl) rfl (W_q (Zb rfl) rfl ?_))))))))));clear H a;intro a H
              refine Ze (Za ?_)
              obtain rfl:=Option.some.inj hm
              replace hS:=hS.pk5
              replace hS:=hS.tk1
              exact Wm (eO,(IntKind.i64.wrap (aJ + (IntKind.i64.wrap (1 + (IntKind.i64.wrap (Int.tdiv ((aA.1.length : Nat) : Int) 200))))))) H ⟨rfl,rfl,trivial⟩ ⟨bB,hS⟩ (Nat.lt_succ_self _)
          · replace hm:=Zu hm bC
            refine wp_exit (Zo (Zo (Qb ?_)))
            obtain rfl:=Option.some.inj hm;have hz : _=bT:=bB;subst hz;replace hm:=bX;try dsimp only at hm
            refine Za (wp_seq (wp_region_lit (Zx H Tryz.underlying100 sz5 ze5 rfl rfl rfl (cs:=[]) rfl rfl ?_)))
            clear H;intro hJ hU hN dM hs;clear a;intro a H
            replace hS:=hS.newBlk hN dM hs;clear hN hs
            replace hS:=hS.blkOwnL (e:=eB) (k:=1) ([] : List UInt8) rfl rfl (by simp [maxLen])
            refine n_q H (Zc rfl) rfl ?_;clear H a;intro a H
            replace hm:=Tw hm;obtain⟨dN,hm⟩:=hm
            refine Zaw (e:=eB) H rfl rfl Tryz.underlying100 Tryz.underlying100 (by simp) el5 (hS.own 0 rfl) (((hS.own 1 rfl).slr rfl (fun _ _=>rfl)).src (fun _ _=>rfl)) Zbq dN (by simp only [maxLen];omega) rfl ?_
            clear H;intro hY hZ hN dO hb;clear a;intro a H;replace hS:=hS.setOwn hN dO hb;clear hN hb
            refine Zx H Tryz.underlying100 sz5 ze5 rfl rfl rfl (cs:=[.int .u8 0]) (by kernel_rfl) rfl ?_
            clear H;intro iA iB hN dP hs;clear a;intro a H
            replace hS:=hS.newBlk hN dP hs;clear hN hs
            replace hS:=hS.blkOwnL (e:=eB) (k:=1) [(Qq 0)] (by kernel_rfl) rfl (by simp [maxLen])
            replace hS:=hS.pk1
            replace hm:=Tw hm;obtain⟨dQ,hm⟩:=hm
            refine Zaw (e:=eB) H rfl rfl Tryz.underlying100 Tryz.underlying100 (by simp) el5 (hS.own 0 rfl) (((hS.own 1 rfl).slr rfl (fun _ _=>rfl)).src (fun _ _=>rfl)) Zbq dQ (by simp only [maxLen];omega) rfl ?_
            clear H;intro iC iD hN dR hb;clear a;intro a H;replace hS:=hS.setOwn hN dR hb;clear hN hb
            replace hm:=Zk hm;obtain⟨bV,dS,hm⟩:=hm
            refine Zj H rfl en49 (Wk (A:=A) (hG.ext hS.x) ((hS.own 0 rfl).slr rfl (fun _ _=>rfl)) dS) rfl ?_
            clear H;intro iE cP hv;clear a;intro a H;obtain⟨iF,iG,iH,iI,cQ,rfl,dT⟩:=hv
            replace hS:=hS.new dT;simp only [List.cons_append,List.nil_append] at hS
            refine n_q H (Zc rfl) rfl (W_q (Zi rfl rfl) rfl (W_q (Zi rfl rfl) rfl (W_q (Zb rfl) rfl ?_)));clear H a;intro a H
            refine Ze (Za (wp_seq (wp_region_lit (n_q H (Zc rfl) rfl (W_q (Qt (Jr Tryz.underlying39 rfl rfl (hS.any 4 rfl : IsE A cP cQ bV.2).form) (show _=Value.bool (!decide (bV.2=.nil)) by rw [Xa.isNil (hS.any 4 rfl : IsE A cP cQ bV.2)])) rfl (W_q (Zb rfl) rfl ?_))))));clear H a;intro a H
            refine Ze (Za (wp_ret ?_))
            obtain rfl:=Option.some.inj hm
            replace hS:=hS.tk0
            refine Jb H (.inr rfl) rfl rfl ?_
            exact⟨rfl,hS.x⟩
end Go.Proofs.YtfemfiiagjnhdaaGreatDoor
