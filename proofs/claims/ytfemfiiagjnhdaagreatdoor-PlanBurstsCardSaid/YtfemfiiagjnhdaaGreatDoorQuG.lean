/- Part of a claim, shortened by a program from its texts: PtC. -/
import Derived.Test.YtfemfiiagjnhdaaGreatDoorQuF
set_option linter.unusedVariables false
set_option linter.unusedSimpArgs false
set_option maxRecDepth 10000
namespace Go.Proofs.YtfemfiiagjnhdaaGreatDoor
open Go Go.RowKit
theorem bd248 : bdB Tryz.prog 248=true:=by kernel_rfl
theorem pl248 : Gc Tryz.prog 248=some #[(0,1),(1,1),(2,1)]:=by kernel_rfl
theorem en100 : Zp Tryz.prog 100=true:=by kernel_rfl
theorem Zpd : Zp Tryz.prog 101=true:=by kernel_rfl
theorem Zpe : Zp Tryz.prog 102=true:=by kernel_rfl
theorem en103 : Zp Tryz.prog 103=true:=by kernel_rfl
theorem Zg7 : Zp Tryz.prog 104=true:=by kernel_rfl
theorem en105 : Zp Tryz.prog 105=true:=by kernel_rfl
theorem en106 : Zp Tryz.prog 106=true:=by kernel_rfl
theorem en107 : Zp Tryz.prog 107=true:=by kernel_rfl
theorem en119 : Zp Tryz.prog 119=true:=by kernel_rfl
theorem en120 : Zp Tryz.prog 120=true:=by kernel_rfl
theorem en121 : Zp Tryz.prog 121=true:=by kernel_rfl
theorem en122 : Zp Tryz.prog 122=true:=by kernel_rfl
theorem en123 : Zp Tryz.prog 123=true:=by kernel_rfl
theorem en173 : Zp Tryz.prog 173=true:=by kernel_rfl
theorem Zpf : Zp Tryz.prog 175=true:=by kernel_rfl
theorem en177 : Zp Tryz.prog 177=true:=by kernel_rfl
theorem en178 : Zp Tryz.prog 178=true:=by kernel_rfl
theorem en179 : Zp Tryz.prog 179=true:=by kernel_rfl
theorem en180 : Zp Tryz.prog 180=true:=by kernel_rfl
theorem en181 : Zp Tryz.prog 181=true:=by kernel_rfl
theorem Zh8 : Zp Tryz.prog 182=true:=by kernel_rfl
theorem Zpg : Zp Tryz.prog 183=true:=by kernel_rfl
theorem Zph : Zp Tryz.prog 184=true:=by kernel_rfl
theorem en195 : Zp Tryz.prog 195=true:=by kernel_rfl
theorem Zpi : Zp Tryz.prog 238=true:=by kernel_rfl
theorem en52 : Zp Tryz.prog 52=true:=by kernel_rfl
theorem en99 : Zp Tryz.prog 99=true:=by kernel_rfl
theorem Zpj : fdB Tryz.prog 124 0=some (false,0,1):=by kernel_rfl
theorem Zpk : Zay Tryz.prog 124 0=some 0:=by kernel_rfl
theorem Zh9 : Zay Tryz.prog 248 0=some 0:=by kernel_rfl
theorem Vp : Zay Tryz.prog 248 1=some 1:=by kernel_rfl
theorem Zln : Zay Tryz.prog 248 2=some 2:=by kernel_rfl
theorem sz4 : Xi Tryz.prog 4=some 1:=by kernel_rfl
theorem ze248 : Wr Tryz.prog 248=some [.slice none 0 0,.int .i64 0,.int .i64 0]:=by kernel_rfl
theorem ze39 : Wr Tryz.prog 39=some [.nilIface]:=by kernel_rfl
theorem Ze6 {w : World} {A : Nat → Addr} {cs0 : List Value} {a0 : GPlan} (h0 : Xm w cs0 a0) {r : GR10Err} (hm : Gs a0=some r) :
    Calls Tryz.prog 122 [.agg cs0.toArray].toArray w (Ret fun u w'=>u=.agg (He r).toArray ∧ Ext w w'):=by
  obtain⟨aE,aF,aG,aH,rfl,bN,bO,bP,aB⟩:=h0
  have hS:=St.begin NB w
  unfold Gs at hm
  refine enter Tryz.func122 rfl rfl rfl ?_;intro a H;dsimp only [Qo,Nat.zero_add,Nat.reduceAdd] at H
  refine wp_seq (wp_region_lit (Uc H rfl (cs:=[.int .i64 a0.Id,.bool a0.Mobile,aE,aF,aG,.int .i64 a0.Events,aH]) rfl rfl ?_))
  clear H;intro aT cA hN bD hs;clear a;intro a H
  replace hS:=hS.newBlk hN bD hs;clear hN hs
  refine Xj H Zb7 rfl ?_
  clear H;intro aU cB hN bE hs;clear a;intro a H
  replace hS:=hS.newBlk hN bE hs;clear hN hs
  refine Ze (Za (wp_seq (wp_seq (wp_region_lit (n_c H (fun HC=>?_))))));clear H
  refine Hk HC (Zd rfl Zcj) rfl (by kernel_rfl) (V_q (Zf rfl ((hS.blk 1 rfl).ld ag3 rfl)) rfl (by kernel_rfl) (V_q (Wh rfl rfl) rfl (by kernel_rfl) (V_q (Zc rfl) rfl (by kernel_rfl) (V_g (Zd rfl Zcj) (by kernel_rfl) (by kernel_rfl) (by kernel_rfl) (V_g (Zf rfl ((hS.blk 1 rfl).ld ag3 rfl)) (by kernel_rfl) (by kernel_rfl) (by kernel_rfl) (V_g (Gn rfl rfl) (by kernel_rfl) (by kernel_rfl) (by kernel_rfl) (Zdz (j:=3) rfl rfl rfl (by kernel_rfl) (by kernel_rfl) ?_)))))));clear HC a;intro a HC
  have H:=HC.has;clear HC
  refine Ze (Za (Zl H rfl (fun aQ=>?_) (fun aQ=>?_)))
  · replace hm:=Zt hm aQ
    refine wp_seq (wp_region_lit ?_)
    replace hm:=Zk hm;obtain⟨aV,bF,hm⟩:=hm
    refine Zj H rfl Zh7 (Uf (A:=A) bF) rfl ?_
    clear H;intro cC cD hv;clear a;intro a H;obtain⟨rfl,bG⟩:=hv
    replace hS:=hS.ext bG
    refine Zr H rfl rfl (vs:=[.int .i64 aV.Code,.int .i64 aV.Place]) rfl Yh (hS.blk 0 rfl) rfl (by simp) ?_
    clear H;intro cF hN bH hz;clear a;intro a H;replace hS:=hS.setBlk hN bH;clear hN hz
    refine Ze (Za (wp_ret (Zg ?_)))
    obtain rfl:=Option.some.inj hm
    replace hS:=hS.tk1
    refine Zad H (.inr rfl) rfl (vs:=[.agg #[.int .i64 aV.Code,.int .i64 aV.Place]]) (Xk rfl ((hS.blk 0 rfl).ldAll Tx Yh) Xw) ?_
    replace hS:=hS.tk0
    exact⟨rfl,hS.x⟩
  · replace hm:=Zu hm aQ
    refine wp_skip (Za (wp_seq (wp_seq (wp_region_lit (n_q H (Zd rfl Tr) rfl (W_q (Zf rfl ((hS.blk 1 rfl).ld Zjd rfl)) rfl ?_))))));clear H a;intro a H
    obtain⟨cG,cH,aC,bW,bX⟩:=SlR.formV (aB.ext (Zq.mono _) hS.x)
    refine n_q H (Qh Tryz.underlying25 rfl aC) rfl (W_q (Za4 (i:=a0.Sems.length) (j:=8) rfl rfl) rfl ?_);clear H a;intro a H
    refine Ze (Za (Zl H rfl (fun aR=>?_) (fun aR=>?_)))
    · replace hm:=Zt hm aR
      refine wp_seq (wp_region_lit ?_)
      replace hm:=Zk hm;obtain⟨aW,bI,hm⟩:=hm
      refine Zj H rfl Zh7 (Uf (A:=A) bI) rfl ?_
      clear H;intro cI cJ hv;clear a;intro a H;obtain⟨rfl,bJ⟩:=hv
      replace hS:=hS.ext bJ
      refine Zr H rfl rfl (vs:=[.int .i64 aW.Code,.int .i64 aW.Place]) rfl Yh (hS.blk 0 rfl) rfl (by simp) ?_
      clear H;intro cK hN bK hz;clear a;intro a H;replace hS:=hS.setBlk hN bK;clear hN hz
      refine Ze (Za (wp_ret (Zg ?_)))
      obtain rfl:=Option.some.inj hm
      replace hS:=hS.tk1
      refine Zad H (.inr rfl) rfl (vs:=[.agg #[.int .i64 aW.Code,.int .i64 aW.Place]]) (Xk rfl ((hS.blk 0 rfl).ldAll Tx Yh) Xw) ?_
      replace hS:=hS.tk0
      exact⟨rfl,hS.x⟩
    · replace hm:=Zu hm aR
      refine wp_skip (Za (wp_seq (wp_seq (wp_region_lit (n_q H (Zb rfl) rfl ?_)))));clear H a;intro a H
      refine Ze (Za (wp_block ?_))
      replace hS:=hS.pk1
      replace hm:=Zk hm;obtain⟨aX,hm,aY⟩:=hm;replace hm:=Qk hm;obtain⟨bQ,hm⟩:=hm
      refine Kh (σ:=Nat × Nat) (fun (m,aA)=>[(1,.pointer (some ⟨aT,0,none⟩)),(2,.pointer (some ⟨aU,0,none⟩)),(3,.int .i64 ((aA : Nat) : Int))]) (fun (m,aA) wl=>Kl (Vf a0) m aA=some aX ∧ St NB w wl [blkR aT [.int .i64 a0.Id,.bool a0.Mobile,aE,aF,aG,.int .i64 a0.Events,aH] 27,blkR aU [.int .i64 0,.int .i64 0] 124]) (fun (m,aA)=>m) (bQ,0) H ⟨rfl,rfl,rfl,trivial⟩ ⟨hm,hS⟩ ?_
      clear H hS hm a;intro xx a cL H hR;obtain⟨m,aA⟩:=xx;simp only [ent,List.map_cons,List.map_nil] at H;(try dsimp only at hR);obtain⟨hm,hS⟩:=hR
      replace hm:=Qd hm;obtain⟨bR,bS,rfl,hm,aS⟩:=hm;try dsimp only [Vf] at hm
      refine wp_seq (wp_seq (wp_region_lit (n_q H (Zc rfl) rfl (W_q (Zd rfl Tr) rfl (W_q (Zf rfl ((hS.blk 0 rfl).ld Zjd rfl)) rfl (W_q (Qh Tryz.underlying25 rfl aC) rfl (W_q (Ki (i:=aA) (j:=a0.Sems.length) rfl rfl) rfl ?_)))))));clear H a;intro a H
      refine Ze (Za (Zl H rfl (fun aI=>?_) (fun aI=>?_)))
      · replace hm:=Zt hm aI
        have bV : aA < a0.Sems.length:=of_decide_eq_true aI
        refine wp_skip (Za (wp_seq (wp_block ?_)))
        replace hm:=Zk hm;obtain⟨cM,hm,aZ⟩:=hm
        refine Ga (σ:=Bool) H (fun aJ=>[(1,.pointer (some ⟨aT,0,none⟩)),(2,.pointer (some ⟨aU,0,none⟩)),(3,.int .i64 ((aA : Nat) : Int)),(38,.bool aJ)]) (fun aJ wl=>(Uu aA) aJ=some bS ∧ St NB w wl [blkR aT [.int .i64 a0.Id,.bool a0.Mobile,aE,aF,aG,.int .i64 a0.Events,aH] 27,blkR aU [.int .i64 0,.int .i64 0] 124]) ?_ ?_
        · skip
          refine wp_region_lit (n_q H (Zd rfl Tr) rfl (W_q (Zf rfl ((hS.blk 0 rfl).ld Zjd rfl)) rfl (W_q (Zc rfl) rfl ?_)));clear H a;intro a H
          replace hm:=Zk hm;obtain⟨bL,aK,hm⟩:=hm
          obtain⟨bT,aO⟩:=SlR.adV (aB.ext (Zq.mono _) hS.x) aC aK
          refine n_q H (Uq (i:=aA) Tryz.underlying25 sz3 rfl aC aO rfl (Zb9 aK)) rfl (W_q (Zf rfl (SlR.ldOneV (aB.ext (Zq.mono _) hS.x) aC aO ag3 aK rfl)) rfl (W_q (Wh rfl rfl) rfl (W_q (Zc rfl) rfl ?_)));clear H a;intro a H
          rcases Bool.eq_false_or_eq_true (decide (bL < 0)) with aD|aD
          · replace H:=H.know 31 rfl aD
            replace hm:=Zt hm aD
            refine Zaz H rfl rfl (by decide) rfl (Qm rfl rfl (by decide) rfl (Qm rfl rfl (by decide) rfl (Qm rfl rfl (by decide) rfl (Qm rfl rfl (by decide) rfl (Qm rfl rfl (by decide) rfl (W_q (Zz rfl rfl) rfl ?_))))));clear H a;intro a H
            refine Ze (Za ?_)
            obtain rfl:=Option.some.inj hm;replace hm:=aZ;try dsimp only at hm
            exact Wa true H ⟨rfl,rfl,rfl,rfl,trivial⟩ ⟨hm,hS⟩
          · replace H:=H.know 31 rfl aD
            replace hm:=Zu hm aD
            refine Wt H rfl rfl (n_q H (Zd rfl Tr) rfl (Xn rfl rfl (W_q (Zf rfl ((hS.blk 0 rfl).ld Zjd rfl)) rfl (Xn rfl rfl (W_q (Zc rfl) rfl (Xn rfl rfl ?_))))));clear H a;intro a H
            replace hm:=Zk hm;obtain⟨bM,aL,hm⟩:=hm
            obtain⟨bU,aP⟩:=SlR.adV (aB.ext (Zq.mono _) hS.x) aC aL
            refine n_q H (Uq (i:=aA) Tryz.underlying25 sz3 rfl aC aP rfl (Zb9 aL)) rfl (Xn rfl rfl (W_q (Zf rfl (SlR.ldOneV (aB.ext (Zq.mono _) hS.x) aC aP ag3 aL rfl)) rfl (Xn rfl rfl (W_q (Gn rfl rfl) rfl (W_q (Jh rfl rfl) rfl ?_)))));clear H a;intro a H
            refine Ze (Za ?_)
            obtain rfl:=Option.some.inj hm;replace hm:=aZ;try dsimp only at hm
            exact Wa (decide (255 < bM)) H ⟨rfl,rfl,rfl,rfl,trivial⟩ ⟨hm,hS⟩
        · clear H hS hm a;intro aJ a bY H hR
          simp only [ent,List.map_cons,List.map_nil] at H;(try dsimp only at hR);obtain⟨hm,hS⟩:=hR;try dsimp only [Uu] at hm
          refine Zl H rfl (fun aM=>?_) (fun aM=>?_)
          · replace hm:=Zt hm aM
            refine wp_seq (wp_region_lit (n_q H (Zc rfl) rfl (W_q (Qc (cs:=[.int .i64 4,.int .i64 ((aA : Nat) : Int)]) Zb7 Zh5 Zh6 rfl (by kernel_rfl)) rfl ?_)));clear H a;intro a H
            replace hS:=hS.pk1
            refine Zr H rfl rfl (vs:=[.int .i64 4,.int .i64 ((aA : Nat) : Int)]) rfl Yh (hS.blk 0 rfl) rfl (by simp) ?_
            clear H;intro bZ hN a9 hz;clear a;intro a H;replace hS:=hS.setBlk hN a9;clear hN hz
            refine Ze (Za (wp_ret (Zm (Zg (Zg (Zm (Zg ?_)))))))
            obtain rfl:=Option.some.inj hm;have hz : _=aX:=aS;subst hz;replace hm:=aY;try dsimp only at hm
            obtain rfl:=Option.some.inj hm
            replace hS:=hS.tk1
            refine Zad H (.inr rfl) rfl (vs:=[.agg #[.int .i64 4,.int .i64 ((aA : Nat) : Int)]]) (Xk rfl ((hS.blk 0 rfl).ldAll Tx Yh) Xw) ?_
            replace hS:=hS.tk0
            exact⟨rfl,hS.x⟩
          · replace hm:=Zu hm aM
            refine wp_skip (Zn (Za (wp_region_lit (n_q H (Zc rfl) rfl (W_q (Yx (i:=aA) (j:=1) rfl rfl (by omega)) rfl (W_q (Zb rfl) rfl ?_))))));clear H a;intro a H
            refine Ze (Za ?_)
            obtain rfl:=Option.some.inj hm
            exact Wm (bR,aA + 1) H ⟨rfl,rfl,rfl,trivial⟩ ⟨aS,hS⟩ (Nat.lt_succ_self _)
      · replace hm:=Zu hm aI
        refine wp_exit (Zo (Zo (Qb ?_)))
        obtain rfl:=Option.some.inj hm;have hz : _=aX:=aS;subst hz;replace hm:=aY;try dsimp only at hm
        refine Za (wp_seq (wp_region_lit ?_))
        replace hm:=Zk hm;obtain⟨aN,bA,hm⟩:=hm
        refine Zj H rfl Zlk (Gt (A:=A) bA) rfl ?_
        clear H;intro b7 b8 hv;clear a;intro a H;obtain⟨rfl,bB⟩:=hv
        replace hS:=hS.ext bB
        replace hS:=hS.pk1
        refine Zr H rfl rfl (vs:=[.int .i64 aN.Code,.int .i64 aN.Place]) rfl Yh (hS.blk 0 rfl) rfl (by simp) ?_
        clear H;intro b9 hN bC hz;clear a;intro a H;replace hS:=hS.setBlk hN bC;clear hN hz
        refine Ze (Za (wp_ret ?_))
        obtain rfl:=Option.some.inj hm
        replace hS:=hS.tk1
        refine Zad H (.inr rfl) rfl (vs:=[.agg #[.int .i64 aN.Code,.int .i64 aN.Place]]) (Xk rfl ((hS.blk 0 rfl).ldAll Tx Yh) Xw) ?_
        replace hS:=hS.tk0
        exact⟨rfl,hS.x⟩
theorem Zg8 {w : World} {A : Nat → Addr} {a0 : GPortPlan} {r : Int × Int} (hm : Zak a0=some r) :
    Calls Tryz.prog 195 [.agg (Zw a0).toArray].toArray w (Ret fun u w'=>u=.tuple #[.int .i64 r.1,.int .i64 r.2] ∧ Ext w w'):=by
  have hS:=St.begin NB w
  unfold Zak at hm
  refine enter Tryz.func195 rfl rfl rfl ?_;intro a H;dsimp only [Qo,Nat.zero_add,Nat.reduceAdd] at H
  refine wp_seq (wp_region_lit (Uc H rfl (cs:=[.int .i64 a0.Kind,.int .i64 a0.Size,.int .i64 a0.Depth,.int .i64 a0.Refresh]) rfl rfl ?_))
  clear H;intro aG aH hN aD hs;clear a;intro a H
  replace hS:=hS.newBlk hN aD hs;clear hN hs
  refine n_q H (Zb rfl) rfl (W_q (Zb rfl) rfl ?_);clear H a;intro a H
  refine Ze (Za (wp_seq (wp_seq (wp_region_lit (n_q H (Zf rfl ((hS.blk 0 rfl).ldAll Zb3 Un)) rfl ?_)))));clear H a;intro a H
  replace hm:=Zk hm;obtain⟨aI,aE,hm⟩:=hm
  refine Zj H rfl en194 (Zam (A:=A) aE) rfl ?_
  clear H;intro aJ aK hv;clear a;intro a H;obtain⟨rfl,aF⟩:=hv
  replace hS:=hS.ext aF
  refine n_q H (Hv rfl rfl) rfl ?_;clear H a;intro a H
  refine Ze (Za (Zl H rfl (fun aA=>?_) (fun aA=>?_)))
  · replace hm:=Zt hm aA
    refine wp_seq (wp_region_lit (n_q H (Zb rfl) rfl (W_q (Zb rfl) rfl ?_)));clear H a;intro a H
    refine Ze (Za (wp_ret (Zg ?_)))
    obtain rfl:=Option.some.inj hm
    replace hS:=hS.tk0
    refine Zb0 H (.inr rfl) rfl rfl rfl ?_
    exact⟨rfl,hS.x⟩
  · replace hm:=Zu hm aA
    refine wp_skip (Za (wp_seq (wp_seq (wp_region_lit (n_q H (Zd rfl Gf) rfl (W_q (Zf rfl ((hS.blk 0 rfl).ld ag3 rfl)) rfl ?_))))));clear H a;intro a H
    refine Ze (Za (wp_block (wp_seq (wp_region_lit (n_q H (Wu rfl rfl) rfl (W_q (Zb rfl) rfl ?_))))));clear H a;intro a H
    refine Ze (Za (Zl H rfl (fun aB=>?_) (fun aB=>?_)))
    · replace hm:=Zt hm aB
      refine wp_seq (wp_region_lit (n_q H (Zd rfl Za6) rfl (W_q (Zf rfl ((hS.blk 0 rfl).ld ag3 rfl)) rfl (W_q (Xy rfl rfl) rfl (W_q (Zb rfl) rfl (W_q (Zb rfl) rfl ?_))))));clear H a;intro a H
      refine Ze (Za (wp_ret (Zm (Zg ?_))))
      obtain rfl:=Option.some.inj hm
      replace hS:=hS.tk0
      refine Zb0 H (.inr rfl) rfl rfl rfl ?_
      exact⟨rfl,hS.x⟩
    · replace hm:=Zu hm aB
      refine wp_seq (wp_region_lit (n_q H (Wu rfl rfl) rfl (W_q (Zb rfl) rfl ?_)));clear H a;intro a H
      refine Ze (Za (Zl H rfl (fun aC=>?_) (fun aC=>?_)))
      · replace hm:=Zt hm aC
        refine wp_seq (wp_region_lit (n_q H (Zd rfl Za7) rfl (W_q (Zf rfl ((hS.blk 0 rfl).ld ag3 rfl)) rfl (W_q (Zd rfl Za6) rfl (W_q (Zf rfl ((hS.blk 0 rfl).ld ag3 rfl)) rfl (W_q (Xy rfl rfl) rfl (W_q (Gp rfl rfl) rfl (W_q (Xy rfl rfl) rfl (W_q (Zb rfl) rfl (W_q (Zb rfl) rfl ?_))))))))));clear H a;intro a H
        refine Ze (Za (wp_ret (Zm (Zg ?_))))
        obtain rfl:=Option.some.inj hm
        replace hS:=hS.tk0
        refine Zb0 H (.inr rfl) rfl rfl rfl ?_
        exact⟨rfl,hS.x⟩
      · replace hm:=Zu hm aC
        refine wp_skip (Zn (Za (wp_seq (wp_region_lit (n_q H (Zb rfl) rfl (W_q (Zb rfl) rfl ?_))))));clear H a;intro a H
        refine Ze (Za (wp_ret ?_))
        obtain rfl:=Option.some.inj hm
        replace hS:=hS.tk0
        refine Zb0 H (.inr rfl) rfl rfl rfl ?_
        exact⟨rfl,hS.x⟩
theorem Zge {w : World} {A : Nat → Addr} {cs0 : List Value} {a0 : GPlan} (h0 : Xm w cs0 a0) {r : Int} (hm : Tc a0=some r) :
    Calls Tryz.prog 123 [.agg cs0.toArray].toArray w (Ret fun u w'=>u=.int .i64 r ∧ Ext w w'):=by
  obtain⟨aG,aH,aI,aJ,rfl,aL,aM,aB,aN⟩:=h0
  have hS:=St.begin NB w
  unfold Tc at hm
  refine enter Tryz.func123 rfl rfl rfl ?_;intro a H;dsimp only [Qo,Nat.zero_add,Nat.reduceAdd] at H
  refine wp_seq (wp_region_lit (Uc H rfl (cs:=[.int .i64 a0.Id,.bool a0.Mobile,aG,aH,aI,.int .i64 a0.Events,aJ]) rfl rfl ?_))
  clear H;intro aP bK hN aR hs;clear a;intro a H
  replace hS:=hS.newBlk hN aR hs;clear hN hs
  refine n_q H (Zb rfl) rfl ?_;clear H a;intro a H
  refine Ze (Za (wp_seq (wp_region_lit (n_q H (Zd rfl Ha) rfl (W_q (Zf rfl ((hS.blk 0 rfl).ld Zjc rfl)) rfl ?_)))));clear H a;intro a H
  obtain⟨bL,bM,aS,bC,bD⟩:=SlR.formV (aM.ext (Zq.mono _) hS.x)
  refine n_q H (Qh Tryz.underlying23 rfl aS) rfl (W_q (Gp rfl rfl) rfl (W_q (Xy rfl rfl) rfl (W_q (Zd rfl Ux) rfl (W_q (Zf rfl ((hS.blk 0 rfl).ld Zg0 rfl)) rfl ?_))));clear H a;intro a H
  obtain⟨bN,bO,aT,bE,bF⟩:=SlR.formV (aL.ext (Zq.mono _) hS.x)
  refine n_q H (Qh Tryz.underlying22 rfl aT) rfl (W_q (Gp rfl rfl) rfl (W_q (Xy rfl rfl) rfl (W_q (Zd rfl Zcj) rfl (W_q (Zf rfl ((hS.blk 0 rfl).ld ag3 rfl)) rfl (W_q (Xy rfl rfl) rfl (W_q (Zd rfl Tr) rfl (W_q (Zf rfl ((hS.blk 0 rfl).ld Zjd rfl)) rfl ?_)))))));clear H a;intro a H
  obtain⟨bP,bQ,aU,bG,bH⟩:=SlR.formV (aN.ext (Zq.mono _) hS.x)
  refine n_q H (Qh Tryz.underlying25 rfl aU) rfl (W_q (Xy rfl rfl) rfl (W_q (Zb rfl) rfl ?_));clear H a;intro a H
  refine Ze (Za (wp_seq (wp_seq (wp_region_lit (n_q H (Zb rfl) rfl ?_)))));clear H a;intro a H
  refine Ze (Za (wp_block ?_))
  replace hm:=Zk hm;obtain⟨aQ,hm,aV⟩:=hm;replace hm:=Qk hm;obtain⟨aY,hm⟩:=hm
  refine Kh (σ:=Nat × Int × Nat) (fun (m,aC,aA)=>[(1,.pointer (some ⟨aP,0,none⟩)),(3,.int .i64 aC),(4,.int .i64 ((aA : Nat) : Int))]) (fun (m,aC,aA) wl=>Kl (Vw a0) m (aC,aA)=some aQ ∧ St NB w wl [blkR aP [.int .i64 a0.Id,.bool a0.Mobile,aG,aH,aI,.int .i64 a0.Events,aJ] 27]) (fun (m,aC,aA)=>m) (aY,(IntKind.i64.wrap ((IntKind.i64.wrap ((IntKind.i64.wrap ((IntKind.i64.wrap (58 + (IntKind.i64.wrap (76 * ((a0.Procs.length : Nat) : Int))))) + (IntKind.i64.wrap (68 * ((a0.Pages.length : Nat) : Int))))) + a0.Events)) + ((a0.Sems.length : Nat) : Int))),0) H ⟨rfl,rfl,rfl,trivial⟩ ⟨hm,hS⟩ ?_
  clear H hS hm a;intro xx a bR H hR;obtain⟨m,aC,aA⟩:=xx;simp only [ent,List.map_cons,List.map_nil] at H;(try dsimp only at hR);obtain⟨hm,hS⟩:=hR
  replace hm:=Qd hm;obtain⟨aZ,bS,rfl,hm,aO⟩:=hm;try dsimp only [Vw] at hm
  refine wp_seq (wp_seq (wp_region_lit (n_q H (Zc rfl) rfl (W_q (Zd rfl Tq) rfl (W_q (Zf rfl ((hS.blk 0 rfl).ld Zke rfl)) rfl ?_)))));clear H a;intro a H
  obtain⟨bT,bU,aD,bI,bJ⟩:=SlR.formV (aB.ext (Zq.mono _) hS.x)
  refine n_q H (Qh Tryz.underlying24 rfl aD) rfl (W_q (Ki (i:=aA) (j:=a0.Ports.length) rfl rfl) rfl ?_);clear H a;intro a H
  refine Ze (Za (Zl H rfl (fun aE=>?_) (fun aE=>?_)))
  · replace hm:=Zt hm aE
    have bA : aA < a0.Ports.length:=of_decide_eq_true aE
    refine wp_skip (Za (wp_seq (wp_block (wp_seq (wp_region_lit (n_q H (Zd rfl Tq) rfl (W_q (Zf rfl ((hS.blk 0 rfl).ld Zke rfl)) rfl (W_q (Zc rfl) rfl ?_))))))));clear H a;intro a H
    replace hm:=Zk hm;obtain⟨bV,aF,hm⟩:=hm
    obtain⟨bB,aK⟩:=SlR.adV (aB.ext (Zq.mono _) hS.x) aD aF
    refine n_q H (Uq (i:=aA) Tryz.underlying24 Un rfl aD aK rfl (Zb9 aF)) rfl (W_q (Zf rfl (SlR.ldAggV (aB.ext (Zq.mono _) hS.x) aD aK Zb3 Un aF)) rfl ?_);clear H a;intro a H
    replace hm:=Zk hm;obtain⟨a9,aW,hm⟩:=hm
    refine Zj H rfl en195 (Zg8 (A:=A) aW) rfl ?_
    clear H;intro bW bX hv;clear a;intro a H;obtain⟨rfl,aX⟩:=hv
    replace hS:=hS.ext aX
    refine n_q H (Zc rfl) rfl (W_q (Zi rfl rfl) rfl (W_q (Zi rfl rfl) rfl (W_q (Zb rfl) rfl (W_q (Zb rfl) rfl ?_))));clear H a;intro a H
    refine Ze (Za (wp_region_lit (n_q H (Zc rfl) rfl (W_q (Zc rfl) rfl (W_q (Xy rfl rfl) rfl (W_q (Xy rfl rfl) rfl (W_q (Zb rfl) rfl ?_)))))));clear H a;intro a H
    refine Ze (Zn (Za (wp_region_lit (n_q H (Zc rfl) rfl (W_q (Yx (i:=aA) (j:=1) rfl rfl (by omega)) rfl (W_q (Zb rfl) rfl ?_))))));clear H a;intro a H
    refine Ze (Za ?_)
    obtain rfl:=Option.some.inj hm
    exact Wm (aZ,(IntKind.i64.wrap (aC + (IntKind.i64.wrap (3 + a9.1)))),aA + 1) H ⟨rfl,rfl,rfl,trivial⟩ ⟨aO,hS⟩ (Nat.lt_succ_self _)
  · replace hm:=Zu hm aE
    refine wp_exit (Zo (Zo (Qb ?_)))
    obtain rfl:=Option.some.inj hm;have hz : _=aQ:=aO;subst hz;replace hm:=aV;try dsimp only at hm
    refine Za (wp_seq (wp_region_lit (n_q H (Zc rfl) rfl (W_q (Zb rfl) rfl ?_))));clear H a;intro a H
    refine Ze (Za (wp_ret ?_))
    obtain rfl:=Option.some.inj hm
    replace hS:=hS.tk0
    refine Jb H (.inr rfl) rfl rfl ?_
    exact⟨rfl,hS.x⟩
theorem Zgf {w : World} {A : Nat → Addr} {cs0 : List Value} {a0 : GPlan} (h0 : Xm w cs0 a0) {r : GR10Err} (hm : Td a0=some r) :
    Calls Tryz.prog 52 [.agg cs0.toArray].toArray w (Ret fun u w'=>u=.agg (He r).toArray ∧ Ext w w'):=by
  obtain⟨aA,aB,aC,aD,rfl,aE,aF,aG,aH⟩:=h0
  have hS:=St.begin NB w
  unfold Td at hm
  refine enter Tryz.func52 rfl rfl rfl ?_;intro a H;dsimp only [Qo,Nat.zero_add,Nat.reduceAdd] at H
  refine wp_seq (wp_region_lit (Uc H rfl (cs:=[.int .i64 a0.Id,.bool a0.Mobile,aA,aB,aC,.int .i64 a0.Events,aD]) rfl rfl ?_))
  clear H;intro bL cN hN bO hs;clear a;intro a H
  replace hS:=hS.newBlk hN bO hs;clear hN hs
  refine Xj H Zb7 rfl ?_
  clear H;intro bM bN hN bP hs;clear a;intro a H
  replace hS:=hS.newBlk hN bP hs;clear hN hs
  refine Ze (Za (wp_seq (wp_seq (wp_region_lit (n_c H (fun HC=>?_))))));clear H
  refine Hk HC (Zd rfl Zef) rfl (by kernel_rfl) (V_q (Zf rfl ((hS.blk 1 rfl).ld ag3 rfl)) rfl (by kernel_rfl) (V_q (Wh rfl rfl) rfl (by kernel_rfl) (V_q (Zc rfl) rfl (by kernel_rfl) (V_g (Zd rfl Zef) (by kernel_rfl) (by kernel_rfl) (by kernel_rfl) (V_g (Zf rfl ((hS.blk 1 rfl).ld ag3 rfl)) (by kernel_rfl) (by kernel_rfl) (by kernel_rfl) (V_g (Gn rfl rfl) (by kernel_rfl) (by kernel_rfl) (by kernel_rfl) (Zdz (j:=3) rfl rfl rfl (by kernel_rfl) (by kernel_rfl) ?_)))))));clear HC a;intro a HC
  have H:=HC.has;clear HC
  refine Ze (Za (Zl H rfl (fun aQ=>?_) (fun aQ=>?_)))
  · replace hm:=Zt hm aQ
    refine wp_seq (wp_region_lit ?_)
    replace hm:=Zk hm;obtain⟨aX,bQ,hm⟩:=hm
    refine Zj H rfl Zh7 (Uf (A:=A) bQ) rfl ?_
    clear H;intro cO cP hv;clear a;intro a H;obtain⟨rfl,bR⟩:=hv
    replace hS:=hS.ext bR
    refine Zr H rfl rfl (vs:=[.int .i64 aX.Code,.int .i64 aX.Place]) rfl Yh (hS.blk 0 rfl) rfl (by simp) ?_
    clear H;intro cQ hN bS hz;clear a;intro a H;replace hS:=hS.setBlk hN bS;clear hN hz
    refine Ze (Za (wp_ret (Zg ?_)))
    obtain rfl:=Option.some.inj hm
    replace hS:=hS.tk1
    refine Zad H (.inr rfl) rfl (vs:=[.agg #[.int .i64 aX.Code,.int .i64 aX.Place]]) (Xk rfl ((hS.blk 0 rfl).ldAll Tx Yh) Xw) ?_
    replace hS:=hS.tk0
    exact⟨rfl,hS.x⟩
  · replace hm:=Zu hm aQ
    refine wp_skip (Za (wp_seq (Gx [] 10 (by kernel_rfl) ?_)))
    obtain⟨bC,aR⟩ : ∃ x,x=bN.drew:=⟨_,rfl⟩;rw [← aR];have bT : Ext bN bC:=by rw [aR];exact Ext.drew' _
    clear aR
    replace hS:=hS.ext bT
    have aO:=hS
    have hW:=Nat.le_refl bC.heap.size
    refine Xq 0 H rfl (Zf rfl (LdC.old ((aO.blk 1 rfl).ldAll Za0 Gy) Ext.rfl' (Nat.le_refl _) (by simp))) rfl (by kernel_rfl) (by kernel_rfl) (by kernel_rfl) (by kernel_rfl) (fun _ _ _ h=>h) ?_;clear H a;intro a H
    refine Xq 2 H rfl (Zf rfl (LdC.old ((aO.blk 1 rfl).ldAll Za0 Gy) Ext.rfl' (Nat.le_refl _) (by simp))) rfl (by kernel_rfl) (by kernel_rfl) (by kernel_rfl) (by kernel_rfl) (fun _ _ _ h=>h) ?_;clear H a;intro a H
    refine Xq 4 H rfl (Zf rfl (LdC.old ((aO.blk 1 rfl).ldAll Za0 Gy) Ext.rfl' (Nat.le_refl _) (by simp))) rfl (by kernel_rfl) (by kernel_rfl) (by kernel_rfl) (by kernel_rfl) (fun _ _ _ h=>h) ?_;clear H a;intro a H
    refine Xq 6 H rfl (Zf rfl (LdC.old ((aO.blk 1 rfl).ldAll Za0 Gy) Ext.rfl' (Nat.le_refl _) (by simp))) rfl (by kernel_rfl) (by kernel_rfl) (by kernel_rfl) (by kernel_rfl) (fun _ _ _ h=>h) ?_;clear H a;intro a H
    replace hm:=Zk hm;obtain⟨aK,bU,hm⟩:=hm
    refine Xl 1 (by kernel_rfl) ?_
    refine Xo 1 H rfl rfl en119 (Zgb (A:=A) (⟨_,_,_,_,rfl,(aE.ext (Zq.mono _) hS.x),(aF.ext (Zq.mono _) hS.x),(aG.ext (Zq.mono _) hS.x),(aH.ext (Zq.mono _) hS.x)⟩ : Xm _ [.int .i64 a0.Id,.bool a0.Mobile,aA,aB,aC,.int .i64 a0.Events,aD] a0) bU) rfl (fun v w hv=>.inl (ChgF.of_ext (by obtain⟨_,hE0⟩:=hv;exact hE0))) ?_
    clear H;intro cR cT hv;clear a;intro a H;obtain⟨rfl,bD⟩:=hv
    replace hS:=hS.ext bD
    replace hW:=Nat.le_trans hW bD.size
    replace hm:=Zk hm;obtain⟨aL,bV,hm⟩:=hm
    refine Xl 3 (by kernel_rfl) ?_
    refine Xo 3 H rfl rfl en120 (Zgc (A:=A) (⟨_,_,_,_,rfl,(aE.ext (Zq.mono _) hS.x),(aF.ext (Zq.mono _) hS.x),(aG.ext (Zq.mono _) hS.x),(aH.ext (Zq.mono _) hS.x)⟩ : Xm _ [.int .i64 a0.Id,.bool a0.Mobile,aA,aB,aC,.int .i64 a0.Events,aD] a0) bV) rfl (fun v w hv=>.inl (ChgF.of_ext (by obtain⟨_,hE0⟩:=hv;exact hE0))) ?_
    clear H;intro cU cV hv;clear a;intro a H;obtain⟨rfl,bE⟩:=hv
    replace hS:=hS.ext bE
    replace hW:=Nat.le_trans hW bE.size
    replace hm:=Zk hm;obtain⟨aM,bW,hm⟩:=hm
    refine Xl 5 (by kernel_rfl) ?_
    refine Xo 5 H rfl rfl en121 (Zgd (A:=A) (⟨_,_,_,_,rfl,(aE.ext (Zq.mono _) hS.x),(aF.ext (Zq.mono _) hS.x),(aG.ext (Zq.mono _) hS.x),(aH.ext (Zq.mono _) hS.x)⟩ : Xm _ [.int .i64 a0.Id,.bool a0.Mobile,aA,aB,aC,.int .i64 a0.Events,aD] a0) bW) rfl (fun v w hv=>.inl (ChgF.of_ext (by obtain⟨_,hE0⟩:=hv;exact hE0))) ?_
    clear H;intro cW cX hv;clear a;intro a H;obtain⟨rfl,bF⟩:=hv
    replace hS:=hS.ext bF
    replace hW:=Nat.le_trans hW bF.size
    replace hm:=Zk hm;obtain⟨aN,bX,hm⟩:=hm
    refine Xl 7 (by kernel_rfl) ?_
    refine Xo 7 H rfl rfl en122 (Ze6 (A:=A) (⟨_,_,_,_,rfl,(aE.ext (Zq.mono _) hS.x),(aF.ext (Zq.mono _) hS.x),(aG.ext (Zq.mono _) hS.x),(aH.ext (Zq.mono _) hS.x)⟩ : Xm _ [.int .i64 a0.Id,.bool a0.Mobile,aA,aB,aC,.int .i64 a0.Events,aD] a0) bX) rfl (fun v w hv=>.inl (ChgF.of_ext (by obtain⟨_,hE0⟩:=hv;exact hE0))) ?_
    clear H;intro cY cZ hv;clear a;intro a H;obtain⟨rfl,bG⟩:=hv
    replace hS:=hS.ext bG
    replace hW:=Nat.le_trans hW bG.size
    refine To 8 H rfl Tryz.underlying201 Yh Zb7 rfl rfl rfl (cs:=[.int .i64 aK.Code,.int .i64 aK.Place,.int .i64 aL.Code,.int .i64 aL.Place,.int .i64 aM.Code,.int .i64 aM.Place,.int .i64 aN.Code,.int .i64 aN.Place]) (by kernel_rfl) rfl (by kernel_rfl) ?_
    clear H;intro bH dA hN bI hs;clear a;intro a H
    have cF : bC.heap.size ≤ bH:=hs ▸ hW
    replace hS:=hS.newBlk hN bI hs;clear hN hs
    replace hW:=Nat.le_trans hW bI.size
    replace hS:=hS.blkOwnL (e:=He) (k:=2) [aK,aL,aM,aN] rfl rfl (by simp [maxLen])
    refine Zh 9 H rfl (Zb rfl) rfl (by kernel_rfl) (by kernel_rfl) (by kernel_rfl) (by kernel_rfl) (fun _ _ _ h=>h) ?_;clear H a;intro a H
    refine Xh (by kernel_rfl) ?_
    refine Za (wp_seq (wp_seq (wp_region_lit (n_q H (Zb rfl) rfl ?_))));clear H a;intro a H
    refine Ze (Za (wp_block ?_))
    replace hS:=hS.pk1
    replace hS:=hS.pk2
    replace hS:=hS.pk2
    replace hm:=Zk hm;obtain⟨bJ,hm,bK⟩:=hm;replace hm:=Qk hm;obtain⟨cG,hm⟩:=hm
    refine Kh (σ:=Nat × Nat) (fun (m,aI)=>[(1,.pointer (some ⟨bL,0,none⟩)),(2,.pointer (some ⟨bM,0,none⟩)),(3,.slice (some ⟨bH,0,none⟩) 4 4),(4,.int .i64 ((aI : Nat) : Int))]) (fun (m,aI) wl=>Kl (Ym aK aL aM aN) m aI=some bJ ∧ St NB w wl [ownR 124 2 (.slice (some ⟨bH,0,none⟩) 4 4) [aK,aL,aM,aN].length ([aK,aL,aM,aN].flatMap He),blkR bL [.int .i64 a0.Id,.bool a0.Mobile,aA,aB,aC,.int .i64 a0.Events,aD] 27,blkR bM [.int .i64 0,.int .i64 0] 124]) (fun (m,aI)=>m) (cG,0) H ⟨rfl,rfl,rfl,rfl,trivial⟩ ⟨hm,hS⟩ ?_
    clear H hS hm a;intro xx a dB H hR;obtain⟨m,aI⟩:=xx;simp only [ent,List.map_cons,List.map_nil] at H;(try dsimp only at hR);obtain⟨hm,hS⟩:=hR
    replace hm:=Qd hm;obtain⟨cH,dC,rfl,hm,aS⟩:=hm;try dsimp only [Ym] at hm
    refine wp_seq (wp_seq (wp_region_lit (n_q H (Zc rfl) rfl (W_q (Zc rfl) rfl ?_))));clear H a;intro a H
    obtain⟨dD,dE,aJ,cL,cM⟩:=SlR.formV ((hS.own 0 rfl).slr rfl (fun _ _=>rfl))
    refine n_q H (Qh Tryz.underlying201 rfl aJ) rfl (W_q (Ki (i:=aI) (j:=([aK,aL,aM,aN].length)) rfl rfl) rfl ?_);clear H a;intro a H
    refine Ze (Za (Zl H rfl (fun aP=>?_) (fun aP=>?_)))
    · replace hm:=Zt hm aP
      have cI : aI < [aK,aL,aM,aN].length:=of_decide_eq_true aP
      refine wp_skip (Za (wp_seq (wp_block (wp_seq (wp_region_lit (n_q H (Zc rfl) rfl (W_q (Zc rfl) rfl ?_)))))));clear H a;intro a H
      replace hm:=Zk hm;obtain⟨dF,aT,hm⟩:=hm
      obtain⟨cJ,aY⟩:=SlR.adV ((hS.own 0 rfl).slr rfl (fun _ _=>rfl)) aJ aT
      refine n_q H (Uq (i:=aI) Tryz.underlying201 Yh rfl aJ aY rfl (Zb9 aT)) rfl (W_q (Vi rfl Zpk) rfl (W_q (Zf rfl (SlR.ldCellV (j:=0) ((hS.own 0 rfl).slr rfl (fun _ _=>rfl)) aJ aY ag3 aT rfl)) rfl (W_q (Hv rfl rfl) rfl ?_)));clear H a;intro a H
      refine Ze (Za (Zl H rfl (fun aU=>?_) (fun aU=>?_)))
      · replace hm:=Zt hm aU
        refine wp_seq (wp_region_lit (n_q H (Zc rfl) rfl (W_q (Zc rfl) rfl ?_)));clear H a;intro a H
        replace hm:=Zk hm;obtain⟨aZ,aV,hm⟩:=hm
        obtain⟨cK,a9⟩:=SlR.adV ((hS.own 0 rfl).slr rfl (fun _ _=>rfl)) aJ aV
        refine n_q H (Uq (i:=aI) Tryz.underlying201 Yh rfl aJ a9 rfl (Zb9 aV)) rfl (W_q (Zf rfl (SlR.ldAggV ((hS.own 0 rfl).slr rfl (fun _ _=>rfl)) aJ a9 Tx Yh aV)) rfl ?_);clear H a;intro a H
        replace hS:=hS.pk2
        refine Zr H rfl rfl (vs:=[.int .i64 aZ.Code,.int .i64 aZ.Place]) rfl Yh (hS.blk 0 rfl) rfl (by simp) ?_
        clear H;intro dG hN bY hz;clear a;intro a H;replace hS:=hS.setBlk hN bY;clear hN hz
        refine Ze (Za (wp_ret (Zm (Zg (Zg (Zm (Zg ?_)))))))
        obtain rfl:=Option.some.inj hm;have hz : _=bJ:=aS;subst hz;replace hm:=bK;try dsimp only at hm
        obtain rfl:=Option.some.inj hm
        replace hS:=hS.tk1
        refine Zad H (.inr rfl) rfl (vs:=[.agg #[.int .i64 aZ.Code,.int .i64 aZ.Place]]) (Xk rfl ((hS.blk 0 rfl).ldAll Tx Yh) Xw) ?_
        replace hS:=hS.tk0
        exact⟨rfl,hS.x⟩
      · replace hm:=Zu hm aU
        refine wp_skip (Zn (Za (wp_region_lit (n_q H (Zc rfl) rfl (W_q (Yx (i:=aI) (j:=1) rfl rfl (by omega)) rfl (W_q (Zb rfl) rfl ?_))))));clear H a;intro a H
        refine Ze (Za ?_)
        obtain rfl:=Option.some.inj hm
        exact Wm (cH,aI + 1) H ⟨rfl,rfl,rfl,rfl,trivial⟩ ⟨aS,hS⟩ (Nat.lt_succ_self _)
    · replace hm:=Zu hm aP
      refine wp_exit (Zo (Zo (Qb ?_)))
      obtain rfl:=Option.some.inj hm;have hz : _=bJ:=aS;subst hz;replace hm:=bK;try dsimp only at hm
      refine Za (wp_seq (wp_seq (wp_region_lit (n_q H (Zf rfl ((hS.blk 1 rfl).ldAll Za0 Gy)) rfl ?_))));clear H a;intro a H
      replace hm:=Zk hm;obtain⟨dH,bZ,hm⟩:=hm
      refine Zj H rfl en123 (Zge (A:=A) (⟨_,_,_,_,rfl,(aE.ext (Zq.mono _) hS.x),(aF.ext (Zq.mono _) hS.x),(aG.ext (Zq.mono _) hS.x),(aH.ext (Zq.mono _) hS.x)⟩ : Xm _ [.int .i64 a0.Id,.bool a0.Mobile,aA,aB,aC,.int .i64 a0.Events,aD] a0) bZ) rfl ?_
      clear H;intro dI dJ hv;clear a;intro a H;obtain⟨rfl,b7⟩:=hv
      replace hS:=hS.ext b7
      refine n_q H (Gn rfl rfl) rfl ?_;clear H a;intro a H
      refine Ze (Za (Zl H rfl (fun aW=>?_) (fun aW=>?_)))
      · replace hm:=Zt hm aW
        refine wp_seq (wp_region_lit ?_)
        replace hm:=Zk hm;obtain⟨bA,b8,hm⟩:=hm
        refine Zj H rfl Zh7 (Uf (A:=A) b8) rfl ?_
        clear H;intro dK dL hv;clear a;intro a H;obtain⟨rfl,b9⟩:=hv
        replace hS:=hS.ext b9
        replace hS:=hS.pk2
        refine Zr H rfl rfl (vs:=[.int .i64 bA.Code,.int .i64 bA.Place]) rfl Yh (hS.blk 0 rfl) rfl (by simp) ?_
        clear H;intro dM hN cA hz;clear a;intro a H;replace hS:=hS.setBlk hN cA;clear hN hz
        refine Ze (Za (wp_ret (Zg ?_)))
        obtain rfl:=Option.some.inj hm
        replace hS:=hS.tk1
        refine Zad H (.inr rfl) rfl (vs:=[.agg #[.int .i64 bA.Code,.int .i64 bA.Place]]) (Xk rfl ((hS.blk 0 rfl).ldAll Tx Yh) Xw) ?_
        replace hS:=hS.tk0
        exact⟨rfl,hS.x⟩
      · replace hm:=Zu hm aW
        refine wp_skip (Za (wp_seq (wp_region_lit ?_)))
        replace hm:=Zk hm;obtain⟨bB,cB,hm⟩:=hm
        refine Zj H rfl Zlk (Gt (A:=A) cB) rfl ?_
        clear H;intro dN dO hv;clear a;intro a H;obtain⟨rfl,cC⟩:=hv
        replace hS:=hS.ext cC
        replace hS:=hS.pk2
        refine Zr H rfl rfl (vs:=[.int .i64 bB.Code,.int .i64 bB.Place]) rfl Yh (hS.blk 0 rfl) rfl (by simp) ?_
        clear H;intro dP hN cD hz;clear a;intro a H;replace hS:=hS.setBlk hN cD;clear hN hz
        refine Ze (Za (wp_ret ?_))
        obtain rfl:=Option.some.inj hm
        replace hS:=hS.tk1
        refine Zad H (.inr rfl) rfl (vs:=[.agg #[.int .i64 bB.Code,.int .i64 bB.Place]]) (Xk rfl ((hS.blk 0 rfl).ldAll Tx Yh) Xw) ?_
        replace hS:=hS.tk0
        exact⟨rfl,hS.x⟩
theorem Zg9 {w : World} {A : Nat → Addr} {cs0 : List Value} {a0 : GPlan} (h0 : Xm w cs0 a0) {r : Bool} (hm : Zal a0=some r) :
    Calls Tryz.prog 33 [.agg cs0.toArray].toArray w (Ret fun u w'=>u=.bool r ∧ Ext w w'):=by
  obtain⟨aA,aB,aC,aD,rfl,aE,aF,aG,aH⟩:=h0
  have hS:=St.begin NB w
  unfold Zal at hm
  refine enter Tryz.func33 rfl rfl rfl ?_;intro a H;dsimp only [Qo,Nat.zero_add,Nat.reduceAdd] at H
  refine wp_seq (wp_region_lit (Uc H rfl (cs:=[.int .i64 a0.Id,.bool a0.Mobile,aA,aB,aC,.int .i64 a0.Events,aD]) rfl rfl ?_))
  clear H;intro aL aM hN aI hs;clear a;intro a H
  replace hS:=hS.newBlk hN aI hs;clear hN hs
  refine n_q H (Zb rfl) rfl ?_;clear H a;intro a H
  refine Ze (Za (wp_seq (wp_region_lit (n_q H (Zf rfl ((hS.blk 0 rfl).ldAll Za0 Gy)) rfl ?_))));clear H a;intro a H
  replace hm:=Zk hm;obtain⟨aN,aJ,hm⟩:=hm
  refine Zj H rfl en52 (Zgf (A:=A) (⟨_,_,_,_,rfl,(aE.ext (Zq.mono _) hS.x),(aF.ext (Zq.mono _) hS.x),(aG.ext (Zq.mono _) hS.x),(aH.ext (Zq.mono _) hS.x)⟩ : Xm _ [.int .i64 a0.Id,.bool a0.Mobile,aA,aB,aC,.int .i64 a0.Events,aD] a0) aJ) rfl ?_
  clear H;intro aO aP hv;clear a;intro a H;obtain⟨rfl,aK⟩:=hv
  replace hS:=hS.ext aK
  refine n_q H (Zmo Zpj rfl rfl) rfl (W_q (Wu rfl rfl) rfl (W_q (Zb rfl) rfl ?_));clear H a;intro a H
  refine Ze (Za (wp_ret ?_))
  obtain rfl:=Option.some.inj hm
  replace hS:=hS.tk0
  refine Jb H (.inr rfl) rfl rfl ?_
  exact⟨rfl,hS.x⟩
theorem Zej {w : World} {A : Nat → Addr} {v0 : Value} {a0 : List UInt8} {v1 : Value} {a1 : List UInt8} (h0 : SlR w 1 (Zq eB) v0 a0) (h1 : SlR w 1 (Zq eB) v1 a1) {r : Bool} (hm : Uv a0 a1=some r) :
    Calls Tryz.prog 173 [v0,v1].toArray w (Ret fun u w'=>u=.bool r ∧ Ext w w'):=by
  have hS:=St.begin NB w
  unfold Uv at hm
  refine enter Tryz.func173 rfl rfl rfl ?_;intro a H;dsimp only [Qo,Nat.zero_add,Nat.reduceAdd] at H
  refine wp_seq (wp_region_lit (n_q H (Zb rfl) rfl ?_));clear H a;intro a H
  refine Ze (Za (wp_seq (wp_region_lit (n_q H (Zc rfl) rfl (W_q (Zkt Tryz.underlying100 Tryz.underlying5 Tryz.underlying9 rfl (fun w' hw=>((h0.ext (Zq.mono _) hS.x).ext (Zq.mono _) hw))) rfl (W_q (Zc rfl) rfl (W_q (Zkt Tryz.underlying100 Tryz.underlying5 Tryz.underlying9 rfl (fun w' hw=>((h1.ext (Zq.mono _) hS.x).ext (Zq.mono _) hw))) rfl (W_q (q_eqlS rfl rfl) rfl (W_q (Zb rfl) rfl ?_)))))))));clear H a;intro a H
  refine Ze (Za (wp_ret ?_))
  obtain rfl:=Option.some.inj hm
  refine Jb H (.inr rfl) rfl rfl ?_
  exact⟨rfl,hS.x⟩
theorem Zha {w : World} {A : Nat → Addr} {v0 : Value} {a0 : List UInt8} (hG : EV A w) (h0 : SlR w 1 (Zq eB) v0 a0) {r : List UInt8 × ErrM} (hm : Gd a0=some r) :
    Calls Tryz.prog 99 [v0].toArray w (Ret fun u w'=>∃ h_0 h_1,u=.tuple #[h_0,h_1] ∧ St NB w w' [ownR 5 1 h_0 r.1.length (r.1.flatMap eB),erQ A h_1 r.2]):=by
  have hS:=St.begin NB w
  unfold Gd at hm
  refine enter Tryz.func99 rfl rfl rfl ?_;intro a H;dsimp only [Qo,Nat.zero_add,Nat.reduceAdd] at H
  refine wp_seq (wp_region_lit (n_q H (Zb rfl) rfl (W_q (Zb rfl) rfl ?_)));clear H a;intro a H
  refine Ze (Za (wp_seq (wp_seq (wp_region_lit (n_q H (Zc rfl) rfl ?_)))));clear H a;intro a H
  obtain⟨aH,aI,aA,a9,bA⟩:=SlR.formV (h0.ext (Zq.mono _) hS.x)
  refine n_q H (Qh Tryz.underlying100 rfl aA) rfl (W_q (Ki (i:=a0.length) (j:=4) rfl rfl) rfl ?_);clear H a;intro a H
  refine Ze (Za (Zl H rfl (fun aC=>?_) (fun aC=>?_)))
  · replace hm:=Zt hm aC
    have aZ : a0.length < 4:=of_decide_eq_true aC
    refine wp_seq (Hs (by kernel_rfl) (by kernel_rfl) ?_)
    refine Wn H (Zf rfl ((hG.ext hS.x).ld Kz (by decide) Wy)) rfl ?_;clear H a;intro a H
    refine Wn H (Zb rfl) rfl ?_;clear H a;intro a H
    refine Wn H (Zb rfl) rfl ?_;clear H a;intro a H
    refine Za1 ?_;intro bE aN
    replace hS:=hS.ext aN
    refine Za (wp_ret (Zg ?_))
    obtain rfl:=Option.some.inj hm
    replace hS:=hS.nilOwn 5 1
    replace hS:=hS.dVar (A:=A) (g:=Kz) (by decide)
    replace hS:=hS.pk1
    refine Zb0 H (.inr rfl) rfl rfl rfl ?_
    exact⟨_,_,rfl,hS⟩
  · replace hm:=Zu hm aC
    refine wp_skip (Za (wp_seq (wp_region_lit (n_q H (Zc rfl) rfl (W_q (Zc rfl) rfl (W_q (Qh Tryz.underlying100 rfl aA) rfl (W_q (Ze8 rfl rfl) rfl ?_)))))));clear H a;intro a H
    replace hm:=Tw hm;obtain⟨aB,hm⟩:=hm
    refine n_q H (Zd7 Tryz.underlying100 sz5 (show _=some (Value.slice aH a0.length aI) by rw [← aA];rfl) rfl aB.1 (by omega)) rfl (W_q (Zb rfl) rfl ?_);clear H a;intro a H
    refine Ze (Za (wp_seq (wp_seq (Gx [] 9 (by kernel_rfl) ?_))))
    obtain⟨aM,aF⟩ : ∃ x,x=w.drew:=⟨_,rfl⟩;rw [← aF];have aO : Ext w aM:=by rw [aF];exact Ext.drew' _
    clear aF
    replace hS:=hS.ext aO
    have bB:=hS
    have hW:=Nat.le_refl aM.heap.size
    refine Zh 0 H rfl (Zc rfl) rfl (by kernel_rfl) (by kernel_rfl) (by kernel_rfl) (by kernel_rfl) (fun _ _ _ h=>h) ?_;clear H a;intro a H
    refine Zh 3 H rfl (Zc rfl) rfl (by kernel_rfl) (by kernel_rfl) (by kernel_rfl) (by kernel_rfl) (fun _ _ _ h=>h) ?_;clear H a;intro a H
    refine Zh 4 H rfl (Zc rfl) rfl (by kernel_rfl) (by kernel_rfl) (by kernel_rfl) (by kernel_rfl) (fun _ _ _ h=>h) ?_;clear H a;intro a H
    obtain⟨bF,bG,aP,bC,bD⟩:=SlR.formV (SlR.takeV (h0.ext (Zq.mono _) hS.x) aA aB.1 aB.2)
    refine Zh 5 H rfl (Qh Tryz.underlying100 rfl aP) rfl (by kernel_rfl) (by kernel_rfl) (by kernel_rfl) (by kernel_rfl) (fun _ _ _ h=>h) ?_;clear H a;intro a H
    replace hm:=Tw hm;obtain⟨aD,hm⟩:=hm
    obtain⟨aX,aY,aQ,aE⟩:=Zk1 1 (Zq eB) aH a0.length aI a0 (lo:=(((a0.take (IntKind.i64.wrap (((a0.length : Nat) : Int) - 4)).toNat).length : Nat) : Int)) (hi:=((a0.length : Nat) : Int)) aD.1 aD.2.1 aD.2.2
    rw [← aA] at aE
    refine Zh 6 H rfl (Qt (Zhx Tryz.underlying100 sz5 (show _=some (Value.slice aH a0.length aI) by rw [← aA];rfl) rfl aD.1 (by omega)) (show _=Value.slice aX (((a0.length : Nat) : Int).toNat - (((a0.take (IntKind.i64.wrap (((a0.length : Nat) : Int) - 4)).toNat).length : Nat) : Int).toNat) aY by rw [← aQ];simp)) rfl (by kernel_rfl) (by kernel_rfl) (by kernel_rfl) (by kernel_rfl) (fun _ _ _ h=>h) ?_;clear H a;intro a H
    replace hm:=Zk hm;obtain⟨bH,aR,hm⟩:=hm
    refine Xl 1 (by kernel_rfl) ?_
    refine Xo 1 H rfl rfl en137 (Zeh (A:=A) (SlR.takeV (h0.ext (Zq.mono _) hS.x) aA aB.1 aB.2) aR) rfl (fun v w hv=>.inl (ChgF.of_ext (by obtain⟨_,hE0⟩:=hv;exact hE0))) ?_
    clear H;intro bI bJ hv;clear a;intro a H;obtain⟨rfl,aJ⟩:=hv
    replace hS:=hS.ext aJ
    replace hW:=Nat.le_trans hW aJ.size
    replace hm:=Zk hm;obtain⟨bK,aS,hm⟩:=hm
    refine Xl 2 (by kernel_rfl) ?_
    refine Xo 2 H rfl rfl en172 (Zdh (A:=A) aS) rfl (fun v w hv=>.inl (ChgF.of_ext (by obtain⟨_,_,hE0⟩:=hv;exact hE0.x))) ?_
    clear H;intro bL bM hv;clear a;intro a H;obtain⟨_,rfl,aK⟩:=hv
    replace hS:=hS.new aK;simp only [List.cons_append,List.nil_append] at hS
    replace hW:=Nat.le_trans hW aK.x.size
    replace hm:=Zk hm;obtain⟨bN,aT,hm⟩:=hm
    refine Xl 7 (by kernel_rfl) ?_
    refine Xo 7 H rfl rfl en173 (Zej (A:=A) ((hS.own 0 rfl).slr rfl (fun _ _=>rfl)) (aE _ (h0.ext (Zq.mono _) hS.x)) aT) rfl (fun v w hv=>.inl (ChgF.of_ext (by obtain⟨_,hE0⟩:=hv;exact hE0))) ?_
    clear H;intro bO bP hv;clear a;intro a H;obtain⟨rfl,aL⟩:=hv
    replace hS:=hS.ext aL
    replace hW:=Nat.le_trans hW aL.size
    refine Zh 8 H rfl (Zgp rfl) rfl (by kernel_rfl) (by kernel_rfl) (by kernel_rfl) (by kernel_rfl) (fun _ _ _ h=>h) ?_;clear H a;intro a H
    refine Xh (by kernel_rfl) ?_
    refine Za (Zl H rfl (fun aG=>?_) (fun aG=>?_))
    · replace hm:=Zt hm aG
      refine wp_seq (Hs (by kernel_rfl) (by kernel_rfl) ?_)
      refine Wn H (Zf rfl ((hG.ext hS.x).ld gSum (by decide) Wy)) rfl ?_;clear H a;intro a H
      refine Wn H (Zb rfl) rfl ?_;clear H a;intro a H
      refine Wn H (Zb rfl) rfl ?_;clear H a;intro a H
      refine Za1 ?_;intro bQ aU
      replace hS:=hS.ext aU
      refine Za (wp_ret (Zg ?_))
      obtain rfl:=Option.some.inj hm
      replace hS:=hS.nilOwn 5 1
      replace hS:=hS.dVar (A:=A) (g:=gSum) (by decide)
      replace hS:=hS.pk1
      replace hS:=hS.tk2
      refine Zb0 H (.inr rfl) rfl rfl rfl ?_
      exact⟨_,_,rfl,hS⟩
    · replace hm:=Zu hm aG
      refine wp_skip (Za (wp_seq (wp_region_lit (n_q H (Zc rfl) rfl ?_))));clear H a;intro a H
      replace hm:=Zk hm;obtain⟨bR,aV,hm⟩:=hm
      refine Zj H rfl en171 (Za9 (A:=A) (SlR.takeV (h0.ext (Zq.mono _) hS.x) aA aB.1 aB.2) aV) rfl ?_
      clear H;intro bS bT hv;clear a;intro a H;obtain⟨_,rfl,aW⟩:=hv
      replace hS:=hS.new aW;simp only [List.cons_append,List.nil_append] at hS
      refine n_q H (Zb rfl) rfl (W_q (Zb rfl) rfl ?_);clear H a;intro a H
      refine Ze (Za (wp_ret ?_))
      obtain rfl:=Option.some.inj hm
      replace hS:=hS.dNil (A:=A)
      replace hS:=hS.pk1
      replace hS:=hS.tk2
      refine Zb0 H (.inr rfl) rfl rfl rfl ?_
      exact⟨_,_,rfl,hS⟩
theorem Zgg {w : World} {A : Nat → Addr} {v0 : Value} {a0 : List UInt8} (h0 : SlR w 1 (Zq eB) v0 a0) {r : GWireCursor} (hm : Te a0=some r) :
    Calls Tryz.prog 100 [v0].toArray w (Ret fun u w'=>∃ (h_0 : Nat) (h_1 : Value),u=.pointer (some ⟨h_0,0,none⟩) ∧ St NB w w' [blkR h_0 [h_1,.int .i64 r.at_,.int .i64 r.bound_] 248,ownR 5 1 h_1 r.b_.length (r.b_.flatMap eB)]):=by
  have hS:=St.begin NB w
  unfold Te at hm
  refine enter Tryz.func100 rfl rfl rfl ?_;intro a H;dsimp only [Qo,Nat.zero_add,Nat.reduceAdd] at H
  refine wp_seq (wp_region_lit (n_q H (Zb rfl) rfl ?_));clear H a;intro a H
  refine Ze (Za (wp_seq (wp_region_lit (n_q H (Zc rfl) rfl ?_))));clear H a;intro a H
  replace hm:=Zk hm;obtain⟨aH,aB,hm⟩:=hm
  refine Zj H rfl Zo8 (Wd (A:=A) (h0.ext (Zq.mono _) hS.x) aB) rfl ?_
  clear H;intro aA aI hv;clear a;intro a H;obtain⟨_,rfl,aC⟩:=hv
  replace hS:=hS.new aC;simp only [List.cons_append,List.nil_append] at hS
  refine n_q H (Zc rfl) rfl ?_;clear H a;intro a H
  obtain⟨aJ,aK,aD,aF,aG⟩:=SlR.formV (h0.ext (Zq.mono _) hS.x)
  refine n_q H (Qh Tryz.underlying100 rfl aD) rfl (W_q (Qc (cs:=[aA,.int .i64 0,.int .i64 ((a0.length : Nat) : Int)]) ze248 bd248 pl248 rfl ((Zy (((hS.own 0 rfl).slr rfl (fun _ _=>rfl))).one rfl (by simp)).trans ((Zy rfl rfl (by simp)).trans rfl))) rfl ?_);clear H a;intro a H
  refine Uc H rfl (cs:=[aA,.int .i64 0,.int .i64 ((a0.length : Nat) : Int)]) rfl rfl ?_
  clear H;intro aL aM hN aE hs;clear a;intro a H
  replace hS:=hS.newBlk hN aE hs;clear hN hs
  refine n_q H (Zb rfl) rfl ?_;clear H a;intro a H
  refine Ze (Za (wp_ret ?_))
  obtain rfl:=Option.some.inj hm
  refine Jb H (.inr rfl) rfl rfl ?_
  exact⟨_,_,rfl,hS⟩
theorem Xg {w : World} {A : Nat → Addr} {fp : Nat → Prop} {b0 : Nat} {v0_0 : Value} {a0 : GWireCursor} (hP : Sep w fp [blkR b0 [v0_0,.int .i64 a0.at_,.int .i64 a0.bound_] 248]) (ro0_b : ∀ w',ChgP fp w w' → SlR w' 1 (Zq eB) v0_0 a0.b_) {r : Int × GWireCursor} (hm : Qn a0=some r) :
    Calls Tryz.prog 104 [.pointer (some ⟨b0,0,none⟩)].toArray w (Ret fun u w'=>u=.int .i64 r.1 ∧ St fp w w' [blkR b0 [v0_0,.int .i64 r.2.at_,.int .i64 r.2.bound_] 248]):=by
  have hS:=St.init hP
  unfold Qn at hm
  refine enter Tryz.func104 rfl rfl rfl ?_;intro a H;dsimp only [Qo,Nat.zero_add,Nat.reduceAdd] at H
  refine wp_seq (wp_region_lit (n_q H (Zb rfl) rfl ?_));clear H a;intro a H
  refine Ze (Za (wp_seq (Hs (by kernel_rfl) (by kernel_rfl) ?_)))
  refine Wn H (Zc rfl) rfl ?_;clear H a;intro a H
  refine Wn H (Zs rfl) rfl ?_;clear H a;intro a H
  refine Wn H (Zd rfl Zln) rfl ?_;clear H a;intro a H
  refine Wn H (Zf rfl ((hS.blk 0 rfl).ld ag3 rfl)) rfl ?_;clear H a;intro a H
  refine Wn H (Zc rfl) rfl ?_;clear H a;intro a H
  refine Wn H (Zs rfl) rfl ?_;clear H a;intro a H
  refine Wn H (Zd rfl Vp) rfl ?_;clear H a;intro a H
  refine Wn H (Zf rfl ((hS.blk 0 rfl).ld ag3 rfl)) rfl ?_;clear H a;intro a H
  refine Wn H (Ze8 rfl rfl) rfl ?_;clear H a;intro a H
  refine Wn H (Zb rfl) rfl ?_;clear H a;intro a H
  refine Za1 ?_;intro aB aA
  replace hS:=hS.ext aA
  refine Za (wp_ret ?_)
  obtain rfl:=Option.some.inj hm
  refine Jb H (.inr rfl) rfl rfl ?_
  exact⟨rfl,hS⟩
theorem Ug {w : World} {A : Nat → Addr} {fp : Nat → Prop} {b0 : Nat} {v0_0 : Value} {a0 : GWireCursor} {a1 : Int} (hG : ∀ w',ChgP fp w w' → EV A w') (hP : Sep w fp [blkR b0 [v0_0,.int .i64 a0.at_,.int .i64 a0.bound_] 248]) (ro0_b : ∀ w',ChgP fp w w' → SlR w' 1 (Zq eB) v0_0 a0.b_) {r : List UInt8 × ErrM × GWireCursor} (hm : Xf a0 a1=some r) :
    Calls Tryz.prog 101 [.pointer (some ⟨b0,0,none⟩),.int .i64 a1].toArray w (Ret fun u w'=>∃ h_0 h_1,u=.tuple #[h_0,h_1] ∧ St fp w w' [blkR b0 [v0_0,.int .i64 r.2.2.at_,.int .i64 r.2.2.bound_] 248,ownR 5 1 h_0 r.1.length (r.1.flatMap eB),erQ A h_1 r.2.1]):=by
  have hS:=St.init hP
  unfold Xf at hm
  refine enter Tryz.func101 rfl rfl rfl ?_;intro a H;dsimp only [Qo,Nat.zero_add,Nat.reduceAdd] at H
  refine wp_seq (wp_region_lit (n_q H (Zb rfl) rfl (W_q (Zb rfl) rfl ?_)));clear H a;intro a H
  refine Ze (Za (wp_seq (wp_seq (wp_region_lit (n_q H (Zc rfl) rfl (W_q (Wh rfl rfl) rfl ?_))))));clear H a;intro a H
  refine Ze (Za (Zl H rfl (fun aC=>?_) (fun aC=>?_)))
  · replace hm:=Zt hm aC
    refine wp_seq (Hs (by kernel_rfl) (by kernel_rfl) ?_)
    refine Wn H (Zf rfl ((hG _ hS.chg).ld gArg (by decide) Wy)) rfl ?_;clear H a;intro a H
    refine Wn H (Zb rfl) rfl ?_;clear H a;intro a H
    refine Wn H (Zb rfl) rfl ?_;clear H a;intro a H
    refine Za1 ?_;intro bG aU
    replace hS:=hS.ext aU
    refine Za (wp_ret (Zg ?_))
    obtain rfl:=Option.some.inj hm
    replace hS:=hS.nilOwn 5 1
    replace hS:=hS.dVar (A:=A) (g:=gArg) (by decide)
    replace hS:=hS.pk1
    replace hS:=hS.pk2
    refine Zb0 H (.inr rfl) rfl rfl rfl ?_
    exact⟨_,_,rfl,hS⟩
  · replace hm:=Zu hm aC
    refine wp_skip (Za (wp_seq (wp_seq (wp_region_lit (n_q H (Zc rfl) rfl ?_)))));clear H a;intro a H
    obtain⟨bD,aI,aJ,aV,aK⟩:=hS.frame (rs1:=[blkR b0 [v0_0,.int .i64 a0.at_,.int .i64 a0.bound_] 248])
    replace hm:=Zk hm;obtain⟨aQ,aW,hm⟩:=hm
    refine Zj H rfl Zg7 (Xg (A:=A) aI (a0:=(⟨a0.b_,a0.at_,a0.bound_⟩ : GWireCursor)) (fun w' hw=>ro0_b _ (aJ _ hw)) aW) rfl ?_
    clear H;intro bH aH hv;clear a;intro a H;obtain⟨rfl,aX⟩:=hv
    replace hS:=aK _ _ aX;simp only [List.cons_append,List.nil_append] at hS;clear aI aJ aV aK
    refine n_q H (Zc rfl) rfl (W_q (Wh rfl rfl) rfl ?_);clear H a;intro a H
    refine Ze (Za (Zl H rfl (fun aD=>?_) (fun aD=>?_)))
    · replace hm:=Zt hm aD
      refine wp_seq (Gx [] 8 (by kernel_rfl) ?_)
      obtain⟨aL,aE⟩ : ∃ x,x=aH.drew:=⟨_,rfl⟩;rw [← aE];have aY : Ext aH aL:=by rw [aE];exact Ext.drew' _
      clear aE
      replace hS:=hS.ext aY
      have aM:=hS
      have hW:=Nat.le_refl aL.heap.size
      refine Zh 0 H rfl (Zc rfl) rfl (by kernel_rfl) (by kernel_rfl) (by kernel_rfl) (by kernel_rfl) (fun _ _ _ h=>h) ?_;clear H a;intro a H
      refine Zh 1 H rfl (Zs rfl) rfl (by kernel_rfl) (by kernel_rfl) (by kernel_rfl) (by kernel_rfl) (fun _ _ _ h=>h) ?_;clear H a;intro a H
      refine Zh 2 H rfl (Zd rfl Vp) rfl (by kernel_rfl) (by kernel_rfl) (by kernel_rfl) (by kernel_rfl) (fun _ _ _ h=>h) ?_;clear H a;intro a H
      refine Xq 3 H rfl (Zf rfl (LdC.old ((aM.blk 0 rfl).ld ag3 rfl) Ext.rfl' (Nat.le_refl _) (by simp))) rfl (by kernel_rfl) (by kernel_rfl) (by kernel_rfl) (by kernel_rfl) (fun _ _ _ h=>h) ?_;clear H a;intro a H
      refine Xq 4 H rfl (Zf rfl (LdC.old ((hG _ aM.chg).ld Kz (by decide) Wy) Ext.rfl' (Nat.le_refl _) (by simp))) rfl (by kernel_rfl) (by kernel_rfl) (by kernel_rfl) (by kernel_rfl) (fun _ _ _ h=>h) ?_;clear H a;intro a H
      replace hm:=Zk hm;obtain⟨bI,aZ,hm⟩:=hm
      refine Xl 5 (by kernel_rfl) ?_
      refine Xo 5 H rfl rfl Zg2 (We (A:=A) (Xa.var (by decide) : IsE A aL _ (.v Kz)) aZ) rfl (fun v w hv=>.inl (ChgF.of_ext (by obtain⟨_,_,hE0⟩:=hv;exact hE0.x))) ?_
      clear H;intro bJ bK hv;clear a;intro a H;obtain⟨_,rfl,aN⟩:=hv
      replace hS:=hS.new aN;simp only [List.cons_append,List.nil_append] at hS
      replace hW:=Nat.le_trans hW aN.x.size
      refine Zh 6 H rfl (Zb rfl) rfl (by kernel_rfl) (by kernel_rfl) (by kernel_rfl) (by kernel_rfl) (fun _ _ _ h=>h) ?_;clear H a;intro a H
      refine Zh 7 H rfl (Zb rfl) rfl (by kernel_rfl) (by kernel_rfl) (by kernel_rfl) (by kernel_rfl) (fun _ _ _ h=>h) ?_;clear H a;intro a H
      refine Xh (by kernel_rfl) ?_
      refine Za (wp_ret (Zg ?_))
      obtain rfl:=Option.some.inj hm
      replace hS:=hS.nilOwn 5 1
      replace hS:=hS.pk1
      replace hS:=hS.pk1
      replace hS:=hS.pk2
      refine Zb0 H (.inr rfl) rfl rfl rfl ?_
      exact⟨_,_,rfl,hS⟩
    · replace hm:=Zu hm aD
      refine wp_skip (Za (wp_seq (Gx [] 17 (by kernel_rfl) ?_)))
      obtain⟨aR,aF⟩ : ∃ x,x=aH.drew:=⟨_,rfl⟩;rw [← aF];have a9 : Ext aH aR:=by rw [aF];exact Ext.drew' _
      clear aF
      replace hS:=hS.ext a9
      have aG:=hS
      have hW:=Nat.le_refl aR.heap.size
      refine Zh 0 H rfl (Zc rfl) rfl (by kernel_rfl) (by kernel_rfl) (by kernel_rfl) (by kernel_rfl) (fun _ _ _ h=>h) ?_;clear H a;intro a H
      refine Zh 1 H rfl (Zs rfl) rfl (by kernel_rfl) (by kernel_rfl) (by kernel_rfl) (by kernel_rfl) (fun _ _ _ h=>h) ?_;clear H a;intro a H
      refine Zh 2 H rfl (Zd rfl Zh9) rfl (by kernel_rfl) (by kernel_rfl) (by kernel_rfl) (by kernel_rfl) (fun _ _ _ h=>h) ?_;clear H a;intro a H
      refine Xq 3 H rfl (Zf rfl (LdC.old ((aG.blk 0 rfl).ld Zjz rfl) Ext.rfl' (Nat.le_refl _) (by simp))) rfl (by kernel_rfl) (by kernel_rfl) (by kernel_rfl) (by kernel_rfl) (fun _ _ _ h=>h) ?_;clear H a;intro a H
      refine Zh 4 H rfl (Zc rfl) rfl (by kernel_rfl) (by kernel_rfl) (by kernel_rfl) (by kernel_rfl) (fun _ _ _ h=>h) ?_;clear H a;intro a H
      refine Zh 5 H rfl (Zs rfl) rfl (by kernel_rfl) (by kernel_rfl) (by kernel_rfl) (by kernel_rfl) (fun _ _ _ h=>h) ?_;clear H a;intro a H
      refine Zh 6 H rfl (Zd rfl Vp) rfl (by kernel_rfl) (by kernel_rfl) (by kernel_rfl) (by kernel_rfl) (fun _ _ _ h=>h) ?_;clear H a;intro a H
      refine Xq 7 H rfl (Zf rfl (LdC.old ((aG.blk 0 rfl).ld ag3 rfl) Ext.rfl' (Nat.le_refl _) (by simp))) rfl (by kernel_rfl) (by kernel_rfl) (by kernel_rfl) (by kernel_rfl) (fun _ _ _ h=>h) ?_;clear H a;intro a H
      refine Zh 8 H rfl (Zc rfl) rfl (by kernel_rfl) (by kernel_rfl) (by kernel_rfl) (by kernel_rfl) (fun _ _ _ h=>h) ?_;clear H a;intro a H
      refine Zh 9 H rfl (Zs rfl) rfl (by kernel_rfl) (by kernel_rfl) (by kernel_rfl) (by kernel_rfl) (fun _ _ _ h=>h) ?_;clear H a;intro a H
      refine Zh 10 H rfl (Zd rfl Vp) rfl (by kernel_rfl) (by kernel_rfl) (by kernel_rfl) (by kernel_rfl) (fun _ _ _ h=>h) ?_;clear H a;intro a H
      refine Xq 11 H rfl (Zf rfl (LdC.old ((aG.blk 0 rfl).ld ag3 rfl) Ext.rfl' (Nat.le_refl _) (by simp))) rfl (by kernel_rfl) (by kernel_rfl) (by kernel_rfl) (by kernel_rfl) (fun _ _ _ h=>h) ?_;clear H a;intro a H
      refine Zh 12 H rfl (Zc rfl) rfl (by kernel_rfl) (by kernel_rfl) (by kernel_rfl) (by kernel_rfl) (fun _ _ _ h=>h) ?_;clear H a;intro a H
      refine Zh 13 H rfl (Xy rfl rfl) rfl (by kernel_rfl) (by kernel_rfl) (by kernel_rfl) (by kernel_rfl) (fun _ _ _ h=>h) ?_;clear H a;intro a H
      obtain⟨aS,aT,aO,bE,bF⟩:=SlR.formV (ro0_b _ hS.chg)
      replace hm:=Tw hm;obtain⟨aA,hm⟩:=hm
      obtain⟨bL,bM,bA,aB⟩:=Zk1 1 (Zq eB) aS a0.b_.length aT a0.b_ (lo:=aQ.2.at_) (hi:=(IntKind.i64.wrap (aQ.2.at_ + a1))) aA.1 aA.2.1 aA.2.2
      rw [← aO] at aB
      refine Zh 14 H rfl (Qt (Zkq Tryz.underlying100 sz5 (show _=some (Value.slice aS a0.b_.length aT) by rw [← aO];rfl) rfl rfl aA.1 aA.2.1 (by omega)) bA) rfl (by kernel_rfl) (by kernel_rfl) (by kernel_rfl) (by kernel_rfl) (fun _ _ _ h=>h) ?_;clear H a;intro a H
      replace hm:=Zk hm;obtain⟨bN,bB,hm⟩:=hm
      refine Xl 15 (by kernel_rfl) ?_
      refine Xo 15 H rfl rfl Zo8 (Wd (A:=A) (aB _ (ro0_b _ hS.chg)) bB) rfl (fun v w hv=>.inl (ChgF.of_ext (by obtain⟨_,_,hE0⟩:=hv;exact hE0.x))) ?_
      clear H;intro bO bP hv;clear a;intro a H;obtain⟨_,rfl,aP⟩:=hv
      replace hS:=hS.new aP;simp only [List.cons_append,List.nil_append] at hS
      replace hW:=Nat.le_trans hW aP.x.size
      refine Zh 16 H rfl (Zb rfl) rfl (by kernel_rfl) (by kernel_rfl) (by kernel_rfl) (by kernel_rfl) (fun _ _ _ h=>h) ?_;clear H a;intro a H
      refine Xh (by kernel_rfl) ?_
      refine Za (wp_seq (wp_region_lit (n_q H (Zc rfl) rfl (W_q (Zs rfl) rfl (W_q (Zd rfl Vp) rfl (W_q (Zf rfl ((hS.blk 1 rfl).ld ag3 rfl)) rfl (W_q (Zc rfl) rfl (W_q (Xy rfl rfl) rfl (W_q (Zs rfl) rfl (W_q (Zd rfl Vp) rfl ?_))))))))));clear H a;intro a H
      replace hS:=hS.pk1
      refine Kk H rfl rfl sz3 (hS.blk 0 rfl) (by simp) rfl ?_
      clear H;intro bQ hN bC hz;clear a;intro a H;replace hS:=hS.setBlk hN bC;clear hN hz
      try simp only [List.set_cons_succ,List.set_cons_zero] at hS
      refine Ze (Za (wp_seq (wp_region_lit (n_q H (Zc rfl) rfl (W_q (Zb rfl) rfl (W_q (Zb rfl) rfl ?_))))));clear H a;intro a H
      refine Ze (Za (wp_ret ?_))
      obtain rfl:=Option.some.inj hm
      replace hS:=hS.dNil (A:=A)
      replace hS:=hS.pk2
      replace hS:=hS.pk2
      refine Zb0 H (.inr rfl) rfl rfl rfl ?_
      exact⟨_,_,rfl,hS⟩
theorem Wq {w : World} {A : Nat → Addr} {fp : Nat → Prop} {b0 : Nat} {v0_0 : Value} {a0 : GWireCursor} {a1 : Int} {a2 : Int} (hP : Sep w fp [blkR b0 [v0_0,.int .i64 a0.at_,.int .i64 a0.bound_] 248]) (ro0_b : ∀ w',ChgP fp w w' → SlR w' 1 (Zq eB) v0_0 a0.b_) {r : Int × GWireCursor} (hm : Qx a0 a1 a2=some r) :
    Calls Tryz.prog 238 [.pointer (some ⟨b0,0,none⟩),.int .i64 a1,.int .i64 a2].toArray w (Ret fun u w'=>u=.int .i64 r.1 ∧ St fp w w' [blkR b0 [v0_0,.int .i64 r.2.at_,.int .i64 r.2.bound_] 248]):=by
  have hS:=St.init hP
  unfold Qx at hm
  refine enter Tryz.func238 rfl rfl rfl ?_;intro a H;dsimp only [Qo,Nat.zero_add,Nat.reduceAdd] at H
  refine wp_seq (wp_region_lit (n_q H (Zb rfl) rfl ?_));clear H a;intro a H
  refine Ze (Za (wp_seq (wp_region_lit (n_q H (Zb rfl) rfl ?_))));clear H a;intro a H
  refine Ze (Za (wp_seq (wp_seq (Hs (by kernel_rfl) (by kernel_rfl) ?_))))
  refine Wn H (Zc rfl) rfl ?_;clear H a;intro a H
  refine Wn H (Zs rfl) rfl ?_;clear H a;intro a H
  refine Wn H (Zd rfl Zh9) rfl ?_;clear H a;intro a H
  refine Wn H (Zf rfl ((hS.blk 0 rfl).ld Zjz rfl)) rfl ?_;clear H a;intro a H
  refine Wn H (Zc rfl) rfl ?_;clear H a;intro a H
  refine Wn H (Zs rfl) rfl ?_;clear H a;intro a H
  refine Wn H (Zd rfl Vp) rfl ?_;clear H a;intro a H
  refine Wn H (Zf rfl ((hS.blk 0 rfl).ld ag3 rfl)) rfl ?_;clear H a;intro a H
  refine Wn H (Zc rfl) rfl ?_;clear H a;intro a H
  refine Wn H (Xy rfl rfl) rfl ?_;clear H a;intro a H
  refine Wn H (Zc rfl) rfl ?_;clear H a;intro a H
  refine Wn H (Zs rfl) rfl ?_;clear H a;intro a H
  refine Wn H (Zd rfl Vp) rfl ?_;clear H a;intro a H
  refine Wn H (Zf rfl ((hS.blk 0 rfl).ld ag3 rfl)) rfl ?_;clear H a;intro a H
  refine Wn H (Zc rfl) rfl ?_;clear H a;intro a H
  refine Wn H (Xy rfl rfl) rfl ?_;clear H a;intro a H
  refine Wn H (Zc rfl) rfl ?_;clear H a;intro a H
  refine Wn H (Xy rfl rfl) rfl ?_;clear H a;intro a H
  obtain⟨aK,aL,aI,aX,aY⟩:=SlR.formV (ro0_b _ hS.chg)
  replace hm:=Tw hm;obtain⟨aC,hm⟩:=hm
  obtain⟨aQ,aR,aN,aB⟩:=Zk1 1 (Zq eB) aK a0.b_.length aL a0.b_ (lo:=(IntKind.i64.wrap (a0.at_ + a1))) (hi:=(IntKind.i64.wrap ((IntKind.i64.wrap (a0.at_ + a1)) + a2))) aC.1 aC.2.1 aC.2.2
  rw [← aI] at aB
  refine Wn H (Qt (Zkq Tryz.underlying100 sz5 (show _=some (Value.slice aK a0.b_.length aL) by rw [← aI];rfl) rfl rfl aC.1 aC.2.1 (by omega)) aN) rfl ?_;clear H a;intro a H
  obtain⟨bA,bB,aE,aZ,a9⟩:=SlR.formV (aB _ (ro0_b _ hS.chg))
  refine Wn H (Qh Tryz.underlying100 rfl aE) rfl ?_;clear H a;intro a H
  refine Wn H (Zc rfl) rfl ?_;clear H a;intro a H
  refine Za1 ?_;intro bC aO
  replace hS:=hS.ext aO
  refine Za (wp_block ?_)
  replace hm:=Zk hm;obtain⟨aM,hm,aP⟩:=hm;replace hm:=Qk hm;obtain⟨aS,hm⟩:=hm
  refine Kh (σ:=Nat × Int × Nat) (fun (m,aD,aA)=>[(0,.pointer (some ⟨b0,0,none⟩)),(7,.int .i64 aD),(28,.slice aQ ((IntKind.i64.wrap ((IntKind.i64.wrap (a0.at_ + a1)) + a2)).toNat - (IntKind.i64.wrap (a0.at_ + a1)).toNat) aR),(29,.int .i64 ((((a0.b_.drop (IntKind.i64.wrap (a0.at_ + a1)).toNat).take ((IntKind.i64.wrap ((IntKind.i64.wrap (a0.at_ + a1)) + a2)).toNat - (IntKind.i64.wrap (a0.at_ + a1)).toNat)).length : Nat) : Int)),(30,.int .i64 ((aA : Nat) : Int))]) (fun (m,aD,aA) wl=>Kl (Qy a0 a1 a2) m (aD,aA)=some aM ∧ St fp w wl [blkR b0 [v0_0,.int .i64 a0.at_,.int .i64 a0.bound_] 248]) (fun (m,aD,aA)=>m) (aS,0,0) H ⟨rfl,rfl,rfl,rfl,rfl,trivial⟩ ⟨hm,hS⟩ ?_
  clear H hS hm a;intro xx a bD H hR;obtain⟨m,aD,aA⟩:=xx;simp only [ent,List.map_cons,List.map_nil] at H;(try dsimp only at hR);obtain⟨hm,hS⟩:=hR
  replace hm:=Qd hm;obtain⟨aT,bE,rfl,hm,aJ⟩:=hm;try dsimp only [Qy] at hm
  refine wp_seq (wp_region_lit (n_q H (Ki (i:=aA) (j:=(((a0.b_.drop (IntKind.i64.wrap (a0.at_ + a1)).toNat).take ((IntKind.i64.wrap ((IntKind.i64.wrap (a0.at_ + a1)) + a2)).toNat - (IntKind.i64.wrap (a0.at_ + a1)).toNat)).length)) rfl rfl) rfl ?_));clear H a;intro a H
  refine Ze (Za (wp_seq (Zl H rfl (fun aF=>?_) (fun aF=>?_))))
  · replace hm:=Zt hm aF
    have aV : aA < ((a0.b_.drop (IntKind.i64.wrap (a0.at_ + a1)).toNat).take ((IntKind.i64.wrap ((IntKind.i64.wrap (a0.at_ + a1)) + a2)).toNat - (IntKind.i64.wrap (a0.at_ + a1)).toNat)).length:=of_decide_eq_true aF
    refine wp_skip (Za (wp_seq (wp_block (wp_seq (wp_region_lit ?_)))))
    replace hm:=Zk hm;obtain⟨aU,aG,hm⟩:=hm
    obtain⟨aW,aH⟩:=SlR.adV (aB _ (ro0_b _ hS.chg)) aE aG
    refine n_q H (Uq (i:=aA) Tryz.underlying100 sz5 rfl aE aH rfl (Zb9 aG)) rfl (W_q (Zf rfl (SlR.ldOneV (aB _ (ro0_b _ hS.chg)) aE aH ag5 aG rfl)) rfl (W_q (Zb rfl) rfl ?_));clear H a;intro a H
    refine Ze (Za (wp_region_lit (n_q H (Zc rfl) rfl (W_q (Zoi rfl rfl (by decide)) rfl (W_q (Zc rfl) rfl (W_q (Qt (Wo Tryz.underlying5 Tryz.underlying3 ⟨_,rfl⟩ rfl) (Zcg _)) rfl (W_q (q_or rfl rfl) rfl (W_q (Zb rfl) rfl ?_))))))));clear H a;intro a H
    refine Ze (Zn (Za (wp_region_lit (n_q H (Yx (i:=aA) (j:=1) rfl rfl (by omega)) rfl (W_q (Zc rfl) rfl ?_)))));clear H a;intro a H
    refine Ze (Za ?_)
    obtain rfl:=Option.some.inj hm
    exact Wm (aT,(Zju .i64 (shL .i64 aD 8) (aU.toNat : Int)),aA + 1) H ⟨rfl,rfl,rfl,rfl,rfl,trivial⟩ ⟨aJ,hS⟩ (Nat.lt_succ_self _)
  · replace hm:=Zu hm aF
    refine wp_exit (Zo (Zo (Qb ?_)))
    obtain rfl:=Option.some.inj hm;have hz : _=aM:=aJ;subst hz;replace hm:=aP;try dsimp only at hm
    refine Za (wp_seq (wp_region_lit (n_q H (Zc rfl) rfl (W_q (Zb rfl) rfl ?_))));clear H a;intro a H
    refine Ze (Za (wp_ret ?_))
    obtain rfl:=Option.some.inj hm
    refine Jb H (.inr rfl) rfl rfl ?_
    exact⟨rfl,hS⟩
theorem Vy {w : World} {A : Nat → Addr} {fp : Nat → Prop} {b0 : Nat} {v0_0 : Value} {a0 : GWireCursor} {a1 : Int} {a2 : Int} {a3 : Int} (hG : ∀ w',ChgP fp w w' → EV A w') (hP : Sep w fp [blkR b0 [v0_0,.int .i64 a0.at_,.int .i64 a0.bound_] 248]) (ro0_b : ∀ w',ChgP fp w w' → SlR w' 1 (Zq eB) v0_0 a0.b_) {r : Int × ErrM × GWireCursor} (hm : Qa a0 a1 a2 a3=some r) :
    Calls Tryz.prog 175 [.pointer (some ⟨b0,0,none⟩),.int .i64 a1,.int .i64 a2,.int .i64 a3].toArray w (Ret fun u w'=>∃ h_0,u=.tuple #[.int .i64 r.1,h_0] ∧ St fp w w' [blkR b0 [v0_0,.int .i64 r.2.2.at_,.int .i64 r.2.2.bound_] 248,erQ A h_0 r.2.1]):=by
  have hS:=St.init hP
  unfold Qa at hm
  refine enter Tryz.func175 rfl rfl rfl ?_;intro a H;dsimp only [Qo,Nat.zero_add,Nat.reduceAdd] at H
  refine wp_seq (wp_region_lit (n_q H (Zb rfl) rfl (W_q (Zb rfl) rfl ?_)));clear H a;intro a H
  refine Ze (Za (wp_seq (wp_seq (wp_region_lit (n_c H (fun HC=>?_))))));clear H
  refine Hk HC (Zc rfl) rfl (by kernel_rfl) (V_q (Hv rfl rfl) rfl (by kernel_rfl) (V_q (Zc rfl) rfl (by kernel_rfl) (V_g (Zc rfl) (by kernel_rfl) (by kernel_rfl) (by kernel_rfl) (V_g (Hv rfl rfl) (by kernel_rfl) (by kernel_rfl) (by kernel_rfl) (Zoz (j:=2) rfl rfl rfl (by kernel_rfl) (by kernel_rfl) (V_q (Zc rfl) rfl (by kernel_rfl) (V_g (Zc rfl) (by kernel_rfl) (by kernel_rfl) (by kernel_rfl) (V_g (Hv rfl rfl) (by kernel_rfl) (by kernel_rfl) (by kernel_rfl) (Zoz (j:=6) rfl rfl rfl (by kernel_rfl) (by kernel_rfl) ?_)))))))));clear HC a;intro a HC
  have H:=HC.has;clear HC
  refine Ze (Za (Zl H rfl (fun aA=>?_) (fun aA=>?_)))
  · replace hm:=Zt hm aA
    refine wp_seq (Hs (by kernel_rfl) (by kernel_rfl) ?_)
    refine Wn H (Zf rfl ((hG _ hS.chg).ld gArg (by decide) Wy)) rfl ?_;clear H a;intro a H
    refine Wn H (Zb rfl) rfl ?_;clear H a;intro a H
    refine Wn H (Zb rfl) rfl ?_;clear H a;intro a H
    refine Za1 ?_;intro bH aU
    replace hS:=hS.ext aU
    refine Za (wp_ret (Zg ?_))
    obtain rfl:=Option.some.inj hm
    replace hS:=hS.dVar (A:=A) (g:=gArg) (by decide)
    replace hS:=hS.pk1
    refine Zb0 H (.inr rfl) rfl rfl rfl ?_
    exact⟨_,rfl,hS⟩
  · replace hm:=Zu hm aA
    refine wp_skip (Za (wp_seq (wp_seq (wp_region_lit (n_q H (Zc rfl) rfl ?_)))));clear H a;intro a H
    obtain⟨bF,aG,aH,aV,aI⟩:=hS.frame (rs1:=[blkR b0 [v0_0,.int .i64 a0.at_,.int .i64 a0.bound_] 248])
    replace hm:=Zk hm;obtain⟨aF,aW,hm⟩:=hm
    refine Zj H rfl Zg7 (Xg (A:=A) aG (a0:=(⟨a0.b_,a0.at_,a0.bound_⟩ : GWireCursor)) (fun w' hw=>ro0_b _ (aH _ hw)) aW) rfl ?_
    clear H;intro bI aS hv;clear a;intro a H;obtain⟨rfl,aX⟩:=hv
    replace hS:=aI _ _ aX;simp only [List.cons_append,List.nil_append] at hS;clear aG aH aV aI
    refine n_q H (Zc rfl) rfl (W_q (Wh rfl rfl) rfl ?_);clear H a;intro a H
    refine Ze (Za (Zl H rfl (fun aB=>?_) (fun aB=>?_)))
    · replace hm:=Zt hm aB
      refine wp_seq (Gx [] 8 (by kernel_rfl) ?_)
      obtain⟨aJ,aC⟩ : ∃ x,x=aS.drew:=⟨_,rfl⟩;rw [← aC];have aY : Ext aS aJ:=by rw [aC];exact Ext.drew' _
      clear aC
      replace hS:=hS.ext aY
      have aK:=hS
      have hW:=Nat.le_refl aJ.heap.size
      refine Zh 0 H rfl (Zc rfl) rfl (by kernel_rfl) (by kernel_rfl) (by kernel_rfl) (by kernel_rfl) (fun _ _ _ h=>h) ?_;clear H a;intro a H
      refine Zh 1 H rfl (Zs rfl) rfl (by kernel_rfl) (by kernel_rfl) (by kernel_rfl) (by kernel_rfl) (fun _ _ _ h=>h) ?_;clear H a;intro a H
      refine Zh 2 H rfl (Zd rfl Vp) rfl (by kernel_rfl) (by kernel_rfl) (by kernel_rfl) (by kernel_rfl) (fun _ _ _ h=>h) ?_;clear H a;intro a H
      refine Xq 3 H rfl (Zf rfl (LdC.old ((aK.blk 0 rfl).ld ag3 rfl) Ext.rfl' (Nat.le_refl _) (by simp))) rfl (by kernel_rfl) (by kernel_rfl) (by kernel_rfl) (by kernel_rfl) (fun _ _ _ h=>h) ?_;clear H a;intro a H
      refine Xq 4 H rfl (Zf rfl (LdC.old ((hG _ aK.chg).ld Kz (by decide) Wy) Ext.rfl' (Nat.le_refl _) (by simp))) rfl (by kernel_rfl) (by kernel_rfl) (by kernel_rfl) (by kernel_rfl) (fun _ _ _ h=>h) ?_;clear H a;intro a H
      replace hm:=Zk hm;obtain⟨bJ,aZ,hm⟩:=hm
      refine Xl 5 (by kernel_rfl) ?_
      refine Xo 5 H rfl rfl Zg2 (We (A:=A) (Xa.var (by decide) : IsE A aJ _ (.v Kz)) aZ) rfl (fun v w hv=>.inl (ChgF.of_ext (by obtain⟨_,_,hE0⟩:=hv;exact hE0.x))) ?_
      clear H;intro bK bL hv;clear a;intro a H;obtain⟨_,rfl,aL⟩:=hv
      replace hS:=hS.new aL;simp only [List.cons_append,List.nil_append] at hS
      replace hW:=Nat.le_trans hW aL.x.size
      refine Zh 6 H rfl (Zb rfl) rfl (by kernel_rfl) (by kernel_rfl) (by kernel_rfl) (by kernel_rfl) (fun _ _ _ h=>h) ?_;clear H a;intro a H
      refine Zh 7 H rfl (Zb rfl) rfl (by kernel_rfl) (by kernel_rfl) (by kernel_rfl) (by kernel_rfl) (fun _ _ _ h=>h) ?_;clear H a;intro a H
      refine Xh (by kernel_rfl) ?_
      refine Za (wp_ret (Zg ?_))
      obtain rfl:=Option.some.inj hm
      replace hS:=hS.pk1
      refine Zb0 H (.inr rfl) rfl rfl rfl ?_
      exact⟨_,rfl,hS⟩
    · replace hm:=Zu hm aB
      refine wp_skip (Za (wp_seq (wp_region_lit (n_q H (Zc rfl) rfl (W_q (Zc rfl) rfl ?_)))));clear H a;intro a H
      obtain⟨bG,aM,aN,a9,aO⟩:=hS.frame (rs1:=[blkR b0 [v0_0,.int .i64 aF.2.at_,.int .i64 aF.2.bound_] 248])
      replace hm:=Zk hm;obtain⟨bM,bA,hm⟩:=hm
      refine Zj H rfl Zpi (Wq (A:=A) aM (a0:=(⟨a0.b_,aF.2.at_,aF.2.bound_⟩ : GWireCursor)) (fun w' hw=>ro0_b _ (aN _ hw)) bA) rfl ?_
      clear H;intro bN aT hv;clear a;intro a H;obtain⟨rfl,bB⟩:=hv
      replace hS:=aO _ _ bB;simp only [List.cons_append,List.nil_append] at hS;clear aM aN a9 aO
      refine n_q H (Zb rfl) rfl ?_;clear H a;intro a H
      refine Ze (Za (wp_seq (wp_seq (wp_region_lit (n_c H (fun HC=>?_))))));clear H
      refine Hk HC (Zc rfl) rfl (by kernel_rfl) (V_q (Zc rfl) rfl (by kernel_rfl) (V_q (Wh rfl rfl) rfl (by kernel_rfl) (V_q (Zc rfl) rfl (by kernel_rfl) (V_g (Zc rfl) (by kernel_rfl) (by kernel_rfl) (by kernel_rfl) (V_g (Zc rfl) (by kernel_rfl) (by kernel_rfl) (by kernel_rfl) (V_g (Gn rfl rfl) (by kernel_rfl) (by kernel_rfl) (by kernel_rfl) (Zdz (j:=3) rfl rfl rfl (by kernel_rfl) (by kernel_rfl) ?_)))))));clear HC a;intro a HC
      have H:=HC.has;clear HC
      refine Ze (Za (Zl H rfl (fun aD=>?_) (fun aD=>?_)))
      · replace hm:=Zt hm aD
        refine wp_seq (Gx [] 8 (by kernel_rfl) ?_)
        obtain⟨aP,aE⟩ : ∃ x,x=aT.drew:=⟨_,rfl⟩;rw [← aE];have bC : Ext aT aP:=by rw [aE];exact Ext.drew' _
        clear aE
        replace hS:=hS.ext bC
        have aQ:=hS
        have hW:=Nat.le_refl aP.heap.size
        refine Zh 0 H rfl (Zc rfl) rfl (by kernel_rfl) (by kernel_rfl) (by kernel_rfl) (by kernel_rfl) (fun _ _ _ h=>h) ?_;clear H a;intro a H
        refine Zh 1 H rfl (Zs rfl) rfl (by kernel_rfl) (by kernel_rfl) (by kernel_rfl) (by kernel_rfl) (fun _ _ _ h=>h) ?_;clear H a;intro a H
        refine Zh 2 H rfl (Zd rfl Vp) rfl (by kernel_rfl) (by kernel_rfl) (by kernel_rfl) (by kernel_rfl) (fun _ _ _ h=>h) ?_;clear H a;intro a H
        refine Xq 3 H rfl (Zf rfl (LdC.old ((aQ.blk 0 rfl).ld ag3 rfl) Ext.rfl' (Nat.le_refl _) (by simp))) rfl (by kernel_rfl) (by kernel_rfl) (by kernel_rfl) (by kernel_rfl) (fun _ _ _ h=>h) ?_;clear H a;intro a H
        refine Xq 4 H rfl (Zf rfl (LdC.old ((hG _ aQ.chg).ld Jf (by decide) Wy) Ext.rfl' (Nat.le_refl _) (by simp))) rfl (by kernel_rfl) (by kernel_rfl) (by kernel_rfl) (by kernel_rfl) (fun _ _ _ h=>h) ?_;clear H a;intro a H
        replace hm:=Zk hm;obtain⟨bO,bD,hm⟩:=hm
        refine Xl 5 (by kernel_rfl) ?_
        refine Xo 5 H rfl rfl Zg2 (We (A:=A) (Xa.var (by decide) : IsE A aP _ (.v Jf)) bD) rfl (fun v w hv=>.inl (ChgF.of_ext (by obtain⟨_,_,hE0⟩:=hv;exact hE0.x))) ?_
        clear H;intro bP bQ hv;clear a;intro a H;obtain⟨_,rfl,aR⟩:=hv
        replace hS:=hS.new aR;simp only [List.cons_append,List.nil_append] at hS
        replace hW:=Nat.le_trans hW aR.x.size
        refine Zh 6 H rfl (Zb rfl) rfl (by kernel_rfl) (by kernel_rfl) (by kernel_rfl) (by kernel_rfl) (fun _ _ _ h=>h) ?_;clear H a;intro a H
        refine Zh 7 H rfl (Zb rfl) rfl (by kernel_rfl) (by kernel_rfl) (by kernel_rfl) (by kernel_rfl) (fun _ _ _ h=>h) ?_;clear H a;intro a H
        refine Xh (by kernel_rfl) ?_
        refine Za (wp_ret (Zg ?_))
        obtain rfl:=Option.some.inj hm
        replace hS:=hS.pk1
        refine Zb0 H (.inr rfl) rfl rfl rfl ?_
        exact⟨_,rfl,hS⟩
      · replace hm:=Zu hm aD
        refine wp_skip (Za (wp_seq (wp_region_lit (n_q H (Zc rfl) rfl (W_q (Zs rfl) rfl (W_q (Zd rfl Vp) rfl (W_q (Zf rfl ((hS.blk 0 rfl).ld ag3 rfl)) rfl (W_q (Zc rfl) rfl (W_q (Xy rfl rfl) rfl (W_q (Zs rfl) rfl (W_q (Zd rfl Vp) rfl ?_)))))))))));clear H a;intro a H
        refine Kk H rfl rfl sz3 (hS.blk 0 rfl) (by simp) rfl ?_
        clear H;intro bR hN bE hz;clear a;intro a H;replace hS:=hS.setBlk hN bE;clear hN hz
        try simp only [List.set_cons_succ,List.set_cons_zero] at hS
        refine Ze (Za (wp_seq (wp_region_lit (n_q H (Zc rfl) rfl (W_q (Zb rfl) rfl (W_q (Zb rfl) rfl ?_))))));clear H a;intro a H
        refine Ze (Za (wp_ret ?_))
        obtain rfl:=Option.some.inj hm
        replace hS:=hS.dNil (A:=A)
        replace hS:=hS.pk1
        refine Zb0 H (.inr rfl) rfl rfl rfl ?_
        exact⟨_,rfl,hS⟩
theorem Uh {w : World} {A : Nat → Addr} {fp : Nat → Prop} {b0 : Nat} {v0_0 : Value} {a0 : GWireCursor} (hG : ∀ w',ChgP fp w w' → EV A w') (hP : Sep w fp [blkR b0 [v0_0,.int .i64 a0.at_,.int .i64 a0.bound_] 248]) (ro0_b : ∀ w',ChgP fp w w' → SlR w' 1 (Zq eB) v0_0 a0.b_) {r : Int × ErrM × GWireCursor} (hm : Jo a0=some r) :
    Calls Tryz.prog 102 [.pointer (some ⟨b0,0,none⟩)].toArray w (Ret fun u w'=>∃ h_0,u=.tuple #[.int .i64 r.1,h_0] ∧ St fp w w' [blkR b0 [v0_0,.int .i64 r.2.2.at_,.int .i64 r.2.2.bound_] 248,erQ A h_0 r.2.1]):=by
  have hS:=St.init hP
  unfold Jo at hm
  refine enter Tryz.func102 rfl rfl rfl ?_;intro a H;dsimp only [Qo,Nat.zero_add,Nat.reduceAdd] at H
  refine wp_seq (wp_region_lit (n_q H (Zb rfl) rfl (W_q (Zb rfl) rfl ?_)));clear H a;intro a H
  refine Ze (Za (wp_seq (wp_region_lit (n_q H (Zc rfl) rfl ?_))));clear H a;intro a H
  replace hm:=Zk hm;obtain⟨aJ,aD,hm⟩:=hm
  refine Zj H rfl Zm6 (Hf (A:=A) aD) rfl ?_
  clear H;intro aK aL hv;clear a;intro a H;obtain⟨rfl,aE⟩:=hv
  replace hS:=hS.ext aE
  obtain⟨aI,aB,aA,aF,aC⟩:=hS.frame (rs1:=[blkR b0 [v0_0,.int .i64 a0.at_,.int .i64 a0.bound_] 248])
  replace hm:=Zk hm;obtain⟨aM,aG,hm⟩:=hm
  refine Zj H rfl Zpf (Vy (A:=A) (fun w' hw=>hG _ (aA _ hw)) aB (a0:=(⟨a0.b_,a0.at_,a0.bound_⟩ : GWireCursor)) (fun w' hw=>ro0_b _ (aA _ hw)) aG) rfl ?_
  clear H;intro aN aO hv;clear a;intro a H;obtain⟨aP,rfl,aH⟩:=hv
  replace hS:=aC _ _ aH;simp only [List.cons_append,List.nil_append] at hS;clear aB aA aF aC
  refine n_q H (Zi rfl rfl) rfl (W_q (Zi rfl rfl) rfl (W_q (Zb rfl) rfl (W_q (Zb rfl) rfl ?_)));clear H a;intro a H
  refine Ze (Za (wp_ret ?_))
  obtain rfl:=Option.some.inj hm
  refine Zb0 H (.inr rfl) rfl rfl rfl ?_
  exact⟨_,rfl,hS⟩
theorem Hc {w : World} {A : Nat → Addr} {fp : Nat → Prop} {b0 : Nat} {v0_0 : Value} {a0 : GWireCursor} (hG : ∀ w',ChgP fp w w' → EV A w') (hP : Sep w fp [blkR b0 [v0_0,.int .i64 a0.at_,.int .i64 a0.bound_] 248]) (ro0_b : ∀ w',ChgP fp w w' → SlR w' 1 (Zq eB) v0_0 a0.b_) {r : Bool × ErrM × GWireCursor} (hm : Ka a0=some r) :
    Calls Tryz.prog 103 [.pointer (some ⟨b0,0,none⟩)].toArray w (Ret fun u w'=>∃ h_0,u=.tuple #[.bool r.1,h_0] ∧ St fp w w' [blkR b0 [v0_0,.int .i64 r.2.2.at_,.int .i64 r.2.2.bound_] 248,erQ A h_0 r.2.1]):=by
  have hS:=St.init hP
  unfold Ka at hm
  refine enter Tryz.func103 rfl rfl rfl ?_;intro a H;dsimp only [Qo,Nat.zero_add,Nat.reduceAdd] at H
  refine wp_seq (wp_region_lit (n_q H (Zb rfl) rfl (W_q (Zb rfl) rfl ?_)));clear H a;intro a H
  refine Ze (Za (wp_seq (wp_region_lit (n_q H (Zc rfl) rfl ?_))));clear H a;intro a H
  obtain⟨aG,aB,aA,aD,aC⟩:=hS.frame (rs1:=[blkR b0 [v0_0,.int .i64 a0.at_,.int .i64 a0.bound_] 248])
  replace hm:=Zk hm;obtain⟨aH,aE,hm⟩:=hm
  refine Zj H rfl Zpf (Vy (A:=A) (fun w' hw=>hG _ (aA _ hw)) aB (a0:=(⟨a0.b_,a0.at_,a0.bound_⟩ : GWireCursor)) (fun w' hw=>ro0_b _ (aA _ hw)) aE) rfl ?_
  clear H;intro aI aJ hv;clear a;intro a H;obtain⟨aK,rfl,aF⟩:=hv
  replace hS:=aC _ _ aF;simp only [List.cons_append,List.nil_append] at hS;clear aB aA aD aC
  refine n_q H (Zc rfl) rfl (W_q (Zi rfl rfl) rfl (W_q (Zi rfl rfl) rfl (W_q (Zb rfl) rfl (W_q (Zb rfl) rfl ?_))));clear H a;intro a H
  refine Ze (Za (wp_seq (wp_region_lit (n_q H (Zc rfl) rfl (W_q (Wu rfl rfl) rfl (W_q (Zc rfl) rfl (W_q (Zb rfl) rfl (W_q (Zb rfl) rfl ?_))))))));clear H a;intro a H
  refine Ze (Za (wp_ret ?_))
  obtain rfl:=Option.some.inj hm
  refine Zb0 H (.inr rfl) rfl rfl rfl ?_
  exact⟨_,rfl,hS⟩
theorem Zbl {w : World} {A : Nat → Addr} {fp : Nat → Prop} {b0 : Nat} {v0_0 : Value} {a0 : GWireCursor} (hG : ∀ w',ChgP fp w w' → EV A w') (hP : Sep w fp [blkR b0 [v0_0,.int .i64 a0.at_,.int .i64 a0.bound_] 248]) (ro0_b : ∀ w',ChgP fp w w' → SlR w' 1 (Zq eB) v0_0 a0.b_) {r : Int × Int × ErrM × GWireCursor} (hm : Kb a0=some r) :
    Calls Tryz.prog 177 [.pointer (some ⟨b0,0,none⟩)].toArray w (Ret fun u w'=>∃ h_0,u=.tuple #[.int .i64 r.1,.int .i64 r.2.1,h_0] ∧ St fp w w' [blkR b0 [v0_0,.int .i64 r.2.2.2.at_,.int .i64 r.2.2.2.bound_] 248,erQ A h_0 r.2.2.1]):=by
  have hS:=St.init hP
  unfold Kb at hm
  refine enter Tryz.func177 rfl rfl rfl ?_;intro a H;dsimp only [Qo,Nat.zero_add,Nat.reduceAdd] at H
  refine wp_seq (wp_region_lit (n_q H (Zb rfl) rfl (W_q (Zb rfl) rfl (W_q (Zb rfl) rfl ?_))));clear H a;intro a H
  refine Ze (Za (wp_seq (wp_seq (wp_region_lit (n_q H (Zc rfl) rfl ?_)))));clear H a;intro a H
  obtain⟨bC,aE,aF,aR,aG⟩:=hS.frame (rs1:=[blkR b0 [v0_0,.int .i64 a0.at_,.int .i64 a0.bound_] 248])
  replace hm:=Zk hm;obtain⟨aD,aS,hm⟩:=hm
  refine Zj H rfl Zg7 (Xg (A:=A) aE (a0:=(⟨a0.b_,a0.at_,a0.bound_⟩ : GWireCursor)) (fun w' hw=>ro0_b _ (aF _ hw)) aS) rfl ?_
  clear H;intro bF aQ hv;clear a;intro a H;obtain⟨rfl,aT⟩:=hv
  replace hS:=aG _ _ aT;simp only [List.cons_append,List.nil_append] at hS;clear aE aF aR aG
  refine n_q H (Wh rfl rfl) rfl ?_;clear H a;intro a H
  refine Ze (Za (Zl H rfl (fun aB=>?_) (fun aB=>?_)))
  · replace hm:=Zt hm aB
    refine wp_seq (Gx [] 9 (by kernel_rfl) ?_)
    obtain⟨aH,aC⟩ : ∃ x,x=aQ.drew:=⟨_,rfl⟩;rw [← aC];have aU : Ext aQ aH:=by rw [aC];exact Ext.drew' _
    clear aC
    replace hS:=hS.ext aU
    have aI:=hS
    have hW:=Nat.le_refl aH.heap.size
    refine Zh 0 H rfl (Zc rfl) rfl (by kernel_rfl) (by kernel_rfl) (by kernel_rfl) (by kernel_rfl) (fun _ _ _ h=>h) ?_;clear H a;intro a H
    refine Zh 1 H rfl (Zs rfl) rfl (by kernel_rfl) (by kernel_rfl) (by kernel_rfl) (by kernel_rfl) (fun _ _ _ h=>h) ?_;clear H a;intro a H
    refine Zh 2 H rfl (Zd rfl Vp) rfl (by kernel_rfl) (by kernel_rfl) (by kernel_rfl) (by kernel_rfl) (fun _ _ _ h=>h) ?_;clear H a;intro a H
    refine Xq 3 H rfl (Zf rfl (LdC.old ((aI.blk 0 rfl).ld ag3 rfl) Ext.rfl' (Nat.le_refl _) (by simp))) rfl (by kernel_rfl) (by kernel_rfl) (by kernel_rfl) (by kernel_rfl) (fun _ _ _ h=>h) ?_;clear H a;intro a H
    refine Xq 4 H rfl (Zf rfl (LdC.old ((hG _ aI.chg).ld Kz (by decide) Wy) Ext.rfl' (Nat.le_refl _) (by simp))) rfl (by kernel_rfl) (by kernel_rfl) (by kernel_rfl) (by kernel_rfl) (fun _ _ _ h=>h) ?_;clear H a;intro a H
    replace hm:=Zk hm;obtain⟨bG,aV,hm⟩:=hm
    refine Xl 5 (by kernel_rfl) ?_
    refine Xo 5 H rfl rfl Zg2 (We (A:=A) (Xa.var (by decide) : IsE A aH _ (.v Kz)) aV) rfl (fun v w hv=>.inl (ChgF.of_ext (by obtain⟨_,_,hE0⟩:=hv;exact hE0.x))) ?_
    clear H;intro u32 bH hv;clear a;intro a H;obtain⟨_,rfl,aJ⟩:=hv
    replace hS:=hS.new aJ;simp only [List.cons_append,List.nil_append] at hS
    replace hW:=Nat.le_trans hW aJ.x.size
    refine Zh 6 H rfl (Zb rfl) rfl (by kernel_rfl) (by kernel_rfl) (by kernel_rfl) (by kernel_rfl) (fun _ _ _ h=>h) ?_;clear H a;intro a H
    refine Zh 7 H rfl (Zb rfl) rfl (by kernel_rfl) (by kernel_rfl) (by kernel_rfl) (by kernel_rfl) (fun _ _ _ h=>h) ?_;clear H a;intro a H
    refine Zh 8 H rfl (Zb rfl) rfl (by kernel_rfl) (by kernel_rfl) (by kernel_rfl) (by kernel_rfl) (fun _ _ _ h=>h) ?_;clear H a;intro a H
    refine Xh (by kernel_rfl) ?_
    refine Za (wp_ret (Zg ?_))
    obtain rfl:=Option.some.inj hm
    replace hS:=hS.pk1
    refine Zad H (.inr rfl) rfl (vs:=[.int .i64 0,.int .i64 0,u32]) (Ku rfl (Ku rfl (Ku rfl Xw))) ?_
    exact⟨_,rfl,hS⟩
  · replace hm:=Zu hm aB
    refine wp_skip (Za (wp_seq (wp_region_lit (n_q H (Zc rfl) rfl ?_))));clear H a;intro a H
    obtain⟨bD,aK,aL,aW,aM⟩:=hS.frame (rs1:=[blkR b0 [v0_0,.int .i64 aD.2.at_,.int .i64 aD.2.bound_] 248])
    replace hm:=Zk hm;obtain⟨aA,aX,hm⟩:=hm
    refine Zj H rfl Zpi (Wq (A:=A) aK (a0:=(⟨a0.b_,aD.2.at_,aD.2.bound_⟩ : GWireCursor)) (fun w' hw=>ro0_b _ (aL _ hw)) aX) rfl ?_
    clear H;intro bI bJ hv;clear a;intro a H;obtain⟨rfl,aY⟩:=hv
    replace hS:=aM _ _ aY;simp only [List.cons_append,List.nil_append] at hS;clear aK aL aW aM
    refine n_q H (Zc rfl) rfl ?_;clear H a;intro a H
    obtain⟨bE,aN,aO,aZ,aP⟩:=hS.frame (rs1:=[blkR b0 [v0_0,.int .i64 aA.2.at_,.int .i64 aA.2.bound_] 248])
    replace hm:=Zk hm;obtain⟨bB,a9,hm⟩:=hm
    refine Zj H rfl Zpi (Wq (A:=A) aN (a0:=(⟨a0.b_,aA.2.at_,aA.2.bound_⟩ : GWireCursor)) (fun w' hw=>ro0_b _ (aO _ hw)) a9) rfl ?_
    clear H;intro bK bL hv;clear a;intro a H;obtain⟨rfl,bA⟩:=hv
    replace hS:=aP _ _ bA;simp only [List.cons_append,List.nil_append] at hS;clear aN aO aZ aP
    refine n_q H (Zb rfl) rfl (W_q (Zb rfl) rfl (W_q (Zb rfl) rfl ?_));clear H a;intro a H
    refine Ze (Za (wp_ret ?_))
    obtain rfl:=Option.some.inj hm
    replace hS:=hS.dNil (A:=A)
    replace hS:=hS.pk1
    refine Zad H (.inr rfl) rfl (vs:=[.int .i64 aA.1,.int .i64 bB.1,.nilIface]) (Ku rfl (Ku rfl (Ku rfl Xw))) ?_
    exact⟨_,rfl,hS⟩
theorem Zba {w : World} {A : Nat → Addr} {fp : Nat → Prop} {b0 : Nat} {v0_0 : Value} {a0 : GWireCursor} {a1 : Int} (hG : ∀ w',ChgP fp w w' → EV A w') (hP : Sep w fp [blkR b0 [v0_0,.int .i64 a0.at_,.int .i64 a0.bound_] 248]) (ro0_b : ∀ w',ChgP fp w w' → SlR w' 1 (Zq eB) v0_0 a0.b_) {r : Option GWireCursor × ErrM × GWireCursor} (hm : Jp a0 a1=some r) :
    Calls Tryz.prog 178 [.pointer (some ⟨b0,0,none⟩),.int .i64 a1].toArray w (Ret fun u w'=>∃ h_0 h_1,u=.tuple #[h_0,h_1] ∧ St fp w w' [blkR b0 [v0_0,.int .i64 r.2.2.at_,.int .i64 r.2.2.bound_] 248,optR (fun (x : GWireCursor) b=>blkR b [v0_0,.int .i64 x.at_,.int .i64 x.bound_] 248) h_0 r.1,erQ A h_1 r.2.1]):=by
  have hS:=St.init hP
  unfold Jp at hm
  refine enter Tryz.func178 rfl rfl rfl ?_;intro a H;dsimp only [Qo,Nat.zero_add,Nat.reduceAdd] at H
  refine wp_seq (wp_region_lit (n_q H (Zb rfl) rfl (W_q (Zb rfl) rfl ?_)));clear H a;intro a H
  refine Ze (Za (wp_seq (wp_seq (wp_region_lit (n_q H (Zc rfl) rfl (W_q (Zc rfl) rfl ?_))))));clear H a;intro a H
  obtain⟨aX,aG,aH,aO,aI⟩:=hS.frame (rs1:=[blkR b0 [v0_0,.int .i64 a0.at_,.int .i64 a0.bound_] 248])
  replace hm:=Zk hm;obtain⟨aA,aP,hm⟩:=hm
  refine Zj H rfl Zg7 (Xg (A:=A) aG (a0:=(⟨a0.b_,a0.at_,a0.bound_⟩ : GWireCursor)) (fun w' hw=>ro0_b _ (aH _ hw)) aP) rfl ?_
  clear H;intro aY aF hv;clear a;intro a H;obtain⟨rfl,aQ⟩:=hv
  replace hS:=aI _ _ aQ;simp only [List.cons_append,List.nil_append] at hS;clear aG aH aO aI
  refine n_q H (Ze8 rfl rfl) rfl (W_q (Gn rfl rfl) rfl ?_);clear H a;intro a H
  refine Ze (Za (Zl H rfl (fun aB=>?_) (fun aB=>?_)))
  · replace hm:=Zt hm aB
    refine wp_seq (Gx [] 9 (by kernel_rfl) ?_)
    obtain⟨aJ,aC⟩ : ∃ x,x=aF.drew:=⟨_,rfl⟩;rw [← aC];have aR : Ext aF aJ:=by rw [aC];exact Ext.drew' _
    clear aC
    replace hS:=hS.ext aR
    have aK:=hS
    have hW:=Nat.le_refl aJ.heap.size
    refine Zh 0 H rfl (Zc rfl) rfl (by kernel_rfl) (by kernel_rfl) (by kernel_rfl) (by kernel_rfl) (fun _ _ _ h=>h) ?_;clear H a;intro a H
    refine Zh 1 H rfl (Zs rfl) rfl (by kernel_rfl) (by kernel_rfl) (by kernel_rfl) (by kernel_rfl) (fun _ _ _ h=>h) ?_;clear H a;intro a H
    refine Zh 2 H rfl (Zd rfl Vp) rfl (by kernel_rfl) (by kernel_rfl) (by kernel_rfl) (by kernel_rfl) (fun _ _ _ h=>h) ?_;clear H a;intro a H
    refine Xq 3 H rfl (Zf rfl (LdC.old ((aK.blk 0 rfl).ld ag3 rfl) Ext.rfl' (Nat.le_refl _) (by simp))) rfl (by kernel_rfl) (by kernel_rfl) (by kernel_rfl) (by kernel_rfl) (fun _ _ _ h=>h) ?_;clear H a;intro a H
    refine Zh 4 H rfl (Xy rfl rfl) rfl (by kernel_rfl) (by kernel_rfl) (by kernel_rfl) (by kernel_rfl) (fun _ _ _ h=>h) ?_;clear H a;intro a H
    refine Xq 5 H rfl (Zf rfl (LdC.old ((hG _ aK.chg).ld Yy (by decide) Wy) Ext.rfl' (Nat.le_refl _) (by simp))) rfl (by kernel_rfl) (by kernel_rfl) (by kernel_rfl) (by kernel_rfl) (fun _ _ _ h=>h) ?_;clear H a;intro a H
    replace hm:=Zk hm;obtain⟨aZ,aS,hm⟩:=hm
    refine Xl 6 (by kernel_rfl) ?_
    refine Xo 6 H rfl rfl Zg2 (We (A:=A) (Xa.var (by decide) : IsE A aJ _ (.v Yy)) aS) rfl (fun v w hv=>.inl (ChgF.of_ext (by obtain⟨_,_,hE0⟩:=hv;exact hE0.x))) ?_
    clear H;intro u32 a9 hv;clear a;intro a H;obtain⟨_,rfl,aL⟩:=hv
    replace hS:=hS.new aL;simp only [List.cons_append,List.nil_append] at hS
    replace hW:=Nat.le_trans hW aL.x.size
    refine Zh 7 H rfl (Zb rfl) rfl (by kernel_rfl) (by kernel_rfl) (by kernel_rfl) (by kernel_rfl) (fun _ _ _ h=>h) ?_;clear H a;intro a H
    refine Zh 8 H rfl (Zb rfl) rfl (by kernel_rfl) (by kernel_rfl) (by kernel_rfl) (by kernel_rfl) (fun _ _ _ h=>h) ?_;clear H a;intro a H
    refine Xh (by kernel_rfl) ?_
    refine Za (wp_ret (Zg ?_))
    obtain rfl:=Option.some.inj hm
    replace hS:=St.optNone (fun (x : GWireCursor) b=>blkR b [v0_0,.int .i64 x.at_,.int .i64 x.bound_] 248) hS
    replace hS:=hS.pk1
    replace hS:=hS.pk1
    replace hS:=hS.pk2
    refine Zb0 H (.inr rfl) rfl rfl rfl ?_
    exact⟨_,_,rfl,hS⟩
  · replace hm:=Zu hm aB
    refine wp_skip (Za (wp_seq (Gx [] 19 (by kernel_rfl) ?_)))
    obtain⟨aM,aD⟩ : ∃ x,x=aF.drew:=⟨_,rfl⟩;rw [← aD];have aT : Ext aF aM:=by rw [aD];exact Ext.drew' _
    clear aD
    replace hS:=hS.ext aT
    have aE:=hS
    have hW:=Nat.le_refl aM.heap.size
    refine Zh 0 H rfl (Zc rfl) rfl (by kernel_rfl) (by kernel_rfl) (by kernel_rfl) (by kernel_rfl) (fun _ _ _ h=>h) ?_;clear H a;intro a H
    refine Zh 1 H rfl (Zs rfl) rfl (by kernel_rfl) (by kernel_rfl) (by kernel_rfl) (by kernel_rfl) (fun _ _ _ h=>h) ?_;clear H a;intro a H
    refine Zh 2 H rfl (Zd rfl Zh9) rfl (by kernel_rfl) (by kernel_rfl) (by kernel_rfl) (by kernel_rfl) (fun _ _ _ h=>h) ?_;clear H a;intro a H
    refine Xq 3 H rfl (Zf rfl (LdC.old ((aE.blk 0 rfl).ld Zjz rfl) Ext.rfl' (Nat.le_refl _) (by simp))) rfl (by kernel_rfl) (by kernel_rfl) (by kernel_rfl) (by kernel_rfl) (fun _ _ _ h=>h) ?_;clear H a;intro a H
    refine Zh 4 H rfl (Zc rfl) rfl (by kernel_rfl) (by kernel_rfl) (by kernel_rfl) (by kernel_rfl) (fun _ _ _ h=>h) ?_;clear H a;intro a H
    refine Zh 5 H rfl (Zs rfl) rfl (by kernel_rfl) (by kernel_rfl) (by kernel_rfl) (by kernel_rfl) (fun _ _ _ h=>h) ?_;clear H a;intro a H
    refine Zh 6 H rfl (Zd rfl Vp) rfl (by kernel_rfl) (by kernel_rfl) (by kernel_rfl) (by kernel_rfl) (fun _ _ _ h=>h) ?_;clear H a;intro a H
    refine Xq 7 H rfl (Zf rfl (LdC.old ((aE.blk 0 rfl).ld ag3 rfl) Ext.rfl' (Nat.le_refl _) (by simp))) rfl (by kernel_rfl) (by kernel_rfl) (by kernel_rfl) (by kernel_rfl) (fun _ _ _ h=>h) ?_;clear H a;intro a H
    refine Zh 8 H rfl (Xy rfl rfl) rfl (by kernel_rfl) (by kernel_rfl) (by kernel_rfl) (by kernel_rfl) (fun _ _ _ h=>h) ?_;clear H a;intro a H
    refine Zh 9 H rfl (Zc rfl) rfl (by kernel_rfl) (by kernel_rfl) (by kernel_rfl) (by kernel_rfl) (fun _ _ _ h=>h) ?_;clear H a;intro a H
    refine Zh 10 H rfl (Zs rfl) rfl (by kernel_rfl) (by kernel_rfl) (by kernel_rfl) (by kernel_rfl) (fun _ _ _ h=>h) ?_;clear H a;intro a H
    refine Zh 11 H rfl (Zd rfl Vp) rfl (by kernel_rfl) (by kernel_rfl) (by kernel_rfl) (by kernel_rfl) (fun _ _ _ h=>h) ?_;clear H a;intro a H
    refine Xq 12 H rfl (Zf rfl (LdC.old ((aE.blk 0 rfl).ld ag3 rfl) Ext.rfl' (Nat.le_refl _) (by simp))) rfl (by kernel_rfl) (by kernel_rfl) (by kernel_rfl) (by kernel_rfl) (fun _ _ _ h=>h) ?_;clear H a;intro a H
    refine Zh 13 H rfl (Xy rfl rfl) rfl (by kernel_rfl) (by kernel_rfl) (by kernel_rfl) (by kernel_rfl) (fun _ _ _ h=>h) ?_;clear H a;intro a H
    refine Zh 14 H rfl (Zc rfl) rfl (by kernel_rfl) (by kernel_rfl) (by kernel_rfl) (by kernel_rfl) (fun _ _ _ h=>h) ?_;clear H a;intro a H
    refine Zh 15 H rfl (Xy rfl rfl) rfl (by kernel_rfl) (by kernel_rfl) (by kernel_rfl) (by kernel_rfl) (fun _ _ _ h=>h) ?_;clear H a;intro a H
    refine Zh 16 H rfl (Qc (cs:=[v0_0,.int .i64 (IntKind.i64.wrap (aA.2.at_ + 3)),.int .i64 (IntKind.i64.wrap ((IntKind.i64.wrap (aA.2.at_ + 3)) + a1))]) ze248 bd248 pl248 rfl ((Zy ((ro0_b _ hS.chg)).one rfl (by simp)).trans ((Zy rfl rfl (by simp)).trans ((Zy rfl rfl (by simp)).trans rfl)))) rfl (by kernel_rfl) (by kernel_rfl) (by kernel_rfl) (by kernel_rfl) (fun _ _ _ h=>h) ?_;clear H a;intro a H
    refine k_box 17 H rfl rfl (cs:=[v0_0,.int .i64 (IntKind.i64.wrap (aA.2.at_ + 3)),.int .i64 (IntKind.i64.wrap ((IntKind.i64.wrap (aA.2.at_ + 3)) + a1))]) rfl rfl (by kernel_rfl) ?_
    clear H;intro aW bA hN aN hs;clear a;intro a H
    have aV : aM.heap.size ≤ aW:=hs ▸ hW
    replace hS:=hS.newBlk hN aN hs;clear hN hs
    replace hW:=Nat.le_trans hW aN.size
    refine Zh 18 H rfl (Zb rfl) rfl (by kernel_rfl) (by kernel_rfl) (by kernel_rfl) (by kernel_rfl) (fun _ _ _ h=>h) ?_;clear H a;intro a H
    refine Xh (by kernel_rfl) ?_
    refine Za (wp_seq (wp_region_lit (n_q H (Zc rfl) rfl (W_q (Zc rfl) rfl (W_q (Zs rfl) rfl (W_q (Zd rfl Zln) rfl (W_q (Zf rfl ((hS.blk 0 rfl).ld ag3 rfl)) rfl (W_q (Zs rfl) rfl (W_q (Zd rfl Vp) rfl ?_)))))))));clear H a;intro a H
    replace hS:=hS.pk1
    refine Kk H rfl rfl sz3 (hS.blk 0 rfl) (by simp) rfl ?_
    clear H;intro bB hN aU hz;clear a;intro a H;replace hS:=hS.setBlk hN aU;clear hN hz
    try simp only [List.set_cons_succ,List.set_cons_zero] at hS
    refine Ze (Za (wp_seq (wp_region_lit (n_q H (Zc rfl) rfl (W_q (Zb rfl) rfl (W_q (Zb rfl) rfl ?_))))));clear H a;intro a H
    refine Ze (Za (wp_ret ?_))
    obtain rfl:=Option.some.inj hm
    replace hS:=hS.pk1
    replace hS:=St.optSome (g:=(fun (x : GWireCursor) b=>blkR b [v0_0,.int .i64 x.at_,.int .i64 x.bound_] 248)) (⟨a0.b_,(IntKind.i64.wrap (aA.2.at_ + 3)),(IntKind.i64.wrap ((IntKind.i64.wrap (aA.2.at_ + 3)) + a1))⟩ : GWireCursor) hS
    replace hS:=hS.dNil (A:=A)
    replace hS:=hS.pk1
    replace hS:=hS.pk2
    refine Zb0 H (.inr rfl) rfl rfl rfl ?_
    exact⟨_,_,rfl,hS⟩
theorem Zbm {w : World} {A : Nat → Addr} {fp : Nat → Prop} {b0 : Nat} {v0_0 : Value} {a0 : GWireCursor} (hG : ∀ w',ChgP fp w w' → EV A w') (hP : Sep w fp [blkR b0 [v0_0,.int .i64 a0.at_,.int .i64 a0.bound_] 248]) (ro0_b : ∀ w',ChgP fp w w' → SlR w' 1 (Zq eB) v0_0 a0.b_) {r : Int × Option GWireCursor × ErrM × GWireCursor} (hm : Xr a0=some r) :
    Calls Tryz.prog 105 [.pointer (some ⟨b0,0,none⟩)].toArray w (Ret fun u w'=>∃ h_0 h_1,u=.tuple #[.int .i64 r.1,h_0,h_1] ∧ St fp w w' [blkR b0 [v0_0,.int .i64 r.2.2.2.at_,.int .i64 r.2.2.2.bound_] 248,optR (fun (x : GWireCursor) b=>blkR b [v0_0,.int .i64 x.at_,.int .i64 x.bound_] 248) h_0 r.2.1,erQ A h_1 r.2.2.1]):=by
  have hS:=St.init hP
  unfold Xr at hm
  refine enter Tryz.func105 rfl rfl rfl ?_;intro a H;dsimp only [Qo,Nat.zero_add,Nat.reduceAdd] at H
  refine wp_seq (wp_region_lit (n_q H (Zb rfl) rfl (W_q (Zb rfl) rfl (W_q (Zb rfl) rfl ?_))));clear H a;intro a H
  refine Ze (Za (wp_seq (wp_region_lit (n_q H (Zc rfl) rfl ?_))));clear H a;intro a H
  obtain⟨bC,aI,aB,aT,aJ⟩:=hS.frame (rs1:=[blkR b0 [v0_0,.int .i64 a0.at_,.int .i64 a0.bound_] 248])
  replace hm:=Zk hm;obtain⟨aA,aU,hm⟩:=hm
  refine Zj H rfl en177 (Zbl (A:=A) (fun w' hw=>hG _ (aB _ hw)) aI (a0:=(⟨a0.b_,a0.at_,a0.bound_⟩ : GWireCursor)) (fun w' hw=>ro0_b _ (aB _ hw)) aU) rfl ?_
  clear H;intro bE aH hv;clear a;intro a H;obtain⟨aK,rfl,aV⟩:=hv
  replace hS:=aJ _ _ aV;simp only [List.cons_append,List.nil_append] at hS;clear aI aB aT aJ
  refine n_q H (Zc rfl) rfl (W_q (Zi rfl rfl) rfl (W_q (Zi rfl rfl) rfl (W_q (Zi rfl rfl) rfl (W_q (Zb rfl) rfl (W_q (Zb rfl) rfl (W_q (Zb rfl) rfl ?_))))));clear H a;intro a H
  refine Ze (Za (wp_seq (wp_seq (wp_region_lit (n_q H (Zc rfl) rfl (W_q (Qt (Jr Tryz.underlying39 rfl rfl (hS.any 1 rfl : IsE A aH aK aA.2.2.1).form) (show _=Value.bool (!decide (aA.2.2.1=.nil)) by rw [Xa.isNil (hS.any 1 rfl : IsE A aH aK aA.2.2.1)])) rfl ?_))))));clear H a;intro a H
  refine Ze (Za (Zl H rfl (fun aC=>?_) (fun aC=>?_)))
  · replace hm:=Zt hm aC
    refine wp_seq (wp_region_lit (n_q H (Zc rfl) rfl (W_q (Zb rfl) rfl (W_q (Zb rfl) rfl (W_q (Zb rfl) rfl ?_)))));clear H a;intro a H
    refine Ze (Za (wp_ret (Zg ?_)))
    obtain rfl:=Option.some.inj hm
    replace hS:=St.optNone (fun (x : GWireCursor) b=>blkR b [v0_0,.int .i64 x.at_,.int .i64 x.bound_] 248) hS
    replace hS:=hS.pk2
    replace hS:=hS.pk1
    replace hS:=hS.pk2
    refine Zad H (.inr rfl) rfl (vs:=[.int .i64 0,.pointer none,aK]) (Ku rfl (Ku rfl (Ku rfl Xw))) ?_
    exact⟨_,_,rfl,hS⟩
  · replace hm:=Zu hm aC
    refine wp_skip (Za (wp_seq (wp_seq (wp_region_lit (n_q H (Zc rfl) rfl (W_q (Wu rfl rfl) rfl ?_))))));clear H a;intro a H
    refine Ze (Za (Zl H rfl (fun aD=>?_) (fun aD=>?_)))
    · replace hm:=Zt hm aD
      refine wp_seq (Gx [] 9 (by kernel_rfl) ?_)
      obtain⟨aL,aE⟩ : ∃ x,x=aH.drew:=⟨_,rfl⟩;rw [← aE];have aW : Ext aH aL:=by rw [aE];exact Ext.drew' _
      clear aE
      replace hS:=hS.ext aW
      have aM:=hS
      have hW:=Nat.le_refl aL.heap.size
      refine Zh 0 H rfl (Zc rfl) rfl (by kernel_rfl) (by kernel_rfl) (by kernel_rfl) (by kernel_rfl) (fun _ _ _ h=>h) ?_;clear H a;intro a H
      refine Zh 1 H rfl (Zs rfl) rfl (by kernel_rfl) (by kernel_rfl) (by kernel_rfl) (by kernel_rfl) (fun _ _ _ h=>h) ?_;clear H a;intro a H
      refine Zh 2 H rfl (Zd rfl Vp) rfl (by kernel_rfl) (by kernel_rfl) (by kernel_rfl) (by kernel_rfl) (fun _ _ _ h=>h) ?_;clear H a;intro a H
      refine Xq 3 H rfl (Zf rfl (LdC.old ((aM.blk 0 rfl).ld ag3 rfl) Ext.rfl' (Nat.le_refl _) (by simp))) rfl (by kernel_rfl) (by kernel_rfl) (by kernel_rfl) (by kernel_rfl) (fun _ _ _ h=>h) ?_;clear H a;intro a H
      refine Xq 4 H rfl (Zf rfl (LdC.old ((hG _ aM.chg).ld Zjy (by decide) Wy) Ext.rfl' (Nat.le_refl _) (by simp))) rfl (by kernel_rfl) (by kernel_rfl) (by kernel_rfl) (by kernel_rfl) (fun _ _ _ h=>h) ?_;clear H a;intro a H
      replace hm:=Zk hm;obtain⟨bF,aX,hm⟩:=hm
      refine Xl 5 (by kernel_rfl) ?_
      refine Xo 5 H rfl rfl Zg2 (We (A:=A) (Xa.var (by decide) : IsE A aL _ (.v Zjy)) aX) rfl (fun v w hv=>.inl (ChgF.of_ext (by obtain⟨_,_,hE0⟩:=hv;exact hE0.x))) ?_
      clear H;intro bA bG hv;clear a;intro a H;obtain⟨_,rfl,aN⟩:=hv
      replace hS:=hS.new aN;simp only [List.cons_append,List.nil_append] at hS
      replace hW:=Nat.le_trans hW aN.x.size
      refine Zh 6 H rfl (Zb rfl) rfl (by kernel_rfl) (by kernel_rfl) (by kernel_rfl) (by kernel_rfl) (fun _ _ _ h=>h) ?_;clear H a;intro a H
      refine Zh 7 H rfl (Zb rfl) rfl (by kernel_rfl) (by kernel_rfl) (by kernel_rfl) (by kernel_rfl) (fun _ _ _ h=>h) ?_;clear H a;intro a H
      refine Zh 8 H rfl (Zb rfl) rfl (by kernel_rfl) (by kernel_rfl) (by kernel_rfl) (by kernel_rfl) (fun _ _ _ h=>h) ?_;clear H a;intro a H
      refine Xh (by kernel_rfl) ?_
      refine Za (wp_ret (Zg ?_))
      obtain rfl:=Option.some.inj hm
      replace hS:=St.optNone (fun (x : GWireCursor) b=>blkR b [v0_0,.int .i64 x.at_,.int .i64 x.bound_] 248) hS
      replace hS:=hS.pk1
      replace hS:=hS.pk1
      replace hS:=hS.pk2
      replace hS:=hS.tk3
      refine Zad H (.inr rfl) rfl (vs:=[.int .i64 0,.pointer none,bA]) (Ku rfl (Ku rfl (Ku rfl Xw))) ?_
      exact⟨_,_,rfl,hS⟩
    · replace hm:=Zu hm aD
      refine wp_skip (Za (wp_seq (wp_region_lit (n_q H (Zc rfl) rfl (W_q (Zc rfl) rfl ?_)))));clear H a;intro a H
      obtain⟨bD,aO,aF,aY,aP⟩:=hS.frame (rs1:=[blkR b0 [v0_0,.int .i64 aA.2.2.2.at_,.int .i64 aA.2.2.2.bound_] 248])
      replace hm:=Zk hm;obtain⟨aQ,aZ,hm⟩:=hm
      refine Zj H rfl en178 (Zba (A:=A) (fun w' hw=>hG _ (aF _ hw)) aO (a0:=(⟨a0.b_,aA.2.2.2.at_,aA.2.2.2.bound_⟩ : GWireCursor)) (fun w' hw=>ro0_b _ (aF _ hw)) aZ) rfl ?_
      clear H;intro bH aS hv;clear a;intro a H;obtain⟨bB,aR,rfl,a9⟩:=hv
      replace hS:=aP _ _ a9;simp only [List.cons_append,List.nil_append] at hS;clear aO aF aY aP
      refine n_q H (Zc rfl) rfl (W_q (Zi rfl rfl) rfl (W_q (Zi rfl rfl) rfl (W_q (Zb rfl) rfl (W_q (Zb rfl) rfl ?_))));clear H a;intro a H
      refine Ze (Za (wp_seq (wp_seq (wp_region_lit (n_q H (Zc rfl) rfl (W_q (Qt (Jr Tryz.underlying39 rfl rfl (hS.any 2 rfl : IsE A aS aR aQ.2.1).form) (show _=Value.bool (!decide (aQ.2.1=.nil)) by rw [Xa.isNil (hS.any 2 rfl : IsE A aS aR aQ.2.1)])) rfl ?_))))));clear H a;intro a H
      refine Ze (Za (Zl H rfl (fun aG=>?_) (fun aG=>?_)))
      · replace hm:=Zt hm aG
        refine wp_seq (wp_region_lit (n_q H (Zc rfl) rfl (W_q (Zb rfl) rfl (W_q (Zb rfl) rfl (W_q (Zb rfl) rfl ?_)))));clear H a;intro a H
        refine Ze (Za (wp_ret (Zg ?_)))
        obtain rfl:=Option.some.inj hm
        replace hS:=St.optNone (fun (x : GWireCursor) b=>blkR b [v0_0,.int .i64 x.at_,.int .i64 x.bound_] 248) hS
        replace hS:=hS.pk3
        replace hS:=hS.pk1
        replace hS:=hS.pk2
        replace hS:=hS.tk3
        refine Zad H (.inr rfl) rfl (vs:=[.int .i64 0,.pointer none,aR]) (Ku rfl (Ku rfl (Ku rfl Xw))) ?_
        exact⟨_,_,rfl,hS⟩
      · replace hm:=Zu hm aG
        refine wp_skip (Za (wp_seq (wp_region_lit (n_q H (Zc rfl) rfl (W_q (Zc rfl) rfl (W_q (Zb rfl) rfl (W_q (Zb rfl) rfl (W_q (Zb rfl) rfl ?_))))))));clear H a;intro a H
        refine Ze (Za (wp_ret ?_))
        obtain rfl:=Option.some.inj hm
        replace hS:=hS.dNil (A:=A)
        replace hS:=hS.pk2
        replace hS:=hS.pk2
        replace hS:=hS.tk3
        refine Zad H (.inr rfl) rfl (vs:=[.int .i64 aA.1,bB,.nilIface]) (Ku rfl (Ku rfl (Ku rfl Xw))) ?_
        exact⟨_,_,rfl,hS⟩
theorem Ja {w : World} {A : Nat → Addr} {fp : Nat → Prop} {b0 : Nat} {v0_0 : Value} {a0 : GWireCursor} (hG : ∀ w',ChgP fp w w' → EV A w') (hP : Sep w fp [blkR b0 [v0_0,.int .i64 a0.at_,.int .i64 a0.bound_] 248]) (ro0_b : ∀ w',ChgP fp w w' → SlR w' 1 (Zq eB) v0_0 a0.b_) {r : Int × ErrM × GWireCursor} (hm : Xd a0=some r) :
    Calls Tryz.prog 182 [.pointer (some ⟨b0,0,none⟩)].toArray w (Ret fun u w'=>∃ h_0,u=.tuple #[.int .i64 r.1,h_0] ∧ St fp w w' [blkR b0 [v0_0,.int .i64 r.2.2.at_,.int .i64 r.2.2.bound_] 248,erQ A h_0 r.2.1]):=by
  have hS:=St.init hP
  unfold Xd at hm
  refine enter Tryz.func182 rfl rfl rfl ?_;intro a H;dsimp only [Qo,Nat.zero_add,Nat.reduceAdd] at H
  refine wp_seq (wp_region_lit (n_q H (Zb rfl) rfl (W_q (Zb rfl) rfl ?_)));clear H a;intro a H
  refine Ze (Za (wp_seq (wp_region_lit (n_q H (Zc rfl) rfl ?_))));clear H a;intro a H
  replace hm:=Zk hm;obtain⟨aJ,aD,hm⟩:=hm
  refine Zj H rfl Zm6 (Hf (A:=A) aD) rfl ?_
  clear H;intro aK aL hv;clear a;intro a H;obtain⟨rfl,aE⟩:=hv
  replace hS:=hS.ext aE
  obtain⟨aI,aB,aA,aF,aC⟩:=hS.frame (rs1:=[blkR b0 [v0_0,.int .i64 a0.at_,.int .i64 a0.bound_] 248])
  replace hm:=Zk hm;obtain⟨aM,aG,hm⟩:=hm
  refine Zj H rfl Zpf (Vy (A:=A) (fun w' hw=>hG _ (aA _ hw)) aB (a0:=(⟨a0.b_,a0.at_,a0.bound_⟩ : GWireCursor)) (fun w' hw=>ro0_b _ (aA _ hw)) aG) rfl ?_
  clear H;intro aN aO hv;clear a;intro a H;obtain⟨aP,rfl,aH⟩:=hv
  replace hS:=aC _ _ aH;simp only [List.cons_append,List.nil_append] at hS;clear aB aA aF aC
  refine n_q H (Zi rfl rfl) rfl (W_q (Zi rfl rfl) rfl (W_q (Zb rfl) rfl (W_q (Zb rfl) rfl ?_)));clear H a;intro a H
  refine Ze (Za (wp_ret ?_))
  obtain rfl:=Option.some.inj hm
  refine Zb0 H (.inr rfl) rfl rfl rfl ?_
  exact⟨_,rfl,hS⟩
theorem Zgh {w : World} {A : Nat → Addr} {fp : Nat → Prop} {b0 : Nat} {v0_0 : Value} {a0 : GWireCursor} (hG : ∀ w',ChgP fp w w' → EV A w') (hP : Sep w fp [blkR b0 [v0_0,.int .i64 a0.at_,.int .i64 a0.bound_] 248]) (ro0_b : ∀ w',ChgP fp w w' → SlR w' 1 (Zq eB) v0_0 a0.b_) {r : GPagePlan × ErrM × GWireCursor} (hm : Ge a0=some r) :
    Calls Tryz.prog 179 [.pointer (some ⟨b0,0,none⟩)].toArray w (Ret fun u w'=>∃ h_0,u=.tuple #[.agg (Qg r.1).toArray,h_0] ∧ St fp w w' [blkR b0 [v0_0,.int .i64 r.2.2.at_,.int .i64 r.2.2.bound_] 248,erQ A h_0 r.2.1]):=by
  have hS:=St.init hP
  unfold Ge at hm
  refine enter Tryz.func179 rfl rfl rfl ?_;intro a H;dsimp only [Qo,Nat.zero_add,Nat.reduceAdd] at H
  refine wp_seq (wp_region_lit (Xj H Zdn rfl ?_))
  clear H;intro bE bF hN aP hs;clear a;intro a H
  replace hS:=hS.newBlk hN aP hs;clear hN hs
  refine n_q H (Zb rfl) rfl ?_;clear H a;intro a H
  refine Ze (Za (wp_seq (wp_region_lit (n_q H (Zc rfl) rfl ?_))));clear H a;intro a H
  replace hS:=hS.pk1
  obtain⟨bB,aF,aB,aQ,aG⟩:=hS.frame (rs1:=[blkR b0 [v0_0,.int .i64 a0.at_,.int .i64 a0.bound_] 248])
  replace hm:=Zk hm;obtain⟨aA,aR,hm⟩:=hm
  refine Zj H rfl Zh8 (Ja (A:=A) (fun w' hw=>hG _ (aB _ hw)) aF (a0:=(⟨a0.b_,a0.at_,a0.bound_⟩ : GWireCursor)) (fun w' hw=>ro0_b _ (aB _ hw)) aR) rfl ?_
  clear H;intro bG aO hv;clear a;intro a H;obtain⟨aH,rfl,aS⟩:=hv
  replace hS:=aG _ _ aS;simp only [List.cons_append,List.nil_append] at hS;clear aF aB aQ aG
  refine n_q H (Zc rfl) rfl (W_q (Zi rfl rfl) rfl (W_q (Zi rfl rfl) rfl (W_q (Zb rfl) rfl (W_q (Zb rfl) rfl ?_))));clear H a;intro a H
  refine Ze (Za (wp_seq (wp_seq (wp_region_lit (n_q H (Zc rfl) rfl (W_q (Qt (Jr Tryz.underlying39 rfl rfl (hS.any 1 rfl : IsE A aO aH aA.2.1).form) (show _=Value.bool (!decide (aA.2.1=.nil)) by rw [Xa.isNil (hS.any 1 rfl : IsE A aO aH aA.2.1)])) rfl ?_))))));clear H a;intro a H
  refine Ze (Za (Zl H rfl (fun aC=>?_) (fun aC=>?_)))
  · replace hm:=Zt hm aC
    refine wp_seq (wp_region_lit (n_q H (Qc (cs:=[.int .i64 0,.string ⟨#[]⟩]) Zdn Zm4 Zm5 rfl (by kernel_rfl)) rfl (W_q (Zc rfl) rfl ?_)));clear H a;intro a H
    replace hS:=hS.pk2
    refine Zr H rfl rfl (vs:=[.int .i64 0,.string ⟨#[]⟩]) rfl Tg (hS.blk 0 rfl) rfl (by simp) ?_
    clear H;intro bH hN aT hz;clear a;intro a H;replace hS:=hS.setBlk hN aT;clear hN hz
    refine n_q H (Zb rfl) rfl ?_;clear H a;intro a H
    refine Ze (Za (wp_ret (Zg ?_)))
    obtain rfl:=Option.some.inj hm
    replace hS:=hS.pk2
    replace hS:=hS.pk2
    refine Zad H (.inr rfl) rfl (vs:=[.agg #[.int .i64 0,.string ⟨#[]⟩],aH]) (Xk rfl ((hS.blk 2 rfl).ldAll Zj0 Tg) (Ku rfl Xw)) ?_
    replace hS:=hS.tk2
    exact⟨_,rfl,hS⟩
  · replace hm:=Zu hm aC
    refine wp_skip (Za (wp_seq (wp_region_lit (n_q H (Zc rfl) rfl (W_q (Zc rfl) rfl ?_)))));clear H a;intro a H
    obtain⟨bC,aI,aJ,aU,aK⟩:=hS.frame (rs1:=[blkR b0 [v0_0,.int .i64 aA.2.2.at_,.int .i64 aA.2.2.bound_] 248])
    replace hm:=Zk hm;obtain⟨aE,aV,hm⟩:=hm
    refine Zj H rfl Zg7 (Xg (A:=A) aI (a0:=(⟨a0.b_,aA.2.2.at_,aA.2.2.bound_⟩ : GWireCursor)) (fun w' hw=>ro0_b _ (aJ _ hw)) aV) rfl ?_
    clear H;intro bI bJ hv;clear a;intro a H;obtain⟨rfl,aW⟩:=hv
    replace hS:=aK _ _ aW;simp only [List.cons_append,List.nil_append] at hS;clear aI aJ aU aK
    obtain⟨bD,aL,aD,aX,aM⟩:=hS.frame (rs1:=[blkR b0 [v0_0,.int .i64 aE.2.at_,.int .i64 aE.2.bound_] 248])
    replace hm:=Zk hm;obtain⟨aN,aY,hm⟩:=hm
    refine Zj H rfl Zpd (Ug (A:=A) (fun w' hw=>hG _ (aD _ hw)) aL (a0:=(⟨a0.b_,aE.2.at_,aE.2.bound_⟩ : GWireCursor)) (fun w' hw=>ro0_b _ (aD _ hw)) aY) rfl ?_
    clear H;intro bK bL hv;clear a;intro a H;obtain⟨bM,bA,rfl,aZ⟩:=hv
    replace hS:=aM _ _ aZ;simp only [List.cons_append,List.nil_append] at hS;clear aL aD aX aM
    refine n_q H (Zc rfl) rfl (W_q (Zi rfl rfl) rfl (W_q (Zi rfl rfl) rfl (W_q (Zb rfl) rfl (W_q (Zb rfl) rfl ?_))));clear H a;intro a H
    refine Ze (Za (wp_seq (wp_region_lit (n_q H (Zc rfl) rfl (W_q (Zc rfl) rfl (W_q (Zkt Tryz.underlying100 Tryz.underlying5 Tryz.underlying9 rfl (fun w' hw=>(((hS.own 1 rfl).slr rfl (fun _ _=>rfl)).ext (Zq.mono _) hw))) rfl (W_q (Qc (cs:=[.int .i64 aA.1,.string (Zea aN.1)]) Zdn Zm4 Zm5 rfl (by kernel_rfl)) rfl (W_q (Zc rfl) rfl ?_))))))));clear H a;intro a H
    replace hS:=hS.pk4
    refine Zr H rfl rfl (vs:=[.int .i64 aA.1,.string (Zea aN.1)]) rfl Tg (hS.blk 0 rfl) rfl (by simp) ?_
    clear H;intro bN hN a9 hz;clear a;intro a H;replace hS:=hS.setBlk hN a9;clear hN hz
    refine n_q H (Zb rfl) rfl ?_;clear H a;intro a H
    refine Ze (Za (wp_ret ?_))
    obtain rfl:=Option.some.inj hm
    replace hS:=hS.pk3
    replace hS:=hS.pk2
    replace hS:=hS.tk3
    refine Zad H (.inr rfl) rfl (vs:=[.agg #[.int .i64 aA.1,.string (Zea aN.1)],bA]) (Xk rfl ((hS.blk 2 rfl).ldAll Zj0 Tg) (Ku rfl Xw)) ?_
    replace hS:=hS.tk2
    exact⟨_,rfl,hS⟩
theorem Tz {w : World} {A : Nat → Addr} {v0 : Value} {a0 : List (Value × ErrM)} (h0 : SlR w 1 (REr A) v0 a0) {r : Value × ErrM} (hm : Za5 a0=some r) :
    Calls Tryz.prog 183 [v0].toArray w (Ret fun u w'=>u=r.1 ∧ Ext w w'):=by
  have hS:=St.begin NB w
  unfold Za5 at hm
  refine enter Tryz.func183 rfl rfl rfl ?_;intro a H;dsimp only [Qo,Nat.zero_add,Nat.reduceAdd] at H
  refine wp_seq (wp_region_lit (n_q H (Zb rfl) rfl ?_));clear H a;intro a H
  refine Ze (Za (wp_seq (wp_seq (wp_region_lit (n_q H (Zc rfl) rfl ?_)))));clear H a;intro a H
  obtain⟨aU,aV,aB,aS,aT⟩:=SlR.formV (h0.ext (REr.mono A) hS.x)
  refine n_q H (Qh Tryz.underlying314 rfl aB) rfl (W_q (Zc rfl) rfl ?_);clear H a;intro a H
  refine Ze (Za (wp_block ?_))
  replace hm:=Zk hm;obtain⟨aI,hm,aJ⟩:=hm;replace hm:=Qk hm;obtain⟨aL,hm⟩:=hm
  refine Kh (σ:=Nat × Nat) (fun (m,aA)=>[(5,v0),(6,.int .i64 ((a0.length : Nat) : Int)),(7,.int .i64 ((aA : Nat) : Int))]) (fun (m,aA) wl=>Kl (Xu a0) m aA=some aI ∧ St NB w wl []) (fun (m,aA)=>m) (aL,0) H ⟨rfl,rfl,rfl,trivial⟩ ⟨hm,hS⟩ ?_
  clear H hS hm a;intro xx a aW H hR;obtain⟨m,aA⟩:=xx;simp only [ent,List.map_cons,List.map_nil] at H;(try dsimp only at hR);obtain⟨hm,hS⟩:=hR
  replace hm:=Qd hm;obtain⟨aM,aX,rfl,hm,aD⟩:=hm;try dsimp only [Xu] at hm
  refine wp_seq (wp_region_lit (n_q H (Ki (i:=aA) (j:=a0.length) rfl rfl) rfl ?_));clear H a;intro a H
  refine Ze (Za (wp_seq (Zl H rfl (fun aC=>?_) (fun aC=>?_))))
  · replace hm:=Zt hm aC
    have aP : aA < a0.length:=of_decide_eq_true aC
    refine wp_skip (Za (wp_seq (wp_block (wp_seq (wp_region_lit ?_)))))
    replace hm:=Zk hm;obtain⟨aN,aE,hm⟩:=hm
    obtain⟨aQ,aG⟩:=SlR.adV (h0.ext (REr.mono A) hS.x) aB aE
    obtain⟨aR,aO,⟨rfl,aH⟩,aK⟩:=SlR.elV h0 aB aG aE
    refine n_q H (Uq (i:=aA) Tryz.underlying314 sz39 rfl aB aG rfl (Zb9 aE)) rfl (W_q (Zf rfl (LdX.ext (ldElH Wy aK) hS.x)) rfl (W_q (Zb rfl) rfl ?_));clear H a;intro a H
    refine Ze (Za (wp_seq (wp_region_lit (n_q H (Zc rfl) rfl (W_q (Qt (Jr Tryz.underlying39 rfl rfl (Xa.ext aH hS.x).form) (show _=Value.bool (!decide (aN.2=.nil)) by rw [Xa.isNil (Xa.ext aH hS.x)])) rfl ?_)))));clear H a;intro a H
    refine Ze (Za (Zl H rfl (fun aF=>?_) (fun aF=>?_)))
    · replace hm:=Zt hm aF
      refine wp_seq (wp_region_lit (n_q H (Zc rfl) rfl (W_q (Zb rfl) rfl ?_)));clear H a;intro a H
      refine Ze (Za (wp_ret (Zm (Zg (Zg (Zm (Zg ?_)))))))
      obtain rfl:=Option.some.inj hm;have hz : _=aI:=aD;subst hz;replace hm:=aJ;try dsimp only at hm
      obtain rfl:=Option.some.inj hm
      refine Jb H (.inr rfl) rfl rfl ?_
      exact⟨rfl,hS.x⟩
    · replace hm:=Zu hm aF
      refine wp_skip (Zn (Za (wp_region_lit (n_q H (Yx (i:=aA) (j:=1) rfl rfl (by omega)) rfl (W_q (Zc rfl) rfl ?_)))));clear H a;intro a H
      refine Ze (Za ?_)
      obtain rfl:=Option.some.inj hm
      exact Wm (aM,aA + 1) H ⟨rfl,rfl,rfl,trivial⟩ ⟨aD,hS⟩ (Nat.lt_succ_self _)
  · replace hm:=Zu hm aC
    refine wp_exit (Zo (Zo (Qb ?_)))
    obtain rfl:=Option.some.inj hm;have hz : _=aI:=aD;subst hz;replace hm:=aJ;try dsimp only at hm
    refine Za (wp_seq (wp_region_lit (n_q H (Zb rfl) rfl ?_)));clear H a;intro a H
    refine Ze (Za (wp_ret ?_))
    obtain rfl:=Option.some.inj hm
    refine Jb H (.inr rfl) rfl rfl ?_
    exact⟨rfl,hS.x⟩
theorem Ti (ps : List (Value × ErrM)) : Za5 ps=some (pickE ps):=by
  have key : ∀ m k,k + m=ps.length → (Uj (Xu ps) k).bind (fun q=>match q with | .inl _=>some (.nilIface,.nil) | .inr p=>some p)=some (pickE (ps.drop k)):=by
    intro m
    induction m with
    | zero=>
      intro k hk
      have e : ps.drop k=[]:=List.drop_eq_nil_of_le (by omega)
      rw [Wz (show Xu ps k=some (.inr (.inl ())) by simp [Xu,show ¬ k < ps.length by omega]),e];rfl
    | succ m ih=>
      intro k hk
      have hlt : k < ps.length:=by omega
      have hx : ps[k]? = some ps[k]:=List.getElem?_eq_getElem hlt
      have hd : ps.drop k=ps[k] :: ps.drop (k + 1):=List.drop_eq_getElem_cons hlt
      by_cases e : ps[k].2=.nil
      · rw [Yd (show Xu ps k=some (.inl (k + 1)) by simp [Xu,hlt,e]),ih (k + 1) (by omega),hd]
        simp only [pickE,e,if_true]
      · rw [Wz (show Xu ps k=some (.inr (.inr ps[k])) by simp [Xu,hlt,e]),hd]
        simp only [pickE,e,if_false,Option.bind_some]
  exact key ps.length 0 (by omega)
theorem Ui {w : World} {A : Nat → Addr} {fp : Nat → Prop} {b0 : Nat} {v0_0 : Value} {a0 : GWireCursor} (hG : ∀ w',ChgP fp w w' → EV A w') (hP : Sep w fp [blkR b0 [v0_0,.int .i64 a0.at_,.int .i64 a0.bound_] 248]) (ro0_b : ∀ w',ChgP fp w w' → SlR w' 1 (Zq eB) v0_0 a0.b_) {r : ErrM × GWireCursor} (hm : Xx a0=some r) :
    Calls Tryz.prog 184 [.pointer (some ⟨b0,0,none⟩)].toArray w (Ret fun u w'=>∃ h_0,u=h_0 ∧ St fp w w' [blkR b0 [v0_0,.int .i64 r.2.at_,.int .i64 r.2.bound_] 248,erQ A h_0 r.1]):=by
  have hS:=St.init hP
  unfold Xx at hm
  refine enter Tryz.func184 rfl rfl rfl ?_;intro a H;dsimp only [Qo,Nat.zero_add,Nat.reduceAdd] at H
  refine wp_seq (wp_region_lit (n_q H (Zb rfl) rfl ?_));clear H a;intro a H
  refine Ze (Za (wp_seq (wp_seq (wp_region_lit (n_q H (Zc rfl) rfl ?_)))));clear H a;intro a H
  obtain⟨aO,aC,aD,aJ,aE⟩:=hS.frame (rs1:=[blkR b0 [v0_0,.int .i64 a0.at_,.int .i64 a0.bound_] 248])
  replace hm:=Zk hm;obtain⟨aP,aK,hm⟩:=hm
  refine Zj H rfl Zg7 (Xg (A:=A) aC (a0:=(⟨a0.b_,a0.at_,a0.bound_⟩ : GWireCursor)) (fun w' hw=>ro0_b _ (aD _ hw)) aK) rfl ?_
  clear H;intro aQ aI hv;clear a;intro a H;obtain⟨rfl,aL⟩:=hv
  replace hS:=aE _ _ aL;simp only [List.cons_append,List.nil_append] at hS;clear aC aD aJ aE
  refine n_q H (Gn rfl rfl) rfl ?_;clear H a;intro a H
  refine Ze (Za (Zl H rfl (fun aA=>?_) (fun aA=>?_)))
  · replace hm:=Zt hm aA
    refine wp_seq (Gx [] 7 (by kernel_rfl) ?_)
    obtain⟨aF,aB⟩ : ∃ x,x=aI.drew:=⟨_,rfl⟩;rw [← aB];have aM : Ext aI aF:=by rw [aB];exact Ext.drew' _
    clear aB
    replace hS:=hS.ext aM
    have aG:=hS
    have hW:=Nat.le_refl aF.heap.size
    refine Zh 0 H rfl (Zc rfl) rfl (by kernel_rfl) (by kernel_rfl) (by kernel_rfl) (by kernel_rfl) (fun _ _ _ h=>h) ?_;clear H a;intro a H
    refine Zh 1 H rfl (Zs rfl) rfl (by kernel_rfl) (by kernel_rfl) (by kernel_rfl) (by kernel_rfl) (fun _ _ _ h=>h) ?_;clear H a;intro a H
    refine Zh 2 H rfl (Zd rfl Vp) rfl (by kernel_rfl) (by kernel_rfl) (by kernel_rfl) (by kernel_rfl) (fun _ _ _ h=>h) ?_;clear H a;intro a H
    refine Xq 3 H rfl (Zf rfl (LdC.old ((aG.blk 0 rfl).ld ag3 rfl) Ext.rfl' (Nat.le_refl _) (by simp))) rfl (by kernel_rfl) (by kernel_rfl) (by kernel_rfl) (by kernel_rfl) (fun _ _ _ h=>h) ?_;clear H a;intro a H
    refine Xq 4 H rfl (Zf rfl (LdC.old ((hG _ aG.chg).ld Zjx (by decide) Wy) Ext.rfl' (Nat.le_refl _) (by simp))) rfl (by kernel_rfl) (by kernel_rfl) (by kernel_rfl) (by kernel_rfl) (fun _ _ _ h=>h) ?_;clear H a;intro a H
    replace hm:=Zk hm;obtain⟨aR,aN,hm⟩:=hm
    refine Xl 5 (by kernel_rfl) ?_
    refine Xo 5 H rfl rfl Zg2 (We (A:=A) (Xa.var (by decide) : IsE A aF _ (.v Zjx)) aN) rfl (fun v w hv=>.inl (ChgF.of_ext (by obtain⟨_,_,hE0⟩:=hv;exact hE0.x))) ?_
    clear H;intro u32 aS hv;clear a;intro a H;obtain⟨_,rfl,aH⟩:=hv
    replace hS:=hS.new aH;simp only [List.cons_append,List.nil_append] at hS
    replace hW:=Nat.le_trans hW aH.x.size
    refine Zh 6 H rfl (Zb rfl) rfl (by kernel_rfl) (by kernel_rfl) (by kernel_rfl) (by kernel_rfl) (fun _ _ _ h=>h) ?_;clear H a;intro a H
    refine Xh (by kernel_rfl) ?_
    refine Za (wp_ret (Zg ?_))
    obtain rfl:=Option.some.inj hm
    replace hS:=hS.pk1
    refine Jb H (.inr rfl) rfl rfl ?_
    exact⟨_,rfl,hS⟩
  · replace hm:=Zu hm aA
    refine wp_skip (Za (wp_seq (wp_region_lit (n_q H (Zb rfl) rfl ?_))));clear H a;intro a H
    refine Ze (Za (wp_ret ?_))
    obtain rfl:=Option.some.inj hm
    replace hS:=hS.dNil (A:=A)
    replace hS:=hS.pk1
    refine Jb H (.inr rfl) rfl rfl ?_
    exact⟨_,rfl,hS⟩
theorem Zgi {w : World} {A : Nat → Addr} {fp : Nat → Prop} {b0 : Nat} {v0_0 : Value} {a0 : GWireCursor} (hG : ∀ w',ChgP fp w w' → EV A w') (hP : Sep w fp [blkR b0 [v0_0,.int .i64 a0.at_,.int .i64 a0.bound_] 248]) (ro0_b : ∀ w',ChgP fp w w' → SlR w' 1 (Zq eB) v0_0 a0.b_) {r : GProcPlan × ErrM × GWireCursor} (hm : Tf a0=some r) :
    Calls Tryz.prog 180 [.pointer (some ⟨b0,0,none⟩)].toArray w (Ret fun u w'=>∃ h_0,u=.tuple #[.agg (Qe r.1).toArray,h_0] ∧ St fp w w' [blkR b0 [v0_0,.int .i64 r.2.2.at_,.int .i64 r.2.2.bound_] 248,erQ A h_0 r.2.1]):=by
  have hS:=St.init hP
  unfold Tf at hm
  refine enter Tryz.func180 rfl rfl rfl ?_;intro a H;dsimp only [Qo,Nat.zero_add,Nat.reduceAdd] at H
  refine wp_seq (wp_region_lit (Xj H Zdo rfl ?_))
  clear H;intro bL bS hN aW hs;clear a;intro a H
  replace hS:=hS.newBlk hN aW hs;clear hN hs
  refine n_q H (Zb rfl) rfl ?_;clear H a;intro a H
  refine Ze (Za (wp_seq (wp_region_lit (n_q H (Zc rfl) rfl ?_))));clear H a;intro a H
  replace hS:=hS.pk1
  obtain⟨bO,aO,aJ,aX,aP⟩:=hS.frame (rs1:=[blkR b0 [v0_0,.int .i64 a0.at_,.int .i64 a0.bound_] 248])
  replace hm:=Zk hm;obtain⟨aA,aY,hm⟩:=hm
  refine Zj H rfl Zpe (Uh (A:=A) (fun w' hw=>hG _ (aJ _ hw)) aO (a0:=(⟨a0.b_,a0.at_,a0.bound_⟩ : GWireCursor)) (fun w' hw=>ro0_b _ (aJ _ hw)) aY) rfl ?_
  clear H;intro bT bU hv;clear a;intro a H;obtain⟨aD,rfl,aZ⟩:=hv
  replace hS:=aP _ _ aZ;simp only [List.cons_append,List.nil_append] at hS;clear aO aJ aX aP
  refine n_q H (Zc rfl) rfl (W_q (Zi rfl rfl) rfl (W_q (Zi rfl rfl) rfl (W_q (Zb rfl) rfl (W_q (Zb rfl) rfl ?_))));clear H a;intro a H
  refine Ze (Za (wp_seq (wp_region_lit (n_q H (Zc rfl) rfl ?_))));clear H a;intro a H
  obtain⟨bP,aQ,aK,a9,aR⟩:=hS.frame (rs1:=[blkR b0 [v0_0,.int .i64 aA.2.2.at_,.int .i64 aA.2.2.bound_] 248])
  replace hm:=Zk hm;obtain⟨aB,bA,hm⟩:=hm
  refine Zj H rfl Zh8 (Ja (A:=A) (fun w' hw=>hG _ (aK _ hw)) aQ (a0:=(⟨a0.b_,aA.2.2.at_,aA.2.2.bound_⟩ : GWireCursor)) (fun w' hw=>ro0_b _ (aK _ hw)) bA) rfl ?_
  clear H;intro bV bW hv;clear a;intro a H;obtain⟨aE,rfl,bB⟩:=hv
  replace hS:=aR _ _ bB;simp only [List.cons_append,List.nil_append] at hS;clear aQ aK a9 aR
  refine n_q H (Zc rfl) rfl (W_q (Zi rfl rfl) rfl (W_q (Zi rfl rfl) rfl (W_q (Zb rfl) rfl (W_q (Zb rfl) rfl ?_))));clear H a;intro a H
  refine Ze (Za (wp_seq (wp_region_lit (n_q H (Zc rfl) rfl ?_))));clear H a;intro a H
  obtain⟨bQ,aS,aL,bC,aT⟩:=hS.frame (rs1:=[blkR b0 [v0_0,.int .i64 aB.2.2.at_,.int .i64 aB.2.2.bound_] 248])
  replace hm:=Zk hm;obtain⟨aC,bD,hm⟩:=hm
  refine Zj H rfl en103 (Hc (A:=A) (fun w' hw=>hG _ (aL _ hw)) aS (a0:=(⟨a0.b_,aB.2.2.at_,aB.2.2.bound_⟩ : GWireCursor)) (fun w' hw=>ro0_b _ (aL _ hw)) bD) rfl ?_
  clear H;intro bX bY hv;clear a;intro a H;obtain⟨aF,rfl,bE⟩:=hv
  replace hS:=aT _ _ bE;simp only [List.cons_append,List.nil_append] at hS;clear aS aL bC aT
  refine n_q H (Zc rfl) rfl (W_q (Zi rfl rfl) rfl (W_q (Zi rfl rfl) rfl (W_q (Zb rfl) rfl (W_q (Zb rfl) rfl ?_))));clear H a;intro a H
  refine Ze (Za (wp_seq (wp_region_lit (n_q H (Zc rfl) rfl (W_q (Zc rfl) rfl (W_q (Zc rfl) rfl (W_q (Qc (cs:=[.int .i64 aA.1,.int .i64 aB.1,.bool aC.1]) Zdo Zo2 Zo3 rfl (by kernel_rfl)) rfl (W_q (Zc rfl) rfl (W_q (Zc rfl) rfl (W_q (Zc rfl) rfl (W_q (Zc rfl) rfl ?_)))))))))));clear H a;intro a H
  obtain⟨bR,aU,aM,bF,aV⟩:=hS.frame (rs1:=[blkR b0 [v0_0,.int .i64 aC.2.2.at_,.int .i64 aC.2.2.bound_] 248])
  replace hm:=Zk hm;obtain⟨aG,bG,hm⟩:=hm
  refine Zj H rfl Zph (Ui (A:=A) (fun w' hw=>hG _ (aM _ hw)) aU (a0:=(⟨a0.b_,aC.2.2.at_,aC.2.2.bound_⟩ : GWireCursor)) (fun w' hw=>ro0_b _ (aM _ hw)) bG) rfl ?_
  clear H;intro aH aN hv;clear a;intro a H;obtain⟨_,rfl,bH⟩:=hv
  replace hS:=aV _ _ bH;simp only [List.cons_append,List.nil_append] at hS;clear aU aM bF aV
  refine Zx H Tryz.underlying314 sz39 ze39 rfl rfl rfl (cs:=[aD,aE,aF,aH]) ((Zy (hS.any 4 rfl : IsE A aN aD aA.2.1).one rfl (by simp)).trans ((Zy (hS.any 3 rfl : IsE A aN aE aB.2.1).one rfl (by simp)).trans ((Zy (hS.any 2 rfl : IsE A aN aF aC.2.1).one rfl (by simp)).trans ((Zy (hS.any 1 rfl : IsE A aN aH aG.1).one rfl (by simp)).trans rfl)))) rfl ?_
  clear H;intro bM aI hN bI hs;clear a;intro a H
  replace hS:=hS.newBlk hN bI hs;clear hN hs
  refine Zj H rfl Zpg (Tz (A:=A) (SlR.ofBlk (k:=1) (R:=REr A) [[aD],[aE],[aF],[aH]] [(aD,aA.2.1),(aE,aB.2.1),(aF,aC.2.1),(aH,aG.1)] (hS.blk 0 rfl) (DIn.cons rfl (by simp [(hS.any 5 rfl : IsE A aI aD aA.2.1).one]) ⟨rfl,(hS.any 5 rfl : IsE A aI aD aA.2.1)⟩ (DIn.cons rfl (by simp [(hS.any 4 rfl : IsE A aI aE aB.2.1).one]) ⟨rfl,(hS.any 4 rfl : IsE A aI aE aB.2.1)⟩ (DIn.cons rfl (by simp [(hS.any 3 rfl : IsE A aI aF aC.2.1).one]) ⟨rfl,(hS.any 3 rfl : IsE A aI aF aC.2.1)⟩ (DIn.cons rfl (by simp [(hS.any 2 rfl : IsE A aI aH aG.1).one]) ⟨rfl,(hS.any 2 rfl : IsE A aI aH aG.1)⟩ trivial)))) rfl (by simp [maxLen])) (Ti _)) rfl ?_
  clear H;intro bZ bN hv;clear a;intro a H;obtain⟨rfl,bJ⟩:=hv;replace hS:=hS.ext bJ
  replace hS:=hS.pk2
  replace hS:=hS.pk3
  replace hS:=hS.pk4
  replace hS:=hS.pk5
  replace hS:=(St.pickE [(aD,aA.2.1),(aE,aB.2.1),(aF,aC.2.1),(aH,aG.1)] rfl hS : St fp w bN [erQ A ((pickE [(aD,aA.2.1),(aE,aB.2.1),(aF,aC.2.1),(aH,aG.1)]).1) (Zdm [aA.2.1,aB.2.1,aC.2.1,aG.1]),blkR bM [aD,aE,aF,aH] 39,blkR b0 [v0_0,.int .i64 aG.2.at_,.int .i64 aG.2.bound_] 248,blkR bL [.int .i64 0,.int .i64 0,.bool false] 116])
  replace hS:=hS.pk3
  refine Zr H rfl rfl (vs:=[.int .i64 aA.1,.int .i64 aB.1,.bool aC.1]) rfl Tm (hS.blk 0 rfl) rfl (by simp) ?_
  clear H;intro b7 hN bK hz;clear a;intro a H;replace hS:=hS.setBlk hN bK;clear hN hz
  refine n_q H (Zb rfl) rfl ?_;clear H a;intro a H
  refine Ze (Za (wp_ret ?_))
  obtain rfl:=Option.some.inj hm
  replace hS:=hS.pk1
  replace hS:=hS.pk3
  replace hS:=hS.tk3
  refine Zad H (.inr rfl) rfl (vs:=[.agg #[.int .i64 aA.1,.int .i64 aB.1,.bool aC.1],(pickE [(aD,aA.2.1),(aE,aB.2.1),(aF,aC.2.1),(aH,aG.1)]).1]) (Xk rfl ((hS.blk 2 rfl).ldAll Zj1 Tm) (Ku rfl Xw)) ?_
  replace hS:=hS.tk2
  exact⟨_,rfl,hS⟩
theorem Zek {w : World} {A : Nat → Addr} {fp : Nat → Prop} {b0 : Nat} {v0_0 : Value} {a0 : GWireCursor} (hG : ∀ w',ChgP fp w w' → EV A w') (hP : Sep w fp [blkR b0 [v0_0,.int .i64 a0.at_,.int .i64 a0.bound_] 248]) (ro0_b : ∀ w',ChgP fp w w' → SlR w' 1 (Zq eB) v0_0 a0.b_) {r : GPortPlan × ErrM × GWireCursor} (hm : Uw a0=some r) :
    Calls Tryz.prog 181 [.pointer (some ⟨b0,0,none⟩)].toArray w (Ret fun u w'=>∃ h_0,u=.tuple #[.agg (Zw r.1).toArray,h_0] ∧ St fp w w' [blkR b0 [v0_0,.int .i64 r.2.2.at_,.int .i64 r.2.2.bound_] 248,erQ A h_0 r.2.1]):=by
  have hS:=St.init hP
  unfold Uw at hm
  refine enter Tryz.func181 rfl rfl rfl ?_;intro a H;dsimp only [Qo,Nat.zero_add,Nat.reduceAdd] at H
  refine wp_seq (wp_region_lit (Xj H Zeg rfl ?_))
  clear H;intro bT b8 hN bA hs;clear a;intro a H
  replace hS:=hS.newBlk hN bA hs;clear hN hs
  refine n_q H (Zb rfl) rfl ?_;clear H a;intro a H
  refine Ze (Za (wp_seq (wp_region_lit (n_q H (Zc rfl) rfl ?_))));clear H a;intro a H
  replace hS:=hS.pk1
  obtain⟨bW,aR,aM,bB,aS⟩:=hS.frame (rs1:=[blkR b0 [v0_0,.int .i64 a0.at_,.int .i64 a0.bound_] 248])
  replace hm:=Zk hm;obtain⟨aA,bC,hm⟩:=hm
  refine Zj H rfl Zh8 (Ja (A:=A) (fun w' hw=>hG _ (aM _ hw)) aR (a0:=(⟨a0.b_,a0.at_,a0.bound_⟩ : GWireCursor)) (fun w' hw=>ro0_b _ (aM _ hw)) bC) rfl ?_
  clear H;intro b9 cA hv;clear a;intro a H;obtain⟨aE,rfl,bD⟩:=hv
  replace hS:=aS _ _ bD;simp only [List.cons_append,List.nil_append] at hS;clear aR aM bB aS
  refine n_q H (Zc rfl) rfl (W_q (Zi rfl rfl) rfl (W_q (Zi rfl rfl) rfl (W_q (Zb rfl) rfl (W_q (Zb rfl) rfl ?_))));clear H a;intro a H
  refine Ze (Za (wp_seq (wp_region_lit (n_q H (Zc rfl) rfl ?_))));clear H a;intro a H
  obtain⟨bX,aT,aN,bE,aU⟩:=hS.frame (rs1:=[blkR b0 [v0_0,.int .i64 aA.2.2.at_,.int .i64 aA.2.2.bound_] 248])
  replace hm:=Zk hm;obtain⟨aB,bF,hm⟩:=hm
  refine Zj H rfl Zh8 (Ja (A:=A) (fun w' hw=>hG _ (aN _ hw)) aT (a0:=(⟨a0.b_,aA.2.2.at_,aA.2.2.bound_⟩ : GWireCursor)) (fun w' hw=>ro0_b _ (aN _ hw)) bF) rfl ?_
  clear H;intro cB cC hv;clear a;intro a H;obtain⟨aF,rfl,bG⟩:=hv
  replace hS:=aU _ _ bG;simp only [List.cons_append,List.nil_append] at hS;clear aT aN bE aU
  refine n_q H (Zc rfl) rfl (W_q (Zi rfl rfl) rfl (W_q (Zi rfl rfl) rfl (W_q (Zb rfl) rfl (W_q (Zb rfl) rfl ?_))));clear H a;intro a H
  refine Ze (Za (wp_seq (wp_region_lit (n_q H (Zc rfl) rfl ?_))));clear H a;intro a H
  obtain⟨bY,aV,aO,bH,aW⟩:=hS.frame (rs1:=[blkR b0 [v0_0,.int .i64 aB.2.2.at_,.int .i64 aB.2.2.bound_] 248])
  replace hm:=Zk hm;obtain⟨aC,bI,hm⟩:=hm
  refine Zj H rfl Zh8 (Ja (A:=A) (fun w' hw=>hG _ (aO _ hw)) aV (a0:=(⟨a0.b_,aB.2.2.at_,aB.2.2.bound_⟩ : GWireCursor)) (fun w' hw=>ro0_b _ (aO _ hw)) bI) rfl ?_
  clear H;intro cD cF hv;clear a;intro a H;obtain⟨aG,rfl,bJ⟩:=hv
  replace hS:=aW _ _ bJ;simp only [List.cons_append,List.nil_append] at hS;clear aV aO bH aW
  refine n_q H (Zc rfl) rfl (W_q (Zi rfl rfl) rfl (W_q (Zi rfl rfl) rfl (W_q (Zb rfl) rfl (W_q (Zb rfl) rfl ?_))));clear H a;intro a H
  refine Ze (Za (wp_seq (wp_region_lit (n_q H (Zc rfl) rfl ?_))));clear H a;intro a H
  obtain⟨bZ,aX,aP,bK,aY⟩:=hS.frame (rs1:=[blkR b0 [v0_0,.int .i64 aC.2.2.at_,.int .i64 aC.2.2.bound_] 248])
  replace hm:=Zk hm;obtain⟨aD,bL,hm⟩:=hm
  refine Zj H rfl Zh8 (Ja (A:=A) (fun w' hw=>hG _ (aP _ hw)) aX (a0:=(⟨a0.b_,aC.2.2.at_,aC.2.2.bound_⟩ : GWireCursor)) (fun w' hw=>ro0_b _ (aP _ hw)) bL) rfl ?_
  clear H;intro cG cH hv;clear a;intro a H;obtain⟨aH,rfl,bM⟩:=hv
  replace hS:=aY _ _ bM;simp only [List.cons_append,List.nil_append] at hS;clear aX aP bK aY
  refine n_q H (Zc rfl) rfl (W_q (Zi rfl rfl) rfl (W_q (Zi rfl rfl) rfl (W_q (Zb rfl) rfl (W_q (Zb rfl) rfl ?_))));clear H a;intro a H
  refine Ze (Za (wp_seq (wp_region_lit (n_q H (Zc rfl) rfl (W_q (Zc rfl) rfl (W_q (Zc rfl) rfl (W_q (Zc rfl) rfl (W_q (Qc (cs:=[.int .i64 aA.1,.int .i64 aB.1,.int .i64 aC.1,.int .i64 aD.1]) Zeg Zo4 Zo5 rfl (by kernel_rfl)) rfl (W_q (Zc rfl) rfl (W_q (Zc rfl) rfl (W_q (Zc rfl) rfl (W_q (Zc rfl) rfl (W_q (Zc rfl) rfl ?_)))))))))))));clear H a;intro a H
  obtain⟨b7,aZ,aQ,bN,a9⟩:=hS.frame (rs1:=[blkR b0 [v0_0,.int .i64 aD.2.2.at_,.int .i64 aD.2.2.bound_] 248])
  replace hm:=Zk hm;obtain⟨aI,bO,hm⟩:=hm
  refine Zj H rfl Zph (Ui (A:=A) (fun w' hw=>hG _ (aQ _ hw)) aZ (a0:=(⟨a0.b_,aD.2.2.at_,aD.2.2.bound_⟩ : GWireCursor)) (fun w' hw=>ro0_b _ (aQ _ hw)) bO) rfl ?_
  clear H;intro aJ aL hv;clear a;intro a H;obtain⟨_,rfl,bP⟩:=hv
  replace hS:=a9 _ _ bP;simp only [List.cons_append,List.nil_append] at hS;clear aZ aQ bN a9
  refine Zx H Tryz.underlying314 sz39 ze39 rfl rfl rfl (cs:=[aE,aF,aG,aH,aJ]) ((Zy (hS.any 5 rfl : IsE A aL aE aA.2.1).one rfl (by simp)).trans ((Zy (hS.any 4 rfl : IsE A aL aF aB.2.1).one rfl (by simp)).trans ((Zy (hS.any 3 rfl : IsE A aL aG aC.2.1).one rfl (by simp)).trans ((Zy (hS.any 2 rfl : IsE A aL aH aD.2.1).one rfl (by simp)).trans ((Zy (hS.any 1 rfl : IsE A aL aJ aI.1).one rfl (by simp)).trans rfl))))) rfl ?_
  clear H;intro bU aK hN bQ hs;clear a;intro a H
  replace hS:=hS.newBlk hN bQ hs;clear hN hs
  refine Zj H rfl Zpg (Tz (A:=A) (SlR.ofBlk (k:=1) (R:=REr A) [[aE],[aF],[aG],[aH],[aJ]] [(aE,aA.2.1),(aF,aB.2.1),(aG,aC.2.1),(aH,aD.2.1),(aJ,aI.1)] (hS.blk 0 rfl) (DIn.cons rfl (by simp [(hS.any 6 rfl : IsE A aK aE aA.2.1).one]) ⟨rfl,(hS.any 6 rfl : IsE A aK aE aA.2.1)⟩ (DIn.cons rfl (by simp [(hS.any 5 rfl : IsE A aK aF aB.2.1).one]) ⟨rfl,(hS.any 5 rfl : IsE A aK aF aB.2.1)⟩ (DIn.cons rfl (by simp [(hS.any 4 rfl : IsE A aK aG aC.2.1).one]) ⟨rfl,(hS.any 4 rfl : IsE A aK aG aC.2.1)⟩ (DIn.cons rfl (by simp [(hS.any 3 rfl : IsE A aK aH aD.2.1).one]) ⟨rfl,(hS.any 3 rfl : IsE A aK aH aD.2.1)⟩ (DIn.cons rfl (by simp [(hS.any 2 rfl : IsE A aK aJ aI.1).one]) ⟨rfl,(hS.any 2 rfl : IsE A aK aJ aI.1)⟩ trivial))))) rfl (by simp [maxLen])) (Ti _)) rfl ?_
  clear H;intro cI bV hv;clear a;intro a H;obtain⟨rfl,bR⟩:=hv;replace hS:=hS.ext bR
  replace hS:=hS.pk2
  replace hS:=hS.pk3
  replace hS:=hS.pk4
  replace hS:=hS.pk5
  replace hS:=hS.pk6
  replace hS:=(St.pickE [(aE,aA.2.1),(aF,aB.2.1),(aG,aC.2.1),(aH,aD.2.1),(aJ,aI.1)] rfl hS : St fp w bV [erQ A ((pickE [(aE,aA.2.1),(aF,aB.2.1),(aG,aC.2.1),(aH,aD.2.1),(aJ,aI.1)]).1) (Zdm [aA.2.1,aB.2.1,aC.2.1,aD.2.1,aI.1]),blkR bU [aE,aF,aG,aH,aJ] 39,blkR b0 [v0_0,.int .i64 aI.2.at_,.int .i64 aI.2.bound_] 248,blkR bT [.int .i64 0,.int .i64 0,.int .i64 0,.int .i64 0] 118])
  replace hS:=hS.pk3
  refine Zr H rfl rfl (vs:=[.int .i64 aA.1,.int .i64 aB.1,.int .i64 aC.1,.int .i64 aD.1]) rfl Un (hS.blk 0 rfl) rfl (by simp) ?_
  clear H;intro cJ hN bS hz;clear a;intro a H;replace hS:=hS.setBlk hN bS;clear hN hz
  refine n_q H (Zb rfl) rfl ?_;clear H a;intro a H
  refine Ze (Za (wp_ret ?_))
  obtain rfl:=Option.some.inj hm
  replace hS:=hS.pk1
  replace hS:=hS.pk3
  replace hS:=hS.tk3
  refine Zad H (.inr rfl) rfl (vs:=[.agg #[.int .i64 aA.1,.int .i64 aB.1,.int .i64 aC.1,.int .i64 aD.1],(pickE [(aE,aA.2.1),(aF,aB.2.1),(aG,aC.2.1),(aH,aD.2.1),(aJ,aI.1)]).1]) (Xk rfl ((hS.blk 2 rfl).ldAll Zb3 Un) (Ku rfl Xw)) ?_
  replace hS:=hS.tk2
  exact⟨_,rfl,hS⟩
set_option maxHeartbeats 1000000 in
theorem Zhb {w : World} {A : Nat → Addr} {fp : Nat → Prop} {b0 : Nat} {v0_0 : Value} {v0_1 : Value} {v0_2 : Value} {v0_3 : Value} {a0 : GPlan} {a1 : Int} {b2 : Nat} {v2_0 : Value} {a2 : GWireCursor} (hG : ∀ w',ChgP fp w w' → EV A w') (hP : Sep w fp [blkR b0 [.int .i64 a0.Id,.bool a0.Mobile,v0_0,v0_1,v0_2,.int .i64 a0.Events,v0_3] 27,ownR 114 2 v0_0 a0.Pages.length (a0.Pages.flatMap Qg),ownR 116 3 v0_1 a0.Procs.length (a0.Procs.flatMap Qe),ownR 118 4 v0_2 a0.Ports.length (a0.Ports.flatMap Zw),ownR 3 1 v0_3 a0.Sems.length (a0.Sems.flatMap eI),blkR b2 [v2_0,.int .i64 a2.at_,.int .i64 a2.bound_] 248]) (ro2_b : ∀ w',ChgP fp w w' → SlR w' 1 (Zq eB) v2_0 a2.b_) {r : ErrM × GPlan × GWireCursor} (hm : Vg a0 a1 a2=some r) :
    Calls Tryz.prog 106 [.pointer (some ⟨b0,0,none⟩),.int .i64 a1,.pointer (some ⟨b2,0,none⟩)].toArray w (Ret fun u w'=>∃ h_0 h_1 h_2 h_3 h_4,u=h_0 ∧ St fp w w' [blkR b0 [.int .i64 r.2.1.Id,.bool r.2.1.Mobile,h_1,h_2,h_3,.int .i64 r.2.1.Events,h_4] 27,ownR 114 2 h_1 r.2.1.Pages.length (r.2.1.Pages.flatMap Qg),ownR 116 3 h_2 r.2.1.Procs.length (r.2.1.Procs.flatMap Qe),ownR 118 4 h_3 r.2.1.Ports.length (r.2.1.Ports.flatMap Zw),ownR 3 1 h_4 r.2.1.Sems.length (r.2.1.Sems.flatMap eI),blkR b2 [v2_0,.int .i64 r.2.2.at_,.int .i64 r.2.2.bound_] 248,erQ A h_0 r.1]):=by
  have hS:=St.init hP
  unfold Vg at hm
  refine enter Tryz.func106 rfl rfl rfl ?_;intro a H;dsimp only [Qo,Nat.zero_add,Nat.reduceAdd] at H
  refine wp_seq (wp_region_lit (n_q H (Zb rfl) rfl ?_));clear H a;intro a H
  refine Ze (Za (wp_seq (wp_seq (wp_region_lit (n_q H (Zc rfl) rfl ?_)))));clear H a;intro a H
  refine Ze (Za (wp_block (wp_seq (wp_region_lit (n_q H (Wu rfl rfl) rfl (W_q (Zb rfl) rfl ?_))))));clear H a;intro a H
  refine Ze (Za (Zl H rfl (fun aW=>?_) (fun aW=>?_)))
  · replace hm:=Zt hm aW
    refine wp_seq (wp_region_lit (n_q H (Zc rfl) rfl ?_));clear H a;intro a H
    replace hS:=hS.pk5
    obtain⟨e8,bQ,aX,dK,bR⟩:=hS.frame (rs1:=[blkR b2 [v2_0,.int .i64 a2.at_,.int .i64 a2.bound_] 248])
    replace hm:=Zk hm;obtain⟨aU,dL,hm⟩:=hm
    refine Zj H rfl en179 (Zgh (A:=A) (fun w' hw=>hG _ (aX _ hw)) bQ (a0:=(⟨a2.b_,a2.at_,a2.bound_⟩ : GWireCursor)) (fun w' hw=>ro2_b _ (aX _ hw)) dL) rfl ?_
    clear H;intro fS fT hv;clear a;intro a H;obtain⟨fU,rfl,dM⟩:=hv
    replace hS:=bR _ _ dM;simp only [List.cons_append,List.nil_append] at hS;clear bQ aX dK bR
    refine n_q H (Zc rfl) rfl (W_q (Zi rfl rfl) rfl (W_q (Zi rfl rfl) rfl ?_));clear H a;intro a H
    refine Xj H Zdn rfl ?_
    clear H;intro eL fV hN dN hs;clear a;intro a H
    replace hS:=hS.newBlk hN dN hs;clear hN hs
    refine Zr H rfl rfl (vs:=[.int .i64 aU.1.Rights,.string aU.1.Init]) rfl Tg (hS.blk 0 rfl) rfl (by simp) ?_
    clear H;intro bS hN dO hz;clear a;intro a H;replace hS:=hS.setBlk hN dO;clear hN hz
    refine n_q H (Zb rfl) rfl ?_;clear H a;intro a H
    refine Ze (Za (wp_seq (Gx (kB 0 (eL :: (b2 :: (b0 :: []))) bS.drew.heap.size) 10 (by kernel_rfl) ?_)))
    obtain⟨bT,aY⟩ : ∃ x,x=bS.drew:=⟨_,rfl⟩;rw [← aY];have dP : Ext bS bT:=by rw [aY];exact Ext.drew' _
    clear aY
    replace hS:=hS.ext dP
    have bU:=(hS.blk 0 rfl).lt
    have hh_b2:=(hS.blk 1 rfl).lt
    have hh_b0:=(hS.blk 3 rfl).lt
    have hW:=Nat.le_refl bT.heap.size
    refine Zh 0 H rfl (Zc rfl) rfl (by kernel_rfl) (by kernel_rfl) (by kernel_rfl) (by kernel_rfl) (fun _ _ _ h=>h) ?_;clear H a;intro a H
    refine Zh 1 H rfl (Zc rfl) rfl (by kernel_rfl) (by kernel_rfl) (by kernel_rfl) (by kernel_rfl) (fun _ _ _ h=>h) ?_;clear H a;intro a H
    refine Zh 2 H rfl (Zs rfl) rfl (by kernel_rfl) (by kernel_rfl) (by kernel_rfl) (by kernel_rfl) (fun _ _ _ h=>h) ?_;clear H a;intro a H
    refine Zh 3 H rfl (Zd rfl Ux) rfl (by kernel_rfl) (by kernel_rfl) (by kernel_rfl) (by kernel_rfl) (fun _ _ _ h=>h) ?_;clear H a;intro a H
    refine Xq 4 H rfl (Zf rfl ((hS.blk 3 rfl).ldB hh_b0 (Zfk (by simp)) Zg0 rfl)) rfl (by kernel_rfl) (by kernel_rfl) (by kernel_rfl) (by kernel_rfl) (fun _ _ _ h=>h) ?_;clear H a;intro a H
    refine Xq 5 H rfl (Zf rfl ((hS.blk 0 rfl).ldAllB bU (Zfk (by simp)) Zj0 Tg)) rfl (by kernel_rfl) (by kernel_rfl) (by kernel_rfl) (by kernel_rfl) (fun _ _ _ h=>h) ?_;clear H a;intro a H
    refine To 6 H rfl Tryz.underlying22 Tg Zdn rfl rfl rfl (cs:=[.int .i64 aU.1.Rights,.string aU.1.Init]) (by kernel_rfl) rfl (by kernel_rfl) ?_
    clear H;intro eM fW hN bV hs;clear a;intro a H
    have eH : bT.heap.size ≤ eM:=hs ▸ hW
    replace hS:=hS.newBlk hN bV hs;clear hN hs
    replace hW:=Nat.le_trans hW bV.size
    replace hS:=hS.blkOwnL (e:=Qg) (k:=2) [aU.1] rfl rfl (by simp [maxLen])
    replace hS:=hS.pk5
    replace hm:=Tw hm;obtain⟨dQ,hm⟩:=hm
    refine Zoy (e:=Qg) 7 H rfl rfl rfl Tryz.underlying22 Tryz.underlying22 (by simp) el114 (hS.own 0 rfl) (((hS.own 1 rfl).slr rfl (fun _ _=>rfl)).src (fun _ _=>rfl)) Zbr dQ (by simp only [maxLen];omega) rfl (by kernel_rfl) (.inl (fun c hc hlt=>Zch hlt (Nat.zero_le _) (Jy (hS.neOwn' 0 2 (by decide) rfl rfl c hc) (Jy (hS.neOwn' 0 3 (by decide) rfl rfl c hc) (Jy (hS.neOwn' 0 5 (by decide) rfl rfl c hc) Ur))))) ?_
    clear H;intro fX fY hN bW hb;clear a;intro a H;replace hS:=hS.setOwn hN bW hb;clear hN hb
    replace hW:=Nat.le_trans hW bW.size
    refine Zh 8 H rfl (Zs rfl) rfl (by kernel_rfl) (by kernel_rfl) (by kernel_rfl) (by kernel_rfl) (fun _ _ _ h=>h) ?_;clear H a;intro a H
    refine Zh 9 H rfl (Zd rfl Ux) rfl (by kernel_rfl) (by kernel_rfl) (by kernel_rfl) (by kernel_rfl) (fun _ _ _ h=>h) ?_;clear H a;intro a H
    replace hS:=hS.pk5
    refine Zf0 10 H rfl rfl rfl sz22 (hS.blk 0 rfl) (by simp) (((hS.own 1 rfl).slr rfl (fun _ _=>rfl))).one (by kernel_rfl) (.inr (by kernel_rfl)) ?_
    clear H;intro fZ hN bX hz;clear a;intro a H;replace hS:=hS.setBlk hN bX;clear hN hz;replace hW:=Nat.le_trans hW bX.size
    try simp only [List.set_cons_succ,List.set_cons_zero] at hS
    refine Xh (by kernel_rfl) ?_
    refine Za (wp_seq (wp_region_lit (n_q H (Zc rfl) rfl (W_q (Zb rfl) rfl ?_))));clear H a;intro a H
    refine Ze (Za (wp_ret (Zm (Zg ?_))))
    obtain rfl:=Option.some.inj hm
    replace hS:=hS.pk5
    replace hS:=hS.pk5
    replace hS:=hS.pk8
    replace hS:=hS.pk8
    replace hS:=hS.pk8
    replace hS:=hS.pk6
    replace hS:=hS.pk6
    replace hS:=hS.tk7
    refine Jb H (.inr rfl) rfl rfl ?_
    exact⟨_,_,_,_,_,rfl,hS⟩
  · replace hm:=Zu hm aW
    refine wp_seq (wp_region_lit (n_q H (Wu rfl rfl) rfl (W_q (Zb rfl) rfl ?_)));clear H a;intro a H
    refine Ze (Za (Zl H rfl (fun aZ=>?_) (fun aZ=>?_)))
    · replace hm:=Zt hm aZ
      refine wp_seq (wp_region_lit (n_q H (Zc rfl) rfl ?_));clear H a;intro a H
      replace hS:=hS.pk5
      obtain⟨e9,bY,a9,dR,bZ⟩:=hS.frame (rs1:=[blkR b2 [v2_0,.int .i64 a2.at_,.int .i64 a2.bound_] 248])
      replace hm:=Zk hm;obtain⟨aK,dS,hm⟩:=hm
      refine Zj H rfl en180 (Zgi (A:=A) (fun w' hw=>hG _ (a9 _ hw)) bY (a0:=(⟨a2.b_,a2.at_,a2.bound_⟩ : GWireCursor)) (fun w' hw=>ro2_b _ (a9 _ hw)) dS) rfl ?_
      clear H;intro gA gB hv;clear a;intro a H;obtain⟨gC,rfl,dT⟩:=hv
      replace hS:=bZ _ _ dT;simp only [List.cons_append,List.nil_append] at hS;clear bY a9 dR bZ
      refine n_q H (Zc rfl) rfl (W_q (Zi rfl rfl) rfl (W_q (Zi rfl rfl) rfl ?_));clear H a;intro a H
      refine Xj H Zdo rfl ?_
      clear H;intro eN gD hN dU hs;clear a;intro a H
      replace hS:=hS.newBlk hN dU hs;clear hN hs
      refine Zr H rfl rfl (vs:=[.int .i64 aK.1.Entry,.int .i64 aK.1.Prio,.bool aK.1.Auto]) rfl Tm (hS.blk 0 rfl) rfl (by simp) ?_
      clear H;intro b7 hN dV hz;clear a;intro a H;replace hS:=hS.setBlk hN dV;clear hN hz
      refine n_q H (Zb rfl) rfl ?_;clear H a;intro a H
      refine Ze (Za (wp_seq (Gx (kB 0 (eN :: (b2 :: (b0 :: []))) b7.drew.heap.size) 10 (by kernel_rfl) ?_)))
      obtain⟨b8,bA⟩ : ∃ x,x=b7.drew:=⟨_,rfl⟩;rw [← bA];have dW : Ext b7 b8:=by rw [bA];exact Ext.drew' _
      clear bA
      replace hS:=hS.ext dW
      have b9:=(hS.blk 0 rfl).lt
      have hh_b2:=(hS.blk 1 rfl).lt
      have hh_b0:=(hS.blk 3 rfl).lt
      have hW:=Nat.le_refl b8.heap.size
      refine Zh 0 H rfl (Zc rfl) rfl (by kernel_rfl) (by kernel_rfl) (by kernel_rfl) (by kernel_rfl) (fun _ _ _ h=>h) ?_;clear H a;intro a H
      refine Zh 1 H rfl (Zc rfl) rfl (by kernel_rfl) (by kernel_rfl) (by kernel_rfl) (by kernel_rfl) (fun _ _ _ h=>h) ?_;clear H a;intro a H
      refine Zh 2 H rfl (Zs rfl) rfl (by kernel_rfl) (by kernel_rfl) (by kernel_rfl) (by kernel_rfl) (fun _ _ _ h=>h) ?_;clear H a;intro a H
      refine Zh 3 H rfl (Zd rfl Ha) rfl (by kernel_rfl) (by kernel_rfl) (by kernel_rfl) (by kernel_rfl) (fun _ _ _ h=>h) ?_;clear H a;intro a H
      refine Xq 4 H rfl (Zf rfl ((hS.blk 3 rfl).ldB hh_b0 (Zfk (by simp)) Zjc rfl)) rfl (by kernel_rfl) (by kernel_rfl) (by kernel_rfl) (by kernel_rfl) (fun _ _ _ h=>h) ?_;clear H a;intro a H
      refine Xq 5 H rfl (Zf rfl ((hS.blk 0 rfl).ldAllB b9 (Zfk (by simp)) Zj1 Tm)) rfl (by kernel_rfl) (by kernel_rfl) (by kernel_rfl) (by kernel_rfl) (fun _ _ _ h=>h) ?_;clear H a;intro a H
      refine To 6 H rfl Tryz.underlying23 Tm Zdo rfl rfl rfl (cs:=[.int .i64 aK.1.Entry,.int .i64 aK.1.Prio,.bool aK.1.Auto]) (by kernel_rfl) rfl (by kernel_rfl) ?_
      clear H;intro eO gE hN cA hs;clear a;intro a H
      have eJ : b8.heap.size ≤ eO:=hs ▸ hW
      replace hS:=hS.newBlk hN cA hs;clear hN hs
      replace hW:=Nat.le_trans hW cA.size
      replace hS:=hS.blkOwnL (e:=Qe) (k:=3) [aK.1] rfl rfl (by simp [maxLen])
      replace hS:=hS.pk6
      replace hm:=Tw hm;obtain⟨dX,hm⟩:=hm
      refine Zoy (e:=Qe) 7 H rfl rfl rfl Tryz.underlying23 Tryz.underlying23 (by simp) el116 (hS.own 0 rfl) (((hS.own 1 rfl).slr rfl (fun _ _=>rfl)).src (fun _ _=>rfl)) Zbs dX (by simp only [maxLen];omega) rfl (by kernel_rfl) (.inl (fun c hc hlt=>Zch hlt (Nat.zero_le _) (Jy (hS.neOwn' 0 2 (by decide) rfl rfl c hc) (Jy (hS.neOwn' 0 3 (by decide) rfl rfl c hc) (Jy (hS.neOwn' 0 5 (by decide) rfl rfl c hc) Ur))))) ?_
      clear H;intro gF gG hN cB hb;clear a;intro a H;replace hS:=hS.setOwn hN cB hb;clear hN hb
      replace hW:=Nat.le_trans hW cB.size
      refine Zh 8 H rfl (Zs rfl) rfl (by kernel_rfl) (by kernel_rfl) (by kernel_rfl) (by kernel_rfl) (fun _ _ _ h=>h) ?_;clear H a;intro a H
      refine Zh 9 H rfl (Zd rfl Ha) rfl (by kernel_rfl) (by kernel_rfl) (by kernel_rfl) (by kernel_rfl) (fun _ _ _ h=>h) ?_;clear H a;intro a H
      replace hS:=hS.pk5
      refine Zf0 10 H rfl rfl rfl sz23 (hS.blk 0 rfl) (by simp) (((hS.own 1 rfl).slr rfl (fun _ _=>rfl))).one (by kernel_rfl) (.inr (by kernel_rfl)) ?_
      clear H;intro gH hN cC hz;clear a;intro a H;replace hS:=hS.setBlk hN cC;clear hN hz;replace hW:=Nat.le_trans hW cC.size
      try simp only [List.set_cons_succ,List.set_cons_zero] at hS
      refine Xh (by kernel_rfl) ?_
      refine Za (wp_seq (wp_region_lit (n_q H (Zc rfl) rfl (W_q (Zb rfl) rfl ?_))));clear H a;intro a H
      refine Ze (Za (wp_ret (Zm (Zg ?_))))
      obtain rfl:=Option.some.inj hm
      replace hS:=hS.pk5
      replace hS:=hS.pk5
      replace hS:=hS.pk8
      replace hS:=hS.pk8
      replace hS:=hS.pk5
      replace hS:=hS.pk8
      replace hS:=hS.pk6
      replace hS:=hS.tk7
      refine Jb H (.inr rfl) rfl rfl ?_
      exact⟨_,_,_,_,_,rfl,hS⟩
    · replace hm:=Zu hm aZ
      refine wp_seq (wp_region_lit (n_q H (Wu rfl rfl) rfl (W_q (Zb rfl) rfl ?_)));clear H a;intro a H
      refine Ze (Za (Zl H rfl (fun bB=>?_) (fun bB=>?_)))
      · replace hm:=Zt hm bB
        refine wp_seq (wp_region_lit (n_q H (Zc rfl) rfl ?_));clear H a;intro a H
        replace hS:=hS.pk5
        obtain⟨fA,cD,bC,dY,cF⟩:=hS.frame (rs1:=[blkR b2 [v2_0,.int .i64 a2.at_,.int .i64 a2.bound_] 248])
        replace hm:=Zk hm;obtain⟨aH,dZ,hm⟩:=hm
        refine Zj H rfl en181 (Zek (A:=A) (fun w' hw=>hG _ (bC _ hw)) cD (a0:=(⟨a2.b_,a2.at_,a2.bound_⟩ : GWireCursor)) (fun w' hw=>ro2_b _ (bC _ hw)) dZ) rfl ?_
        clear H;intro gI gJ hv;clear a;intro a H;obtain⟨gK,rfl,d5⟩:=hv
        replace hS:=cF _ _ d5;simp only [List.cons_append,List.nil_append] at hS;clear cD bC dY cF
        refine n_q H (Zc rfl) rfl (W_q (Zi rfl rfl) rfl (W_q (Zi rfl rfl) rfl ?_));clear H a;intro a H
        refine Xj H Zeg rfl ?_
        clear H;intro eP gL hN d6 hs;clear a;intro a H
        replace hS:=hS.newBlk hN d6 hs;clear hN hs
        refine Zr H rfl rfl (vs:=[.int .i64 aH.1.Kind,.int .i64 aH.1.Size,.int .i64 aH.1.Depth,.int .i64 aH.1.Refresh]) rfl Un (hS.blk 0 rfl) rfl (by simp) ?_
        clear H;intro cG hN d7 hz;clear a;intro a H;replace hS:=hS.setBlk hN d7;clear hN hz
        refine n_q H (Zb rfl) rfl ?_;clear H a;intro a H
        refine Ze (Za (wp_seq (Gx (kB 0 (eP :: (b2 :: (b0 :: []))) cG.drew.heap.size) 10 (by kernel_rfl) ?_)))
        obtain⟨cH,bD⟩ : ∃ x,x=cG.drew:=⟨_,rfl⟩;rw [← bD];have d8 : Ext cG cH:=by rw [bD];exact Ext.drew' _
        clear bD
        replace hS:=hS.ext d8
        have cI:=(hS.blk 0 rfl).lt
        have hh_b2:=(hS.blk 1 rfl).lt
        have hh_b0:=(hS.blk 3 rfl).lt
        have hW:=Nat.le_refl cH.heap.size
        refine Zh 0 H rfl (Zc rfl) rfl (by kernel_rfl) (by kernel_rfl) (by kernel_rfl) (by kernel_rfl) (fun _ _ _ h=>h) ?_;clear H a;intro a H
        refine Zh 1 H rfl (Zc rfl) rfl (by kernel_rfl) (by kernel_rfl) (by kernel_rfl) (by kernel_rfl) (fun _ _ _ h=>h) ?_;clear H a;intro a H
        refine Zh 2 H rfl (Zs rfl) rfl (by kernel_rfl) (by kernel_rfl) (by kernel_rfl) (by kernel_rfl) (fun _ _ _ h=>h) ?_;clear H a;intro a H
        refine Zh 3 H rfl (Zd rfl Tq) rfl (by kernel_rfl) (by kernel_rfl) (by kernel_rfl) (by kernel_rfl) (fun _ _ _ h=>h) ?_;clear H a;intro a H
        refine Xq 4 H rfl (Zf rfl ((hS.blk 3 rfl).ldB hh_b0 (Zfk (by simp)) Zke rfl)) rfl (by kernel_rfl) (by kernel_rfl) (by kernel_rfl) (by kernel_rfl) (fun _ _ _ h=>h) ?_;clear H a;intro a H
        refine Xq 5 H rfl (Zf rfl ((hS.blk 0 rfl).ldAllB cI (Zfk (by simp)) Zb3 Un)) rfl (by kernel_rfl) (by kernel_rfl) (by kernel_rfl) (by kernel_rfl) (fun _ _ _ h=>h) ?_;clear H a;intro a H
        refine To 6 H rfl Tryz.underlying24 Un Zeg rfl rfl rfl (cs:=[.int .i64 aH.1.Kind,.int .i64 aH.1.Size,.int .i64 aH.1.Depth,.int .i64 aH.1.Refresh]) (by kernel_rfl) rfl (by kernel_rfl) ?_
        clear H;intro eQ gM hN cJ hs;clear a;intro a H
        have eK : cH.heap.size ≤ eQ:=hs ▸ hW
        replace hS:=hS.newBlk hN cJ hs;clear hN hs
        replace hW:=Nat.le_trans hW cJ.size
        replace hS:=hS.blkOwnL (e:=Zw) (k:=4) [aH.1] rfl rfl (by simp [maxLen])
        replace hS:=hS.pk7
        replace hm:=Tw hm;obtain⟨d9,hm⟩:=hm
        refine Zoy (e:=Zw) 7 H rfl rfl rfl Tryz.underlying24 Tryz.underlying24 (by simp) el118 (hS.own 0 rfl) (((hS.own 1 rfl).slr rfl (fun _ _=>rfl)).src (fun _ _=>rfl)) Zbt d9 (by simp only [maxLen];omega) rfl (by kernel_rfl) (.inl (fun c hc hlt=>Zch hlt (Nat.zero_le _) (Jy (hS.neOwn' 0 2 (by decide) rfl rfl c hc) (Jy (hS.neOwn' 0 3 (by decide) rfl rfl c hc) (Jy (hS.neOwn' 0 5 (by decide) rfl rfl c hc) Ur))))) ?_
        clear H;intro gN gO hN cK hb;clear a;intro a H;replace hS:=hS.setOwn hN cK hb;clear hN hb
        replace hW:=Nat.le_trans hW cK.size
        refine Zh 8 H rfl (Zs rfl) rfl (by kernel_rfl) (by kernel_rfl) (by kernel_rfl) (by kernel_rfl) (fun _ _ _ h=>h) ?_;clear H a;intro a H
        refine Zh 9 H rfl (Zd rfl Tq) rfl (by kernel_rfl) (by kernel_rfl) (by kernel_rfl) (by kernel_rfl) (fun _ _ _ h=>h) ?_;clear H a;intro a H
        replace hS:=hS.pk5
        refine Zf0 10 H rfl rfl rfl sz24 (hS.blk 0 rfl) (by simp) (((hS.own 1 rfl).slr rfl (fun _ _=>rfl))).one (by kernel_rfl) (.inr (by kernel_rfl)) ?_
        clear H;intro fB hN bF hz;clear a;intro a H;replace hS:=hS.setBlk hN bF;clear hN hz;replace hW:=Nat.le_trans hW bF.size
        try simp only [List.set_cons_succ,List.set_cons_zero] at hS
        refine Xh (by kernel_rfl) ?_
        refine Za (wp_seq (wp_region_lit (n_q H (Zc rfl) rfl (W_q (Zb rfl) rfl ?_))));clear H a;intro a H
        refine Ze (Za (wp_ret (Zm (Zg ?_))))
        obtain rfl:=Option.some.inj hm
        replace hS:=hS.pk5
        replace hS:=hS.pk5
        replace hS:=hS.pk8
        replace hS:=hS.pk4
        replace hS:=hS.pk8
        replace hS:=hS.pk8
        replace hS:=hS.pk6
        replace hS:=hS.tk7
        refine Jb H (.inr rfl) rfl rfl ?_
        exact⟨_,_,_,_,_,rfl,hS⟩
      · replace hm:=Zu hm bB
        refine wp_seq (wp_region_lit (n_q H (Wu rfl rfl) rfl (W_q (Zb rfl) rfl ?_)));clear H a;intro a H
        refine Ze (Za (Zl H rfl (fun aM=>?_) (fun aM=>?_)))
        · replace hm:=Zt hm aM
          refine wp_seq (wp_region_lit (n_q H (Zc rfl) rfl ?_));clear H a;intro a H
          replace hS:=hS.pk5
          obtain⟨eV,bG,aN,cP,bH⟩:=hS.frame (rs1:=[blkR b2 [v2_0,.int .i64 a2.at_,.int .i64 a2.bound_] 248])
          replace hm:=Zk hm;obtain⟨aA,cQ,hm⟩:=hm
          refine Zj H rfl Zh8 (Ja (A:=A) (fun w' hw=>hG _ (aN _ hw)) bG (a0:=(⟨a2.b_,a2.at_,a2.bound_⟩ : GWireCursor)) (fun w' hw=>ro2_b _ (aN _ hw)) cQ) rfl ?_
          clear H;intro fC fD hv;clear a;intro a H;obtain⟨aC,rfl,cR⟩:=hv
          replace hS:=bH _ _ cR;simp only [List.cons_append,List.nil_append] at hS;clear bG aN cP bH
          refine n_q H (Zc rfl) rfl (W_q (Zi rfl rfl) rfl (W_q (Zi rfl rfl) rfl (W_q (Zb rfl) rfl (W_q (Zb rfl) rfl ?_))));clear H a;intro a H
          refine Ze (Za (wp_seq (wp_region_lit (n_q H (Zc rfl) rfl (W_q (Zc rfl) rfl (W_q (Zs rfl) rfl (W_q (Zd rfl Zcj) rfl ?_)))))));clear H a;intro a H
          replace hS:=hS.pk2
          refine Kk H rfl rfl sz3 (hS.blk 0 rfl) (by simp) rfl ?_
          clear H;intro fE hN cT hz;clear a;intro a H;replace hS:=hS.setBlk hN cT;clear hN hz
          try simp only [List.set_cons_succ,List.set_cons_zero] at hS
          refine Ze (Za (wp_seq (wp_region_lit (n_q H (Zc rfl) rfl (W_q (Zc rfl) rfl ?_)))));clear H a;intro a H
          replace hS:=hS.pk1
          obtain⟨eW,bI,aO,cU,bJ⟩:=hS.frame (rs1:=[blkR b2 [v2_0,.int .i64 aA.2.2.at_,.int .i64 aA.2.2.bound_] 248])
          replace hm:=Zk hm;obtain⟨aD,cV,hm⟩:=hm
          refine Zj H rfl Zph (Ui (A:=A) (fun w' hw=>hG _ (aO _ hw)) bI (a0:=(⟨a2.b_,aA.2.2.at_,aA.2.2.bound_⟩ : GWireCursor)) (fun w' hw=>ro2_b _ (aO _ hw)) cV) rfl ?_
          clear H;intro aE cL hv;clear a;intro a H;obtain⟨_,rfl,cW⟩:=hv
          replace hS:=bJ _ _ cW;simp only [List.cons_append,List.nil_append] at hS;clear bI aO cU bJ
          refine Zx H Tryz.underlying314 sz39 ze39 rfl rfl rfl (cs:=[aC,aE]) ((Zy (hS.any 3 rfl : IsE A cL aC aA.2.1).one rfl (by simp)).trans ((Zy (hS.any 1 rfl : IsE A cL aE aD.1).one rfl (by simp)).trans rfl)) rfl ?_
          clear H;intro eA aP hN cX hs;clear a;intro a H
          replace hS:=hS.newBlk hN cX hs;clear hN hs
          refine Zj H rfl Zpg (Tz (A:=A) (SlR.ofBlk (k:=1) (R:=REr A) [[aC],[aE]] [(aC,aA.2.1),(aE,aD.1)] (hS.blk 0 rfl) (DIn.cons rfl (by simp [(hS.any 4 rfl : IsE A aP aC aA.2.1).one]) ⟨rfl,(hS.any 4 rfl : IsE A aP aC aA.2.1)⟩ (DIn.cons rfl (by simp [(hS.any 2 rfl : IsE A aP aE aD.1).one]) ⟨rfl,(hS.any 2 rfl : IsE A aP aE aD.1)⟩ trivial)) rfl (by simp [maxLen])) (Ti _)) rfl ?_
          clear H;intro fF eC hv;clear a;intro a H;obtain⟨rfl,cY⟩:=hv;replace hS:=hS.ext cY
          replace hS:=hS.pk2
          replace hS:=hS.pk4
          replace hS:=(St.pickE [(aC,aA.2.1),(aE,aD.1)] rfl hS : St fp w eC [erQ A ((pickE [(aC,aA.2.1),(aE,aD.1)]).1) (Zdm [aA.2.1,aD.1]),blkR eA [aC,aE] 39,blkR b2 [v2_0,.int .i64 aD.2.at_,.int .i64 aD.2.bound_] 248,blkR b0 [.int .i64 a0.Id,.bool a0.Mobile,v0_0,v0_1,v0_2,.int .i64 aA.1,v0_3] 27,ownR 114 2 v0_0 a0.Pages.length (a0.Pages.flatMap Qg),ownR 116 3 v0_1 a0.Procs.length (a0.Procs.flatMap Qe),ownR 118 4 v0_2 a0.Ports.length (a0.Ports.flatMap Zw),ownR 3 1 v0_3 a0.Sems.length (a0.Sems.flatMap eI)])
          refine n_q H (Zb rfl) rfl ?_;clear H a;intro a H
          refine Ze (Za (wp_ret (Zm (Zg ?_))))
          obtain rfl:=Option.some.inj hm
          replace hS:=hS.pk2
          replace hS:=hS.pk7
          replace hS:=hS.pk7
          replace hS:=hS.pk7
          replace hS:=hS.pk7
          replace hS:=hS.pk7
          replace hS:=hS.tk7
          refine Jb H (.inr rfl) rfl rfl ?_
          exact⟨_,_,_,_,_,rfl,hS⟩
        · replace hm:=Zu hm aM
          refine wp_seq (wp_region_lit (n_q H (Wu rfl rfl) rfl (W_q (Zb rfl) rfl ?_)));clear H a;intro a H
          refine Ze (Za (Zl H rfl (fun aQ=>?_) (fun aQ=>?_)))
          · replace hm:=Zt hm aQ
            refine wp_seq (wp_region_lit (n_q H (Zc rfl) rfl (W_q (Zc rfl) rfl ?_)));clear H a;intro a H
            replace hS:=hS.pk5
            obtain⟨eX,bK,bL,cZ,bM⟩:=hS.frame (rs1:=[blkR b2 [v2_0,.int .i64 a2.at_,.int .i64 a2.bound_] 248])
            replace hm:=Zk hm;obtain⟨aR,dA,hm⟩:=hm
            refine Zj H rfl Zg7 (Xg (A:=A) bK (a0:=(⟨a2.b_,a2.at_,a2.bound_⟩ : GWireCursor)) (fun w' hw=>ro2_b _ (bL _ hw)) dA) rfl ?_
            clear H;intro fG fH hv;clear a;intro a H;obtain⟨rfl,dB⟩:=hv
            replace hS:=bM _ _ dB;simp only [List.cons_append,List.nil_append] at hS;clear bK bL cZ bM
            obtain⟨eY,bN,aS,dC,bO⟩:=hS.frame (rs1:=[blkR b2 [v2_0,.int .i64 aR.2.at_,.int .i64 aR.2.bound_] 248])
            replace hm:=Zk hm;obtain⟨aF,dD,hm⟩:=hm
            refine Zj H rfl Zpd (Ug (A:=A) (fun w' hw=>hG _ (aS _ hw)) bN (a0:=(⟨a2.b_,aR.2.at_,aR.2.bound_⟩ : GWireCursor)) (fun w' hw=>ro2_b _ (aS _ hw)) dD) rfl ?_
            clear H;intro fI fJ hv;clear a;intro a H;obtain⟨cM,cN,rfl,dE⟩:=hv
            replace hS:=bO _ _ dE;simp only [List.cons_append,List.nil_append] at hS;clear bN aS dC bO
            refine n_q H (Zc rfl) rfl (W_q (Zi rfl rfl) rfl (W_q (Zi rfl rfl) rfl (W_q (Zb rfl) rfl (W_q (Zb rfl) rfl ?_))));clear H a;intro a H
            refine Ze (Za (wp_seq (wp_seq (wp_region_lit (n_q H (Zc rfl) rfl ?_)))));clear H a;intro a H
            obtain⟨fK,fL,aI,eZ,e7⟩:=SlR.formV ((hS.own 1 rfl).slr rfl (fun _ _=>rfl))
            refine n_q H (Qh Tryz.underlying100 rfl aI) rfl (W_q (Zc rfl) rfl ?_);clear H a;intro a H
            refine Ze (Za (wp_block ?_))
            replace hS:=hS.pk7
            replace hS:=hS.pk7
            replace hS:=hS.pk7
            replace hS:=hS.pk7
            replace hS:=hS.pk7
            replace hS:=hS.pk6
            replace hS:=hS.pk7
            replace hm:=Zk hm;obtain⟨cO,hm,dF⟩:=hm;replace hm:=Qk hm;obtain⟨eD,hm⟩:=hm
            refine Kh (σ:=Nat × Nat × (List Int) × Value) (fun (m,aB,aG,aL)=>[(0,.pointer (some ⟨b0,0,none⟩)),(2,.pointer (some ⟨b2,0,none⟩)),(16,cN),(99,cM),(100,.int .i64 ((aF.1.length : Nat) : Int)),(101,.int .i64 ((aB : Nat) : Int))]) (fun (m,aB,aG,aL) wl=>Kl (Vo aF) m (aB,aG)=some cO ∧ St fp w wl [erQ A cN aF.2.1,ownR 5 1 cM aF.1.length (aF.1.flatMap eB),blkR b0 [.int .i64 a0.Id,.bool a0.Mobile,v0_0,v0_1,v0_2,.int .i64 a0.Events,aL] 27,ownR 114 2 v0_0 a0.Pages.length (a0.Pages.flatMap Qg),ownR 116 3 v0_1 a0.Procs.length (a0.Procs.flatMap Qe),ownR 118 4 v0_2 a0.Ports.length (a0.Ports.flatMap Zw),ownR 3 1 aL aG.length (aG.flatMap eI),blkR b2 [v2_0,.int .i64 aF.2.2.at_,.int .i64 aF.2.2.bound_] 248]) (fun (m,aB,aG,aL)=>m) (eD,0,a0.Sems,v0_3) H ⟨rfl,rfl,rfl,rfl,rfl,rfl,trivial⟩ ⟨hm,hS⟩ ?_
            clear H hS hm a;intro xx a fM H hR;obtain⟨m,aB,aG,aL⟩:=xx;simp only [ent,List.map_cons,List.map_nil] at H;(try dsimp only at hR);obtain⟨hm,hS⟩:=hR
            replace hm:=Qd hm;obtain⟨eE,fN,rfl,hm,bP⟩:=hm;try dsimp only [Vo] at hm
            refine wp_seq (wp_region_lit (n_q H (Ki (i:=aB) (j:=aF.1.length) rfl rfl) rfl ?_));clear H a;intro a H
            refine Ze (Za (wp_seq (Zl H rfl (fun aJ=>?_) (fun aJ=>?_))))
            · replace hm:=Zt hm aJ
              have eT : aB < aF.1.length:=of_decide_eq_true aJ
              refine wp_skip (Za (wp_seq (wp_block (wp_seq (wp_region_lit ?_)))))
              replace hm:=Zk hm;obtain⟨bE,aT,hm⟩:=hm
              obtain⟨eU,aV⟩:=SlR.adV ((hS.own 1 rfl).slr rfl (fun _ _=>rfl)) aI aT
              refine n_q H (Uq (i:=aB) Tryz.underlying100 sz5 rfl aI aV rfl (Zb9 aT)) rfl (W_q (Zf rfl (SlR.ldOneV ((hS.own 1 rfl).slr rfl (fun _ _=>rfl)) aI aV ag5 aT rfl)) rfl (W_q (Zb rfl) rfl ?_));clear H a;intro a H
              refine Ze (Za (wp_region_lit (n_q H (Zc rfl) rfl (W_q (Zc rfl) rfl (W_q (Zs rfl) rfl (W_q (Zd rfl Tr) rfl (W_q (Zf rfl ((hS.blk 2 rfl).ld Zjd rfl)) rfl (W_q (Zc rfl) rfl (W_q (Qt (Wo Tryz.underlying5 Tryz.underlying3 ⟨_,rfl⟩ rfl) (Zcg _)) rfl ?_)))))))));clear H a;intro a H
              refine Zx H Tryz.underlying25 sz3 ze3 rfl rfl rfl (cs:=[.int .i64 (bE.toNat : Int)]) (by kernel_rfl) rfl ?_
              clear H;intro fO fP hN dG hs;clear a;intro a H
              replace hS:=hS.newBlk hN dG hs;clear hN hs
              replace hS:=hS.blkOwnL (e:=eI) (k:=1) [(bE.toNat : Int)] rfl rfl (by simp [maxLen])
              replace hS:=hS.pk7
              replace hm:=Tw hm;obtain⟨dH,hm⟩:=hm
              refine Zaw (e:=eI) H rfl rfl Tryz.underlying25 Tryz.underlying25 (by simp) el3 (hS.own 0 rfl) (((hS.own 1 rfl).slr rfl (fun _ _=>rfl)).src (fun _ _=>rfl)) Zi3 dH (by simp only [maxLen];omega) rfl ?_
              clear H;intro eG fQ hN dI hb;clear a;intro a H;replace hS:=hS.setOwn hN dI hb;clear hN hb
              refine n_q H (Zs rfl) rfl (W_q (Zd rfl Tr) rfl ?_);clear H a;intro a H
              replace hS:=hS.pk4
              refine Kk H rfl rfl sz25 (hS.blk 0 rfl) (by simp) (((hS.own 1 rfl).slr rfl (fun _ _=>rfl))).one ?_
              clear H;intro fR hN dJ hz;clear a;intro a H;replace hS:=hS.setBlk hN dJ;clear hN hz
              try simp only [List.set_cons_succ,List.set_cons_zero] at hS
              refine Ze (Zn (Za (wp_region_lit (n_q H (Yx (i:=aB) (j:=1) rfl rfl (by omega)) rfl (W_q (Zc rfl) rfl ?_)))));clear H a;intro a H
              refine Ze (Za ?_)
              obtain rfl:=Option.some.inj hm
              replace hS:=hS.pk8
              replace hS:=hS.pk2
              replace hS:=hS.pk8
              replace hS:=hS.pk8
              replace hS:=hS.pk8
              replace hS:=hS.pk5
              replace hS:=hS.pk8
              replace hS:=hS.pk8
              replace hS:=hS.tk8
              exact Wm (eE,aB + 1,(aG ++ [(bE.toNat : Int)]),eG) H ⟨rfl,rfl,rfl,rfl,rfl,rfl,trivial⟩ ⟨bP,hS⟩ (Nat.lt_succ_self _)
            · replace hm:=Zu hm aJ
              refine wp_exit (Zo (Zo (Qb ?_)))
              obtain rfl:=Option.some.inj hm;have hz : _=cO:=bP;subst hz;replace hm:=dF;try dsimp only at hm
              refine Za (wp_seq (wp_region_lit (n_q H (Zc rfl) rfl (W_q (Zb rfl) rfl ?_))));clear H a;intro a H
              refine Ze (Za (wp_ret (Zm (Zg ?_))))
              obtain rfl:=Option.some.inj hm
              replace hS:=hS.pk7
              replace hS:=hS.pk7
              replace hS:=hS.pk7
              replace hS:=hS.pk7
              replace hS:=hS.pk7
              replace hS:=hS.pk7
              replace hS:=hS.tk7
              refine Jb H (.inr rfl) rfl rfl ?_
              exact⟨_,_,_,_,_,rfl,hS⟩
          · replace hm:=Zu hm aQ
            refine wp_skip (Zn (Za (wp_seq (wp_region_lit (n_q H (Zf rfl ((hG _ hS.chg).ld Zjy (by decide) Wy)) rfl (W_q (Zb rfl) rfl ?_))))));clear H a;intro a H
            refine Ze (Za (wp_ret ?_))
            obtain rfl:=Option.some.inj hm
            replace hS:=hS.dVar (A:=A) (g:=Zjy) (by decide)
            replace hS:=hS.pk6
            replace hS:=hS.pk6
            replace hS:=hS.pk6
            replace hS:=hS.pk6
            replace hS:=hS.pk6
            replace hS:=hS.pk6
            refine Jb H (.inr rfl) rfl rfl ?_
            exact⟨_,_,_,_,_,rfl,hS⟩
theorem Zbb {w : World} {A : Nat → Addr} {v0 : Value} {a0 : List UInt8} {v1 : Value} {a1 : List UInt8} (h0 : SlR w 1 (Zq eB) v0 a0) (h1 : SlR w 1 (Zq eB) v1 a1) {r : Bool} (hm : Xv a0 a1=some r) :
    Calls Tryz.prog 107 [v0,v1].toArray w (Ret fun u w'=>u=.bool r ∧ Ext w w'):=by
  have hS:=St.begin NB w
  unfold Xv at hm
  refine enter Tryz.func107 rfl rfl rfl ?_;intro a H;dsimp only [Qo,Nat.zero_add,Nat.reduceAdd] at H
  refine wp_seq (wp_region_lit (n_q H (Zb rfl) rfl ?_));clear H a;intro a H
  refine Ze (Za (wp_seq (wp_seq (wp_region_lit (n_q H (Zc rfl) rfl ?_)))));clear H a;intro a H
  obtain⟨aX,aY,aB,aT,aU⟩:=SlR.formV (h0.ext (Zq.mono _) hS.x)
  refine n_q H (Qh Tryz.underlying100 rfl aB) rfl (W_q (Zc rfl) rfl ?_);clear H a;intro a H
  obtain⟨aZ,a9,aC,aV,aW⟩:=SlR.formV (h1.ext (Zq.mono _) hS.x)
  refine n_q H (Qh Tryz.underlying100 rfl aC) rfl (W_q (Zgx (i:=a0.length) (j:=a1.length) rfl rfl) rfl ?_);clear H a;intro a H
  refine Ze (Za (Zl H rfl (fun aE=>?_) (fun aE=>?_)))
  · replace hm:=Zt hm aE
    refine wp_seq (wp_region_lit (n_q H (Zb rfl) rfl ?_));clear H a;intro a H
    refine Ze (Za (wp_ret (Zg ?_)))
    obtain rfl:=Option.some.inj hm
    refine Jb H (.inr rfl) rfl rfl ?_
    exact⟨rfl,hS.x⟩
  · replace hm:=Zu hm aE
    refine wp_skip (Za (wp_seq (wp_seq (wp_region_lit (n_q H (Zc rfl) rfl (W_q (Qh Tryz.underlying100 rfl aB) rfl (W_q (Zc rfl) rfl ?_)))))));clear H a;intro a H
    refine Ze (Za (wp_block ?_))
    replace hm:=Zk hm;obtain⟨aL,hm,aM⟩:=hm;replace hm:=Qk hm;obtain⟨aO,hm⟩:=hm
    refine Kh (σ:=Nat × Nat) (fun (m,aA)=>[(0,v0),(1,v1),(12,.int .i64 ((a0.length : Nat) : Int)),(13,.int .i64 ((aA : Nat) : Int))]) (fun (m,aA) wl=>Kl (Xt a0 a1) m aA=some aL ∧ St NB w wl []) (fun (m,aA)=>m) (aO,0) H ⟨rfl,rfl,rfl,rfl,trivial⟩ ⟨hm,hS⟩ ?_
    clear H hS hm a;intro xx a bA H hR;obtain⟨m,aA⟩:=xx;simp only [ent,List.map_cons,List.map_nil] at H;(try dsimp only at hR);obtain⟨hm,hS⟩:=hR
    replace hm:=Qd hm;obtain⟨aP,bB,rfl,hm,aF⟩:=hm;try dsimp only [Xt] at hm
    refine wp_seq (wp_region_lit (n_q H (Ki (i:=aA) (j:=a0.length) rfl rfl) rfl ?_));clear H a;intro a H
    refine Ze (Za (wp_seq (Zl H rfl (fun aD=>?_) (fun aD=>?_))))
    · replace hm:=Zt hm aD
      have aQ : aA < a0.length:=of_decide_eq_true aD
      refine wp_skip (Za (wp_seq (wp_block (wp_seq (wp_region_lit (n_q H (Zc rfl) rfl (W_q (Zb rfl) rfl ?_)))))));clear H a;intro a H
      refine Ze (Za (wp_seq (Hs (by kernel_rfl) (by kernel_rfl) ?_)))
      refine Wn H (Zc rfl) rfl ?_;clear H a;intro a H
      refine Wn H (Zc rfl) rfl ?_;clear H a;intro a H
      replace hm:=Zk hm;obtain⟨bC,aG,hm⟩:=hm
      obtain⟨aR,aJ⟩:=SlR.adV (h0.ext (Zq.mono _) hS.x) aB aG
      refine Wn H (Uq (i:=aA) Tryz.underlying100 sz5 rfl aB aJ rfl (Zb9 aG)) rfl ?_;clear H a;intro a H
      refine Wn H (Zf rfl (SlR.ldOneV (h0.ext (Zq.mono _) hS.x) aB aJ ag5 aG rfl)) rfl ?_;clear H a;intro a H
      refine Wn H (Zc rfl) rfl ?_;clear H a;intro a H
      refine Wn H (Zc rfl) rfl ?_;clear H a;intro a H
      replace hm:=Zk hm;obtain⟨bD,aH,hm⟩:=hm
      obtain⟨aS,aK⟩:=SlR.adV (h1.ext (Zq.mono _) hS.x) aC aH
      refine Wn H (Uq (i:=aA) Tryz.underlying100 sz5 rfl aC aK rfl (Zb9 aH)) rfl ?_;clear H a;intro a H
      refine Wn H (Zf rfl (SlR.ldOneV (h1.ext (Zq.mono _) hS.x) aC aK ag5 aH rfl)) rfl ?_;clear H a;intro a H
      refine Wn H (Hv rfl rfl) rfl ?_;clear H a;intro a H
      refine Za1 ?_;intro bE aN
      replace hS:=hS.ext aN
      refine Za (Zl H rfl (fun aI=>?_) (fun aI=>?_))
      · replace hm:=Zt hm aI
        refine wp_seq (wp_region_lit (n_q H (Zb rfl) rfl ?_));clear H a;intro a H
        refine Ze (Za (wp_ret (Zm (Zg (Zg (Zm (Zg ?_)))))))
        obtain rfl:=Option.some.inj hm;have hz : _=aL:=aF;subst hz;replace hm:=aM;try dsimp only at hm
        obtain rfl:=Option.some.inj hm
        refine Jb H (.inr rfl) rfl rfl ?_
        exact⟨rfl,hS.x⟩
      · replace hm:=Zu hm aI
        refine wp_skip (Zn (Za (wp_region_lit (n_q H (Yx (i:=aA) (j:=1) rfl rfl (by omega)) rfl (W_q (Zc rfl) rfl ?_)))));clear H a;intro a H
        refine Ze (Za ?_)
        obtain rfl:=Option.some.inj hm
        exact Wm (aP,aA + 1) H ⟨rfl,rfl,rfl,rfl,trivial⟩ ⟨aF,hS⟩ (Nat.lt_succ_self _)
    · replace hm:=Zu hm aD
      refine wp_exit (Zo (Zo (Qb ?_)))
      obtain rfl:=Option.some.inj hm;have hz : _=aL:=aF;subst hz;replace hm:=aM;try dsimp only at hm
      refine Za (wp_seq (wp_region_lit (n_q H (Zb rfl) rfl ?_)));clear H a;intro a H
      refine Ze (Za (wp_ret ?_))
      obtain rfl:=Option.some.inj hm
      refine Jb H (.inr rfl) rfl rfl ?_
      exact⟨rfl,hS.x⟩
set_option maxHeartbeats 1000000 in
theorem Wk {w : World} {A : Nat → Addr} {v0 : Value} {a0 : List UInt8} (hG : EV A w) (h0 : SlR w 1 (Zq eB) v0 a0) {r : GPlan × ErrM} (hm : Qv a0=some r) :
    Calls Tryz.prog 49 [v0].toArray w (Ret fun u w'=>∃ h_0 h_1 h_2 h_3 h_4,u=.tuple #[.agg #[.int .i64 r.1.Id,.bool r.1.Mobile,h_0,h_1,h_2,.int .i64 r.1.Events,h_3],h_4] ∧ St NB w w' [ownR 114 2 h_0 r.1.Pages.length (r.1.Pages.flatMap Qg),ownR 116 3 h_1 r.1.Procs.length (r.1.Procs.flatMap Qe),ownR 118 4 h_2 r.1.Ports.length (r.1.Ports.flatMap Zw),ownR 3 1 h_3 r.1.Sems.length (r.1.Sems.flatMap eI),erQ A h_4 r.2]):=by
  have hS:=St.begin NB w
  unfold Qv at hm
  refine enter Tryz.func49 rfl rfl rfl ?_;intro a H;dsimp only [Qo,Nat.zero_add,Nat.reduceAdd] at H
  refine wp_seq (wp_region_lit (Xj H Zj2 rfl ?_))
  clear H;intro bE hY hN eZ hs;clear a;intro a H
  replace hS:=hS.newBlk hN eZ hs;clear hN hs
  refine n_q H (Zb rfl) rfl ?_;clear H a;intro a H
  refine Ze (Za (wp_seq (wp_region_lit (n_q H (Zc rfl) rfl ?_))));clear H a;intro a H
  replace hm:=Zk hm;obtain⟨bF,e7,hm⟩:=hm
  refine Zj H rfl en99 (Zha (A:=A) (hG.ext hS.x) (h0.ext (Zq.mono _) hS.x) e7) rfl ?_
  clear H;intro hZ aZ hv;clear a;intro a H;obtain⟨iA,dB,rfl,e8⟩:=hv
  replace hS:=hS.new e8;simp only [List.cons_append,List.nil_append] at hS
  refine n_q H (Zc rfl) rfl (W_q (Zi rfl rfl) rfl (W_q (Zi rfl rfl) rfl (W_q (Zb rfl) rfl (W_q (Zb rfl) rfl ?_))));clear H a;intro a H
  refine Ze (Za (wp_seq (wp_seq (wp_region_lit (n_q H (Zc rfl) rfl (W_q (Qt (Jr Tryz.underlying39 rfl rfl (hS.any 1 rfl : IsE A aZ dB bF.2).form) (show _=Value.bool (!decide (bF.2=.nil)) by rw [Xa.isNil (hS.any 1 rfl : IsE A aZ dB bF.2)])) rfl ?_))))));clear H a;intro a H
  refine Ze (Za (Zl H rfl (fun bS=>?_) (fun bS=>?_)))
  · replace hm:=Zt hm bS
    refine wp_seq (wp_region_lit (n_q H (Qc (cs:=[.int .i64 0,.bool false,.slice none 0 0,.slice none 0 0,.slice none 0 0,.int .i64 0,.slice none 0 0]) Zj2 Zo6 Zo7 rfl (by kernel_rfl)) rfl (W_q (Zc rfl) rfl ?_)));clear H a;intro a H
    replace hS:=hS.pk2
    refine Zr H rfl rfl (vs:=[.int .i64 0,.bool false,.slice none 0 0,.slice none 0 0,.slice none 0 0,.int .i64 0,.slice none 0 0]) rfl Gy (hS.blk 0 rfl) rfl (by simp) ?_
    clear H;intro iB hN e9 hz;clear a;intro a H;replace hS:=hS.setBlk hN e9;clear hN hz
    refine n_q H (Zb rfl) rfl ?_;clear H a;intro a H
    refine Ze (Za (wp_ret (Zg ?_)))
    obtain rfl:=Option.some.inj hm
    replace hS:=hS.nilOwn 114 2
    replace hS:=hS.nilOwn 116 3
    replace hS:=hS.nilOwn 118 4
    replace hS:=hS.nilOwn 3 1
    replace hS:=hS.pk4
    replace hS:=hS.pk6
    replace hS:=hS.pk2
    replace hS:=hS.pk3
    replace hS:=hS.pk4
    replace hS:=hS.pk5
    replace hS:=hS.tk6
    refine Zad H (.inr rfl) rfl (vs:=[.agg #[.int .i64 0,.bool false,.slice none 0 0,.slice none 0 0,.slice none 0 0,.int .i64 0,.slice none 0 0],dB]) (Xk rfl ((hS.blk 5 rfl).ldAll Za0 Gy) (Ku rfl Xw)) ?_
    replace hS:=hS.tk5
    exact⟨_,_,_,_,_,rfl,hS⟩
  · replace hm:=Zu hm bS
    refine wp_skip (Za (wp_seq (wp_seq (wp_region_lit (n_q H (Zc rfl) rfl ?_)))));clear H a;intro a H
    obtain⟨fW,fX,bT,gI,gJ⟩:=SlR.formV ((hS.own 0 rfl).slr rfl (fun _ _=>rfl))
    refine n_q H (Qh Tryz.underlying100 rfl bT) rfl (W_q (Ki (i:=bF.1.length) (j:=15) rfl rfl) rfl ?_);clear H a;intro a H
    refine Ze (Za (Zl H rfl (fun bG=>?_) (fun bG=>?_)))
    · replace hm:=Zt hm bG
      have fY : bF.1.length < 15:=of_decide_eq_true bG
      refine wp_seq (Gx (kB w.heap.size [] aZ.drew.heap.size) 4 (by kernel_rfl) ?_)
      obtain⟨eW,bU⟩ : ∃ x,x=aZ.drew:=⟨_,rfl⟩;rw [← bU];have fA : Ext aZ eW:=by rw [bU];exact Ext.drew' _
      clear bU
      replace hS:=hS.ext fA
      have fB:=hS.x.size
      have hW:=Nat.le_refl eW.heap.size
      refine Zh 0 H rfl (Qc (cs:=[.int .i64 0,.bool false,.slice none 0 0,.slice none 0 0,.slice none 0 0,.int .i64 0,.slice none 0 0]) Zj2 Zo6 Zo7 rfl (by kernel_rfl)) rfl (by kernel_rfl) (by kernel_rfl) (by kernel_rfl) (by kernel_rfl) (fun _ _ _ h=>h) ?_;clear H a;intro a H
      refine Xq 1 H rfl (Zf rfl (LdC.old (hG.ld Kz (by decide) Wy) hS.x fB Zfl)) rfl (by kernel_rfl) (by kernel_rfl) (by kernel_rfl) (by kernel_rfl) (fun _ _ _ h=>h) ?_;clear H a;intro a H
      replace hS:=hS.pk2
      refine Qf 2 H rfl rfl rfl (vs:=[.int .i64 0,.bool false,.slice none 0 0,.slice none 0 0,.slice none 0 0,.int .i64 0,.slice none 0 0]) rfl Gy (hS.blk 0 rfl) rfl (by simp) (by kernel_rfl) (.inl (fun h=>Zch h (hS.ge (i:=0) rfl) Ur)) ?_
      clear H;intro iC hN dC hz;clear a;intro a H;replace hS:=hS.setBlk hN dC;clear hN hz;replace hW:=Nat.le_trans hW dC.size
      refine Zh 3 H rfl (Zb rfl) rfl (by kernel_rfl) (by kernel_rfl) (by kernel_rfl) (by kernel_rfl) (fun _ _ _ h=>h) ?_;clear H a;intro a H
      refine Xh (by kernel_rfl) ?_
      refine Za (wp_ret (Zg ?_))
      obtain rfl:=Option.some.inj hm
      replace hS:=hS.nilOwn 114 2
      replace hS:=hS.nilOwn 116 3
      replace hS:=hS.nilOwn 118 4
      replace hS:=hS.nilOwn 3 1
      replace hS:=hS.dVar (A:=A) (g:=Kz) (by decide)
      replace hS:=hS.pk5
      replace hS:=hS.pk1
      replace hS:=hS.pk2
      replace hS:=hS.pk3
      replace hS:=hS.pk4
      replace hS:=hS.pk5
      replace hS:=hS.tk6
      refine Zad H (.inr rfl) rfl (vs:=[.agg #[.int .i64 0,.bool false,.slice none 0 0,.slice none 0 0,.slice none 0 0,.int .i64 0,.slice none 0 0],sv 340 A Kz]) (Xk rfl ((hS.blk 5 rfl).ldAll Za0 Gy) (Ku rfl Xw)) ?_
      replace hS:=hS.tk5
      exact⟨_,_,_,_,_,rfl,hS⟩
    · replace hm:=Zu hm bG
      refine wp_skip (Za (wp_seq (wp_seq (wp_region_lit (n_q H (Zc rfl) rfl ?_)))));clear H a;intro a H
      replace hm:=Tw hm;obtain⟨bV,hm⟩:=hm
      refine n_q H (Zd7 Tryz.underlying100 sz5 (show _=some (Value.slice fW bF.1.length fX) by rw [← bT];rfl) rfl bV.1 (by omega)) rfl (W_q (Zkt Tryz.underlying100 Tryz.underlying5 Tryz.underlying9 rfl (fun w' hw=>((SlR.takeV ((hS.own 0 rfl).slr rfl (fun _ _=>rfl)) bT bV.1 bV.2).ext (Zq.mono _) hw))) rfl (W_q (Zn4 rfl rfl) rfl ?_));clear H a;intro a H
      refine Ze (Za (Zl H rfl (fun bW=>?_) (fun bW=>?_)))
      · replace hm:=Zt hm bW
        refine wp_seq (Gx (kB w.heap.size [] aZ.drew.heap.size) 4 (by kernel_rfl) ?_)
        obtain⟨eX,bX⟩ : ∃ x,x=aZ.drew:=⟨_,rfl⟩;rw [← bX];have fC : Ext aZ eX:=by rw [bX];exact Ext.drew' _
        clear bX
        replace hS:=hS.ext fC
        have fD:=hS.x.size
        have hW:=Nat.le_refl eX.heap.size
        refine Zh 0 H rfl (Qc (cs:=[.int .i64 0,.bool false,.slice none 0 0,.slice none 0 0,.slice none 0 0,.int .i64 0,.slice none 0 0]) Zj2 Zo6 Zo7 rfl (by kernel_rfl)) rfl (by kernel_rfl) (by kernel_rfl) (by kernel_rfl) (by kernel_rfl) (fun _ _ _ h=>h) ?_;clear H a;intro a H
        refine Xq 1 H rfl (Zf rfl (LdC.old (hG.ld Zf4 (by decide) Wy) hS.x fD Zfl)) rfl (by kernel_rfl) (by kernel_rfl) (by kernel_rfl) (by kernel_rfl) (fun _ _ _ h=>h) ?_;clear H a;intro a H
        replace hS:=hS.pk2
        refine Qf 2 H rfl rfl rfl (vs:=[.int .i64 0,.bool false,.slice none 0 0,.slice none 0 0,.slice none 0 0,.int .i64 0,.slice none 0 0]) rfl Gy (hS.blk 0 rfl) rfl (by simp) (by kernel_rfl) (.inl (fun h=>Zch h (hS.ge (i:=0) rfl) Ur)) ?_
        clear H;intro iD hN dD hz;clear a;intro a H;replace hS:=hS.setBlk hN dD;clear hN hz;replace hW:=Nat.le_trans hW dD.size
        refine Zh 3 H rfl (Zb rfl) rfl (by kernel_rfl) (by kernel_rfl) (by kernel_rfl) (by kernel_rfl) (fun _ _ _ h=>h) ?_;clear H a;intro a H
        refine Xh (by kernel_rfl) ?_
        refine Za (wp_ret (Zg ?_))
        obtain rfl:=Option.some.inj hm
        replace hS:=hS.nilOwn 114 2
        replace hS:=hS.nilOwn 116 3
        replace hS:=hS.nilOwn 118 4
        replace hS:=hS.nilOwn 3 1
        replace hS:=hS.dVar (A:=A) (g:=Zf4) (by decide)
        replace hS:=hS.pk5
        replace hS:=hS.pk1
        replace hS:=hS.pk2
        replace hS:=hS.pk3
        replace hS:=hS.pk4
        replace hS:=hS.pk5
        replace hS:=hS.tk6
        refine Zad H (.inr rfl) rfl (vs:=[.agg #[.int .i64 0,.bool false,.slice none 0 0,.slice none 0 0,.slice none 0 0,.int .i64 0,.slice none 0 0],sv 340 A Zf4]) (Xk rfl ((hS.blk 5 rfl).ldAll Za0 Gy) (Ku rfl Xw)) ?_
        replace hS:=hS.tk5
        exact⟨_,_,_,_,_,rfl,hS⟩
      · replace hm:=Zu hm bW
        refine wp_skip (Za (wp_seq (wp_region_lit (n_q H (Zc rfl) rfl ?_))));clear H a;intro a H
        replace hm:=Zk hm;obtain⟨aM,fE,hm⟩:=hm
        refine Zj H rfl en100 (Zgg (A:=A) ((hS.own 0 rfl).slr rfl (fun _ _=>rfl)) fE) rfl ?_
        clear H;intro iE iF hv;clear a;intro a H;obtain⟨aP,aQ,rfl,fF⟩:=hv
        replace hS:=hS.new fF;simp only [List.cons_append,List.nil_append] at hS
        refine n_q H (Zb rfl) rfl ?_;clear H a;intro a H
        refine Ze (Za (wp_seq (wp_region_lit (n_q H (Zc rfl) rfl ?_))));clear H a;intro a H
        obtain⟨gK,dE,dF,dG,dH⟩:=hS.frame (rs1:=[blkR aP [aQ,.int .i64 aM.at_,.int .i64 aM.bound_] 248])
        replace hm:=Zk hm;obtain⟨b9,fG,hm⟩:=hm
        refine Zj H rfl Zpd (Ug (A:=A) (fun w' hw=>hG.ext (dF _ hw).ext) dE (a0:=(⟨aM.b_,aM.at_,aM.bound_⟩ : GWireCursor)) (fun w' hw=>(Uo (dG 0 _ rfl _ hw)).slr rfl (fun _ _=>rfl)) fG) rfl ?_
        clear H;intro iG iH hv;clear a;intro a H;obtain⟨iI,iJ,rfl,fH⟩:=hv
        replace hS:=dH _ _ fH;simp only [List.cons_append,List.nil_append] at hS;clear dE dF dG dH
        refine Ze (Za (wp_seq (wp_seq (wp_region_lit (n_q H (Zc rfl) rfl ?_)))));clear H a;intro a H
        obtain⟨gL,dI,dJ,dK,dL⟩:=hS.frame (rs1:=[blkR aP [aQ,.int .i64 b9.2.2.at_,.int .i64 b9.2.2.bound_] 248])
        replace hm:=Zk hm;obtain⟨cA,fI,hm⟩:=hm
        refine Zj H rfl Zpe (Uh (A:=A) (fun w' hw=>hG.ext (dJ _ hw).ext) dI (a0:=(⟨aM.b_,b9.2.2.at_,b9.2.2.bound_⟩ : GWireCursor)) (fun w' hw=>(Uo (dK 2 _ rfl _ hw)).slr rfl (fun _ _=>rfl)) fI) rfl ?_
        clear H;intro iK dM hv;clear a;intro a H;obtain⟨iL,rfl,fJ⟩:=hv
        replace hS:=dL _ _ fJ;simp only [List.cons_append,List.nil_append] at hS;clear dI dJ dK dL
        refine n_q H (Zc rfl) rfl (W_q (Zi rfl rfl) rfl (W_q (Zi rfl rfl) rfl (W_q (Zb rfl) rfl (W_q (Zb rfl) rfl ?_))));clear H a;intro a H
        refine Ze (Za (wp_seq (wp_region_lit (n_q H (Zc rfl) rfl (W_q (Zc rfl) rfl ?_)))));clear H a;intro a H
        obtain⟨iM,iN,fK,gM,gN⟩:=SlR.formV (h0.ext (Zq.mono _) hS.x)
        refine n_q H (Qh Tryz.underlying100 rfl fK) rfl (W_q (Hv rfl rfl) rfl ?_);clear H a;intro a H
        refine Ze (Za (Zl H rfl (fun bY=>?_) (fun bY=>?_)))
        · replace hm:=Zt hm bY
          refine wp_seq (Gx (kB w.heap.size (aP :: []) dM.drew.heap.size) 4 (by kernel_rfl) ?_)
          obtain⟨eY,bZ⟩ : ∃ x,x=dM.drew:=⟨_,rfl⟩;rw [← bZ];have fL : Ext dM eY:=by rw [bZ];exact Ext.drew' _
          clear bZ
          replace hS:=hS.ext fL
          have dN:=(hS.blk 0 rfl).lt
          have fM:=hS.x.size
          have hW:=Nat.le_refl eY.heap.size
          refine Zh 0 H rfl (Qc (cs:=[.int .i64 0,.bool false,.slice none 0 0,.slice none 0 0,.slice none 0 0,.int .i64 0,.slice none 0 0]) Zj2 Zo6 Zo7 rfl (by kernel_rfl)) rfl (by kernel_rfl) (by kernel_rfl) (by kernel_rfl) (by kernel_rfl) (fun _ _ _ h=>h) ?_;clear H a;intro a H
          refine Xq 1 H rfl (Zf rfl (LdC.old (hG.ld Yy (by decide) Wy) hS.x fM Zfl)) rfl (by kernel_rfl) (by kernel_rfl) (by kernel_rfl) (by kernel_rfl) (fun _ _ _ h=>h) ?_;clear H a;intro a H
          replace hS:=hS.pk7
          refine Qf 2 H rfl rfl rfl (vs:=[.int .i64 0,.bool false,.slice none 0 0,.slice none 0 0,.slice none 0 0,.int .i64 0,.slice none 0 0]) rfl Gy (hS.blk 0 rfl) rfl (by simp) (by kernel_rfl) (.inl (fun h=>Zch h (hS.ge (i:=0) rfl) (Jy (hS.ne (i:=0) (j:=1) (by decide) rfl rfl) Ur))) ?_
          clear H;intro iO hN dO hz;clear a;intro a H;replace hS:=hS.setBlk hN dO;clear hN hz;replace hW:=Nat.le_trans hW dO.size
          refine Zh 3 H rfl (Zb rfl) rfl (by kernel_rfl) (by kernel_rfl) (by kernel_rfl) (by kernel_rfl) (fun _ _ _ h=>h) ?_;clear H a;intro a H
          refine Xh (by kernel_rfl) ?_
          refine Za (wp_ret (Zg ?_))
          obtain rfl:=Option.some.inj hm
          replace hS:=hS.nilOwn 114 2
          replace hS:=hS.nilOwn 116 3
          replace hS:=hS.nilOwn 118 4
          replace hS:=hS.nilOwn 3 1
          replace hS:=hS.dVar (A:=A) (g:=Yy) (by decide)
          replace hS:=hS.pk5
          replace hS:=hS.pk1
          replace hS:=hS.pk2
          replace hS:=hS.pk3
          replace hS:=hS.pk4
          replace hS:=hS.pk5
          replace hS:=hS.tk6
          refine Zad H (.inr rfl) rfl (vs:=[.agg #[.int .i64 0,.bool false,.slice none 0 0,.slice none 0 0,.slice none 0 0,.int .i64 0,.slice none 0 0],sv 340 A Yy]) (Xk rfl ((hS.blk 5 rfl).ldAll Za0 Gy) (Ku rfl Xw)) ?_
          replace hS:=hS.tk5
          exact⟨_,_,_,_,_,rfl,hS⟩
        · replace hm:=Zu hm bY
          refine wp_skip (Za (wp_seq (wp_region_lit (Xj H Zj2 rfl ?_))))
          clear H;intro aO gO hN d6 hs;clear a;intro a H
          replace hS:=hS.newBlk hN d6 hs;clear hN hs
          refine Ze (Za (wp_seq (wp_region_lit (n_q H (Zc rfl) rfl ?_))));clear H a;intro a H
          replace hS:=hS.pk1
          obtain⟨fZ,cB,cC,cD,cF⟩:=hS.frame (rs1:=[blkR aP [aQ,.int .i64 cA.2.2.at_,.int .i64 cA.2.2.bound_] 248])
          replace hm:=Zk hm;obtain⟨bA,d7,hm⟩:=hm
          refine Zj H rfl Zpe (Uh (A:=A) (fun w' hw=>hG.ext (cC _ hw).ext) cB (a0:=(⟨aM.b_,cA.2.2.at_,cA.2.2.bound_⟩ : GWireCursor)) (fun w' hw=>(Uo (cD 4 _ rfl _ hw)).slr rfl (fun _ _=>rfl)) d7) rfl ?_
          clear H;intro gP gQ hv;clear a;intro a H;obtain⟨gR,rfl,d8⟩:=hv
          replace hS:=cF _ _ d8;simp only [List.cons_append,List.nil_append] at hS;clear cB cC cD cF
          refine n_q H (Zc rfl) rfl (W_q (Zi rfl rfl) rfl (W_q (Zi rfl rfl) rfl (W_q (Zd rfl Zef) rfl ?_)));clear H a;intro a H
          replace hS:=hS.pk2
          refine Kk H rfl rfl sz3 (hS.blk 0 rfl) (by simp) rfl ?_
          clear H;intro gS hN d9 hz;clear a;intro a H;replace hS:=hS.setBlk hN d9;clear hN hz
          try simp only [List.set_cons_succ,List.set_cons_zero] at hS
          refine Ze (Za (wp_seq (wp_region_lit (n_q H (Zc rfl) rfl ?_))));clear H a;intro a H
          replace hS:=hS.pk1
          obtain⟨gA,cG,cH,cI,cJ⟩:=hS.frame (rs1:=[blkR aP [aQ,.int .i64 bA.2.2.at_,.int .i64 bA.2.2.bound_] 248])
          replace hm:=Zk hm;obtain⟨bH,eA,hm⟩:=hm
          refine Zj H rfl en103 (Hc (A:=A) (fun w' hw=>hG.ext (cH _ hw).ext) cG (a0:=(⟨aM.b_,bA.2.2.at_,bA.2.2.bound_⟩ : GWireCursor)) (fun w' hw=>(Uo (cI 5 _ rfl _ hw)).slr rfl (fun _ _=>rfl)) eA) rfl ?_
          clear H;intro gT gU hv;clear a;intro a H;obtain⟨fN,rfl,eC⟩:=hv
          replace hS:=cJ _ _ eC;simp only [List.cons_append,List.nil_append] at hS;clear cG cH cI cJ
          refine n_q H (Zc rfl) rfl (W_q (Zi rfl rfl) rfl (W_q (Zi rfl rfl) rfl (W_q (Zd rfl Zoe) rfl ?_)));clear H a;intro a H
          replace hS:=hS.pk2
          refine Kk H rfl rfl sz4 (hS.blk 0 rfl) (by simp) rfl ?_
          clear H;intro gV hN eD hz;clear a;intro a H;replace hS:=hS.setBlk hN eD;clear hN hz
          try simp only [List.set_cons_succ,List.set_cons_zero] at hS
          refine n_q H (Zb rfl) rfl ?_;clear H a;intro a H
          refine Ze (Za (wp_seq (wp_block ?_)))
          replace hS:=hS.nilOwn 114 2
          replace hS:=hS.nilOwn 116 3
          replace hS:=hS.nilOwn 118 4
          replace hS:=hS.nilOwn 3 1
          replace hS:=hS.pk1
          replace hS:=hS.pk2
          replace hS:=hS.pk3
          replace hS:=hS.pk4
          replace hS:=hS.pick 11 rfl;dsimp only [List.eraseIdx] at hS
          replace hS:=hS.pk6
          replace hS:=hS.pick 14 rfl;dsimp only [List.eraseIdx] at hS
          replace hS:=hS.pk8
          replace hS:=hS.tk9
          replace hm:=Zk hm;obtain⟨dP,hm,eE⟩:=hm;replace hm:=Qk hm;obtain⟨fO,hm⟩:=hm
          refine Kh (σ:=Nat × ErrM × Int × Int × Int × Bool × (List GPagePlan) × (List GProcPlan) × (List GPortPlan) × Int × (List Int) × Value × Value × Value × Value × Value) (fun (m,aL,aR,aS,aE,aF,aA,aB,aC,aG,aD,aN,aH,aI,aJ,aK)=>[(0,v0),(2,.pointer (some ⟨bE,0,none⟩)),(5,aN),(6,.pointer (some ⟨aP,0,none⟩)),(9,.pointer (some ⟨aO,0,none⟩))]) (fun (m,aL,aR,aS,aE,aF,aA,aB,aC,aG,aD,aN,aH,aI,aJ,aK) wl=>Kl (Qr aM) m (aL,aR,aS,aE,aF,aA,aB,aC,aG,aD)=some dP ∧ St NB w wl [erQ A aN aL,blkR bE [.int .i64 0,.bool false,.slice none 0 0,.slice none 0 0,.slice none 0 0,.int .i64 0,.slice none 0 0] 27,blkR aP [aQ,.int .i64 aR,.int .i64 aS] 248,ownR 5 1 aQ aM.b_.length (aM.b_.flatMap eB),blkR aO [.int .i64 aE,.bool aF,aH,aI,aJ,.int .i64 aG,aK] 27,ownR 114 2 aH aA.length (aA.flatMap Qg),ownR 116 3 aI aB.length (aB.flatMap Qe),ownR 118 4 aJ aC.length (aC.flatMap Zw),ownR 3 1 aK aD.length (aD.flatMap eI)]) (fun (m,aL,aR,aS,aE,aF,aA,aB,aC,aG,aD,aN,aH,aI,aJ,aK)=>m) (fO,bH.2.1,bH.2.2.at_,bH.2.2.bound_,bA.1,bH.1,([] : List GPagePlan),([] : List GProcPlan),([] : List GPortPlan),0,([] : List Int),fN,.slice none 0 0,.slice none 0 0,.slice none 0 0,.slice none 0 0) H ⟨rfl,rfl,rfl,rfl,rfl,trivial⟩ ⟨hm,hS⟩ ?_
          clear H hS hm a;intro xx a dQ H hR;obtain⟨m,aL,aR,aS,aE,aF,aA,aB,aC,aG,aD,aN,aH,aI,aJ,aK⟩:=xx;simp only [ent,List.map_cons,List.map_nil] at H;(try dsimp only at hR);obtain⟨hm,hS⟩:=hR
          replace hm:=Qd hm;obtain⟨dR,fP,rfl,hm,bI⟩:=hm;try dsimp only [Qr] at hm
          refine wp_seq ?_
          replace hm:=Zk hm;obtain⟨gW,hm,cK⟩:=hm
          refine Ga (σ:=Bool × Int × Int) H (fun (bJ,aX,aY)=>[(0,v0),(2,.pointer (some ⟨bE,0,none⟩)),(5,aN),(6,.pointer (some ⟨aP,0,none⟩)),(9,.pointer (some ⟨aO,0,none⟩)),(67,.bool bJ)]) (fun (bJ,aX,aY) wl=>(Yo aM aL aE aF aA aB aC aG aD) (bJ,aX,aY)=some fP ∧ St NB w wl [erQ A aN aL,blkR bE [.int .i64 0,.bool false,.slice none 0 0,.slice none 0 0,.slice none 0 0,.int .i64 0,.slice none 0 0] 27,blkR aP [aQ,.int .i64 aX,.int .i64 aY] 248,ownR 5 1 aQ aM.b_.length (aM.b_.flatMap eB),blkR aO [.int .i64 aE,.bool aF,aH,aI,aJ,.int .i64 aG,aK] 27,ownR 114 2 aH aA.length (aA.flatMap Qg),ownR 116 3 aI aB.length (aB.flatMap Qe),ownR 118 4 aJ aC.length (aC.flatMap Zw),ownR 3 1 aK aD.length (aD.flatMap eI)]) ?_ ?_
          · skip
            refine wp_region_lit (n_q H (Zc rfl) rfl (W_q (Qt (Tn Tryz.underlying39 rfl rfl (hS.any 0 rfl : IsE A dQ aN aL).form) (show _=Value.bool (decide (aL=.nil)) by rw [Xa.isNil (hS.any 0 rfl : IsE A dQ aN aL)])) rfl (W_q (Zc rfl) rfl ?_)));clear H a;intro a H
            rcases Bool.eq_false_or_eq_true (decide (aL=.nil)) with aW|aW
            · replace H:=H.know 63 rfl aW
              replace hm:=Zt hm aW
              refine Wt H rfl rfl (n_q H (Zc rfl) rfl (Xn rfl rfl ?_));clear H a;intro a H
              replace hS:=hS.pk2
              obtain⟨gB,cL,eG,cM,cN⟩:=hS.frame (rs1:=[blkR aP [aQ,.int .i64 aR,.int .i64 aS] 248])
              replace hm:=Zk hm;obtain⟨b7,eH,hm⟩:=hm
              refine Zj H rfl Zg7 (Xg (A:=A) cL (a0:=(⟨aM.b_,aR,aS⟩ : GWireCursor)) (fun w' hw=>(Uo (cM 2 _ rfl _ hw)).slr rfl (fun _ _=>rfl)) eH) rfl ?_
              clear H;intro gX gY hv;clear a;intro a H;obtain⟨rfl,eJ⟩:=hv
              replace hS:=cN _ _ eJ;simp only [List.cons_append,List.nil_append] at hS;clear cL eG cM cN
              refine Wt H rfl rfl (n_q H (Gn rfl rfl) rfl (W_q (Zz rfl rfl) rfl ?_));clear H a;intro a H
              refine Ze (Za ?_)
              obtain rfl:=Option.some.inj hm;replace hm:=cK;try dsimp only at hm
              replace hS:=hS.pk8
              replace hS:=hS.pk8
              replace hS:=hS.pk8
              replace hS:=hS.pk8
              replace hS:=hS.pk8
              replace hS:=hS.pk8
              replace hS:=hS.pk6
              replace hS:=hS.pk8
              replace hS:=hS.pk8
              exact Wa (decide (0 < b7.1),b7.2.at_,b7.2.bound_) H ⟨rfl,rfl,rfl,rfl,rfl,rfl,trivial⟩ ⟨hm,hS⟩
            · replace H:=H.know 63 rfl aW
              replace hm:=Zu hm aW
              refine Zaz H rfl rfl (by decide) rfl (Qm rfl rfl (by decide) rfl (Qm rfl rfl (by decide) rfl (W_q (Jh rfl rfl) rfl ?_)));clear H a;intro a H
              refine Ze (Za ?_)
              obtain rfl:=Option.some.inj hm;replace hm:=cK;try dsimp only at hm
              exact Wa (false,aR,aS) H ⟨rfl,rfl,rfl,rfl,rfl,rfl,trivial⟩ ⟨hm,hS⟩
          · clear H hS hm a;intro xx a bB H hR
            obtain⟨bJ,aX,aY⟩:=xx
            simp only [ent,List.map_cons,List.map_nil] at H;(try dsimp only at hR);obtain⟨hm,hS⟩:=hR;try dsimp only [Yo] at hm
            refine Zl H rfl (fun bK=>?_) (fun bK=>?_)
            · replace hm:=Zt hm bK
              refine wp_skip (Za (wp_block (wp_seq (wp_region_lit (n_q H (Zb rfl) rfl ?_)))));clear H a;intro a H
              refine Ze (Za (wp_seq (wp_region_lit (n_q H (Zb rfl) rfl ?_))));clear H a;intro a H
              refine Ze (Za (wp_seq (wp_region_lit (n_q H (Zc rfl) rfl ?_))));clear H a;intro a H
              replace hS:=hS.pk2
              obtain⟨gC,cO,cP,cQ,cR⟩:=hS.frame (rs1:=[blkR aP [aQ,.int .i64 aX,.int .i64 aY] 248])
              replace hm:=Zk hm;obtain⟨aT,eK,hm⟩:=hm
              refine Zj H rfl en105 (Zbm (A:=A) (fun w' hw=>hG.ext (cP _ hw).ext) cO (a0:=(⟨aM.b_,aX,aY⟩ : GWireCursor)) (fun w' hw=>(Uo (cQ 2 _ rfl _ hw)).slr rfl (fun _ _=>rfl)) eK) rfl ?_
              clear H;intro gZ dS hv;clear a;intro a H;obtain⟨g6,b8,rfl,eL⟩:=hv
              replace hS:=cR _ _ eL;simp only [List.cons_append,List.nil_append] at hS;clear cO cP cQ cR
              refine n_q H (Zc rfl) rfl (W_q (Zi rfl rfl) rfl (W_q (Zi rfl rfl) rfl (W_q (Zi rfl rfl) rfl (W_q (Zb rfl) rfl (W_q (Zb rfl) rfl (W_q (Zb rfl) rfl ?_))))));clear H a;intro a H
              refine Ze (Za (wp_seq (wp_region_lit (n_q H (Zc rfl) rfl (W_q (Qt (Tn Tryz.underlying39 rfl rfl (hS.any 2 rfl : IsE A dS b8 aT.2.2.1).form) (show _=Value.bool (decide (aT.2.2.1=.nil)) by rw [Xa.isNil (hS.any 2 rfl : IsE A dS b8 aT.2.2.1)])) rfl ?_)))));clear H a;intro a H
              refine Ze (Za (Zl H rfl (fun bL=>?_) (fun bL=>?_)))
              · replace hm:=Zt hm bL
                refine wp_region_lit (n_q H (Zc rfl) rfl (W_q (Zc rfl) rfl ?_));clear H a;intro a H
                replace hm:=Zk hm;obtain⟨bM,eM,hm⟩:=hm
                replace hS:=hS.pk1
                obtain⟨fQ,hv,hS'⟩:=St.optOpen eM hS;clear hS;subst hv;have hS:=hS';clear hS';try dsimp only at hS
                replace hS:=hS.pk10
                replace hS:=hS.pk10
                replace hS:=hS.pk10
                replace hS:=hS.pk10
                replace hS:=hS.pk10
                obtain⟨gD,cT,cU,cV,cW⟩:=hS.frame (rs1:=[blkR aO [.int .i64 aE,.bool aF,aH,aI,aJ,.int .i64 aG,aK] 27,ownR 114 2 aH aA.length (aA.flatMap Qg),ownR 116 3 aI aB.length (aB.flatMap Qe),ownR 118 4 aJ aC.length (aC.flatMap Zw),ownR 3 1 aK aD.length (aD.flatMap eI),blkR fQ [aQ,.int .i64 bM.at_,.int .i64 bM.bound_] 248])
                replace hm:=Zk hm;obtain⟨aU,eN,hm⟩:=hm
                refine Zj H rfl en106 (Zhb (A:=A) (fun w' hw=>hG.ext (cU _ hw).ext) cT (a2:=(⟨aM.b_,bM.at_,bM.bound_⟩ : GWireCursor)) (fun w' hw=>(Uo (cV 4 _ rfl _ hw)).slr rfl (fun _ _=>rfl)) eN) rfl ?_
                clear H;intro fR g7 hv;clear a;intro a H;obtain⟨_,fS,fT,fU,fV,rfl,eO⟩:=hv
                replace hS:=cW _ _ eO;simp only [List.cons_append,List.nil_append] at hS;clear cT cU cV cW
                refine n_q H (Zb rfl) rfl ?_;clear H a;intro a H
                refine Ze (Zn (Za ?_))
                obtain rfl:=Option.some.inj hm
                replace hS:=hS.pk4
                replace hS:=hS.pk4
                replace hS:=hS.pk4
                replace hS:=hS.pk4
                replace hS:=hS.pk4
                replace hS:=hS.pick 11 rfl;dsimp only [List.eraseIdx] at hS
                replace hS:=hS.pk8
                replace hS:=hS.pick 11 rfl;dsimp only [List.eraseIdx] at hS
                replace hS:=hS.pk9
                replace hS:=hS.tk9
                exact Wm (dR,aU.1,aT.2.2.2.at_,aT.2.2.2.bound_,aU.2.1.Id,aU.2.1.Mobile,aU.2.1.Pages,aU.2.1.Procs,aU.2.1.Ports,aU.2.1.Events,aU.2.1.Sems,fR,fS,fT,fU,fV) H ⟨rfl,rfl,rfl,rfl,rfl,trivial⟩ ⟨bI,hS⟩ (Nat.lt_succ_self _)
              · replace hm:=Zu hm bL
                refine wp_skip (Zn (Za ?_))
                obtain rfl:=Option.some.inj hm
                replace hS:=hS.pk10
                replace hS:=hS.pk10
                replace hS:=hS.pk10
                replace hS:=hS.pk10
                replace hS:=hS.pk10
                replace hS:=hS.pk10
                replace hS:=hS.pk6
                replace hS:=hS.pk10
                replace hS:=hS.pk9
                replace hS:=hS.tk9
                exact Wm (dR,aT.2.2.1,aT.2.2.2.at_,aT.2.2.2.bound_,aE,aF,aA,aB,aC,aG,aD,b8,aH,aI,aJ,aK) H ⟨rfl,rfl,rfl,rfl,rfl,trivial⟩ ⟨bI,hS⟩ (Nat.lt_succ_self _)
            · replace hm:=Zu hm bK
              refine wp_exit (Zo (Zo (Qb ?_)))
              obtain rfl:=Option.some.inj hm;have hz : _=dP:=bI;subst hz;replace hm:=eE;try dsimp only at hm
              refine Za (wp_seq (wp_seq (wp_region_lit (n_q H (Zc rfl) rfl (W_q (Qt (Jr Tryz.underlying39 rfl rfl (hS.any 0 rfl : IsE A bB aN aL).form) (show _=Value.bool (!decide (aL=.nil)) by rw [Xa.isNil (hS.any 0 rfl : IsE A bB aN aL)])) rfl ?_)))));clear H a;intro a H
              refine Ze (Za (Zl H rfl (fun bN=>?_) (fun bN=>?_)))
              · replace hm:=Zt hm bN
                refine wp_seq (Gx (kB w.heap.size (aP :: (aO :: [])) bB.drew.heap.size) 4 (by kernel_rfl) ?_)
                obtain⟨dT,bO⟩ : ∃ x,x=bB.drew:=⟨_,rfl⟩;rw [← bO];have eP : Ext bB dT:=by rw [bO];exact Ext.drew' _
                clear bO
                replace hS:=hS.ext eP
                have dN:=(hS.blk 2 rfl).lt
                have dA:=(hS.blk 4 rfl).lt
                have eQ:=hS.x.size
                have hW:=Nat.le_refl dT.heap.size
                refine Zh 0 H rfl (Qc (cs:=[.int .i64 0,.bool false,.slice none 0 0,.slice none 0 0,.slice none 0 0,.int .i64 0,.slice none 0 0]) Zj2 Zo6 Zo7 rfl (by kernel_rfl)) rfl (by kernel_rfl) (by kernel_rfl) (by kernel_rfl) (by kernel_rfl) (fun _ _ _ h=>h) ?_;clear H a;intro a H
                refine Xq 1 H rfl (Zf rfl (LdC.old (hG.ld Uz (by decide) Wy) hS.x eQ Zfl)) rfl (by kernel_rfl) (by kernel_rfl) (by kernel_rfl) (by kernel_rfl) (fun _ _ _ h=>h) ?_;clear H a;intro a H
                replace hS:=hS.pk1
                refine Qf 2 H rfl rfl rfl (vs:=[.int .i64 0,.bool false,.slice none 0 0,.slice none 0 0,.slice none 0 0,.int .i64 0,.slice none 0 0]) rfl Gy (hS.blk 0 rfl) rfl (by simp) (by kernel_rfl) (.inl (fun h=>Zch h (hS.ge (i:=0) rfl) (Jy (hS.ne (i:=0) (j:=2) (by decide) rfl rfl) (Jy (hS.ne (i:=0) (j:=4) (by decide) rfl rfl) Ur)))) ?_
                clear H;intro g8 hN cX hz;clear a;intro a H;replace hS:=hS.setBlk hN cX;clear hN hz;replace hW:=Nat.le_trans hW cX.size
                refine Zh 3 H rfl (Zb rfl) rfl (by kernel_rfl) (by kernel_rfl) (by kernel_rfl) (by kernel_rfl) (fun _ _ _ h=>h) ?_;clear H a;intro a H
                refine Xh (by kernel_rfl) ?_
                refine Za (wp_ret (Zg ?_))
                obtain rfl:=Option.some.inj hm
                replace hS:=hS.nilOwn 114 2
                replace hS:=hS.nilOwn 116 3
                replace hS:=hS.nilOwn 118 4
                replace hS:=hS.nilOwn 3 1
                replace hS:=hS.dVar (A:=A) (g:=Uz) (by decide)
                replace hS:=hS.pk5
                replace hS:=hS.pk1
                replace hS:=hS.pk2
                replace hS:=hS.pk3
                replace hS:=hS.pk4
                replace hS:=hS.pk5
                replace hS:=hS.tk6
                refine Zad H (.inr rfl) rfl (vs:=[.agg #[.int .i64 0,.bool false,.slice none 0 0,.slice none 0 0,.slice none 0 0,.int .i64 0,.slice none 0 0],sv 340 A Uz]) (Xk rfl ((hS.blk 5 rfl).ldAll Za0 Gy) (Ku rfl Xw)) ?_
                replace hS:=hS.tk5
                exact⟨_,_,_,_,_,rfl,hS⟩
              · replace hm:=Zu hm bN
                refine wp_skip (Za (wp_seq (wp_seq (wp_region_lit (n_q H (Zf rfl ((hS.blk 4 rfl).ldAll Za0 Gy)) rfl ?_)))));clear H a;intro a H
                replace hm:=Zk hm;obtain⟨bP,eT,hm⟩:=hm
                refine Zj H rfl en47 (Gm (A:=A) (hG.ext hS.x) (⟨_,_,_,_,rfl,((hS.own 5 rfl).slr rfl (fun _ _=>rfl)),((hS.own 6 rfl).slr rfl (fun _ _=>rfl)),((hS.own 7 rfl).slr rfl (fun _ _=>rfl)),((hS.own 8 rfl).slr rfl (fun _ _=>rfl))⟩ : Xm _ [.int .i64 aE,.bool aF,aH,aI,aJ,.int .i64 aG,aK] (⟨aE,aF,aA,aB,aC,aG,aD⟩ : GPlan)) eT) rfl ?_
                clear H;intro g9 dU hv;clear a;intro a H;obtain⟨hJ,dV,rfl,eU⟩:=hv
                replace hS:=hS.new eU;simp only [List.cons_append,List.nil_append] at hS
                refine n_q H (Zc rfl) rfl (W_q (Zi rfl rfl) rfl (W_q (Zi rfl rfl) rfl (W_q (Zb rfl) rfl (W_q (Zb rfl) rfl ?_))));clear H a;intro a H
                refine Ze (Za ?_)
                replace hm:=Zk hm;obtain⟨hU,hm,cY⟩:=hm
                refine Ga (σ:=Bool) H (fun a9=>[(2,.pointer (some ⟨bE,0,none⟩)),(9,.pointer (some ⟨aO,0,none⟩)),(95,.bool a9)]) (fun a9 wl=>(Yn aE aF aA aB aC aG aD) a9=some r ∧ St NB w wl [blkR bE [.int .i64 0,.bool false,.slice none 0 0,.slice none 0 0,.slice none 0 0,.int .i64 0,.slice none 0 0] 27,blkR aO [.int .i64 aE,.bool aF,aH,aI,aJ,.int .i64 aG,aK] 27,ownR 114 2 aH aA.length (aA.flatMap Qg),ownR 116 3 aI aB.length (aB.flatMap Qe),ownR 118 4 aJ aC.length (aC.flatMap Zw),ownR 3 1 aK aD.length (aD.flatMap eI)]) ?_ ?_
                · skip
                  refine wp_region_lit (n_q H (Zc rfl) rfl (W_q (Qt (Jr Tryz.underlying39 rfl rfl (hS.any 1 rfl : IsE A dU dV bP.2).form) (show _=Value.bool (!decide (bP.2=.nil)) by rw [Xa.isNil (hS.any 1 rfl : IsE A dU dV bP.2)])) rfl (W_q (Zc rfl) rfl ?_)));clear H a;intro a H
                  rcases Bool.eq_false_or_eq_true (!decide (bP.2=.nil)) with aV|aV
                  · replace H:=H.know 90 rfl aV
                    replace hm:=Zt hm aV
                    refine Zaz H rfl rfl (by decide) rfl (Qm rfl rfl (by decide) rfl (Qm rfl rfl (by decide) rfl (Qm rfl rfl (by decide) rfl (W_q (Zz rfl rfl) rfl ?_))));clear H a;intro a H
                    refine Ze (Za ?_)
                    obtain rfl:=Option.some.inj hm;replace hm:=cY;try dsimp only at hm
                    replace hS:=hS.pk10
                    replace hS:=hS.pk10
                    replace hS:=hS.pk10
                    replace hS:=hS.pk10
                    replace hS:=hS.pk10
                    replace hS:=hS.pk8
                    replace hS:=hS.tk6
                    exact Wa true H ⟨rfl,rfl,rfl,trivial⟩ ⟨hm,hS⟩
                  · replace H:=H.know 90 rfl aV
                    replace hm:=Zu hm aV
                    refine Wt H rfl rfl (n_q H (Zc rfl) rfl (Xn rfl rfl (W_q (Zc rfl) rfl (Xn rfl rfl ?_))));clear H a;intro a H
                    replace hm:=Zk hm;obtain⟨eV,dW,hm⟩:=hm
                    refine Zj H rfl en107 (Zbb (A:=A) ((hS.own 0 rfl).slr rfl (fun _ _=>rfl)) (h0.ext (Zq.mono _) hS.x) dW) rfl ?_
                    clear H;intro gE gF hv;clear a;intro a H;obtain⟨rfl,dX⟩:=hv
                    replace hS:=hS.ext dX
                    refine Wt H rfl rfl (n_q H (Zgp rfl) rfl (W_q (Jh rfl rfl) rfl ?_));clear H a;intro a H
                    refine Ze (Za ?_)
                    obtain rfl:=Option.some.inj hm;replace hm:=cY;try dsimp only at hm
                    replace hS:=hS.pk10
                    replace hS:=hS.pk10
                    replace hS:=hS.pk10
                    replace hS:=hS.pk10
                    replace hS:=hS.pk10
                    replace hS:=hS.pk8
                    replace hS:=hS.tk6
                    exact Wa (!eV) H ⟨rfl,rfl,rfl,trivial⟩ ⟨hm,hS⟩
                · clear H hS hm a;intro a9 a bQ H hR
                  simp only [ent,List.map_cons,List.map_nil] at H;(try dsimp only at hR);obtain⟨hm,hS⟩:=hR;try dsimp only [Yn] at hm
                  refine Zl H rfl (fun bC=>?_) (fun bC=>?_)
                  · replace hm:=Zt hm bC
                    refine wp_seq (Gx (kB w.heap.size (aO :: []) bQ.drew.heap.size) 4 (by kernel_rfl) ?_)
                    obtain⟨cZ,bD⟩ : ∃ x,x=bQ.drew:=⟨_,rfl⟩;rw [← bD];have dY : Ext bQ cZ:=by rw [bD];exact Ext.drew' _
                    clear bD
                    replace hS:=hS.ext dY
                    have dA:=(hS.blk 1 rfl).lt
                    have dZ:=hS.x.size
                    have hW:=Nat.le_refl cZ.heap.size
                    refine Zh 0 H rfl (Qc (cs:=[.int .i64 0,.bool false,.slice none 0 0,.slice none 0 0,.slice none 0 0,.int .i64 0,.slice none 0 0]) Zj2 Zo6 Zo7 rfl (by kernel_rfl)) rfl (by kernel_rfl) (by kernel_rfl) (by kernel_rfl) (by kernel_rfl) (fun _ _ _ h=>h) ?_;clear H a;intro a H
                    refine Xq 1 H rfl (Zf rfl (LdC.old (hG.ld Uz (by decide) Wy) hS.x dZ Zfl)) rfl (by kernel_rfl) (by kernel_rfl) (by kernel_rfl) (by kernel_rfl) (fun _ _ _ h=>h) ?_;clear H a;intro a H
                    refine Qf 2 H rfl rfl rfl (vs:=[.int .i64 0,.bool false,.slice none 0 0,.slice none 0 0,.slice none 0 0,.int .i64 0,.slice none 0 0]) rfl Gy (hS.blk 0 rfl) rfl (by simp) (by kernel_rfl) (.inl (fun h=>Zch h (hS.ge (i:=0) rfl) (Jy (hS.ne (i:=0) (j:=1) (by decide) rfl rfl) Ur))) ?_
                    clear H;intro gG hN bR hz;clear a;intro a H;replace hS:=hS.setBlk hN bR;clear hN hz;replace hW:=Nat.le_trans hW bR.size
                    refine Zh 3 H rfl (Zb rfl) rfl (by kernel_rfl) (by kernel_rfl) (by kernel_rfl) (by kernel_rfl) (fun _ _ _ h=>h) ?_;clear H a;intro a H
                    refine Xh (by kernel_rfl) ?_
                    refine Za (wp_ret (Zg ?_))
                    obtain rfl:=Option.some.inj hm
                    replace hS:=hS.nilOwn 114 2
                    replace hS:=hS.nilOwn 116 3
                    replace hS:=hS.nilOwn 118 4
                    replace hS:=hS.nilOwn 3 1
                    replace hS:=hS.dVar (A:=A) (g:=Uz) (by decide)
                    replace hS:=hS.pk5
                    replace hS:=hS.pk1
                    replace hS:=hS.pk2
                    replace hS:=hS.pk3
                    replace hS:=hS.pk4
                    replace hS:=hS.pk5
                    replace hS:=hS.tk6
                    refine Zad H (.inr rfl) rfl (vs:=[.agg #[.int .i64 0,.bool false,.slice none 0 0,.slice none 0 0,.slice none 0 0,.int .i64 0,.slice none 0 0],sv 340 A Uz]) (Xk rfl ((hS.blk 5 rfl).ldAll Za0 Gy) (Ku rfl Xw)) ?_
                    replace hS:=hS.tk5
                    exact⟨_,_,_,_,_,rfl,hS⟩
                  · replace hm:=Zu hm bC
                    refine wp_skip (Za (wp_seq (wp_region_lit (n_q H (Zf rfl ((hS.blk 1 rfl).ldAll Za0 Gy)) rfl ?_))));clear H a;intro a H
                    refine Zr H rfl rfl (vs:=[.int .i64 aE,.bool aF,aH,aI,aJ,.int .i64 aG,aK]) rfl Gy (hS.blk 0 rfl) rfl (by simp [(((hS.own 2 rfl).slr rfl (fun _ _=>rfl))).one,(((hS.own 3 rfl).slr rfl (fun _ _=>rfl))).one,(((hS.own 4 rfl).slr rfl (fun _ _=>rfl))).one,(((hS.own 5 rfl).slr rfl (fun _ _=>rfl))).one]) ?_
                    clear H;intro gH hN d5 hz;clear a;intro a H;replace hS:=hS.setBlk hN d5;clear hN hz
                    refine n_q H (Zb rfl) rfl ?_;clear H a;intro a H
                    refine Ze (Za (wp_ret ?_))
                    obtain rfl:=Option.some.inj hm
                    replace hS:=hS.dNil (A:=A)
                    replace hS:=hS.pk1
                    replace hS:=hS.pk1
                    replace hS:=hS.pk6
                    replace hS:=hS.pk6
                    replace hS:=hS.pk6
                    replace hS:=hS.pk6
                    replace hS:=hS.tk6
                    refine Zad H (.inr rfl) rfl (vs:=[.agg #[.int .i64 aE,.bool aF,aH,aI,aJ,.int .i64 aG,aK],.nilIface]) (Xk rfl ((hS.blk 5 rfl).ldAll Za0 Gy) (Ku rfl Xw)) ?_
                    replace hS:=hS.tk5
                    exact⟨_,_,_,_,_,rfl,hS⟩
end Go.Proofs.YtfemfiiagjnhdaaGreatDoor
