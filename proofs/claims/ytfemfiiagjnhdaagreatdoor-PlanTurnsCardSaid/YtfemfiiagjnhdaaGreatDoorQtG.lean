/- Part of a claim, shortened by a program from its texts: PtC. -/
import Derived.Test.YtfemfiiagjnhdaaGreatDoorQtF
set_option linter.unusedVariables false
set_option linter.unusedSimpArgs false
set_option maxRecDepth 10000
namespace Go.Proofs.YtfemfiiagjnhdaaGreatDoor
open Go Go.RowKit
theorem bd248 : bdB Tryz.prog 248=true:=by kernel_rfl
theorem pl248 : Gj Tryz.prog 248=some #[(0,1),(1,1),(2,1)]:=by kernel_rfl
theorem en100 : Zp Tryz.prog 100=true:=by kernel_rfl
theorem Zp5 : Zp Tryz.prog 101=true:=by kernel_rfl
theorem Zp6 : Zp Tryz.prog 102=true:=by kernel_rfl
theorem en103 : Zp Tryz.prog 103=true:=by kernel_rfl
theorem Zhy : Zp Tryz.prog 104=true:=by kernel_rfl
theorem en105 : Zp Tryz.prog 105=true:=by kernel_rfl
theorem en106 : Zp Tryz.prog 106=true:=by kernel_rfl
theorem en107 : Zp Tryz.prog 107=true:=by kernel_rfl
theorem en119 : Zp Tryz.prog 119=true:=by kernel_rfl
theorem en120 : Zp Tryz.prog 120=true:=by kernel_rfl
theorem en121 : Zp Tryz.prog 121=true:=by kernel_rfl
theorem en122 : Zp Tryz.prog 122=true:=by kernel_rfl
theorem en123 : Zp Tryz.prog 123=true:=by kernel_rfl
theorem en173 : Zp Tryz.prog 173=true:=by kernel_rfl
theorem Zp7 : Zp Tryz.prog 175=true:=by kernel_rfl
theorem en177 : Zp Tryz.prog 177=true:=by kernel_rfl
theorem en178 : Zp Tryz.prog 178=true:=by kernel_rfl
theorem en179 : Zp Tryz.prog 179=true:=by kernel_rfl
theorem en180 : Zp Tryz.prog 180=true:=by kernel_rfl
theorem en181 : Zp Tryz.prog 181=true:=by kernel_rfl
theorem Zi7 : Zp Tryz.prog 182=true:=by kernel_rfl
theorem Zp8 : Zp Tryz.prog 183=true:=by kernel_rfl
theorem Zp9 : Zp Tryz.prog 184=true:=by kernel_rfl
theorem en195 : Zp Tryz.prog 195=true:=by kernel_rfl
theorem Zqa : Zp Tryz.prog 238=true:=by kernel_rfl
theorem en52 : Zp Tryz.prog 52=true:=by kernel_rfl
theorem en99 : Zp Tryz.prog 99=true:=by kernel_rfl
theorem Zqb : fdB Tryz.prog 124 0=some (false,0,1):=by kernel_rfl
theorem Zqc : Za2 Tryz.prog 124 0=some 0:=by kernel_rfl
theorem Zi8 : Za2 Tryz.prog 248 0=some 0:=by kernel_rfl
theorem Vn : Za2 Tryz.prog 248 1=some 1:=by kernel_rfl
theorem Zl8 : Za2 Tryz.prog 248 2=some 2:=by kernel_rfl
theorem sz4 : Xi Tryz.prog 4=some 1:=by kernel_rfl
theorem ze248 : Wt Tryz.prog 248=some [.slice none 0 0,.int .i64 0,.int .i64 0]:=by kernel_rfl
theorem ze39 : Wt Tryz.prog 39=some [.nilIface]:=by kernel_rfl
theorem Zff {w : World} {A : Nat → Addr} {cs0 : List Value} {a0 : GPlan} (h0 : Qs w cs0 a0) {r : GR10Err} (hm : Gz a0=some r) :
    Calls Tryz.prog 122 [.agg cs0.toArray].toArray w (Ret fun u w'=>u=.agg (Hm r).toArray ∧ Ext w w'):=by
  obtain⟨aE,aF,aG,aH,rfl,bN,bO,bP,aB⟩:=h0
  have hS:=St.begin NB w
  unfold Gz at hm
  refine enter Tryz.func122 rfl rfl rfl ?_;intro a H;dsimp only [Qn,Nat.zero_add,Nat.reduceAdd] at H
  refine wp_seq (wp_region_lit (Wi H rfl (cs:=[.int .i64 a0.Id,.bool a0.Mobile,aE,aF,aG,.int .i64 a0.Events,aH]) rfl rfl ?_))
  clear H;intro aT cA hN bD hs;clear a;intro a H
  replace hS:=hS.newBlk hN bD hs;clear hN hs
  refine Xf H Zcc rfl ?_
  clear H;intro aU cB hN bE hs;clear a;intro a H
  replace hS:=hS.newBlk hN bE hs;clear hN hs
  refine Ze (Za (wp_seq (wp_seq (wp_region_lit (n_c H (fun HC=>?_))))));clear H
  refine Hx HC (Zd rfl Zbb) rfl (by kernel_rfl) (V_q (Zf rfl ((hS.blk 1 rfl).ld ag3 rfl)) rfl (by kernel_rfl) (V_q (Ue rfl rfl) rfl (by kernel_rfl) (V_q (Zc rfl) rfl (by kernel_rfl) (V_g (Zd rfl Zbb) (by kernel_rfl) (by kernel_rfl) (by kernel_rfl) (V_g (Zf rfl ((hS.blk 1 rfl).ld ag3 rfl)) (by kernel_rfl) (by kernel_rfl) (by kernel_rfl) (V_g (Gv rfl rfl) (by kernel_rfl) (by kernel_rfl) (by kernel_rfl) (Zdd (j:=3) rfl rfl rfl (by kernel_rfl) (by kernel_rfl) ?_)))))));clear HC a;intro a HC
  have H:=HC.has;clear HC
  refine Ze (Za (Zl H rfl (fun aQ=>?_) (fun aQ=>?_)))
  · replace hm:=Zu hm aQ
    refine wp_seq (wp_region_lit ?_)
    replace hm:=Zj hm;obtain⟨aV,bF,hm⟩:=hm
    refine Zi H rfl Zi6 (Ui (A:=A) bF) rfl ?_
    clear H;intro cC cD hv;clear a;intro a H;obtain⟨rfl,bG⟩:=hv
    replace hS:=hS.ext bG
    refine Zr H rfl rfl (vs:=[.int .i64 aV.Code,.int .i64 aV.Place]) rfl Yi (hS.blk 0 rfl) rfl (by simp) ?_
    clear H;intro cF hN bH hz;clear a;intro a H;replace hS:=hS.setBlk hN bH;clear hN hz
    refine Ze (Za (wp_ret (Zg ?_)))
    obtain rfl:=Option.some.inj hm
    replace hS:=hS.tk1
    refine Zae H (.inr rfl) rfl (vs:=[.agg #[.int .i64 aV.Code,.int .i64 aV.Place]]) (Xh rfl ((hS.blk 0 rfl).ldAll Ty Yi) Xt) ?_
    replace hS:=hS.tk0
    exact⟨rfl,hS.x⟩
  · replace hm:=Zv hm aQ
    refine wp_skip (Za (wp_seq (wp_seq (wp_region_lit (n_q H (Zd rfl Gc) rfl (W_q (Zf rfl ((hS.blk 1 rfl).ld Zgn rfl)) rfl ?_))))));clear H a;intro a H
    obtain⟨cG,cH,aC,bW,bX⟩:=SlR.formV (aB.ext (Zn.mono _) hS.x)
    refine n_q H (Qe Tryz.underlying25 rfl aC) rfl (W_q (Za6 (i:=a0.Sems.length) (j:=8) rfl rfl) rfl ?_);clear H a;intro a H
    refine Ze (Za (Zl H rfl (fun aR=>?_) (fun aR=>?_)))
    · replace hm:=Zu hm aR
      refine wp_seq (wp_region_lit ?_)
      replace hm:=Zj hm;obtain⟨aW,bI,hm⟩:=hm
      refine Zi H rfl Zi6 (Ui (A:=A) bI) rfl ?_
      clear H;intro cI cJ hv;clear a;intro a H;obtain⟨rfl,bJ⟩:=hv
      replace hS:=hS.ext bJ
      refine Zr H rfl rfl (vs:=[.int .i64 aW.Code,.int .i64 aW.Place]) rfl Yi (hS.blk 0 rfl) rfl (by simp) ?_
      clear H;intro cK hN bK hz;clear a;intro a H;replace hS:=hS.setBlk hN bK;clear hN hz
      refine Ze (Za (wp_ret (Zg ?_)))
      obtain rfl:=Option.some.inj hm
      replace hS:=hS.tk1
      refine Zae H (.inr rfl) rfl (vs:=[.agg #[.int .i64 aW.Code,.int .i64 aW.Place]]) (Xh rfl ((hS.blk 0 rfl).ldAll Ty Yi) Xt) ?_
      replace hS:=hS.tk0
      exact⟨rfl,hS.x⟩
    · replace hm:=Zv hm aR
      refine wp_skip (Za (wp_seq (wp_seq (wp_region_lit (n_q H (Zb rfl) rfl ?_)))));clear H a;intro a H
      refine Ze (Za (wp_block ?_))
      replace hS:=hS.pk1
      replace hm:=Zj hm;obtain⟨aX,hm,aY⟩:=hm;replace hm:=Qk hm;obtain⟨bQ,hm⟩:=hm
      refine Kn (σ:=Nat × Nat) (fun (m,aA)=>[(1,.pointer (some ⟨aT,0,none⟩)),(2,.pointer (some ⟨aU,0,none⟩)),(3,.int .i64 ((aA : Nat) : Int))]) (fun (m,aA) wl=>Kq (Vb a0) m aA=some aX ∧ St NB w wl [blkR aT [.int .i64 a0.Id,.bool a0.Mobile,aE,aF,aG,.int .i64 a0.Events,aH] 27,blkR aU [.int .i64 0,.int .i64 0] 124]) (fun (m,aA)=>m) (bQ,0) H ⟨rfl,rfl,rfl,trivial⟩ ⟨hm,hS⟩ ?_
      clear H hS hm a;intro xx a cL H hR;obtain⟨m,aA⟩:=xx;simp only [ent,List.map_cons,List.map_nil] at H;(try dsimp only at hR);obtain⟨hm,hS⟩:=hR
      replace hm:=Qi hm;obtain⟨bR,bS,rfl,hm,aS⟩:=hm;try dsimp only [Vb] at hm
      refine wp_seq (wp_seq (wp_region_lit (n_q H (Zc rfl) rfl (W_q (Zd rfl Gc) rfl (W_q (Zf rfl ((hS.blk 0 rfl).ld Zgn rfl)) rfl (W_q (Qe Tryz.underlying25 rfl aC) rfl (W_q (Jr (i:=aA) (j:=a0.Sems.length) rfl rfl) rfl ?_)))))));clear H a;intro a H
      refine Ze (Za (Zl H rfl (fun aI=>?_) (fun aI=>?_)))
      · replace hm:=Zu hm aI
        have bV : aA < a0.Sems.length:=of_decide_eq_true aI
        refine wp_skip (Za (wp_seq (wp_block ?_)))
        replace hm:=Zj hm;obtain⟨cM,hm,aZ⟩:=hm
        refine Gw (σ:=Bool) H (fun aJ=>[(1,.pointer (some ⟨aT,0,none⟩)),(2,.pointer (some ⟨aU,0,none⟩)),(3,.int .i64 ((aA : Nat) : Int)),(38,.bool aJ)]) (fun aJ wl=>(Uz aA) aJ=some bS ∧ St NB w wl [blkR aT [.int .i64 a0.Id,.bool a0.Mobile,aE,aF,aG,.int .i64 a0.Events,aH] 27,blkR aU [.int .i64 0,.int .i64 0] 124]) ?_ ?_
        · skip
          refine wp_region_lit (n_q H (Zd rfl Gc) rfl (W_q (Zf rfl ((hS.blk 0 rfl).ld Zgn rfl)) rfl (W_q (Zc rfl) rfl ?_)));clear H a;intro a H
          replace hm:=Zj hm;obtain⟨bL,aK,hm⟩:=hm
          obtain⟨bT,aO⟩:=SlR.adV (aB.ext (Zn.mono _) hS.x) aC aK
          refine n_q H (Vw (i:=aA) Tryz.underlying25 sz3 rfl aC aO rfl (Zaz aK)) rfl (W_q (Zf rfl (SlR.ldOneV (aB.ext (Zn.mono _) hS.x) aC aO ag3 aK rfl)) rfl (W_q (Ue rfl rfl) rfl (W_q (Zc rfl) rfl ?_)));clear H a;intro a H
          rcases Bool.eq_false_or_eq_true (decide (bL < 0)) with aD|aD
          · replace H:=H.know 31 rfl aD
            replace hm:=Zu hm aD
            refine Ts H rfl rfl (by decide) rfl (Qc rfl rfl (by decide) rfl (Qc rfl rfl (by decide) rfl (Qc rfl rfl (by decide) rfl (Qc rfl rfl (by decide) rfl (Qc rfl rfl (by decide) rfl (W_q (Zx rfl rfl) rfl ?_))))));clear H a;intro a H
            refine Ze (Za ?_)
            obtain rfl:=Option.some.inj hm;replace hm:=aZ;try dsimp only at hm
            exact Wb true H ⟨rfl,rfl,rfl,rfl,trivial⟩ ⟨hm,hS⟩
          · replace H:=H.know 31 rfl aD
            replace hm:=Zv hm aD
            refine Vg H rfl rfl (n_q H (Zd rfl Gc) rfl (Qw rfl rfl (W_q (Zf rfl ((hS.blk 0 rfl).ld Zgn rfl)) rfl (Qw rfl rfl (W_q (Zc rfl) rfl (Qw rfl rfl ?_))))));clear H a;intro a H
            replace hm:=Zj hm;obtain⟨bM,aL,hm⟩:=hm
            obtain⟨bU,aP⟩:=SlR.adV (aB.ext (Zn.mono _) hS.x) aC aL
            refine n_q H (Vw (i:=aA) Tryz.underlying25 sz3 rfl aC aP rfl (Zaz aL)) rfl (Qw rfl rfl (W_q (Zf rfl (SlR.ldOneV (aB.ext (Zn.mono _) hS.x) aC aP ag3 aL rfl)) rfl (Qw rfl rfl (W_q (Gv rfl rfl) rfl (W_q (Xj rfl rfl) rfl ?_)))));clear H a;intro a H
            refine Ze (Za ?_)
            obtain rfl:=Option.some.inj hm;replace hm:=aZ;try dsimp only at hm
            exact Wb (decide (255 < bM)) H ⟨rfl,rfl,rfl,rfl,trivial⟩ ⟨hm,hS⟩
        · clear H hS hm a;intro aJ a bY H hR
          simp only [ent,List.map_cons,List.map_nil] at H;(try dsimp only at hR);obtain⟨hm,hS⟩:=hR;try dsimp only [Uz] at hm
          refine Zl H rfl (fun aM=>?_) (fun aM=>?_)
          · replace hm:=Zu hm aM
            refine wp_seq (wp_region_lit (n_q H (Zc rfl) rfl (W_q (Qd (cs:=[.int .i64 4,.int .i64 ((aA : Nat) : Int)]) Zcc Zi4 Zi5 rfl (by kernel_rfl)) rfl ?_)));clear H a;intro a H
            replace hS:=hS.pk1
            refine Zr H rfl rfl (vs:=[.int .i64 4,.int .i64 ((aA : Nat) : Int)]) rfl Yi (hS.blk 0 rfl) rfl (by simp) ?_
            clear H;intro bZ hN a9 hz;clear a;intro a H;replace hS:=hS.setBlk hN a9;clear hN hz
            refine Ze (Za (wp_ret (Zm (Zg (Zg (Zm (Zg ?_)))))))
            obtain rfl:=Option.some.inj hm;have hz : _=aX:=aS;subst hz;replace hm:=aY;try dsimp only at hm
            obtain rfl:=Option.some.inj hm
            replace hS:=hS.tk1
            refine Zae H (.inr rfl) rfl (vs:=[.agg #[.int .i64 4,.int .i64 ((aA : Nat) : Int)]]) (Xh rfl ((hS.blk 0 rfl).ldAll Ty Yi) Xt) ?_
            replace hS:=hS.tk0
            exact⟨rfl,hS.x⟩
          · replace hm:=Zv hm aM
            refine wp_skip (Zo (Za (wp_region_lit (n_q H (Zc rfl) rfl (W_q (Yn (i:=aA) (j:=1) rfl rfl (by omega)) rfl (W_q (Zb rfl) rfl ?_))))));clear H a;intro a H
            refine Ze (Za ?_)
            obtain rfl:=Option.some.inj hm
            exact Wv (bR,aA + 1) H ⟨rfl,rfl,rfl,trivial⟩ ⟨aS,hS⟩ (Nat.lt_succ_self _)
      · replace hm:=Zv hm aI
        refine wp_exit (Zq (Zq (Qg ?_)))
        obtain rfl:=Option.some.inj hm;have hz : _=aX:=aS;subst hz;replace hm:=aY;try dsimp only at hm
        refine Za (wp_seq (wp_region_lit ?_))
        replace hm:=Zj hm;obtain⟨aN,bA,hm⟩:=hm
        refine Zi H rfl Zl5 (Hb (A:=A) bA) rfl ?_
        clear H;intro b7 b8 hv;clear a;intro a H;obtain⟨rfl,bB⟩:=hv
        replace hS:=hS.ext bB
        replace hS:=hS.pk1
        refine Zr H rfl rfl (vs:=[.int .i64 aN.Code,.int .i64 aN.Place]) rfl Yi (hS.blk 0 rfl) rfl (by simp) ?_
        clear H;intro b9 hN bC hz;clear a;intro a H;replace hS:=hS.setBlk hN bC;clear hN hz
        refine Ze (Za (wp_ret ?_))
        obtain rfl:=Option.some.inj hm
        replace hS:=hS.tk1
        refine Zae H (.inr rfl) rfl (vs:=[.agg #[.int .i64 aN.Code,.int .i64 aN.Place]]) (Xh rfl ((hS.blk 0 rfl).ldAll Ty Yi) Xt) ?_
        replace hS:=hS.tk0
        exact⟨rfl,hS.x⟩
theorem Zhz {w : World} {A : Nat → Addr} {a0 : GPortPlan} {r : Int × Int} (hm : Zak a0=some r) :
    Calls Tryz.prog 195 [.agg (Zs a0).toArray].toArray w (Ret fun u w'=>u=.tuple #[.int .i64 r.1,.int .i64 r.2] ∧ Ext w w'):=by
  have hS:=St.begin NB w
  unfold Zak at hm
  refine enter Tryz.func195 rfl rfl rfl ?_;intro a H;dsimp only [Qn,Nat.zero_add,Nat.reduceAdd] at H
  refine wp_seq (wp_region_lit (Wi H rfl (cs:=[.int .i64 a0.Kind,.int .i64 a0.Size,.int .i64 a0.Depth,.int .i64 a0.Refresh]) rfl rfl ?_))
  clear H;intro aG aH hN aD hs;clear a;intro a H
  replace hS:=hS.newBlk hN aD hs;clear hN hs
  refine n_q H (Zb rfl) rfl (W_q (Zb rfl) rfl ?_);clear H a;intro a H
  refine Ze (Za (wp_seq (wp_seq (wp_region_lit (n_q H (Zf rfl ((hS.blk 0 rfl).ldAll Za8 Wp)) rfl ?_)))));clear H a;intro a H
  replace hm:=Zj hm;obtain⟨aI,aE,hm⟩:=hm
  refine Zi H rfl en194 (Zan (A:=A) aE) rfl ?_
  clear H;intro aJ aK hv;clear a;intro a H;obtain⟨rfl,aF⟩:=hv
  replace hS:=hS.ext aF
  refine n_q H (Uv rfl rfl) rfl ?_;clear H a;intro a H
  refine Ze (Za (Zl H rfl (fun aA=>?_) (fun aA=>?_)))
  · replace hm:=Zu hm aA
    refine wp_seq (wp_region_lit (n_q H (Zb rfl) rfl (W_q (Zb rfl) rfl ?_)));clear H a;intro a H
    refine Ze (Za (wp_ret (Zg ?_)))
    obtain rfl:=Option.some.inj hm
    replace hS:=hS.tk0
    refine Zbu H (.inr rfl) rfl rfl rfl ?_
    exact⟨rfl,hS.x⟩
  · replace hm:=Zv hm aA
    refine wp_skip (Za (wp_seq (wp_seq (wp_region_lit (n_q H (Zd rfl Gl) rfl (W_q (Zf rfl ((hS.blk 0 rfl).ld ag3 rfl)) rfl ?_))))));clear H a;intro a H
    refine Ze (Za (wp_block (wp_seq (wp_region_lit (n_q H (Um rfl rfl) rfl (W_q (Zb rfl) rfl ?_))))));clear H a;intro a H
    refine Ze (Za (Zl H rfl (fun aB=>?_) (fun aB=>?_)))
    · replace hm:=Zu hm aB
      refine wp_seq (wp_region_lit (n_q H (Zd rfl Za9) rfl (W_q (Zf rfl ((hS.blk 0 rfl).ld ag3 rfl)) rfl (W_q (Ke rfl rfl) rfl (W_q (Zb rfl) rfl (W_q (Zb rfl) rfl ?_))))));clear H a;intro a H
      refine Ze (Za (wp_ret (Zm (Zg ?_))))
      obtain rfl:=Option.some.inj hm
      replace hS:=hS.tk0
      refine Zbu H (.inr rfl) rfl rfl rfl ?_
      exact⟨rfl,hS.x⟩
    · replace hm:=Zv hm aB
      refine wp_seq (wp_region_lit (n_q H (Um rfl rfl) rfl (W_q (Zb rfl) rfl ?_)));clear H a;intro a H
      refine Ze (Za (Zl H rfl (fun aC=>?_) (fun aC=>?_)))
      · replace hm:=Zu hm aC
        refine wp_seq (wp_region_lit (n_q H (Zd rfl Zba) rfl (W_q (Zf rfl ((hS.blk 0 rfl).ld ag3 rfl)) rfl (W_q (Zd rfl Za9) rfl (W_q (Zf rfl ((hS.blk 0 rfl).ld ag3 rfl)) rfl (W_q (Ke rfl rfl) rfl (W_q (Zbt rfl rfl) rfl (W_q (Ke rfl rfl) rfl (W_q (Zb rfl) rfl (W_q (Zb rfl) rfl ?_))))))))));clear H a;intro a H
        refine Ze (Za (wp_ret (Zm (Zg ?_))))
        obtain rfl:=Option.some.inj hm
        replace hS:=hS.tk0
        refine Zbu H (.inr rfl) rfl rfl rfl ?_
        exact⟨rfl,hS.x⟩
      · replace hm:=Zv hm aC
        refine wp_skip (Zo (Za (wp_seq (wp_region_lit (n_q H (Zb rfl) rfl (W_q (Zb rfl) rfl ?_))))));clear H a;intro a H
        refine Ze (Za (wp_ret ?_))
        obtain rfl:=Option.some.inj hm
        replace hS:=hS.tk0
        refine Zbu H (.inr rfl) rfl rfl rfl ?_
        exact⟨rfl,hS.x⟩
theorem Zgx {w : World} {A : Nat → Addr} {cs0 : List Value} {a0 : GPlan} (h0 : Qs w cs0 a0) {r : Int} (hm : Th a0=some r) :
    Calls Tryz.prog 123 [.agg cs0.toArray].toArray w (Ret fun u w'=>u=.int .i64 r ∧ Ext w w'):=by
  obtain⟨aG,aH,aI,aJ,rfl,aL,aM,aB,aN⟩:=h0
  have hS:=St.begin NB w
  unfold Th at hm
  refine enter Tryz.func123 rfl rfl rfl ?_;intro a H;dsimp only [Qn,Nat.zero_add,Nat.reduceAdd] at H
  refine wp_seq (wp_region_lit (Wi H rfl (cs:=[.int .i64 a0.Id,.bool a0.Mobile,aG,aH,aI,.int .i64 a0.Events,aJ]) rfl rfl ?_))
  clear H;intro aP bK hN aR hs;clear a;intro a H
  replace hS:=hS.newBlk hN aR hs;clear hN hs
  refine n_q H (Zb rfl) rfl ?_;clear H a;intro a H
  refine Ze (Za (wp_seq (wp_region_lit (n_q H (Zd rfl Wx) rfl (W_q (Zf rfl ((hS.blk 0 rfl).ld Zgm rfl)) rfl ?_)))));clear H a;intro a H
  obtain⟨bL,bM,aS,bC,bD⟩:=SlR.formV (aM.ext (Zn.mono _) hS.x)
  refine n_q H (Qe Tryz.underlying23 rfl aS) rfl (W_q (Zbt rfl rfl) rfl (W_q (Ke rfl rfl) rfl (W_q (Zd rfl Vz) rfl (W_q (Zf rfl ((hS.blk 0 rfl).ld Zfb rfl)) rfl ?_))));clear H a;intro a H
  obtain⟨bN,bO,aT,bE,bF⟩:=SlR.formV (aL.ext (Zn.mono _) hS.x)
  refine n_q H (Qe Tryz.underlying22 rfl aT) rfl (W_q (Zbt rfl rfl) rfl (W_q (Ke rfl rfl) rfl (W_q (Zd rfl Zbb) rfl (W_q (Zf rfl ((hS.blk 0 rfl).ld ag3 rfl)) rfl (W_q (Ke rfl rfl) rfl (W_q (Zd rfl Gc) rfl (W_q (Zf rfl ((hS.blk 0 rfl).ld Zgn rfl)) rfl ?_)))))));clear H a;intro a H
  obtain⟨bP,bQ,aU,bG,bH⟩:=SlR.formV (aN.ext (Zn.mono _) hS.x)
  refine n_q H (Qe Tryz.underlying25 rfl aU) rfl (W_q (Ke rfl rfl) rfl (W_q (Zb rfl) rfl ?_));clear H a;intro a H
  refine Ze (Za (wp_seq (wp_seq (wp_region_lit (n_q H (Zb rfl) rfl ?_)))));clear H a;intro a H
  refine Ze (Za (wp_block ?_))
  replace hm:=Zj hm;obtain⟨aQ,hm,aV⟩:=hm;replace hm:=Qk hm;obtain⟨aY,hm⟩:=hm
  refine Kn (σ:=Nat × Int × Nat) (fun (m,aC,aA)=>[(1,.pointer (some ⟨aP,0,none⟩)),(3,.int .i64 aC),(4,.int .i64 ((aA : Nat) : Int))]) (fun (m,aC,aA) wl=>Kq (Vt a0) m (aC,aA)=some aQ ∧ St NB w wl [blkR aP [.int .i64 a0.Id,.bool a0.Mobile,aG,aH,aI,.int .i64 a0.Events,aJ] 27]) (fun (m,aC,aA)=>m) (aY,(IntKind.i64.wrap ((IntKind.i64.wrap ((IntKind.i64.wrap ((IntKind.i64.wrap (58 + (IntKind.i64.wrap (76 * ((a0.Procs.length : Nat) : Int))))) + (IntKind.i64.wrap (68 * ((a0.Pages.length : Nat) : Int))))) + a0.Events)) + ((a0.Sems.length : Nat) : Int))),0) H ⟨rfl,rfl,rfl,trivial⟩ ⟨hm,hS⟩ ?_
  clear H hS hm a;intro xx a bR H hR;obtain⟨m,aC,aA⟩:=xx;simp only [ent,List.map_cons,List.map_nil] at H;(try dsimp only at hR);obtain⟨hm,hS⟩:=hR
  replace hm:=Qi hm;obtain⟨aZ,bS,rfl,hm,aO⟩:=hm;try dsimp only [Vt] at hm
  refine wp_seq (wp_seq (wp_region_lit (n_q H (Zc rfl) rfl (W_q (Zd rfl Gb) rfl (W_q (Zf rfl ((hS.blk 0 rfl).ld Zhr rfl)) rfl ?_)))));clear H a;intro a H
  obtain⟨bT,bU,aD,bI,bJ⟩:=SlR.formV (aB.ext (Zn.mono _) hS.x)
  refine n_q H (Qe Tryz.underlying24 rfl aD) rfl (W_q (Jr (i:=aA) (j:=a0.Ports.length) rfl rfl) rfl ?_);clear H a;intro a H
  refine Ze (Za (Zl H rfl (fun aE=>?_) (fun aE=>?_)))
  · replace hm:=Zu hm aE
    have bA : aA < a0.Ports.length:=of_decide_eq_true aE
    refine wp_skip (Za (wp_seq (wp_block (wp_seq (wp_region_lit (n_q H (Zd rfl Gb) rfl (W_q (Zf rfl ((hS.blk 0 rfl).ld Zhr rfl)) rfl (W_q (Zc rfl) rfl ?_))))))));clear H a;intro a H
    replace hm:=Zj hm;obtain⟨bV,aF,hm⟩:=hm
    obtain⟨bB,aK⟩:=SlR.adV (aB.ext (Zn.mono _) hS.x) aD aF
    refine n_q H (Vw (i:=aA) Tryz.underlying24 Wp rfl aD aK rfl (Zaz aF)) rfl (W_q (Zf rfl (SlR.ldAggV (aB.ext (Zn.mono _) hS.x) aD aK Za8 Wp aF)) rfl ?_);clear H a;intro a H
    replace hm:=Zj hm;obtain⟨a9,aW,hm⟩:=hm
    refine Zi H rfl en195 (Zhz (A:=A) aW) rfl ?_
    clear H;intro bW bX hv;clear a;intro a H;obtain⟨rfl,aX⟩:=hv
    replace hS:=hS.ext aX
    refine n_q H (Zc rfl) rfl (W_q (Zh rfl rfl) rfl (W_q (Zh rfl rfl) rfl (W_q (Zb rfl) rfl (W_q (Zb rfl) rfl ?_))));clear H a;intro a H
    refine Ze (Za (wp_region_lit (n_q H (Zc rfl) rfl (W_q (Zc rfl) rfl (W_q (Ke rfl rfl) rfl (W_q (Ke rfl rfl) rfl (W_q (Zb rfl) rfl ?_)))))));clear H a;intro a H
    refine Ze (Zo (Za (wp_region_lit (n_q H (Zc rfl) rfl (W_q (Yn (i:=aA) (j:=1) rfl rfl (by omega)) rfl (W_q (Zb rfl) rfl ?_))))));clear H a;intro a H
    refine Ze (Za ?_)
    obtain rfl:=Option.some.inj hm
    exact Wv (aZ,(IntKind.i64.wrap (aC + (IntKind.i64.wrap (3 + a9.1)))),aA + 1) H ⟨rfl,rfl,rfl,trivial⟩ ⟨aO,hS⟩ (Nat.lt_succ_self _)
  · replace hm:=Zv hm aE
    refine wp_exit (Zq (Zq (Qg ?_)))
    obtain rfl:=Option.some.inj hm;have hz : _=aQ:=aO;subst hz;replace hm:=aV;try dsimp only at hm
    refine Za (wp_seq (wp_region_lit (n_q H (Zc rfl) rfl (W_q (Zb rfl) rfl ?_))));clear H a;intro a H
    refine Ze (Za (wp_ret ?_))
    obtain rfl:=Option.some.inj hm
    replace hS:=hS.tk0
    refine Xx H (.inr rfl) rfl rfl ?_
    exact⟨rfl,hS.x⟩
theorem Zgy {w : World} {A : Nat → Addr} {cs0 : List Value} {a0 : GPlan} (h0 : Qs w cs0 a0) {r : GR10Err} (hm : Ti a0=some r) :
    Calls Tryz.prog 52 [.agg cs0.toArray].toArray w (Ret fun u w'=>u=.agg (Hm r).toArray ∧ Ext w w'):=by
  obtain⟨aA,aB,aC,aD,rfl,aE,aF,aG,aH⟩:=h0
  have hS:=St.begin NB w
  unfold Ti at hm
  refine enter Tryz.func52 rfl rfl rfl ?_;intro a H;dsimp only [Qn,Nat.zero_add,Nat.reduceAdd] at H
  refine wp_seq (wp_region_lit (Wi H rfl (cs:=[.int .i64 a0.Id,.bool a0.Mobile,aA,aB,aC,.int .i64 a0.Events,aD]) rfl rfl ?_))
  clear H;intro bL cN hN bO hs;clear a;intro a H
  replace hS:=hS.newBlk hN bO hs;clear hN hs
  refine Xf H Zcc rfl ?_
  clear H;intro bM bN hN bP hs;clear a;intro a H
  replace hS:=hS.newBlk hN bP hs;clear hN hs
  refine Ze (Za (wp_seq (wp_seq (wp_region_lit (n_c H (fun HC=>?_))))));clear H
  refine Hx HC (Zd rfl Zcu) rfl (by kernel_rfl) (V_q (Zf rfl ((hS.blk 1 rfl).ld ag3 rfl)) rfl (by kernel_rfl) (V_q (Ue rfl rfl) rfl (by kernel_rfl) (V_q (Zc rfl) rfl (by kernel_rfl) (V_g (Zd rfl Zcu) (by kernel_rfl) (by kernel_rfl) (by kernel_rfl) (V_g (Zf rfl ((hS.blk 1 rfl).ld ag3 rfl)) (by kernel_rfl) (by kernel_rfl) (by kernel_rfl) (V_g (Gv rfl rfl) (by kernel_rfl) (by kernel_rfl) (by kernel_rfl) (Zdd (j:=3) rfl rfl rfl (by kernel_rfl) (by kernel_rfl) ?_)))))));clear HC a;intro a HC
  have H:=HC.has;clear HC
  refine Ze (Za (Zl H rfl (fun aQ=>?_) (fun aQ=>?_)))
  · replace hm:=Zu hm aQ
    refine wp_seq (wp_region_lit ?_)
    replace hm:=Zj hm;obtain⟨aX,bQ,hm⟩:=hm
    refine Zi H rfl Zi6 (Ui (A:=A) bQ) rfl ?_
    clear H;intro cO cP hv;clear a;intro a H;obtain⟨rfl,bR⟩:=hv
    replace hS:=hS.ext bR
    refine Zr H rfl rfl (vs:=[.int .i64 aX.Code,.int .i64 aX.Place]) rfl Yi (hS.blk 0 rfl) rfl (by simp) ?_
    clear H;intro cQ hN bS hz;clear a;intro a H;replace hS:=hS.setBlk hN bS;clear hN hz
    refine Ze (Za (wp_ret (Zg ?_)))
    obtain rfl:=Option.some.inj hm
    replace hS:=hS.tk1
    refine Zae H (.inr rfl) rfl (vs:=[.agg #[.int .i64 aX.Code,.int .i64 aX.Place]]) (Xh rfl ((hS.blk 0 rfl).ldAll Ty Yi) Xt) ?_
    replace hS:=hS.tk0
    exact⟨rfl,hS.x⟩
  · replace hm:=Zv hm aQ
    refine wp_skip (Za (wp_seq (Tp [] 10 (by kernel_rfl) ?_)))
    obtain⟨bC,aR⟩ : ∃ x,x=bN.drew:=⟨_,rfl⟩;rw [← aR];have bT : Ext bN bC:=by rw [aR];exact Ext.drew' _
    clear aR
    replace hS:=hS.ext bT
    have aO:=hS
    have hW:=Nat.le_refl bC.heap.size
    refine Xu 0 H rfl (Zf rfl (LdC.old ((aO.blk 1 rfl).ldAll Zam Gh) Ext.rfl' (Nat.le_refl _) (by simp))) rfl (by kernel_rfl) (by kernel_rfl) (by kernel_rfl) (by kernel_rfl) (fun _ _ _ h=>h) ?_;clear H a;intro a H
    refine Xu 2 H rfl (Zf rfl (LdC.old ((aO.blk 1 rfl).ldAll Zam Gh) Ext.rfl' (Nat.le_refl _) (by simp))) rfl (by kernel_rfl) (by kernel_rfl) (by kernel_rfl) (by kernel_rfl) (fun _ _ _ h=>h) ?_;clear H a;intro a H
    refine Xu 4 H rfl (Zf rfl (LdC.old ((aO.blk 1 rfl).ldAll Zam Gh) Ext.rfl' (Nat.le_refl _) (by simp))) rfl (by kernel_rfl) (by kernel_rfl) (by kernel_rfl) (by kernel_rfl) (fun _ _ _ h=>h) ?_;clear H a;intro a H
    refine Xu 6 H rfl (Zf rfl (LdC.old ((aO.blk 1 rfl).ldAll Zam Gh) Ext.rfl' (Nat.le_refl _) (by simp))) rfl (by kernel_rfl) (by kernel_rfl) (by kernel_rfl) (by kernel_rfl) (fun _ _ _ h=>h) ?_;clear H a;intro a H
    replace hm:=Zj hm;obtain⟨aK,bU,hm⟩:=hm
    refine Xl 1 (by kernel_rfl) ?_
    refine Xr 1 H rfl rfl en119 (Zgu (A:=A) (⟨_,_,_,_,rfl,(aE.ext (Zn.mono _) hS.x),(aF.ext (Zn.mono _) hS.x),(aG.ext (Zn.mono _) hS.x),(aH.ext (Zn.mono _) hS.x)⟩ : Qs _ [.int .i64 a0.Id,.bool a0.Mobile,aA,aB,aC,.int .i64 a0.Events,aD] a0) bU) rfl (fun v w hv=>.inl (ChgF.of_ext (by obtain⟨_,hE0⟩:=hv;exact hE0))) ?_
    clear H;intro cR cT hv;clear a;intro a H;obtain⟨rfl,bD⟩:=hv
    replace hS:=hS.ext bD
    replace hW:=Nat.le_trans hW bD.size
    replace hm:=Zj hm;obtain⟨aL,bV,hm⟩:=hm
    refine Xl 3 (by kernel_rfl) ?_
    refine Xr 3 H rfl rfl en120 (Zgv (A:=A) (⟨_,_,_,_,rfl,(aE.ext (Zn.mono _) hS.x),(aF.ext (Zn.mono _) hS.x),(aG.ext (Zn.mono _) hS.x),(aH.ext (Zn.mono _) hS.x)⟩ : Qs _ [.int .i64 a0.Id,.bool a0.Mobile,aA,aB,aC,.int .i64 a0.Events,aD] a0) bV) rfl (fun v w hv=>.inl (ChgF.of_ext (by obtain⟨_,hE0⟩:=hv;exact hE0))) ?_
    clear H;intro cU cV hv;clear a;intro a H;obtain⟨rfl,bE⟩:=hv
    replace hS:=hS.ext bE
    replace hW:=Nat.le_trans hW bE.size
    replace hm:=Zj hm;obtain⟨aM,bW,hm⟩:=hm
    refine Xl 5 (by kernel_rfl) ?_
    refine Xr 5 H rfl rfl en121 (Zgw (A:=A) (⟨_,_,_,_,rfl,(aE.ext (Zn.mono _) hS.x),(aF.ext (Zn.mono _) hS.x),(aG.ext (Zn.mono _) hS.x),(aH.ext (Zn.mono _) hS.x)⟩ : Qs _ [.int .i64 a0.Id,.bool a0.Mobile,aA,aB,aC,.int .i64 a0.Events,aD] a0) bW) rfl (fun v w hv=>.inl (ChgF.of_ext (by obtain⟨_,hE0⟩:=hv;exact hE0))) ?_
    clear H;intro cW cX hv;clear a;intro a H;obtain⟨rfl,bF⟩:=hv
    replace hS:=hS.ext bF
    replace hW:=Nat.le_trans hW bF.size
    replace hm:=Zj hm;obtain⟨aN,bX,hm⟩:=hm
    refine Xl 7 (by kernel_rfl) ?_
    refine Xr 7 H rfl rfl en122 (Zff (A:=A) (⟨_,_,_,_,rfl,(aE.ext (Zn.mono _) hS.x),(aF.ext (Zn.mono _) hS.x),(aG.ext (Zn.mono _) hS.x),(aH.ext (Zn.mono _) hS.x)⟩ : Qs _ [.int .i64 a0.Id,.bool a0.Mobile,aA,aB,aC,.int .i64 a0.Events,aD] a0) bX) rfl (fun v w hv=>.inl (ChgF.of_ext (by obtain⟨_,hE0⟩:=hv;exact hE0))) ?_
    clear H;intro cY cZ hv;clear a;intro a H;obtain⟨rfl,bG⟩:=hv
    replace hS:=hS.ext bG
    replace hW:=Nat.le_trans hW bG.size
    refine Tq 8 H rfl Tryz.underlying201 Yi Zcc rfl rfl rfl (cs:=[.int .i64 aK.Code,.int .i64 aK.Place,.int .i64 aL.Code,.int .i64 aL.Place,.int .i64 aM.Code,.int .i64 aM.Place,.int .i64 aN.Code,.int .i64 aN.Place]) (by kernel_rfl) rfl (by kernel_rfl) ?_
    clear H;intro bH dA hN bI hs;clear a;intro a H
    have cF : bC.heap.size ≤ bH:=hs ▸ hW
    replace hS:=hS.newBlk hN bI hs;clear hN hs
    replace hW:=Nat.le_trans hW bI.size
    replace hS:=hS.blkOwnL (e:=Hm) (k:=2) [aK,aL,aM,aN] rfl rfl (by simp [maxLen])
    refine Zk 9 H rfl (Zb rfl) rfl (by kernel_rfl) (by kernel_rfl) (by kernel_rfl) (by kernel_rfl) (fun _ _ _ h=>h) ?_;clear H a;intro a H
    refine Xk (by kernel_rfl) ?_
    refine Za (wp_seq (wp_seq (wp_region_lit (n_q H (Zb rfl) rfl ?_))));clear H a;intro a H
    refine Ze (Za (wp_block ?_))
    replace hS:=hS.pk1
    replace hS:=hS.pk2
    replace hS:=hS.pk2
    replace hm:=Zj hm;obtain⟨bJ,hm,bK⟩:=hm;replace hm:=Qk hm;obtain⟨cG,hm⟩:=hm
    refine Kn (σ:=Nat × Nat) (fun (m,aI)=>[(1,.pointer (some ⟨bL,0,none⟩)),(2,.pointer (some ⟨bM,0,none⟩)),(3,.slice (some ⟨bH,0,none⟩) 4 4),(4,.int .i64 ((aI : Nat) : Int))]) (fun (m,aI) wl=>Kq (Yl aK aL aM aN) m aI=some bJ ∧ St NB w wl [ownR 124 2 (.slice (some ⟨bH,0,none⟩) 4 4) [aK,aL,aM,aN].length ([aK,aL,aM,aN].flatMap Hm),blkR bL [.int .i64 a0.Id,.bool a0.Mobile,aA,aB,aC,.int .i64 a0.Events,aD] 27,blkR bM [.int .i64 0,.int .i64 0] 124]) (fun (m,aI)=>m) (cG,0) H ⟨rfl,rfl,rfl,rfl,trivial⟩ ⟨hm,hS⟩ ?_
    clear H hS hm a;intro xx a dB H hR;obtain⟨m,aI⟩:=xx;simp only [ent,List.map_cons,List.map_nil] at H;(try dsimp only at hR);obtain⟨hm,hS⟩:=hR
    replace hm:=Qi hm;obtain⟨cH,dC,rfl,hm,aS⟩:=hm;try dsimp only [Yl] at hm
    refine wp_seq (wp_seq (wp_region_lit (n_q H (Zc rfl) rfl (W_q (Zc rfl) rfl ?_))));clear H a;intro a H
    obtain⟨dD,dE,aJ,cL,cM⟩:=SlR.formV ((hS.own 0 rfl).slr rfl (fun _ _=>rfl))
    refine n_q H (Qe Tryz.underlying201 rfl aJ) rfl (W_q (Jr (i:=aI) (j:=([aK,aL,aM,aN].length)) rfl rfl) rfl ?_);clear H a;intro a H
    refine Ze (Za (Zl H rfl (fun aP=>?_) (fun aP=>?_)))
    · replace hm:=Zu hm aP
      have cI : aI < [aK,aL,aM,aN].length:=of_decide_eq_true aP
      refine wp_skip (Za (wp_seq (wp_block (wp_seq (wp_region_lit (n_q H (Zc rfl) rfl (W_q (Zc rfl) rfl ?_)))))));clear H a;intro a H
      replace hm:=Zj hm;obtain⟨dF,aT,hm⟩:=hm
      obtain⟨cJ,aY⟩:=SlR.adV ((hS.own 0 rfl).slr rfl (fun _ _=>rfl)) aJ aT
      refine n_q H (Vw (i:=aI) Tryz.underlying201 Yi rfl aJ aY rfl (Zaz aT)) rfl (W_q (Ve rfl Zqc) rfl (W_q (Zf rfl (SlR.ldCellV (j:=0) ((hS.own 0 rfl).slr rfl (fun _ _=>rfl)) aJ aY ag3 aT rfl)) rfl (W_q (Uv rfl rfl) rfl ?_)));clear H a;intro a H
      refine Ze (Za (Zl H rfl (fun aU=>?_) (fun aU=>?_)))
      · replace hm:=Zu hm aU
        refine wp_seq (wp_region_lit (n_q H (Zc rfl) rfl (W_q (Zc rfl) rfl ?_)));clear H a;intro a H
        replace hm:=Zj hm;obtain⟨aZ,aV,hm⟩:=hm
        obtain⟨cK,a9⟩:=SlR.adV ((hS.own 0 rfl).slr rfl (fun _ _=>rfl)) aJ aV
        refine n_q H (Vw (i:=aI) Tryz.underlying201 Yi rfl aJ a9 rfl (Zaz aV)) rfl (W_q (Zf rfl (SlR.ldAggV ((hS.own 0 rfl).slr rfl (fun _ _=>rfl)) aJ a9 Ty Yi aV)) rfl ?_);clear H a;intro a H
        replace hS:=hS.pk2
        refine Zr H rfl rfl (vs:=[.int .i64 aZ.Code,.int .i64 aZ.Place]) rfl Yi (hS.blk 0 rfl) rfl (by simp) ?_
        clear H;intro dG hN bY hz;clear a;intro a H;replace hS:=hS.setBlk hN bY;clear hN hz
        refine Ze (Za (wp_ret (Zm (Zg (Zg (Zm (Zg ?_)))))))
        obtain rfl:=Option.some.inj hm;have hz : _=bJ:=aS;subst hz;replace hm:=bK;try dsimp only at hm
        obtain rfl:=Option.some.inj hm
        replace hS:=hS.tk1
        refine Zae H (.inr rfl) rfl (vs:=[.agg #[.int .i64 aZ.Code,.int .i64 aZ.Place]]) (Xh rfl ((hS.blk 0 rfl).ldAll Ty Yi) Xt) ?_
        replace hS:=hS.tk0
        exact⟨rfl,hS.x⟩
      · replace hm:=Zv hm aU
        refine wp_skip (Zo (Za (wp_region_lit (n_q H (Zc rfl) rfl (W_q (Yn (i:=aI) (j:=1) rfl rfl (by omega)) rfl (W_q (Zb rfl) rfl ?_))))));clear H a;intro a H
        refine Ze (Za ?_)
        obtain rfl:=Option.some.inj hm
        exact Wv (cH,aI + 1) H ⟨rfl,rfl,rfl,rfl,trivial⟩ ⟨aS,hS⟩ (Nat.lt_succ_self _)
    · replace hm:=Zv hm aP
      refine wp_exit (Zq (Zq (Qg ?_)))
      obtain rfl:=Option.some.inj hm;have hz : _=bJ:=aS;subst hz;replace hm:=bK;try dsimp only at hm
      refine Za (wp_seq (wp_seq (wp_region_lit (n_q H (Zf rfl ((hS.blk 1 rfl).ldAll Zam Gh)) rfl ?_))));clear H a;intro a H
      replace hm:=Zj hm;obtain⟨dH,bZ,hm⟩:=hm
      refine Zi H rfl en123 (Zgx (A:=A) (⟨_,_,_,_,rfl,(aE.ext (Zn.mono _) hS.x),(aF.ext (Zn.mono _) hS.x),(aG.ext (Zn.mono _) hS.x),(aH.ext (Zn.mono _) hS.x)⟩ : Qs _ [.int .i64 a0.Id,.bool a0.Mobile,aA,aB,aC,.int .i64 a0.Events,aD] a0) bZ) rfl ?_
      clear H;intro dI dJ hv;clear a;intro a H;obtain⟨rfl,b7⟩:=hv
      replace hS:=hS.ext b7
      refine n_q H (Gv rfl rfl) rfl ?_;clear H a;intro a H
      refine Ze (Za (Zl H rfl (fun aW=>?_) (fun aW=>?_)))
      · replace hm:=Zu hm aW
        refine wp_seq (wp_region_lit ?_)
        replace hm:=Zj hm;obtain⟨bA,b8,hm⟩:=hm
        refine Zi H rfl Zi6 (Ui (A:=A) b8) rfl ?_
        clear H;intro dK dL hv;clear a;intro a H;obtain⟨rfl,b9⟩:=hv
        replace hS:=hS.ext b9
        replace hS:=hS.pk2
        refine Zr H rfl rfl (vs:=[.int .i64 bA.Code,.int .i64 bA.Place]) rfl Yi (hS.blk 0 rfl) rfl (by simp) ?_
        clear H;intro dM hN cA hz;clear a;intro a H;replace hS:=hS.setBlk hN cA;clear hN hz
        refine Ze (Za (wp_ret (Zg ?_)))
        obtain rfl:=Option.some.inj hm
        replace hS:=hS.tk1
        refine Zae H (.inr rfl) rfl (vs:=[.agg #[.int .i64 bA.Code,.int .i64 bA.Place]]) (Xh rfl ((hS.blk 0 rfl).ldAll Ty Yi) Xt) ?_
        replace hS:=hS.tk0
        exact⟨rfl,hS.x⟩
      · replace hm:=Zv hm aW
        refine wp_skip (Za (wp_seq (wp_region_lit ?_)))
        replace hm:=Zj hm;obtain⟨bB,cB,hm⟩:=hm
        refine Zi H rfl Zl5 (Hb (A:=A) cB) rfl ?_
        clear H;intro dN dO hv;clear a;intro a H;obtain⟨rfl,cC⟩:=hv
        replace hS:=hS.ext cC
        replace hS:=hS.pk2
        refine Zr H rfl rfl (vs:=[.int .i64 bB.Code,.int .i64 bB.Place]) rfl Yi (hS.blk 0 rfl) rfl (by simp) ?_
        clear H;intro dP hN cD hz;clear a;intro a H;replace hS:=hS.setBlk hN cD;clear hN hz
        refine Ze (Za (wp_ret ?_))
        obtain rfl:=Option.some.inj hm
        replace hS:=hS.tk1
        refine Zae H (.inr rfl) rfl (vs:=[.agg #[.int .i64 bB.Code,.int .i64 bB.Place]]) (Xh rfl ((hS.blk 0 rfl).ldAll Ty Yi) Xt) ?_
        replace hS:=hS.tk0
        exact⟨rfl,hS.x⟩
theorem Zd2 {w : World} {A : Nat → Addr} {cs0 : List Value} {a0 : GPlan} (h0 : Qs w cs0 a0) {r : Bool} (hm : Hu a0=some r) :
    Calls Tryz.prog 33 [.agg cs0.toArray].toArray w (Ret fun u w'=>u=.bool r ∧ Ext w w'):=by
  obtain⟨aA,aB,aC,aD,rfl,aE,aF,aG,aH⟩:=h0
  have hS:=St.begin NB w
  unfold Hu at hm
  refine enter Tryz.func33 rfl rfl rfl ?_;intro a H;dsimp only [Qn,Nat.zero_add,Nat.reduceAdd] at H
  refine wp_seq (wp_region_lit (Wi H rfl (cs:=[.int .i64 a0.Id,.bool a0.Mobile,aA,aB,aC,.int .i64 a0.Events,aD]) rfl rfl ?_))
  clear H;intro aL aM hN aI hs;clear a;intro a H
  replace hS:=hS.newBlk hN aI hs;clear hN hs
  refine n_q H (Zb rfl) rfl ?_;clear H a;intro a H
  refine Ze (Za (wp_seq (wp_region_lit (n_q H (Zf rfl ((hS.blk 0 rfl).ldAll Zam Gh)) rfl ?_))));clear H a;intro a H
  replace hm:=Zj hm;obtain⟨aN,aJ,hm⟩:=hm
  refine Zi H rfl en52 (Zgy (A:=A) (⟨_,_,_,_,rfl,(aE.ext (Zn.mono _) hS.x),(aF.ext (Zn.mono _) hS.x),(aG.ext (Zn.mono _) hS.x),(aH.ext (Zn.mono _) hS.x)⟩ : Qs _ [.int .i64 a0.Id,.bool a0.Mobile,aA,aB,aC,.int .i64 a0.Events,aD] a0) aJ) rfl ?_
  clear H;intro aO aP hv;clear a;intro a H;obtain⟨rfl,aK⟩:=hv
  replace hS:=hS.ext aK
  refine n_q H (Znh Zqb rfl rfl) rfl (W_q (Um rfl rfl) rfl (W_q (Zb rfl) rfl ?_));clear H a;intro a H
  refine Ze (Za (wp_ret ?_))
  obtain rfl:=Option.some.inj hm
  replace hS:=hS.tk0
  refine Xx H (.inr rfl) rfl rfl ?_
  exact⟨rfl,hS.x⟩
theorem Zeu {w : World} {A : Nat → Addr} {v0 : Value} {a0 : List UInt8} {v1 : Value} {a1 : List UInt8} (h0 : SlR w 1 (Zn eB) v0 a0) (h1 : SlR w 1 (Zn eB) v1 a1) {r : Bool} (hm : Ga a0 a1=some r) :
    Calls Tryz.prog 173 [v0,v1].toArray w (Ret fun u w'=>u=.bool r ∧ Ext w w'):=by
  have hS:=St.begin NB w
  unfold Ga at hm
  refine enter Tryz.func173 rfl rfl rfl ?_;intro a H;dsimp only [Qn,Nat.zero_add,Nat.reduceAdd] at H
  refine wp_seq (wp_region_lit (n_q H (Zb rfl) rfl ?_));clear H a;intro a H
  refine Ze (Za (wp_seq (wp_region_lit (n_q H (Zc rfl) rfl (W_q (Ziw Tryz.underlying100 Tryz.underlying5 Tryz.underlying9 rfl (fun w' hw=>((h0.ext (Zn.mono _) hS.x).ext (Zn.mono _) hw))) rfl (W_q (Zc rfl) rfl (W_q (Ziw Tryz.underlying100 Tryz.underlying5 Tryz.underlying9 rfl (fun w' hw=>((h1.ext (Zn.mono _) hS.x).ext (Zn.mono _) hw))) rfl (W_q (Zoz rfl rfl) rfl (W_q (Zb rfl) rfl ?_)))))))));clear H a;intro a H
  refine Ze (Za (wp_ret ?_))
  obtain rfl:=Option.some.inj hm
  refine Xx H (.inr rfl) rfl rfl ?_
  exact⟨rfl,hS.x⟩
theorem Zh0 {w : World} {A : Nat → Addr} {v0 : Value} {a0 : List UInt8} (hG : EV A w) (h0 : SlR w 1 (Zn eB) v0 a0) {r : List UInt8 × ErrM} (hm : Gk a0=some r) :
    Calls Tryz.prog 99 [v0].toArray w (Ret fun u w'=>∃ h_0 h_1,u=.tuple #[h_0,h_1] ∧ St NB w w' [ownR 5 1 h_0 r.1.length (r.1.flatMap eB),erQ A h_1 r.2]):=by
  have hS:=St.begin NB w
  unfold Gk at hm
  refine enter Tryz.func99 rfl rfl rfl ?_;intro a H;dsimp only [Qn,Nat.zero_add,Nat.reduceAdd] at H
  refine wp_seq (wp_region_lit (n_q H (Zb rfl) rfl (W_q (Zb rfl) rfl ?_)));clear H a;intro a H
  refine Ze (Za (wp_seq (wp_seq (wp_region_lit (n_q H (Zc rfl) rfl ?_)))));clear H a;intro a H
  obtain⟨aH,aI,aA,a9,bA⟩:=SlR.formV (h0.ext (Zn.mono _) hS.x)
  refine n_q H (Qe Tryz.underlying100 rfl aA) rfl (W_q (Jr (i:=a0.length) (j:=4) rfl rfl) rfl ?_);clear H a;intro a H
  refine Ze (Za (Zl H rfl (fun aC=>?_) (fun aC=>?_)))
  · replace hm:=Zu hm aC
    have aZ : a0.length < 4:=of_decide_eq_true aC
    refine wp_seq (Wq (by kernel_rfl) (by kernel_rfl) ?_)
    refine Xg H (Zf rfl ((hG.ext hS.x).ld Yc (by decide) Ub)) rfl ?_;clear H a;intro a H
    refine Xg H (Zb rfl) rfl ?_;clear H a;intro a H
    refine Xg H (Zb rfl) rfl ?_;clear H a;intro a H
    refine Hf ?_;intro bE aN
    replace hS:=hS.ext aN
    refine Za (wp_ret (Zg ?_))
    obtain rfl:=Option.some.inj hm
    replace hS:=hS.nilOwn 5 1
    replace hS:=hS.dVar (A:=A) (g:=Yc) (by decide)
    replace hS:=hS.pk1
    refine Zbu H (.inr rfl) rfl rfl rfl ?_
    exact⟨_,_,rfl,hS⟩
  · replace hm:=Zv hm aC
    refine wp_skip (Za (wp_seq (wp_region_lit (n_q H (Zc rfl) rfl (W_q (Zc rfl) rfl (W_q (Qe Tryz.underlying100 rfl aA) rfl (W_q (Za3 rfl rfl) rfl ?_)))))));clear H a;intro a H
    replace hm:=Zbm hm;obtain⟨aB,hm⟩:=hm
    refine n_q H (Zco Tryz.underlying100 sz5 (show _=some (Value.slice aH a0.length aI) by rw [← aA];rfl) rfl aB.1 (by omega)) rfl (W_q (Zb rfl) rfl ?_);clear H a;intro a H
    refine Ze (Za (wp_seq (wp_seq (Tp [] 9 (by kernel_rfl) ?_))))
    obtain⟨aM,aF⟩ : ∃ x,x=w.drew:=⟨_,rfl⟩;rw [← aF];have aO : Ext w aM:=by rw [aF];exact Ext.drew' _
    clear aF
    replace hS:=hS.ext aO
    have bB:=hS
    have hW:=Nat.le_refl aM.heap.size
    refine Zk 0 H rfl (Zc rfl) rfl (by kernel_rfl) (by kernel_rfl) (by kernel_rfl) (by kernel_rfl) (fun _ _ _ h=>h) ?_;clear H a;intro a H
    refine Zk 3 H rfl (Zc rfl) rfl (by kernel_rfl) (by kernel_rfl) (by kernel_rfl) (by kernel_rfl) (fun _ _ _ h=>h) ?_;clear H a;intro a H
    refine Zk 4 H rfl (Zc rfl) rfl (by kernel_rfl) (by kernel_rfl) (by kernel_rfl) (by kernel_rfl) (fun _ _ _ h=>h) ?_;clear H a;intro a H
    obtain⟨bF,bG,aP,bC,bD⟩:=SlR.formV (SlR.takeV (h0.ext (Zn.mono _) hS.x) aA aB.1 aB.2)
    refine Zk 5 H rfl (Qe Tryz.underlying100 rfl aP) rfl (by kernel_rfl) (by kernel_rfl) (by kernel_rfl) (by kernel_rfl) (fun _ _ _ h=>h) ?_;clear H a;intro a H
    replace hm:=Zbm hm;obtain⟨aD,hm⟩:=hm
    obtain⟨aX,aY,aQ,aE⟩:=Zlo 1 (Zn eB) aH a0.length aI a0 (lo:=(((a0.take (IntKind.i64.wrap (((a0.length : Nat) : Int) - 4)).toNat).length : Nat) : Int)) (hi:=((a0.length : Nat) : Int)) aD.1 aD.2.1 aD.2.2
    rw [← aA] at aE
    refine Zk 6 H rfl (Qq (Ziu Tryz.underlying100 sz5 (show _=some (Value.slice aH a0.length aI) by rw [← aA];rfl) rfl aD.1 (by omega)) (show _=Value.slice aX (((a0.length : Nat) : Int).toNat - (((a0.take (IntKind.i64.wrap (((a0.length : Nat) : Int) - 4)).toNat).length : Nat) : Int).toNat) aY by rw [← aQ];simp)) rfl (by kernel_rfl) (by kernel_rfl) (by kernel_rfl) (by kernel_rfl) (fun _ _ _ h=>h) ?_;clear H a;intro a H
    replace hm:=Zj hm;obtain⟨bH,aR,hm⟩:=hm
    refine Xl 1 (by kernel_rfl) ?_
    refine Xr 1 H rfl rfl Zpz (Zcb (A:=A) (SlR.takeV (h0.ext (Zn.mono _) hS.x) aA aB.1 aB.2) aR) rfl (fun v w hv=>.inl (ChgF.of_ext (by obtain⟨_,hE0⟩:=hv;exact hE0))) ?_
    clear H;intro bI bJ hv;clear a;intro a H;obtain⟨rfl,aJ⟩:=hv
    replace hS:=hS.ext aJ
    replace hW:=Nat.le_trans hW aJ.size
    replace hm:=Zj hm;obtain⟨bK,aS,hm⟩:=hm
    refine Xl 2 (by kernel_rfl) ?_
    refine Xr 2 H rfl rfl en172 (Zd0 (A:=A) aS) rfl (fun v w hv=>.inl (ChgF.of_ext (by obtain⟨_,_,hE0⟩:=hv;exact hE0.x))) ?_
    clear H;intro bL bM hv;clear a;intro a H;obtain⟨_,rfl,aK⟩:=hv
    replace hS:=hS.new aK;simp only [List.cons_append,List.nil_append] at hS
    replace hW:=Nat.le_trans hW aK.x.size
    replace hm:=Zj hm;obtain⟨bN,aT,hm⟩:=hm
    refine Xl 7 (by kernel_rfl) ?_
    refine Xr 7 H rfl rfl en173 (Zeu (A:=A) ((hS.own 0 rfl).slr rfl (fun _ _=>rfl)) (aE _ (h0.ext (Zn.mono _) hS.x)) aT) rfl (fun v w hv=>.inl (ChgF.of_ext (by obtain⟨_,hE0⟩:=hv;exact hE0))) ?_
    clear H;intro bO bP hv;clear a;intro a H;obtain⟨rfl,aL⟩:=hv
    replace hS:=hS.ext aL
    replace hW:=Nat.le_trans hW aL.size
    refine Zk 8 H rfl (Zhe rfl) rfl (by kernel_rfl) (by kernel_rfl) (by kernel_rfl) (by kernel_rfl) (fun _ _ _ h=>h) ?_;clear H a;intro a H
    refine Xk (by kernel_rfl) ?_
    refine Za (Zl H rfl (fun aG=>?_) (fun aG=>?_))
    · replace hm:=Zu hm aG
      refine wp_seq (Wq (by kernel_rfl) (by kernel_rfl) ?_)
      refine Xg H (Zf rfl ((hG.ext hS.x).ld gSum (by decide) Ub)) rfl ?_;clear H a;intro a H
      refine Xg H (Zb rfl) rfl ?_;clear H a;intro a H
      refine Xg H (Zb rfl) rfl ?_;clear H a;intro a H
      refine Hf ?_;intro bQ aU
      replace hS:=hS.ext aU
      refine Za (wp_ret (Zg ?_))
      obtain rfl:=Option.some.inj hm
      replace hS:=hS.nilOwn 5 1
      replace hS:=hS.dVar (A:=A) (g:=gSum) (by decide)
      replace hS:=hS.pk1
      replace hS:=hS.tk2
      refine Zbu H (.inr rfl) rfl rfl rfl ?_
      exact⟨_,_,rfl,hS⟩
    · replace hm:=Zv hm aG
      refine wp_skip (Za (wp_seq (wp_region_lit (n_q H (Zc rfl) rfl ?_))));clear H a;intro a H
      replace hm:=Zj hm;obtain⟨bR,aV,hm⟩:=hm
      refine Zi H rfl en171 (Zbc (A:=A) (SlR.takeV (h0.ext (Zn.mono _) hS.x) aA aB.1 aB.2) aV) rfl ?_
      clear H;intro bS bT hv;clear a;intro a H;obtain⟨_,rfl,aW⟩:=hv
      replace hS:=hS.new aW;simp only [List.cons_append,List.nil_append] at hS
      refine n_q H (Zb rfl) rfl (W_q (Zb rfl) rfl ?_);clear H a;intro a H
      refine Ze (Za (wp_ret ?_))
      obtain rfl:=Option.some.inj hm
      replace hS:=hS.dNil (A:=A)
      replace hS:=hS.pk1
      replace hS:=hS.tk2
      refine Zbu H (.inr rfl) rfl rfl rfl ?_
      exact⟨_,_,rfl,hS⟩
theorem Zgz {w : World} {A : Nat → Addr} {v0 : Value} {a0 : List UInt8} (h0 : SlR w 1 (Zn eB) v0 a0) {r : GWireCursor} (hm : Tj a0=some r) :
    Calls Tryz.prog 100 [v0].toArray w (Ret fun u w'=>∃ (h_0 : Nat) (h_1 : Value),u=.pointer (some ⟨h_0,0,none⟩) ∧ St NB w w' [blkR h_0 [h_1,.int .i64 r.at_,.int .i64 r.bound_] 248,ownR 5 1 h_1 r.b_.length (r.b_.flatMap eB)]):=by
  have hS:=St.begin NB w
  unfold Tj at hm
  refine enter Tryz.func100 rfl rfl rfl ?_;intro a H;dsimp only [Qn,Nat.zero_add,Nat.reduceAdd] at H
  refine wp_seq (wp_region_lit (n_q H (Zb rfl) rfl ?_));clear H a;intro a H
  refine Ze (Za (wp_seq (wp_region_lit (n_q H (Zc rfl) rfl ?_))));clear H a;intro a H
  replace hm:=Zj hm;obtain⟨aH,aB,hm⟩:=hm
  refine Zi H rfl Zp0 (We (A:=A) (h0.ext (Zn.mono _) hS.x) aB) rfl ?_
  clear H;intro aA aI hv;clear a;intro a H;obtain⟨_,rfl,aC⟩:=hv
  replace hS:=hS.new aC;simp only [List.cons_append,List.nil_append] at hS
  refine n_q H (Zc rfl) rfl ?_;clear H a;intro a H
  obtain⟨aJ,aK,aD,aF,aG⟩:=SlR.formV (h0.ext (Zn.mono _) hS.x)
  refine n_q H (Qe Tryz.underlying100 rfl aD) rfl (W_q (Qd (cs:=[aA,.int .i64 0,.int .i64 ((a0.length : Nat) : Int)]) ze248 bd248 pl248 rfl ((Qa (((hS.own 0 rfl).slr rfl (fun _ _=>rfl))).one rfl (by simp)).trans ((Qa rfl rfl (by simp)).trans rfl))) rfl ?_);clear H a;intro a H
  refine Wi H rfl (cs:=[aA,.int .i64 0,.int .i64 ((a0.length : Nat) : Int)]) rfl rfl ?_
  clear H;intro aL aM hN aE hs;clear a;intro a H
  replace hS:=hS.newBlk hN aE hs;clear hN hs
  refine n_q H (Zb rfl) rfl ?_;clear H a;intro a H
  refine Ze (Za (wp_ret ?_))
  obtain rfl:=Option.some.inj hm
  refine Xx H (.inr rfl) rfl rfl ?_
  exact⟨_,_,rfl,hS⟩
theorem Xe {w : World} {A : Nat → Addr} {fp : Nat → Prop} {b0 : Nat} {v0_0 : Value} {a0 : GWireCursor} (hP : Sep w fp [blkR b0 [v0_0,.int .i64 a0.at_,.int .i64 a0.bound_] 248]) (ro0_b : ∀ w',ChgP fp w w' → SlR w' 1 (Zn eB) v0_0 a0.b_) {r : Int × GWireCursor} (hm : Qm a0=some r) :
    Calls Tryz.prog 104 [.pointer (some ⟨b0,0,none⟩)].toArray w (Ret fun u w'=>u=.int .i64 r.1 ∧ St fp w w' [blkR b0 [v0_0,.int .i64 r.2.at_,.int .i64 r.2.bound_] 248]):=by
  have hS:=St.init hP
  unfold Qm at hm
  refine enter Tryz.func104 rfl rfl rfl ?_;intro a H;dsimp only [Qn,Nat.zero_add,Nat.reduceAdd] at H
  refine wp_seq (wp_region_lit (n_q H (Zb rfl) rfl ?_));clear H a;intro a H
  refine Ze (Za (wp_seq (Wq (by kernel_rfl) (by kernel_rfl) ?_)))
  refine Xg H (Zc rfl) rfl ?_;clear H a;intro a H
  refine Xg H (Zt rfl) rfl ?_;clear H a;intro a H
  refine Xg H (Zd rfl Zl8) rfl ?_;clear H a;intro a H
  refine Xg H (Zf rfl ((hS.blk 0 rfl).ld ag3 rfl)) rfl ?_;clear H a;intro a H
  refine Xg H (Zc rfl) rfl ?_;clear H a;intro a H
  refine Xg H (Zt rfl) rfl ?_;clear H a;intro a H
  refine Xg H (Zd rfl Vn) rfl ?_;clear H a;intro a H
  refine Xg H (Zf rfl ((hS.blk 0 rfl).ld ag3 rfl)) rfl ?_;clear H a;intro a H
  refine Xg H (Za3 rfl rfl) rfl ?_;clear H a;intro a H
  refine Xg H (Zb rfl) rfl ?_;clear H a;intro a H
  refine Hf ?_;intro aB aA
  replace hS:=hS.ext aA
  refine Za (wp_ret ?_)
  obtain rfl:=Option.some.inj hm
  refine Xx H (.inr rfl) rfl rfl ?_
  exact⟨rfl,hS⟩
theorem Uj {w : World} {A : Nat → Addr} {fp : Nat → Prop} {b0 : Nat} {v0_0 : Value} {a0 : GWireCursor} {a1 : Int} (hG : ∀ w',ChgP fp w w' → EV A w') (hP : Sep w fp [blkR b0 [v0_0,.int .i64 a0.at_,.int .i64 a0.bound_] 248]) (ro0_b : ∀ w',ChgP fp w w' → SlR w' 1 (Zn eB) v0_0 a0.b_) {r : List UInt8 × ErrM × GWireCursor} (hm : Qu a0 a1=some r) :
    Calls Tryz.prog 101 [.pointer (some ⟨b0,0,none⟩),.int .i64 a1].toArray w (Ret fun u w'=>∃ h_0 h_1,u=.tuple #[h_0,h_1] ∧ St fp w w' [blkR b0 [v0_0,.int .i64 r.2.2.at_,.int .i64 r.2.2.bound_] 248,ownR 5 1 h_0 r.1.length (r.1.flatMap eB),erQ A h_1 r.2.1]):=by
  have hS:=St.init hP
  unfold Qu at hm
  refine enter Tryz.func101 rfl rfl rfl ?_;intro a H;dsimp only [Qn,Nat.zero_add,Nat.reduceAdd] at H
  refine wp_seq (wp_region_lit (n_q H (Zb rfl) rfl (W_q (Zb rfl) rfl ?_)));clear H a;intro a H
  refine Ze (Za (wp_seq (wp_seq (wp_region_lit (n_q H (Zc rfl) rfl (W_q (Ue rfl rfl) rfl ?_))))));clear H a;intro a H
  refine Ze (Za (Zl H rfl (fun aC=>?_) (fun aC=>?_)))
  · replace hm:=Zu hm aC
    refine wp_seq (Wq (by kernel_rfl) (by kernel_rfl) ?_)
    refine Xg H (Zf rfl ((hG _ hS.chg).ld gArg (by decide) Ub)) rfl ?_;clear H a;intro a H
    refine Xg H (Zb rfl) rfl ?_;clear H a;intro a H
    refine Xg H (Zb rfl) rfl ?_;clear H a;intro a H
    refine Hf ?_;intro bG aU
    replace hS:=hS.ext aU
    refine Za (wp_ret (Zg ?_))
    obtain rfl:=Option.some.inj hm
    replace hS:=hS.nilOwn 5 1
    replace hS:=hS.dVar (A:=A) (g:=gArg) (by decide)
    replace hS:=hS.pk1
    replace hS:=hS.pk2
    refine Zbu H (.inr rfl) rfl rfl rfl ?_
    exact⟨_,_,rfl,hS⟩
  · replace hm:=Zv hm aC
    refine wp_skip (Za (wp_seq (wp_seq (wp_region_lit (n_q H (Zc rfl) rfl ?_)))));clear H a;intro a H
    obtain⟨bD,aI,aJ,aV,aK⟩:=hS.frame (rs1:=[blkR b0 [v0_0,.int .i64 a0.at_,.int .i64 a0.bound_] 248])
    replace hm:=Zj hm;obtain⟨aQ,aW,hm⟩:=hm
    refine Zi H rfl Zhy (Xe (A:=A) aI (a0:=(⟨a0.b_,a0.at_,a0.bound_⟩ : GWireCursor)) (fun w' hw=>ro0_b _ (aJ _ hw)) aW) rfl ?_
    clear H;intro bH aH hv;clear a;intro a H;obtain⟨rfl,aX⟩:=hv
    replace hS:=aK _ _ aX;simp only [List.cons_append,List.nil_append] at hS;clear aI aJ aV aK
    refine n_q H (Zc rfl) rfl (W_q (Ue rfl rfl) rfl ?_);clear H a;intro a H
    refine Ze (Za (Zl H rfl (fun aD=>?_) (fun aD=>?_)))
    · replace hm:=Zu hm aD
      refine wp_seq (Tp [] 8 (by kernel_rfl) ?_)
      obtain⟨aL,aE⟩ : ∃ x,x=aH.drew:=⟨_,rfl⟩;rw [← aE];have aY : Ext aH aL:=by rw [aE];exact Ext.drew' _
      clear aE
      replace hS:=hS.ext aY
      have aM:=hS
      have hW:=Nat.le_refl aL.heap.size
      refine Zk 0 H rfl (Zc rfl) rfl (by kernel_rfl) (by kernel_rfl) (by kernel_rfl) (by kernel_rfl) (fun _ _ _ h=>h) ?_;clear H a;intro a H
      refine Zk 1 H rfl (Zt rfl) rfl (by kernel_rfl) (by kernel_rfl) (by kernel_rfl) (by kernel_rfl) (fun _ _ _ h=>h) ?_;clear H a;intro a H
      refine Zk 2 H rfl (Zd rfl Vn) rfl (by kernel_rfl) (by kernel_rfl) (by kernel_rfl) (by kernel_rfl) (fun _ _ _ h=>h) ?_;clear H a;intro a H
      refine Xu 3 H rfl (Zf rfl (LdC.old ((aM.blk 0 rfl).ld ag3 rfl) Ext.rfl' (Nat.le_refl _) (by simp))) rfl (by kernel_rfl) (by kernel_rfl) (by kernel_rfl) (by kernel_rfl) (fun _ _ _ h=>h) ?_;clear H a;intro a H
      refine Xu 4 H rfl (Zf rfl (LdC.old ((hG _ aM.chg).ld Yc (by decide) Ub) Ext.rfl' (Nat.le_refl _) (by simp))) rfl (by kernel_rfl) (by kernel_rfl) (by kernel_rfl) (by kernel_rfl) (fun _ _ _ h=>h) ?_;clear H a;intro a H
      replace hm:=Zj hm;obtain⟨bI,aZ,hm⟩:=hm
      refine Xl 5 (by kernel_rfl) ?_
      refine Xr 5 H rfl rfl Zht (Wf (A:=A) (Xb.var (by decide) : IsE A aL _ (.v Yc)) aZ) rfl (fun v w hv=>.inl (ChgF.of_ext (by obtain⟨_,_,hE0⟩:=hv;exact hE0.x))) ?_
      clear H;intro bJ bK hv;clear a;intro a H;obtain⟨_,rfl,aN⟩:=hv
      replace hS:=hS.new aN;simp only [List.cons_append,List.nil_append] at hS
      replace hW:=Nat.le_trans hW aN.x.size
      refine Zk 6 H rfl (Zb rfl) rfl (by kernel_rfl) (by kernel_rfl) (by kernel_rfl) (by kernel_rfl) (fun _ _ _ h=>h) ?_;clear H a;intro a H
      refine Zk 7 H rfl (Zb rfl) rfl (by kernel_rfl) (by kernel_rfl) (by kernel_rfl) (by kernel_rfl) (fun _ _ _ h=>h) ?_;clear H a;intro a H
      refine Xk (by kernel_rfl) ?_
      refine Za (wp_ret (Zg ?_))
      obtain rfl:=Option.some.inj hm
      replace hS:=hS.nilOwn 5 1
      replace hS:=hS.pk1
      replace hS:=hS.pk1
      replace hS:=hS.pk2
      refine Zbu H (.inr rfl) rfl rfl rfl ?_
      exact⟨_,_,rfl,hS⟩
    · replace hm:=Zv hm aD
      refine wp_skip (Za (wp_seq (Tp [] 17 (by kernel_rfl) ?_)))
      obtain⟨aR,aF⟩ : ∃ x,x=aH.drew:=⟨_,rfl⟩;rw [← aF];have a9 : Ext aH aR:=by rw [aF];exact Ext.drew' _
      clear aF
      replace hS:=hS.ext a9
      have aG:=hS
      have hW:=Nat.le_refl aR.heap.size
      refine Zk 0 H rfl (Zc rfl) rfl (by kernel_rfl) (by kernel_rfl) (by kernel_rfl) (by kernel_rfl) (fun _ _ _ h=>h) ?_;clear H a;intro a H
      refine Zk 1 H rfl (Zt rfl) rfl (by kernel_rfl) (by kernel_rfl) (by kernel_rfl) (by kernel_rfl) (fun _ _ _ h=>h) ?_;clear H a;intro a H
      refine Zk 2 H rfl (Zd rfl Zi8) rfl (by kernel_rfl) (by kernel_rfl) (by kernel_rfl) (by kernel_rfl) (fun _ _ _ h=>h) ?_;clear H a;intro a H
      refine Xu 3 H rfl (Zf rfl (LdC.old ((aG.blk 0 rfl).ld Zho rfl) Ext.rfl' (Nat.le_refl _) (by simp))) rfl (by kernel_rfl) (by kernel_rfl) (by kernel_rfl) (by kernel_rfl) (fun _ _ _ h=>h) ?_;clear H a;intro a H
      refine Zk 4 H rfl (Zc rfl) rfl (by kernel_rfl) (by kernel_rfl) (by kernel_rfl) (by kernel_rfl) (fun _ _ _ h=>h) ?_;clear H a;intro a H
      refine Zk 5 H rfl (Zt rfl) rfl (by kernel_rfl) (by kernel_rfl) (by kernel_rfl) (by kernel_rfl) (fun _ _ _ h=>h) ?_;clear H a;intro a H
      refine Zk 6 H rfl (Zd rfl Vn) rfl (by kernel_rfl) (by kernel_rfl) (by kernel_rfl) (by kernel_rfl) (fun _ _ _ h=>h) ?_;clear H a;intro a H
      refine Xu 7 H rfl (Zf rfl (LdC.old ((aG.blk 0 rfl).ld ag3 rfl) Ext.rfl' (Nat.le_refl _) (by simp))) rfl (by kernel_rfl) (by kernel_rfl) (by kernel_rfl) (by kernel_rfl) (fun _ _ _ h=>h) ?_;clear H a;intro a H
      refine Zk 8 H rfl (Zc rfl) rfl (by kernel_rfl) (by kernel_rfl) (by kernel_rfl) (by kernel_rfl) (fun _ _ _ h=>h) ?_;clear H a;intro a H
      refine Zk 9 H rfl (Zt rfl) rfl (by kernel_rfl) (by kernel_rfl) (by kernel_rfl) (by kernel_rfl) (fun _ _ _ h=>h) ?_;clear H a;intro a H
      refine Zk 10 H rfl (Zd rfl Vn) rfl (by kernel_rfl) (by kernel_rfl) (by kernel_rfl) (by kernel_rfl) (fun _ _ _ h=>h) ?_;clear H a;intro a H
      refine Xu 11 H rfl (Zf rfl (LdC.old ((aG.blk 0 rfl).ld ag3 rfl) Ext.rfl' (Nat.le_refl _) (by simp))) rfl (by kernel_rfl) (by kernel_rfl) (by kernel_rfl) (by kernel_rfl) (fun _ _ _ h=>h) ?_;clear H a;intro a H
      refine Zk 12 H rfl (Zc rfl) rfl (by kernel_rfl) (by kernel_rfl) (by kernel_rfl) (by kernel_rfl) (fun _ _ _ h=>h) ?_;clear H a;intro a H
      refine Zk 13 H rfl (Ke rfl rfl) rfl (by kernel_rfl) (by kernel_rfl) (by kernel_rfl) (by kernel_rfl) (fun _ _ _ h=>h) ?_;clear H a;intro a H
      obtain⟨aS,aT,aO,bE,bF⟩:=SlR.formV (ro0_b _ hS.chg)
      replace hm:=Zbm hm;obtain⟨aA,hm⟩:=hm
      obtain⟨bL,bM,bA,aB⟩:=Zlo 1 (Zn eB) aS a0.b_.length aT a0.b_ (lo:=aQ.2.at_) (hi:=(IntKind.i64.wrap (aQ.2.at_ + a1))) aA.1 aA.2.1 aA.2.2
      rw [← aO] at aB
      refine Zk 14 H rfl (Qq (Zla Tryz.underlying100 sz5 (show _=some (Value.slice aS a0.b_.length aT) by rw [← aO];rfl) rfl rfl aA.1 aA.2.1 (by omega)) bA) rfl (by kernel_rfl) (by kernel_rfl) (by kernel_rfl) (by kernel_rfl) (fun _ _ _ h=>h) ?_;clear H a;intro a H
      replace hm:=Zj hm;obtain⟨bN,bB,hm⟩:=hm
      refine Xl 15 (by kernel_rfl) ?_
      refine Xr 15 H rfl rfl Zp0 (We (A:=A) (aB _ (ro0_b _ hS.chg)) bB) rfl (fun v w hv=>.inl (ChgF.of_ext (by obtain⟨_,_,hE0⟩:=hv;exact hE0.x))) ?_
      clear H;intro bO bP hv;clear a;intro a H;obtain⟨_,rfl,aP⟩:=hv
      replace hS:=hS.new aP;simp only [List.cons_append,List.nil_append] at hS
      replace hW:=Nat.le_trans hW aP.x.size
      refine Zk 16 H rfl (Zb rfl) rfl (by kernel_rfl) (by kernel_rfl) (by kernel_rfl) (by kernel_rfl) (fun _ _ _ h=>h) ?_;clear H a;intro a H
      refine Xk (by kernel_rfl) ?_
      refine Za (wp_seq (wp_region_lit (n_q H (Zc rfl) rfl (W_q (Zt rfl) rfl (W_q (Zd rfl Vn) rfl (W_q (Zf rfl ((hS.blk 1 rfl).ld ag3 rfl)) rfl (W_q (Zc rfl) rfl (W_q (Ke rfl rfl) rfl (W_q (Zt rfl) rfl (W_q (Zd rfl Vn) rfl ?_))))))))));clear H a;intro a H
      replace hS:=hS.pk1
      refine Kj H rfl rfl sz3 (hS.blk 0 rfl) (by simp) rfl ?_
      clear H;intro bQ hN bC hz;clear a;intro a H;replace hS:=hS.setBlk hN bC;clear hN hz
      try simp only [List.set_cons_succ,List.set_cons_zero] at hS
      refine Ze (Za (wp_seq (wp_region_lit (n_q H (Zc rfl) rfl (W_q (Zb rfl) rfl (W_q (Zb rfl) rfl ?_))))));clear H a;intro a H
      refine Ze (Za (wp_ret ?_))
      obtain rfl:=Option.some.inj hm
      replace hS:=hS.dNil (A:=A)
      replace hS:=hS.pk2
      replace hS:=hS.pk2
      refine Zbu H (.inr rfl) rfl rfl rfl ?_
      exact⟨_,_,rfl,hS⟩
theorem Ws {w : World} {A : Nat → Addr} {fp : Nat → Prop} {b0 : Nat} {v0_0 : Value} {a0 : GWireCursor} {a1 : Int} {a2 : Int} (hP : Sep w fp [blkR b0 [v0_0,.int .i64 a0.at_,.int .i64 a0.bound_] 248]) (ro0_b : ∀ w',ChgP fp w w' → SlR w' 1 (Zn eB) v0_0 a0.b_) {r : Int × GWireCursor} (hm : Qv a0 a1 a2=some r) :
    Calls Tryz.prog 238 [.pointer (some ⟨b0,0,none⟩),.int .i64 a1,.int .i64 a2].toArray w (Ret fun u w'=>u=.int .i64 r.1 ∧ St fp w w' [blkR b0 [v0_0,.int .i64 r.2.at_,.int .i64 r.2.bound_] 248]):=by
  have hS:=St.init hP
  unfold Qv at hm
  refine enter Tryz.func238 rfl rfl rfl ?_;intro a H;dsimp only [Qn,Nat.zero_add,Nat.reduceAdd] at H
  refine wp_seq (wp_region_lit (n_q H (Zb rfl) rfl ?_));clear H a;intro a H
  refine Ze (Za (wp_seq (wp_region_lit (n_q H (Zb rfl) rfl ?_))));clear H a;intro a H
  refine Ze (Za (wp_seq (wp_seq (Wq (by kernel_rfl) (by kernel_rfl) ?_))))
  refine Xg H (Zc rfl) rfl ?_;clear H a;intro a H
  refine Xg H (Zt rfl) rfl ?_;clear H a;intro a H
  refine Xg H (Zd rfl Zi8) rfl ?_;clear H a;intro a H
  refine Xg H (Zf rfl ((hS.blk 0 rfl).ld Zho rfl)) rfl ?_;clear H a;intro a H
  refine Xg H (Zc rfl) rfl ?_;clear H a;intro a H
  refine Xg H (Zt rfl) rfl ?_;clear H a;intro a H
  refine Xg H (Zd rfl Vn) rfl ?_;clear H a;intro a H
  refine Xg H (Zf rfl ((hS.blk 0 rfl).ld ag3 rfl)) rfl ?_;clear H a;intro a H
  refine Xg H (Zc rfl) rfl ?_;clear H a;intro a H
  refine Xg H (Ke rfl rfl) rfl ?_;clear H a;intro a H
  refine Xg H (Zc rfl) rfl ?_;clear H a;intro a H
  refine Xg H (Zt rfl) rfl ?_;clear H a;intro a H
  refine Xg H (Zd rfl Vn) rfl ?_;clear H a;intro a H
  refine Xg H (Zf rfl ((hS.blk 0 rfl).ld ag3 rfl)) rfl ?_;clear H a;intro a H
  refine Xg H (Zc rfl) rfl ?_;clear H a;intro a H
  refine Xg H (Ke rfl rfl) rfl ?_;clear H a;intro a H
  refine Xg H (Zc rfl) rfl ?_;clear H a;intro a H
  refine Xg H (Ke rfl rfl) rfl ?_;clear H a;intro a H
  obtain⟨aK,aL,aI,aX,aY⟩:=SlR.formV (ro0_b _ hS.chg)
  replace hm:=Zbm hm;obtain⟨aC,hm⟩:=hm
  obtain⟨aQ,aR,aN,aB⟩:=Zlo 1 (Zn eB) aK a0.b_.length aL a0.b_ (lo:=(IntKind.i64.wrap (a0.at_ + a1))) (hi:=(IntKind.i64.wrap ((IntKind.i64.wrap (a0.at_ + a1)) + a2))) aC.1 aC.2.1 aC.2.2
  rw [← aI] at aB
  refine Xg H (Qq (Zla Tryz.underlying100 sz5 (show _=some (Value.slice aK a0.b_.length aL) by rw [← aI];rfl) rfl rfl aC.1 aC.2.1 (by omega)) aN) rfl ?_;clear H a;intro a H
  obtain⟨bA,bB,aE,aZ,a9⟩:=SlR.formV (aB _ (ro0_b _ hS.chg))
  refine Xg H (Qe Tryz.underlying100 rfl aE) rfl ?_;clear H a;intro a H
  refine Xg H (Zc rfl) rfl ?_;clear H a;intro a H
  refine Hf ?_;intro bC aO
  replace hS:=hS.ext aO
  refine Za (wp_block ?_)
  replace hm:=Zj hm;obtain⟨aM,hm,aP⟩:=hm;replace hm:=Qk hm;obtain⟨aS,hm⟩:=hm
  refine Kn (σ:=Nat × Int × Nat) (fun (m,aD,aA)=>[(0,.pointer (some ⟨b0,0,none⟩)),(7,.int .i64 aD),(28,.slice aQ ((IntKind.i64.wrap ((IntKind.i64.wrap (a0.at_ + a1)) + a2)).toNat - (IntKind.i64.wrap (a0.at_ + a1)).toNat) aR),(29,.int .i64 ((((a0.b_.drop (IntKind.i64.wrap (a0.at_ + a1)).toNat).take ((IntKind.i64.wrap ((IntKind.i64.wrap (a0.at_ + a1)) + a2)).toNat - (IntKind.i64.wrap (a0.at_ + a1)).toNat)).length : Nat) : Int)),(30,.int .i64 ((aA : Nat) : Int))]) (fun (m,aD,aA) wl=>Kq (Qx a0 a1 a2) m (aD,aA)=some aM ∧ St fp w wl [blkR b0 [v0_0,.int .i64 a0.at_,.int .i64 a0.bound_] 248]) (fun (m,aD,aA)=>m) (aS,0,0) H ⟨rfl,rfl,rfl,rfl,rfl,trivial⟩ ⟨hm,hS⟩ ?_
  clear H hS hm a;intro xx a bD H hR;obtain⟨m,aD,aA⟩:=xx;simp only [ent,List.map_cons,List.map_nil] at H;(try dsimp only at hR);obtain⟨hm,hS⟩:=hR
  replace hm:=Qi hm;obtain⟨aT,bE,rfl,hm,aJ⟩:=hm;try dsimp only [Qx] at hm
  refine wp_seq (wp_region_lit (n_q H (Jr (i:=aA) (j:=(((a0.b_.drop (IntKind.i64.wrap (a0.at_ + a1)).toNat).take ((IntKind.i64.wrap ((IntKind.i64.wrap (a0.at_ + a1)) + a2)).toNat - (IntKind.i64.wrap (a0.at_ + a1)).toNat)).length)) rfl rfl) rfl ?_));clear H a;intro a H
  refine Ze (Za (wp_seq (Zl H rfl (fun aF=>?_) (fun aF=>?_))))
  · replace hm:=Zu hm aF
    have aV : aA < ((a0.b_.drop (IntKind.i64.wrap (a0.at_ + a1)).toNat).take ((IntKind.i64.wrap ((IntKind.i64.wrap (a0.at_ + a1)) + a2)).toNat - (IntKind.i64.wrap (a0.at_ + a1)).toNat)).length:=of_decide_eq_true aF
    refine wp_skip (Za (wp_seq (wp_block (wp_seq (wp_region_lit ?_)))))
    replace hm:=Zj hm;obtain⟨aU,aG,hm⟩:=hm
    obtain⟨aW,aH⟩:=SlR.adV (aB _ (ro0_b _ hS.chg)) aE aG
    refine n_q H (Vw (i:=aA) Tryz.underlying100 sz5 rfl aE aH rfl (Zaz aG)) rfl (W_q (Zf rfl (SlR.ldOneV (aB _ (ro0_b _ hS.chg)) aE aH ag5 aG rfl)) rfl (W_q (Zb rfl) rfl ?_));clear H a;intro a H
    refine Ze (Za (wp_region_lit (n_q H (Zc rfl) rfl (W_q (Zk5 rfl rfl (by decide)) rfl (W_q (Zc rfl) rfl (W_q (Qq (Us Tryz.underlying5 Tryz.underlying3 ⟨_,rfl⟩ rfl) (Zcq _)) rfl (W_q (q_or rfl rfl) rfl (W_q (Zb rfl) rfl ?_))))))));clear H a;intro a H
    refine Ze (Zo (Za (wp_region_lit (n_q H (Yn (i:=aA) (j:=1) rfl rfl (by omega)) rfl (W_q (Zc rfl) rfl ?_)))));clear H a;intro a H
    refine Ze (Za ?_)
    obtain rfl:=Option.some.inj hm
    exact Wv (aT,(Zfd .i64 (shL .i64 aD 8) (aU.toNat : Int)),aA + 1) H ⟨rfl,rfl,rfl,rfl,rfl,trivial⟩ ⟨aJ,hS⟩ (Nat.lt_succ_self _)
  · replace hm:=Zv hm aF
    refine wp_exit (Zq (Zq (Qg ?_)))
    obtain rfl:=Option.some.inj hm;have hz : _=aM:=aJ;subst hz;replace hm:=aP;try dsimp only at hm
    refine Za (wp_seq (wp_region_lit (n_q H (Zc rfl) rfl (W_q (Zb rfl) rfl ?_))));clear H a;intro a H
    refine Ze (Za (wp_ret ?_))
    obtain rfl:=Option.some.inj hm
    refine Xx H (.inr rfl) rfl rfl ?_
    exact⟨rfl,hS⟩
theorem Vx {w : World} {A : Nat → Addr} {fp : Nat → Prop} {b0 : Nat} {v0_0 : Value} {a0 : GWireCursor} {a1 : Int} {a2 : Int} {a3 : Int} (hG : ∀ w',ChgP fp w w' → EV A w') (hP : Sep w fp [blkR b0 [v0_0,.int .i64 a0.at_,.int .i64 a0.bound_] 248]) (ro0_b : ∀ w',ChgP fp w w' → SlR w' 1 (Zn eB) v0_0 a0.b_) {r : Int × ErrM × GWireCursor} (hm : Qb a0 a1 a2 a3=some r) :
    Calls Tryz.prog 175 [.pointer (some ⟨b0,0,none⟩),.int .i64 a1,.int .i64 a2,.int .i64 a3].toArray w (Ret fun u w'=>∃ h_0,u=.tuple #[.int .i64 r.1,h_0] ∧ St fp w w' [blkR b0 [v0_0,.int .i64 r.2.2.at_,.int .i64 r.2.2.bound_] 248,erQ A h_0 r.2.1]):=by
  have hS:=St.init hP
  unfold Qb at hm
  refine enter Tryz.func175 rfl rfl rfl ?_;intro a H;dsimp only [Qn,Nat.zero_add,Nat.reduceAdd] at H
  refine wp_seq (wp_region_lit (n_q H (Zb rfl) rfl (W_q (Zb rfl) rfl ?_)));clear H a;intro a H
  refine Ze (Za (wp_seq (wp_seq (wp_region_lit (n_c H (fun HC=>?_))))));clear H
  refine Hx HC (Zc rfl) rfl (by kernel_rfl) (V_q (Uv rfl rfl) rfl (by kernel_rfl) (V_q (Zc rfl) rfl (by kernel_rfl) (V_g (Zc rfl) (by kernel_rfl) (by kernel_rfl) (by kernel_rfl) (V_g (Uv rfl rfl) (by kernel_rfl) (by kernel_rfl) (by kernel_rfl) (V_and (j:=2) rfl rfl rfl (by kernel_rfl) (by kernel_rfl) (V_q (Zc rfl) rfl (by kernel_rfl) (V_g (Zc rfl) (by kernel_rfl) (by kernel_rfl) (by kernel_rfl) (V_g (Uv rfl rfl) (by kernel_rfl) (by kernel_rfl) (by kernel_rfl) (V_and (j:=6) rfl rfl rfl (by kernel_rfl) (by kernel_rfl) ?_)))))))));clear HC a;intro a HC
  have H:=HC.has;clear HC
  refine Ze (Za (Zl H rfl (fun aA=>?_) (fun aA=>?_)))
  · replace hm:=Zu hm aA
    refine wp_seq (Wq (by kernel_rfl) (by kernel_rfl) ?_)
    refine Xg H (Zf rfl ((hG _ hS.chg).ld gArg (by decide) Ub)) rfl ?_;clear H a;intro a H
    refine Xg H (Zb rfl) rfl ?_;clear H a;intro a H
    refine Xg H (Zb rfl) rfl ?_;clear H a;intro a H
    refine Hf ?_;intro bH aU
    replace hS:=hS.ext aU
    refine Za (wp_ret (Zg ?_))
    obtain rfl:=Option.some.inj hm
    replace hS:=hS.dVar (A:=A) (g:=gArg) (by decide)
    replace hS:=hS.pk1
    refine Zbu H (.inr rfl) rfl rfl rfl ?_
    exact⟨_,rfl,hS⟩
  · replace hm:=Zv hm aA
    refine wp_skip (Za (wp_seq (wp_seq (wp_region_lit (n_q H (Zc rfl) rfl ?_)))));clear H a;intro a H
    obtain⟨bF,aG,aH,aV,aI⟩:=hS.frame (rs1:=[blkR b0 [v0_0,.int .i64 a0.at_,.int .i64 a0.bound_] 248])
    replace hm:=Zj hm;obtain⟨aF,aW,hm⟩:=hm
    refine Zi H rfl Zhy (Xe (A:=A) aG (a0:=(⟨a0.b_,a0.at_,a0.bound_⟩ : GWireCursor)) (fun w' hw=>ro0_b _ (aH _ hw)) aW) rfl ?_
    clear H;intro bI aS hv;clear a;intro a H;obtain⟨rfl,aX⟩:=hv
    replace hS:=aI _ _ aX;simp only [List.cons_append,List.nil_append] at hS;clear aG aH aV aI
    refine n_q H (Zc rfl) rfl (W_q (Ue rfl rfl) rfl ?_);clear H a;intro a H
    refine Ze (Za (Zl H rfl (fun aB=>?_) (fun aB=>?_)))
    · replace hm:=Zu hm aB
      refine wp_seq (Tp [] 8 (by kernel_rfl) ?_)
      obtain⟨aJ,aC⟩ : ∃ x,x=aS.drew:=⟨_,rfl⟩;rw [← aC];have aY : Ext aS aJ:=by rw [aC];exact Ext.drew' _
      clear aC
      replace hS:=hS.ext aY
      have aK:=hS
      have hW:=Nat.le_refl aJ.heap.size
      refine Zk 0 H rfl (Zc rfl) rfl (by kernel_rfl) (by kernel_rfl) (by kernel_rfl) (by kernel_rfl) (fun _ _ _ h=>h) ?_;clear H a;intro a H
      refine Zk 1 H rfl (Zt rfl) rfl (by kernel_rfl) (by kernel_rfl) (by kernel_rfl) (by kernel_rfl) (fun _ _ _ h=>h) ?_;clear H a;intro a H
      refine Zk 2 H rfl (Zd rfl Vn) rfl (by kernel_rfl) (by kernel_rfl) (by kernel_rfl) (by kernel_rfl) (fun _ _ _ h=>h) ?_;clear H a;intro a H
      refine Xu 3 H rfl (Zf rfl (LdC.old ((aK.blk 0 rfl).ld ag3 rfl) Ext.rfl' (Nat.le_refl _) (by simp))) rfl (by kernel_rfl) (by kernel_rfl) (by kernel_rfl) (by kernel_rfl) (fun _ _ _ h=>h) ?_;clear H a;intro a H
      refine Xu 4 H rfl (Zf rfl (LdC.old ((hG _ aK.chg).ld Yc (by decide) Ub) Ext.rfl' (Nat.le_refl _) (by simp))) rfl (by kernel_rfl) (by kernel_rfl) (by kernel_rfl) (by kernel_rfl) (fun _ _ _ h=>h) ?_;clear H a;intro a H
      replace hm:=Zj hm;obtain⟨bJ,aZ,hm⟩:=hm
      refine Xl 5 (by kernel_rfl) ?_
      refine Xr 5 H rfl rfl Zht (Wf (A:=A) (Xb.var (by decide) : IsE A aJ _ (.v Yc)) aZ) rfl (fun v w hv=>.inl (ChgF.of_ext (by obtain⟨_,_,hE0⟩:=hv;exact hE0.x))) ?_
      clear H;intro bK bL hv;clear a;intro a H;obtain⟨_,rfl,aL⟩:=hv
      replace hS:=hS.new aL;simp only [List.cons_append,List.nil_append] at hS
      replace hW:=Nat.le_trans hW aL.x.size
      refine Zk 6 H rfl (Zb rfl) rfl (by kernel_rfl) (by kernel_rfl) (by kernel_rfl) (by kernel_rfl) (fun _ _ _ h=>h) ?_;clear H a;intro a H
      refine Zk 7 H rfl (Zb rfl) rfl (by kernel_rfl) (by kernel_rfl) (by kernel_rfl) (by kernel_rfl) (fun _ _ _ h=>h) ?_;clear H a;intro a H
      refine Xk (by kernel_rfl) ?_
      refine Za (wp_ret (Zg ?_))
      obtain rfl:=Option.some.inj hm
      replace hS:=hS.pk1
      refine Zbu H (.inr rfl) rfl rfl rfl ?_
      exact⟨_,rfl,hS⟩
    · replace hm:=Zv hm aB
      refine wp_skip (Za (wp_seq (wp_region_lit (n_q H (Zc rfl) rfl (W_q (Zc rfl) rfl ?_)))));clear H a;intro a H
      obtain⟨bG,aM,aN,a9,aO⟩:=hS.frame (rs1:=[blkR b0 [v0_0,.int .i64 aF.2.at_,.int .i64 aF.2.bound_] 248])
      replace hm:=Zj hm;obtain⟨bM,bA,hm⟩:=hm
      refine Zi H rfl Zqa (Ws (A:=A) aM (a0:=(⟨a0.b_,aF.2.at_,aF.2.bound_⟩ : GWireCursor)) (fun w' hw=>ro0_b _ (aN _ hw)) bA) rfl ?_
      clear H;intro bN aT hv;clear a;intro a H;obtain⟨rfl,bB⟩:=hv
      replace hS:=aO _ _ bB;simp only [List.cons_append,List.nil_append] at hS;clear aM aN a9 aO
      refine n_q H (Zb rfl) rfl ?_;clear H a;intro a H
      refine Ze (Za (wp_seq (wp_seq (wp_region_lit (n_c H (fun HC=>?_))))));clear H
      refine Hx HC (Zc rfl) rfl (by kernel_rfl) (V_q (Zc rfl) rfl (by kernel_rfl) (V_q (Ue rfl rfl) rfl (by kernel_rfl) (V_q (Zc rfl) rfl (by kernel_rfl) (V_g (Zc rfl) (by kernel_rfl) (by kernel_rfl) (by kernel_rfl) (V_g (Zc rfl) (by kernel_rfl) (by kernel_rfl) (by kernel_rfl) (V_g (Gv rfl rfl) (by kernel_rfl) (by kernel_rfl) (by kernel_rfl) (Zdd (j:=3) rfl rfl rfl (by kernel_rfl) (by kernel_rfl) ?_)))))));clear HC a;intro a HC
      have H:=HC.has;clear HC
      refine Ze (Za (Zl H rfl (fun aD=>?_) (fun aD=>?_)))
      · replace hm:=Zu hm aD
        refine wp_seq (Tp [] 8 (by kernel_rfl) ?_)
        obtain⟨aP,aE⟩ : ∃ x,x=aT.drew:=⟨_,rfl⟩;rw [← aE];have bC : Ext aT aP:=by rw [aE];exact Ext.drew' _
        clear aE
        replace hS:=hS.ext bC
        have aQ:=hS
        have hW:=Nat.le_refl aP.heap.size
        refine Zk 0 H rfl (Zc rfl) rfl (by kernel_rfl) (by kernel_rfl) (by kernel_rfl) (by kernel_rfl) (fun _ _ _ h=>h) ?_;clear H a;intro a H
        refine Zk 1 H rfl (Zt rfl) rfl (by kernel_rfl) (by kernel_rfl) (by kernel_rfl) (by kernel_rfl) (fun _ _ _ h=>h) ?_;clear H a;intro a H
        refine Zk 2 H rfl (Zd rfl Vn) rfl (by kernel_rfl) (by kernel_rfl) (by kernel_rfl) (by kernel_rfl) (fun _ _ _ h=>h) ?_;clear H a;intro a H
        refine Xu 3 H rfl (Zf rfl (LdC.old ((aQ.blk 0 rfl).ld ag3 rfl) Ext.rfl' (Nat.le_refl _) (by simp))) rfl (by kernel_rfl) (by kernel_rfl) (by kernel_rfl) (by kernel_rfl) (fun _ _ _ h=>h) ?_;clear H a;intro a H
        refine Xu 4 H rfl (Zf rfl (LdC.old ((hG _ aQ.chg).ld Jg (by decide) Ub) Ext.rfl' (Nat.le_refl _) (by simp))) rfl (by kernel_rfl) (by kernel_rfl) (by kernel_rfl) (by kernel_rfl) (fun _ _ _ h=>h) ?_;clear H a;intro a H
        replace hm:=Zj hm;obtain⟨bO,bD,hm⟩:=hm
        refine Xl 5 (by kernel_rfl) ?_
        refine Xr 5 H rfl rfl Zht (Wf (A:=A) (Xb.var (by decide) : IsE A aP _ (.v Jg)) bD) rfl (fun v w hv=>.inl (ChgF.of_ext (by obtain⟨_,_,hE0⟩:=hv;exact hE0.x))) ?_
        clear H;intro bP bQ hv;clear a;intro a H;obtain⟨_,rfl,aR⟩:=hv
        replace hS:=hS.new aR;simp only [List.cons_append,List.nil_append] at hS
        replace hW:=Nat.le_trans hW aR.x.size
        refine Zk 6 H rfl (Zb rfl) rfl (by kernel_rfl) (by kernel_rfl) (by kernel_rfl) (by kernel_rfl) (fun _ _ _ h=>h) ?_;clear H a;intro a H
        refine Zk 7 H rfl (Zb rfl) rfl (by kernel_rfl) (by kernel_rfl) (by kernel_rfl) (by kernel_rfl) (fun _ _ _ h=>h) ?_;clear H a;intro a H
        refine Xk (by kernel_rfl) ?_
        refine Za (wp_ret (Zg ?_))
        obtain rfl:=Option.some.inj hm
        replace hS:=hS.pk1
        refine Zbu H (.inr rfl) rfl rfl rfl ?_
        exact⟨_,rfl,hS⟩
      · replace hm:=Zv hm aD
        refine wp_skip (Za (wp_seq (wp_region_lit (n_q H (Zc rfl) rfl (W_q (Zt rfl) rfl (W_q (Zd rfl Vn) rfl (W_q (Zf rfl ((hS.blk 0 rfl).ld ag3 rfl)) rfl (W_q (Zc rfl) rfl (W_q (Ke rfl rfl) rfl (W_q (Zt rfl) rfl (W_q (Zd rfl Vn) rfl ?_)))))))))));clear H a;intro a H
        refine Kj H rfl rfl sz3 (hS.blk 0 rfl) (by simp) rfl ?_
        clear H;intro bR hN bE hz;clear a;intro a H;replace hS:=hS.setBlk hN bE;clear hN hz
        try simp only [List.set_cons_succ,List.set_cons_zero] at hS
        refine Ze (Za (wp_seq (wp_region_lit (n_q H (Zc rfl) rfl (W_q (Zb rfl) rfl (W_q (Zb rfl) rfl ?_))))));clear H a;intro a H
        refine Ze (Za (wp_ret ?_))
        obtain rfl:=Option.some.inj hm
        replace hS:=hS.dNil (A:=A)
        replace hS:=hS.pk1
        refine Zbu H (.inr rfl) rfl rfl rfl ?_
        exact⟨_,rfl,hS⟩
theorem Uk {w : World} {A : Nat → Addr} {fp : Nat → Prop} {b0 : Nat} {v0_0 : Value} {a0 : GWireCursor} (hG : ∀ w',ChgP fp w w' → EV A w') (hP : Sep w fp [blkR b0 [v0_0,.int .i64 a0.at_,.int .i64 a0.bound_] 248]) (ro0_b : ∀ w',ChgP fp w w' → SlR w' 1 (Zn eB) v0_0 a0.b_) {r : Int × ErrM × GWireCursor} (hm : Jp a0=some r) :
    Calls Tryz.prog 102 [.pointer (some ⟨b0,0,none⟩)].toArray w (Ret fun u w'=>∃ h_0,u=.tuple #[.int .i64 r.1,h_0] ∧ St fp w w' [blkR b0 [v0_0,.int .i64 r.2.2.at_,.int .i64 r.2.2.bound_] 248,erQ A h_0 r.2.1]):=by
  have hS:=St.init hP
  unfold Jp at hm
  refine enter Tryz.func102 rfl rfl rfl ?_;intro a H;dsimp only [Qn,Nat.zero_add,Nat.reduceAdd] at H
  refine wp_seq (wp_region_lit (n_q H (Zb rfl) rfl (W_q (Zb rfl) rfl ?_)));clear H a;intro a H
  refine Ze (Za (wp_seq (wp_region_lit (n_q H (Zc rfl) rfl ?_))));clear H a;intro a H
  replace hm:=Zj hm;obtain⟨aJ,aD,hm⟩:=hm
  refine Zi H rfl Zn0 (Hn (A:=A) aD) rfl ?_
  clear H;intro aK aL hv;clear a;intro a H;obtain⟨rfl,aE⟩:=hv
  replace hS:=hS.ext aE
  obtain⟨aI,aB,aA,aF,aC⟩:=hS.frame (rs1:=[blkR b0 [v0_0,.int .i64 a0.at_,.int .i64 a0.bound_] 248])
  replace hm:=Zj hm;obtain⟨aM,aG,hm⟩:=hm
  refine Zi H rfl Zp7 (Vx (A:=A) (fun w' hw=>hG _ (aA _ hw)) aB (a0:=(⟨a0.b_,a0.at_,a0.bound_⟩ : GWireCursor)) (fun w' hw=>ro0_b _ (aA _ hw)) aG) rfl ?_
  clear H;intro aN aO hv;clear a;intro a H;obtain⟨aP,rfl,aH⟩:=hv
  replace hS:=aC _ _ aH;simp only [List.cons_append,List.nil_append] at hS;clear aB aA aF aC
  refine n_q H (Zh rfl rfl) rfl (W_q (Zh rfl rfl) rfl (W_q (Zb rfl) rfl (W_q (Zb rfl) rfl ?_)));clear H a;intro a H
  refine Ze (Za (wp_ret ?_))
  obtain rfl:=Option.some.inj hm
  refine Zbu H (.inr rfl) rfl rfl rfl ?_
  exact⟨_,rfl,hS⟩
theorem Hi {w : World} {A : Nat → Addr} {fp : Nat → Prop} {b0 : Nat} {v0_0 : Value} {a0 : GWireCursor} (hG : ∀ w',ChgP fp w w' → EV A w') (hP : Sep w fp [blkR b0 [v0_0,.int .i64 a0.at_,.int .i64 a0.bound_] 248]) (ro0_b : ∀ w',ChgP fp w w' → SlR w' 1 (Zn eB) v0_0 a0.b_) {r : Bool × ErrM × GWireCursor} (hm : Jx a0=some r) :
    Calls Tryz.prog 103 [.pointer (some ⟨b0,0,none⟩)].toArray w (Ret fun u w'=>∃ h_0,u=.tuple #[.bool r.1,h_0] ∧ St fp w w' [blkR b0 [v0_0,.int .i64 r.2.2.at_,.int .i64 r.2.2.bound_] 248,erQ A h_0 r.2.1]):=by
  have hS:=St.init hP
  unfold Jx at hm
  refine enter Tryz.func103 rfl rfl rfl ?_;intro a H;dsimp only [Qn,Nat.zero_add,Nat.reduceAdd] at H
  refine wp_seq (wp_region_lit (n_q H (Zb rfl) rfl (W_q (Zb rfl) rfl ?_)));clear H a;intro a H
  refine Ze (Za (wp_seq (wp_region_lit (n_q H (Zc rfl) rfl ?_))));clear H a;intro a H
  obtain⟨aG,aB,aA,aD,aC⟩:=hS.frame (rs1:=[blkR b0 [v0_0,.int .i64 a0.at_,.int .i64 a0.bound_] 248])
  replace hm:=Zj hm;obtain⟨aH,aE,hm⟩:=hm
  refine Zi H rfl Zp7 (Vx (A:=A) (fun w' hw=>hG _ (aA _ hw)) aB (a0:=(⟨a0.b_,a0.at_,a0.bound_⟩ : GWireCursor)) (fun w' hw=>ro0_b _ (aA _ hw)) aE) rfl ?_
  clear H;intro aI aJ hv;clear a;intro a H;obtain⟨aK,rfl,aF⟩:=hv
  replace hS:=aC _ _ aF;simp only [List.cons_append,List.nil_append] at hS;clear aB aA aD aC
  refine n_q H (Zc rfl) rfl (W_q (Zh rfl rfl) rfl (W_q (Zh rfl rfl) rfl (W_q (Zb rfl) rfl (W_q (Zb rfl) rfl ?_))));clear H a;intro a H
  refine Ze (Za (wp_seq (wp_region_lit (n_q H (Zc rfl) rfl (W_q (Um rfl rfl) rfl (W_q (Zc rfl) rfl (W_q (Zb rfl) rfl (W_q (Zb rfl) rfl ?_))))))));clear H a;intro a H
  refine Ze (Za (wp_ret ?_))
  obtain rfl:=Option.some.inj hm
  refine Zbu H (.inr rfl) rfl rfl rfl ?_
  exact⟨_,rfl,hS⟩
theorem Zbp {w : World} {A : Nat → Addr} {fp : Nat → Prop} {b0 : Nat} {v0_0 : Value} {a0 : GWireCursor} (hG : ∀ w',ChgP fp w w' → EV A w') (hP : Sep w fp [blkR b0 [v0_0,.int .i64 a0.at_,.int .i64 a0.bound_] 248]) (ro0_b : ∀ w',ChgP fp w w' → SlR w' 1 (Zn eB) v0_0 a0.b_) {r : Int × Int × ErrM × GWireCursor} (hm : Jy a0=some r) :
    Calls Tryz.prog 177 [.pointer (some ⟨b0,0,none⟩)].toArray w (Ret fun u w'=>∃ h_0,u=.tuple #[.int .i64 r.1,.int .i64 r.2.1,h_0] ∧ St fp w w' [blkR b0 [v0_0,.int .i64 r.2.2.2.at_,.int .i64 r.2.2.2.bound_] 248,erQ A h_0 r.2.2.1]):=by
  have hS:=St.init hP
  unfold Jy at hm
  refine enter Tryz.func177 rfl rfl rfl ?_;intro a H;dsimp only [Qn,Nat.zero_add,Nat.reduceAdd] at H
  refine wp_seq (wp_region_lit (n_q H (Zb rfl) rfl (W_q (Zb rfl) rfl (W_q (Zb rfl) rfl ?_))));clear H a;intro a H
  refine Ze (Za (wp_seq (wp_seq (wp_region_lit (n_q H (Zc rfl) rfl ?_)))));clear H a;intro a H
  obtain⟨bC,aE,aF,aR,aG⟩:=hS.frame (rs1:=[blkR b0 [v0_0,.int .i64 a0.at_,.int .i64 a0.bound_] 248])
  replace hm:=Zj hm;obtain⟨aD,aS,hm⟩:=hm
  refine Zi H rfl Zhy (Xe (A:=A) aE (a0:=(⟨a0.b_,a0.at_,a0.bound_⟩ : GWireCursor)) (fun w' hw=>ro0_b _ (aF _ hw)) aS) rfl ?_
  clear H;intro bF aQ hv;clear a;intro a H;obtain⟨rfl,aT⟩:=hv
  replace hS:=aG _ _ aT;simp only [List.cons_append,List.nil_append] at hS;clear aE aF aR aG
  refine n_q H (Ue rfl rfl) rfl ?_;clear H a;intro a H
  refine Ze (Za (Zl H rfl (fun aB=>?_) (fun aB=>?_)))
  · replace hm:=Zu hm aB
    refine wp_seq (Tp [] 9 (by kernel_rfl) ?_)
    obtain⟨aH,aC⟩ : ∃ x,x=aQ.drew:=⟨_,rfl⟩;rw [← aC];have aU : Ext aQ aH:=by rw [aC];exact Ext.drew' _
    clear aC
    replace hS:=hS.ext aU
    have aI:=hS
    have hW:=Nat.le_refl aH.heap.size
    refine Zk 0 H rfl (Zc rfl) rfl (by kernel_rfl) (by kernel_rfl) (by kernel_rfl) (by kernel_rfl) (fun _ _ _ h=>h) ?_;clear H a;intro a H
    refine Zk 1 H rfl (Zt rfl) rfl (by kernel_rfl) (by kernel_rfl) (by kernel_rfl) (by kernel_rfl) (fun _ _ _ h=>h) ?_;clear H a;intro a H
    refine Zk 2 H rfl (Zd rfl Vn) rfl (by kernel_rfl) (by kernel_rfl) (by kernel_rfl) (by kernel_rfl) (fun _ _ _ h=>h) ?_;clear H a;intro a H
    refine Xu 3 H rfl (Zf rfl (LdC.old ((aI.blk 0 rfl).ld ag3 rfl) Ext.rfl' (Nat.le_refl _) (by simp))) rfl (by kernel_rfl) (by kernel_rfl) (by kernel_rfl) (by kernel_rfl) (fun _ _ _ h=>h) ?_;clear H a;intro a H
    refine Xu 4 H rfl (Zf rfl (LdC.old ((hG _ aI.chg).ld Yc (by decide) Ub) Ext.rfl' (Nat.le_refl _) (by simp))) rfl (by kernel_rfl) (by kernel_rfl) (by kernel_rfl) (by kernel_rfl) (fun _ _ _ h=>h) ?_;clear H a;intro a H
    replace hm:=Zj hm;obtain⟨bG,aV,hm⟩:=hm
    refine Xl 5 (by kernel_rfl) ?_
    refine Xr 5 H rfl rfl Zht (Wf (A:=A) (Xb.var (by decide) : IsE A aH _ (.v Yc)) aV) rfl (fun v w hv=>.inl (ChgF.of_ext (by obtain⟨_,_,hE0⟩:=hv;exact hE0.x))) ?_
    clear H;intro u32 bH hv;clear a;intro a H;obtain⟨_,rfl,aJ⟩:=hv
    replace hS:=hS.new aJ;simp only [List.cons_append,List.nil_append] at hS
    replace hW:=Nat.le_trans hW aJ.x.size
    refine Zk 6 H rfl (Zb rfl) rfl (by kernel_rfl) (by kernel_rfl) (by kernel_rfl) (by kernel_rfl) (fun _ _ _ h=>h) ?_;clear H a;intro a H
    refine Zk 7 H rfl (Zb rfl) rfl (by kernel_rfl) (by kernel_rfl) (by kernel_rfl) (by kernel_rfl) (fun _ _ _ h=>h) ?_;clear H a;intro a H
    refine Zk 8 H rfl (Zb rfl) rfl (by kernel_rfl) (by kernel_rfl) (by kernel_rfl) (by kernel_rfl) (fun _ _ _ h=>h) ?_;clear H a;intro a H
    refine Xk (by kernel_rfl) ?_
    refine Za (wp_ret (Zg ?_))
    obtain rfl:=Option.some.inj hm
    replace hS:=hS.pk1
    refine Zae H (.inr rfl) rfl (vs:=[.int .i64 0,.int .i64 0,u32]) (Kv rfl (Kv rfl (Kv rfl Xt))) ?_
    exact⟨_,rfl,hS⟩
  · replace hm:=Zv hm aB
    refine wp_skip (Za (wp_seq (wp_region_lit (n_q H (Zc rfl) rfl ?_))));clear H a;intro a H
    obtain⟨bD,aK,aL,aW,aM⟩:=hS.frame (rs1:=[blkR b0 [v0_0,.int .i64 aD.2.at_,.int .i64 aD.2.bound_] 248])
    replace hm:=Zj hm;obtain⟨aA,aX,hm⟩:=hm
    refine Zi H rfl Zqa (Ws (A:=A) aK (a0:=(⟨a0.b_,aD.2.at_,aD.2.bound_⟩ : GWireCursor)) (fun w' hw=>ro0_b _ (aL _ hw)) aX) rfl ?_
    clear H;intro bI bJ hv;clear a;intro a H;obtain⟨rfl,aY⟩:=hv
    replace hS:=aM _ _ aY;simp only [List.cons_append,List.nil_append] at hS;clear aK aL aW aM
    refine n_q H (Zc rfl) rfl ?_;clear H a;intro a H
    obtain⟨bE,aN,aO,aZ,aP⟩:=hS.frame (rs1:=[blkR b0 [v0_0,.int .i64 aA.2.at_,.int .i64 aA.2.bound_] 248])
    replace hm:=Zj hm;obtain⟨bB,a9,hm⟩:=hm
    refine Zi H rfl Zqa (Ws (A:=A) aN (a0:=(⟨a0.b_,aA.2.at_,aA.2.bound_⟩ : GWireCursor)) (fun w' hw=>ro0_b _ (aO _ hw)) a9) rfl ?_
    clear H;intro bK bL hv;clear a;intro a H;obtain⟨rfl,bA⟩:=hv
    replace hS:=aP _ _ bA;simp only [List.cons_append,List.nil_append] at hS;clear aN aO aZ aP
    refine n_q H (Zb rfl) rfl (W_q (Zb rfl) rfl (W_q (Zb rfl) rfl ?_));clear H a;intro a H
    refine Ze (Za (wp_ret ?_))
    obtain rfl:=Option.some.inj hm
    replace hS:=hS.dNil (A:=A)
    replace hS:=hS.pk1
    refine Zae H (.inr rfl) rfl (vs:=[.int .i64 aA.1,.int .i64 bB.1,.nilIface]) (Kv rfl (Kv rfl (Kv rfl Xt))) ?_
    exact⟨_,rfl,hS⟩
theorem Zbd {w : World} {A : Nat → Addr} {fp : Nat → Prop} {b0 : Nat} {v0_0 : Value} {a0 : GWireCursor} {a1 : Int} (hG : ∀ w',ChgP fp w w' → EV A w') (hP : Sep w fp [blkR b0 [v0_0,.int .i64 a0.at_,.int .i64 a0.bound_] 248]) (ro0_b : ∀ w',ChgP fp w w' → SlR w' 1 (Zn eB) v0_0 a0.b_) {r : Option GWireCursor × ErrM × GWireCursor} (hm : Jq a0 a1=some r) :
    Calls Tryz.prog 178 [.pointer (some ⟨b0,0,none⟩),.int .i64 a1].toArray w (Ret fun u w'=>∃ h_0 h_1,u=.tuple #[h_0,h_1] ∧ St fp w w' [blkR b0 [v0_0,.int .i64 r.2.2.at_,.int .i64 r.2.2.bound_] 248,optR (fun (x : GWireCursor) b=>blkR b [v0_0,.int .i64 x.at_,.int .i64 x.bound_] 248) h_0 r.1,erQ A h_1 r.2.1]):=by
  have hS:=St.init hP
  unfold Jq at hm
  refine enter Tryz.func178 rfl rfl rfl ?_;intro a H;dsimp only [Qn,Nat.zero_add,Nat.reduceAdd] at H
  refine wp_seq (wp_region_lit (n_q H (Zb rfl) rfl (W_q (Zb rfl) rfl ?_)));clear H a;intro a H
  refine Ze (Za (wp_seq (wp_seq (wp_region_lit (n_q H (Zc rfl) rfl (W_q (Zc rfl) rfl ?_))))));clear H a;intro a H
  obtain⟨aX,aG,aH,aO,aI⟩:=hS.frame (rs1:=[blkR b0 [v0_0,.int .i64 a0.at_,.int .i64 a0.bound_] 248])
  replace hm:=Zj hm;obtain⟨aA,aP,hm⟩:=hm
  refine Zi H rfl Zhy (Xe (A:=A) aG (a0:=(⟨a0.b_,a0.at_,a0.bound_⟩ : GWireCursor)) (fun w' hw=>ro0_b _ (aH _ hw)) aP) rfl ?_
  clear H;intro aY aF hv;clear a;intro a H;obtain⟨rfl,aQ⟩:=hv
  replace hS:=aI _ _ aQ;simp only [List.cons_append,List.nil_append] at hS;clear aG aH aO aI
  refine n_q H (Za3 rfl rfl) rfl (W_q (Gv rfl rfl) rfl ?_);clear H a;intro a H
  refine Ze (Za (Zl H rfl (fun aB=>?_) (fun aB=>?_)))
  · replace hm:=Zu hm aB
    refine wp_seq (Tp [] 9 (by kernel_rfl) ?_)
    obtain⟨aJ,aC⟩ : ∃ x,x=aF.drew:=⟨_,rfl⟩;rw [← aC];have aR : Ext aF aJ:=by rw [aC];exact Ext.drew' _
    clear aC
    replace hS:=hS.ext aR
    have aK:=hS
    have hW:=Nat.le_refl aJ.heap.size
    refine Zk 0 H rfl (Zc rfl) rfl (by kernel_rfl) (by kernel_rfl) (by kernel_rfl) (by kernel_rfl) (fun _ _ _ h=>h) ?_;clear H a;intro a H
    refine Zk 1 H rfl (Zt rfl) rfl (by kernel_rfl) (by kernel_rfl) (by kernel_rfl) (by kernel_rfl) (fun _ _ _ h=>h) ?_;clear H a;intro a H
    refine Zk 2 H rfl (Zd rfl Vn) rfl (by kernel_rfl) (by kernel_rfl) (by kernel_rfl) (by kernel_rfl) (fun _ _ _ h=>h) ?_;clear H a;intro a H
    refine Xu 3 H rfl (Zf rfl (LdC.old ((aK.blk 0 rfl).ld ag3 rfl) Ext.rfl' (Nat.le_refl _) (by simp))) rfl (by kernel_rfl) (by kernel_rfl) (by kernel_rfl) (by kernel_rfl) (fun _ _ _ h=>h) ?_;clear H a;intro a H
    refine Zk 4 H rfl (Ke rfl rfl) rfl (by kernel_rfl) (by kernel_rfl) (by kernel_rfl) (by kernel_rfl) (fun _ _ _ h=>h) ?_;clear H a;intro a H
    refine Xu 5 H rfl (Zf rfl (LdC.old ((hG _ aK.chg).ld Yu (by decide) Ub) Ext.rfl' (Nat.le_refl _) (by simp))) rfl (by kernel_rfl) (by kernel_rfl) (by kernel_rfl) (by kernel_rfl) (fun _ _ _ h=>h) ?_;clear H a;intro a H
    replace hm:=Zj hm;obtain⟨aZ,aS,hm⟩:=hm
    refine Xl 6 (by kernel_rfl) ?_
    refine Xr 6 H rfl rfl Zht (Wf (A:=A) (Xb.var (by decide) : IsE A aJ _ (.v Yu)) aS) rfl (fun v w hv=>.inl (ChgF.of_ext (by obtain⟨_,_,hE0⟩:=hv;exact hE0.x))) ?_
    clear H;intro u32 a9 hv;clear a;intro a H;obtain⟨_,rfl,aL⟩:=hv
    replace hS:=hS.new aL;simp only [List.cons_append,List.nil_append] at hS
    replace hW:=Nat.le_trans hW aL.x.size
    refine Zk 7 H rfl (Zb rfl) rfl (by kernel_rfl) (by kernel_rfl) (by kernel_rfl) (by kernel_rfl) (fun _ _ _ h=>h) ?_;clear H a;intro a H
    refine Zk 8 H rfl (Zb rfl) rfl (by kernel_rfl) (by kernel_rfl) (by kernel_rfl) (by kernel_rfl) (fun _ _ _ h=>h) ?_;clear H a;intro a H
    refine Xk (by kernel_rfl) ?_
    refine Za (wp_ret (Zg ?_))
    obtain rfl:=Option.some.inj hm
    replace hS:=St.optNone (fun (x : GWireCursor) b=>blkR b [v0_0,.int .i64 x.at_,.int .i64 x.bound_] 248) hS
    replace hS:=hS.pk1
    replace hS:=hS.pk1
    replace hS:=hS.pk2
    refine Zbu H (.inr rfl) rfl rfl rfl ?_
    exact⟨_,_,rfl,hS⟩
  · replace hm:=Zv hm aB
    refine wp_skip (Za (wp_seq (Tp [] 19 (by kernel_rfl) ?_)))
    obtain⟨aM,aD⟩ : ∃ x,x=aF.drew:=⟨_,rfl⟩;rw [← aD];have aT : Ext aF aM:=by rw [aD];exact Ext.drew' _
    clear aD
    replace hS:=hS.ext aT
    have aE:=hS
    have hW:=Nat.le_refl aM.heap.size
    refine Zk 0 H rfl (Zc rfl) rfl (by kernel_rfl) (by kernel_rfl) (by kernel_rfl) (by kernel_rfl) (fun _ _ _ h=>h) ?_;clear H a;intro a H
    refine Zk 1 H rfl (Zt rfl) rfl (by kernel_rfl) (by kernel_rfl) (by kernel_rfl) (by kernel_rfl) (fun _ _ _ h=>h) ?_;clear H a;intro a H
    refine Zk 2 H rfl (Zd rfl Zi8) rfl (by kernel_rfl) (by kernel_rfl) (by kernel_rfl) (by kernel_rfl) (fun _ _ _ h=>h) ?_;clear H a;intro a H
    refine Xu 3 H rfl (Zf rfl (LdC.old ((aE.blk 0 rfl).ld Zho rfl) Ext.rfl' (Nat.le_refl _) (by simp))) rfl (by kernel_rfl) (by kernel_rfl) (by kernel_rfl) (by kernel_rfl) (fun _ _ _ h=>h) ?_;clear H a;intro a H
    refine Zk 4 H rfl (Zc rfl) rfl (by kernel_rfl) (by kernel_rfl) (by kernel_rfl) (by kernel_rfl) (fun _ _ _ h=>h) ?_;clear H a;intro a H
    refine Zk 5 H rfl (Zt rfl) rfl (by kernel_rfl) (by kernel_rfl) (by kernel_rfl) (by kernel_rfl) (fun _ _ _ h=>h) ?_;clear H a;intro a H
    refine Zk 6 H rfl (Zd rfl Vn) rfl (by kernel_rfl) (by kernel_rfl) (by kernel_rfl) (by kernel_rfl) (fun _ _ _ h=>h) ?_;clear H a;intro a H
    refine Xu 7 H rfl (Zf rfl (LdC.old ((aE.blk 0 rfl).ld ag3 rfl) Ext.rfl' (Nat.le_refl _) (by simp))) rfl (by kernel_rfl) (by kernel_rfl) (by kernel_rfl) (by kernel_rfl) (fun _ _ _ h=>h) ?_;clear H a;intro a H
    refine Zk 8 H rfl (Ke rfl rfl) rfl (by kernel_rfl) (by kernel_rfl) (by kernel_rfl) (by kernel_rfl) (fun _ _ _ h=>h) ?_;clear H a;intro a H
    refine Zk 9 H rfl (Zc rfl) rfl (by kernel_rfl) (by kernel_rfl) (by kernel_rfl) (by kernel_rfl) (fun _ _ _ h=>h) ?_;clear H a;intro a H
    refine Zk 10 H rfl (Zt rfl) rfl (by kernel_rfl) (by kernel_rfl) (by kernel_rfl) (by kernel_rfl) (fun _ _ _ h=>h) ?_;clear H a;intro a H
    refine Zk 11 H rfl (Zd rfl Vn) rfl (by kernel_rfl) (by kernel_rfl) (by kernel_rfl) (by kernel_rfl) (fun _ _ _ h=>h) ?_;clear H a;intro a H
    refine Xu 12 H rfl (Zf rfl (LdC.old ((aE.blk 0 rfl).ld ag3 rfl) Ext.rfl' (Nat.le_refl _) (by simp))) rfl (by kernel_rfl) (by kernel_rfl) (by kernel_rfl) (by kernel_rfl) (fun _ _ _ h=>h) ?_;clear H a;intro a H
    refine Zk 13 H rfl (Ke rfl rfl) rfl (by kernel_rfl) (by kernel_rfl) (by kernel_rfl) (by kernel_rfl) (fun _ _ _ h=>h) ?_;clear H a;intro a H
    refine Zk 14 H rfl (Zc rfl) rfl (by kernel_rfl) (by kernel_rfl) (by kernel_rfl) (by kernel_rfl) (fun _ _ _ h=>h) ?_;clear H a;intro a H
    refine Zk 15 H rfl (Ke rfl rfl) rfl (by kernel_rfl) (by kernel_rfl) (by kernel_rfl) (by kernel_rfl) (fun _ _ _ h=>h) ?_;clear H a;intro a H
    refine Zk 16 H rfl (Qd (cs:=[v0_0,.int .i64 (IntKind.i64.wrap (aA.2.at_ + 3)),.int .i64 (IntKind.i64.wrap ((IntKind.i64.wrap (aA.2.at_ + 3)) + a1))]) ze248 bd248 pl248 rfl ((Qa ((ro0_b _ hS.chg)).one rfl (by simp)).trans ((Qa rfl rfl (by simp)).trans ((Qa rfl rfl (by simp)).trans rfl)))) rfl (by kernel_rfl) (by kernel_rfl) (by kernel_rfl) (by kernel_rfl) (fun _ _ _ h=>h) ?_;clear H a;intro a H
    refine k_box 17 H rfl rfl (cs:=[v0_0,.int .i64 (IntKind.i64.wrap (aA.2.at_ + 3)),.int .i64 (IntKind.i64.wrap ((IntKind.i64.wrap (aA.2.at_ + 3)) + a1))]) rfl rfl (by kernel_rfl) ?_
    clear H;intro aW bA hN aN hs;clear a;intro a H
    have aV : aM.heap.size ≤ aW:=hs ▸ hW
    replace hS:=hS.newBlk hN aN hs;clear hN hs
    replace hW:=Nat.le_trans hW aN.size
    refine Zk 18 H rfl (Zb rfl) rfl (by kernel_rfl) (by kernel_rfl) (by kernel_rfl) (by kernel_rfl) (fun _ _ _ h=>h) ?_;clear H a;intro a H
    refine Xk (by kernel_rfl) ?_
    refine Za (wp_seq (wp_region_lit (n_q H (Zc rfl) rfl (W_q (Zc rfl) rfl (W_q (Zt rfl) rfl (W_q (Zd rfl Zl8) rfl (W_q (Zf rfl ((hS.blk 0 rfl).ld ag3 rfl)) rfl (W_q (Zt rfl) rfl (W_q (Zd rfl Vn) rfl ?_)))))))));clear H a;intro a H
    replace hS:=hS.pk1
    refine Kj H rfl rfl sz3 (hS.blk 0 rfl) (by simp) rfl ?_
    clear H;intro bB hN aU hz;clear a;intro a H;replace hS:=hS.setBlk hN aU;clear hN hz
    try simp only [List.set_cons_succ,List.set_cons_zero] at hS
    refine Ze (Za (wp_seq (wp_region_lit (n_q H (Zc rfl) rfl (W_q (Zb rfl) rfl (W_q (Zb rfl) rfl ?_))))));clear H a;intro a H
    refine Ze (Za (wp_ret ?_))
    obtain rfl:=Option.some.inj hm
    replace hS:=hS.pk1
    replace hS:=St.optSome (g:=(fun (x : GWireCursor) b=>blkR b [v0_0,.int .i64 x.at_,.int .i64 x.bound_] 248)) (⟨a0.b_,(IntKind.i64.wrap (aA.2.at_ + 3)),(IntKind.i64.wrap ((IntKind.i64.wrap (aA.2.at_ + 3)) + a1))⟩ : GWireCursor) hS
    replace hS:=hS.dNil (A:=A)
    replace hS:=hS.pk1
    replace hS:=hS.pk2
    refine Zbu H (.inr rfl) rfl rfl rfl ?_
    exact⟨_,_,rfl,hS⟩
theorem Zbq {w : World} {A : Nat → Addr} {fp : Nat → Prop} {b0 : Nat} {v0_0 : Value} {a0 : GWireCursor} (hG : ∀ w',ChgP fp w w' → EV A w') (hP : Sep w fp [blkR b0 [v0_0,.int .i64 a0.at_,.int .i64 a0.bound_] 248]) (ro0_b : ∀ w',ChgP fp w w' → SlR w' 1 (Zn eB) v0_0 a0.b_) {r : Int × Option GWireCursor × ErrM × GWireCursor} (hm : Xn a0=some r) :
    Calls Tryz.prog 105 [.pointer (some ⟨b0,0,none⟩)].toArray w (Ret fun u w'=>∃ h_0 h_1,u=.tuple #[.int .i64 r.1,h_0,h_1] ∧ St fp w w' [blkR b0 [v0_0,.int .i64 r.2.2.2.at_,.int .i64 r.2.2.2.bound_] 248,optR (fun (x : GWireCursor) b=>blkR b [v0_0,.int .i64 x.at_,.int .i64 x.bound_] 248) h_0 r.2.1,erQ A h_1 r.2.2.1]):=by
  have hS:=St.init hP
  unfold Xn at hm
  refine enter Tryz.func105 rfl rfl rfl ?_;intro a H;dsimp only [Qn,Nat.zero_add,Nat.reduceAdd] at H
  refine wp_seq (wp_region_lit (n_q H (Zb rfl) rfl (W_q (Zb rfl) rfl (W_q (Zb rfl) rfl ?_))));clear H a;intro a H
  refine Ze (Za (wp_seq (wp_region_lit (n_q H (Zc rfl) rfl ?_))));clear H a;intro a H
  obtain⟨bC,aI,aB,aT,aJ⟩:=hS.frame (rs1:=[blkR b0 [v0_0,.int .i64 a0.at_,.int .i64 a0.bound_] 248])
  replace hm:=Zj hm;obtain⟨aA,aU,hm⟩:=hm
  refine Zi H rfl en177 (Zbp (A:=A) (fun w' hw=>hG _ (aB _ hw)) aI (a0:=(⟨a0.b_,a0.at_,a0.bound_⟩ : GWireCursor)) (fun w' hw=>ro0_b _ (aB _ hw)) aU) rfl ?_
  clear H;intro bE aH hv;clear a;intro a H;obtain⟨aK,rfl,aV⟩:=hv
  replace hS:=aJ _ _ aV;simp only [List.cons_append,List.nil_append] at hS;clear aI aB aT aJ
  refine n_q H (Zc rfl) rfl (W_q (Zh rfl rfl) rfl (W_q (Zh rfl rfl) rfl (W_q (Zh rfl rfl) rfl (W_q (Zb rfl) rfl (W_q (Zb rfl) rfl (W_q (Zb rfl) rfl ?_))))));clear H a;intro a H
  refine Ze (Za (wp_seq (wp_seq (wp_region_lit (n_q H (Zc rfl) rfl (W_q (Qq (Jh Tryz.underlying39 rfl rfl (hS.any 1 rfl : IsE A aH aK aA.2.2.1).form) (show _=Value.bool (!decide (aA.2.2.1=.nil)) by rw [Xb.isNil (hS.any 1 rfl : IsE A aH aK aA.2.2.1)])) rfl ?_))))));clear H a;intro a H
  refine Ze (Za (Zl H rfl (fun aC=>?_) (fun aC=>?_)))
  · replace hm:=Zu hm aC
    refine wp_seq (wp_region_lit (n_q H (Zc rfl) rfl (W_q (Zb rfl) rfl (W_q (Zb rfl) rfl (W_q (Zb rfl) rfl ?_)))));clear H a;intro a H
    refine Ze (Za (wp_ret (Zg ?_)))
    obtain rfl:=Option.some.inj hm
    replace hS:=St.optNone (fun (x : GWireCursor) b=>blkR b [v0_0,.int .i64 x.at_,.int .i64 x.bound_] 248) hS
    replace hS:=hS.pk2
    replace hS:=hS.pk1
    replace hS:=hS.pk2
    refine Zae H (.inr rfl) rfl (vs:=[.int .i64 0,.pointer none,aK]) (Kv rfl (Kv rfl (Kv rfl Xt))) ?_
    exact⟨_,_,rfl,hS⟩
  · replace hm:=Zv hm aC
    refine wp_skip (Za (wp_seq (wp_seq (wp_region_lit (n_q H (Zc rfl) rfl (W_q (Um rfl rfl) rfl ?_))))));clear H a;intro a H
    refine Ze (Za (Zl H rfl (fun aD=>?_) (fun aD=>?_)))
    · replace hm:=Zu hm aD
      refine wp_seq (Tp [] 9 (by kernel_rfl) ?_)
      obtain⟨aL,aE⟩ : ∃ x,x=aH.drew:=⟨_,rfl⟩;rw [← aE];have aW : Ext aH aL:=by rw [aE];exact Ext.drew' _
      clear aE
      replace hS:=hS.ext aW
      have aM:=hS
      have hW:=Nat.le_refl aL.heap.size
      refine Zk 0 H rfl (Zc rfl) rfl (by kernel_rfl) (by kernel_rfl) (by kernel_rfl) (by kernel_rfl) (fun _ _ _ h=>h) ?_;clear H a;intro a H
      refine Zk 1 H rfl (Zt rfl) rfl (by kernel_rfl) (by kernel_rfl) (by kernel_rfl) (by kernel_rfl) (fun _ _ _ h=>h) ?_;clear H a;intro a H
      refine Zk 2 H rfl (Zd rfl Vn) rfl (by kernel_rfl) (by kernel_rfl) (by kernel_rfl) (by kernel_rfl) (fun _ _ _ h=>h) ?_;clear H a;intro a H
      refine Xu 3 H rfl (Zf rfl (LdC.old ((aM.blk 0 rfl).ld ag3 rfl) Ext.rfl' (Nat.le_refl _) (by simp))) rfl (by kernel_rfl) (by kernel_rfl) (by kernel_rfl) (by kernel_rfl) (fun _ _ _ h=>h) ?_;clear H a;intro a H
      refine Xu 4 H rfl (Zf rfl (LdC.old ((hG _ aM.chg).ld Zko (by decide) Ub) Ext.rfl' (Nat.le_refl _) (by simp))) rfl (by kernel_rfl) (by kernel_rfl) (by kernel_rfl) (by kernel_rfl) (fun _ _ _ h=>h) ?_;clear H a;intro a H
      replace hm:=Zj hm;obtain⟨bF,aX,hm⟩:=hm
      refine Xl 5 (by kernel_rfl) ?_
      refine Xr 5 H rfl rfl Zht (Wf (A:=A) (Xb.var (by decide) : IsE A aL _ (.v Zko)) aX) rfl (fun v w hv=>.inl (ChgF.of_ext (by obtain⟨_,_,hE0⟩:=hv;exact hE0.x))) ?_
      clear H;intro bA bG hv;clear a;intro a H;obtain⟨_,rfl,aN⟩:=hv
      replace hS:=hS.new aN;simp only [List.cons_append,List.nil_append] at hS
      replace hW:=Nat.le_trans hW aN.x.size
      refine Zk 6 H rfl (Zb rfl) rfl (by kernel_rfl) (by kernel_rfl) (by kernel_rfl) (by kernel_rfl) (fun _ _ _ h=>h) ?_;clear H a;intro a H
      refine Zk 7 H rfl (Zb rfl) rfl (by kernel_rfl) (by kernel_rfl) (by kernel_rfl) (by kernel_rfl) (fun _ _ _ h=>h) ?_;clear H a;intro a H
      refine Zk 8 H rfl (Zb rfl) rfl (by kernel_rfl) (by kernel_rfl) (by kernel_rfl) (by kernel_rfl) (fun _ _ _ h=>h) ?_;clear H a;intro a H
      refine Xk (by kernel_rfl) ?_
      refine Za (wp_ret (Zg ?_))
      obtain rfl:=Option.some.inj hm
      replace hS:=St.optNone (fun (x : GWireCursor) b=>blkR b [v0_0,.int .i64 x.at_,.int .i64 x.bound_] 248) hS
      replace hS:=hS.pk1
      replace hS:=hS.pk1
      replace hS:=hS.pk2
      replace hS:=hS.tk3
      refine Zae H (.inr rfl) rfl (vs:=[.int .i64 0,.pointer none,bA]) (Kv rfl (Kv rfl (Kv rfl Xt))) ?_
      exact⟨_,_,rfl,hS⟩
    · replace hm:=Zv hm aD
      refine wp_skip (Za (wp_seq (wp_region_lit (n_q H (Zc rfl) rfl (W_q (Zc rfl) rfl ?_)))));clear H a;intro a H
      obtain⟨bD,aO,aF,aY,aP⟩:=hS.frame (rs1:=[blkR b0 [v0_0,.int .i64 aA.2.2.2.at_,.int .i64 aA.2.2.2.bound_] 248])
      replace hm:=Zj hm;obtain⟨aQ,aZ,hm⟩:=hm
      refine Zi H rfl en178 (Zbd (A:=A) (fun w' hw=>hG _ (aF _ hw)) aO (a0:=(⟨a0.b_,aA.2.2.2.at_,aA.2.2.2.bound_⟩ : GWireCursor)) (fun w' hw=>ro0_b _ (aF _ hw)) aZ) rfl ?_
      clear H;intro bH aS hv;clear a;intro a H;obtain⟨bB,aR,rfl,a9⟩:=hv
      replace hS:=aP _ _ a9;simp only [List.cons_append,List.nil_append] at hS;clear aO aF aY aP
      refine n_q H (Zc rfl) rfl (W_q (Zh rfl rfl) rfl (W_q (Zh rfl rfl) rfl (W_q (Zb rfl) rfl (W_q (Zb rfl) rfl ?_))));clear H a;intro a H
      refine Ze (Za (wp_seq (wp_seq (wp_region_lit (n_q H (Zc rfl) rfl (W_q (Qq (Jh Tryz.underlying39 rfl rfl (hS.any 2 rfl : IsE A aS aR aQ.2.1).form) (show _=Value.bool (!decide (aQ.2.1=.nil)) by rw [Xb.isNil (hS.any 2 rfl : IsE A aS aR aQ.2.1)])) rfl ?_))))));clear H a;intro a H
      refine Ze (Za (Zl H rfl (fun aG=>?_) (fun aG=>?_)))
      · replace hm:=Zu hm aG
        refine wp_seq (wp_region_lit (n_q H (Zc rfl) rfl (W_q (Zb rfl) rfl (W_q (Zb rfl) rfl (W_q (Zb rfl) rfl ?_)))));clear H a;intro a H
        refine Ze (Za (wp_ret (Zg ?_)))
        obtain rfl:=Option.some.inj hm
        replace hS:=St.optNone (fun (x : GWireCursor) b=>blkR b [v0_0,.int .i64 x.at_,.int .i64 x.bound_] 248) hS
        replace hS:=hS.pk3
        replace hS:=hS.pk1
        replace hS:=hS.pk2
        replace hS:=hS.tk3
        refine Zae H (.inr rfl) rfl (vs:=[.int .i64 0,.pointer none,aR]) (Kv rfl (Kv rfl (Kv rfl Xt))) ?_
        exact⟨_,_,rfl,hS⟩
      · replace hm:=Zv hm aG
        refine wp_skip (Za (wp_seq (wp_region_lit (n_q H (Zc rfl) rfl (W_q (Zc rfl) rfl (W_q (Zb rfl) rfl (W_q (Zb rfl) rfl (W_q (Zb rfl) rfl ?_))))))));clear H a;intro a H
        refine Ze (Za (wp_ret ?_))
        obtain rfl:=Option.some.inj hm
        replace hS:=hS.dNil (A:=A)
        replace hS:=hS.pk2
        replace hS:=hS.pk2
        replace hS:=hS.tk3
        refine Zae H (.inr rfl) rfl (vs:=[.int .i64 aA.1,bB,.nilIface]) (Kv rfl (Kv rfl (Kv rfl Xt))) ?_
        exact⟨_,_,rfl,hS⟩
theorem Ja {w : World} {A : Nat → Addr} {fp : Nat → Prop} {b0 : Nat} {v0_0 : Value} {a0 : GWireCursor} (hG : ∀ w',ChgP fp w w' → EV A w') (hP : Sep w fp [blkR b0 [v0_0,.int .i64 a0.at_,.int .i64 a0.bound_] 248]) (ro0_b : ∀ w',ChgP fp w w' → SlR w' 1 (Zn eB) v0_0 a0.b_) {r : Int × ErrM × GWireCursor} (hm : Xc a0=some r) :
    Calls Tryz.prog 182 [.pointer (some ⟨b0,0,none⟩)].toArray w (Ret fun u w'=>∃ h_0,u=.tuple #[.int .i64 r.1,h_0] ∧ St fp w w' [blkR b0 [v0_0,.int .i64 r.2.2.at_,.int .i64 r.2.2.bound_] 248,erQ A h_0 r.2.1]):=by
  have hS:=St.init hP
  unfold Xc at hm
  refine enter Tryz.func182 rfl rfl rfl ?_;intro a H;dsimp only [Qn,Nat.zero_add,Nat.reduceAdd] at H
  refine wp_seq (wp_region_lit (n_q H (Zb rfl) rfl (W_q (Zb rfl) rfl ?_)));clear H a;intro a H
  refine Ze (Za (wp_seq (wp_region_lit (n_q H (Zc rfl) rfl ?_))));clear H a;intro a H
  replace hm:=Zj hm;obtain⟨aJ,aD,hm⟩:=hm
  refine Zi H rfl Zn0 (Hn (A:=A) aD) rfl ?_
  clear H;intro aK aL hv;clear a;intro a H;obtain⟨rfl,aE⟩:=hv
  replace hS:=hS.ext aE
  obtain⟨aI,aB,aA,aF,aC⟩:=hS.frame (rs1:=[blkR b0 [v0_0,.int .i64 a0.at_,.int .i64 a0.bound_] 248])
  replace hm:=Zj hm;obtain⟨aM,aG,hm⟩:=hm
  refine Zi H rfl Zp7 (Vx (A:=A) (fun w' hw=>hG _ (aA _ hw)) aB (a0:=(⟨a0.b_,a0.at_,a0.bound_⟩ : GWireCursor)) (fun w' hw=>ro0_b _ (aA _ hw)) aG) rfl ?_
  clear H;intro aN aO hv;clear a;intro a H;obtain⟨aP,rfl,aH⟩:=hv
  replace hS:=aC _ _ aH;simp only [List.cons_append,List.nil_append] at hS;clear aB aA aF aC
  refine n_q H (Zh rfl rfl) rfl (W_q (Zh rfl rfl) rfl (W_q (Zb rfl) rfl (W_q (Zb rfl) rfl ?_)));clear H a;intro a H
  refine Ze (Za (wp_ret ?_))
  obtain rfl:=Option.some.inj hm
  refine Zbu H (.inr rfl) rfl rfl rfl ?_
  exact⟨_,rfl,hS⟩
theorem Zg0 {w : World} {A : Nat → Addr} {fp : Nat → Prop} {b0 : Nat} {v0_0 : Value} {a0 : GWireCursor} (hG : ∀ w',ChgP fp w w' → EV A w') (hP : Sep w fp [blkR b0 [v0_0,.int .i64 a0.at_,.int .i64 a0.bound_] 248]) (ro0_b : ∀ w',ChgP fp w w' → SlR w' 1 (Zn eB) v0_0 a0.b_) {r : GPagePlan × ErrM × GWireCursor} (hm : Wd a0=some r) :
    Calls Tryz.prog 179 [.pointer (some ⟨b0,0,none⟩)].toArray w (Ret fun u w'=>∃ h_0,u=.tuple #[.agg (Zz r.1).toArray,h_0] ∧ St fp w w' [blkR b0 [v0_0,.int .i64 r.2.2.at_,.int .i64 r.2.2.bound_] 248,erQ A h_0 r.2.1]):=by
  have hS:=St.init hP
  unfold Wd at hm
  refine enter Tryz.func179 rfl rfl rfl ?_;intro a H;dsimp only [Qn,Nat.zero_add,Nat.reduceAdd] at H
  refine wp_seq (wp_region_lit (Xf H Zd7 rfl ?_))
  clear H;intro bE bF hN aP hs;clear a;intro a H
  replace hS:=hS.newBlk hN aP hs;clear hN hs
  refine n_q H (Zb rfl) rfl ?_;clear H a;intro a H
  refine Ze (Za (wp_seq (wp_region_lit (n_q H (Zc rfl) rfl ?_))));clear H a;intro a H
  replace hS:=hS.pk1
  obtain⟨bB,aF,aB,aQ,aG⟩:=hS.frame (rs1:=[blkR b0 [v0_0,.int .i64 a0.at_,.int .i64 a0.bound_] 248])
  replace hm:=Zj hm;obtain⟨aA,aR,hm⟩:=hm
  refine Zi H rfl Zi7 (Ja (A:=A) (fun w' hw=>hG _ (aB _ hw)) aF (a0:=(⟨a0.b_,a0.at_,a0.bound_⟩ : GWireCursor)) (fun w' hw=>ro0_b _ (aB _ hw)) aR) rfl ?_
  clear H;intro bG aO hv;clear a;intro a H;obtain⟨aH,rfl,aS⟩:=hv
  replace hS:=aG _ _ aS;simp only [List.cons_append,List.nil_append] at hS;clear aF aB aQ aG
  refine n_q H (Zc rfl) rfl (W_q (Zh rfl rfl) rfl (W_q (Zh rfl rfl) rfl (W_q (Zb rfl) rfl (W_q (Zb rfl) rfl ?_))));clear H a;intro a H
  refine Ze (Za (wp_seq (wp_seq (wp_region_lit (n_q H (Zc rfl) rfl (W_q (Qq (Jh Tryz.underlying39 rfl rfl (hS.any 1 rfl : IsE A aO aH aA.2.1).form) (show _=Value.bool (!decide (aA.2.1=.nil)) by rw [Xb.isNil (hS.any 1 rfl : IsE A aO aH aA.2.1)])) rfl ?_))))));clear H a;intro a H
  refine Ze (Za (Zl H rfl (fun aC=>?_) (fun aC=>?_)))
  · replace hm:=Zu hm aC
    refine wp_seq (wp_region_lit (n_q H (Qd (cs:=[.int .i64 0,.string ⟨#[]⟩]) Zd7 Zny Znz rfl (by kernel_rfl)) rfl (W_q (Zc rfl) rfl ?_)));clear H a;intro a H
    replace hS:=hS.pk2
    refine Zr H rfl rfl (vs:=[.int .i64 0,.string ⟨#[]⟩]) rfl Gm (hS.blk 0 rfl) rfl (by simp) ?_
    clear H;intro bH hN aT hz;clear a;intro a H;replace hS:=hS.setBlk hN aT;clear hN hz
    refine n_q H (Zb rfl) rfl ?_;clear H a;intro a H
    refine Ze (Za (wp_ret (Zg ?_)))
    obtain rfl:=Option.some.inj hm
    replace hS:=hS.pk2
    replace hS:=hS.pk2
    refine Zae H (.inr rfl) rfl (vs:=[.agg #[.int .i64 0,.string ⟨#[]⟩],aH]) (Xh rfl ((hS.blk 2 rfl).ldAll Zhp Gm) (Kv rfl Xt)) ?_
    replace hS:=hS.tk2
    exact⟨_,rfl,hS⟩
  · replace hm:=Zv hm aC
    refine wp_skip (Za (wp_seq (wp_region_lit (n_q H (Zc rfl) rfl (W_q (Zc rfl) rfl ?_)))));clear H a;intro a H
    obtain⟨bC,aI,aJ,aU,aK⟩:=hS.frame (rs1:=[blkR b0 [v0_0,.int .i64 aA.2.2.at_,.int .i64 aA.2.2.bound_] 248])
    replace hm:=Zj hm;obtain⟨aE,aV,hm⟩:=hm
    refine Zi H rfl Zhy (Xe (A:=A) aI (a0:=(⟨a0.b_,aA.2.2.at_,aA.2.2.bound_⟩ : GWireCursor)) (fun w' hw=>ro0_b _ (aJ _ hw)) aV) rfl ?_
    clear H;intro bI bJ hv;clear a;intro a H;obtain⟨rfl,aW⟩:=hv
    replace hS:=aK _ _ aW;simp only [List.cons_append,List.nil_append] at hS;clear aI aJ aU aK
    obtain⟨bD,aL,aD,aX,aM⟩:=hS.frame (rs1:=[blkR b0 [v0_0,.int .i64 aE.2.at_,.int .i64 aE.2.bound_] 248])
    replace hm:=Zj hm;obtain⟨aN,aY,hm⟩:=hm
    refine Zi H rfl Zp5 (Uj (A:=A) (fun w' hw=>hG _ (aD _ hw)) aL (a0:=(⟨a0.b_,aE.2.at_,aE.2.bound_⟩ : GWireCursor)) (fun w' hw=>ro0_b _ (aD _ hw)) aY) rfl ?_
    clear H;intro bK bL hv;clear a;intro a H;obtain⟨bM,bA,rfl,aZ⟩:=hv
    replace hS:=aM _ _ aZ;simp only [List.cons_append,List.nil_append] at hS;clear aL aD aX aM
    refine n_q H (Zc rfl) rfl (W_q (Zh rfl rfl) rfl (W_q (Zh rfl rfl) rfl (W_q (Zb rfl) rfl (W_q (Zb rfl) rfl ?_))));clear H a;intro a H
    refine Ze (Za (wp_seq (wp_region_lit (n_q H (Zc rfl) rfl (W_q (Zc rfl) rfl (W_q (Ziw Tryz.underlying100 Tryz.underlying5 Tryz.underlying9 rfl (fun w' hw=>(((hS.own 1 rfl).slr rfl (fun _ _=>rfl)).ext (Zn.mono _) hw))) rfl (W_q (Qd (cs:=[.int .i64 aA.1,.string (Zcg aN.1)]) Zd7 Zny Znz rfl (by kernel_rfl)) rfl (W_q (Zc rfl) rfl ?_))))))));clear H a;intro a H
    replace hS:=hS.pk4
    refine Zr H rfl rfl (vs:=[.int .i64 aA.1,.string (Zcg aN.1)]) rfl Gm (hS.blk 0 rfl) rfl (by simp) ?_
    clear H;intro bN hN a9 hz;clear a;intro a H;replace hS:=hS.setBlk hN a9;clear hN hz
    refine n_q H (Zb rfl) rfl ?_;clear H a;intro a H
    refine Ze (Za (wp_ret ?_))
    obtain rfl:=Option.some.inj hm
    replace hS:=hS.pk3
    replace hS:=hS.pk2
    replace hS:=hS.tk3
    refine Zae H (.inr rfl) rfl (vs:=[.agg #[.int .i64 aA.1,.string (Zcg aN.1)],bA]) (Xh rfl ((hS.blk 2 rfl).ldAll Zhp Gm) (Kv rfl Xt)) ?_
    replace hS:=hS.tk2
    exact⟨_,rfl,hS⟩
theorem Zaa {w : World} {A : Nat → Addr} {v0 : Value} {a0 : List (Value × ErrM)} (h0 : SlR w 1 (REr A) v0 a0) {r : Value × ErrM} (hm : Za7 a0=some r) :
    Calls Tryz.prog 183 [v0].toArray w (Ret fun u w'=>u=r.1 ∧ Ext w w'):=by
  have hS:=St.begin NB w
  unfold Za7 at hm
  refine enter Tryz.func183 rfl rfl rfl ?_;intro a H;dsimp only [Qn,Nat.zero_add,Nat.reduceAdd] at H
  refine wp_seq (wp_region_lit (n_q H (Zb rfl) rfl ?_));clear H a;intro a H
  refine Ze (Za (wp_seq (wp_seq (wp_region_lit (n_q H (Zc rfl) rfl ?_)))));clear H a;intro a H
  obtain⟨aU,aV,aB,aS,aT⟩:=SlR.formV (h0.ext (REr.mono A) hS.x)
  refine n_q H (Qe Tryz.underlying314 rfl aB) rfl (W_q (Zc rfl) rfl ?_);clear H a;intro a H
  refine Ze (Za (wp_block ?_))
  replace hm:=Zj hm;obtain⟨aI,hm,aJ⟩:=hm;replace hm:=Qk hm;obtain⟨aL,hm⟩:=hm
  refine Kn (σ:=Nat × Nat) (fun (m,aA)=>[(5,v0),(6,.int .i64 ((a0.length : Nat) : Int)),(7,.int .i64 ((aA : Nat) : Int))]) (fun (m,aA) wl=>Kq (Xq a0) m aA=some aI ∧ St NB w wl []) (fun (m,aA)=>m) (aL,0) H ⟨rfl,rfl,rfl,trivial⟩ ⟨hm,hS⟩ ?_
  clear H hS hm a;intro xx a aW H hR;obtain⟨m,aA⟩:=xx;simp only [ent,List.map_cons,List.map_nil] at H;(try dsimp only at hR);obtain⟨hm,hS⟩:=hR
  replace hm:=Qi hm;obtain⟨aM,aX,rfl,hm,aD⟩:=hm;try dsimp only [Xq] at hm
  refine wp_seq (wp_region_lit (n_q H (Jr (i:=aA) (j:=a0.length) rfl rfl) rfl ?_));clear H a;intro a H
  refine Ze (Za (wp_seq (Zl H rfl (fun aC=>?_) (fun aC=>?_))))
  · replace hm:=Zu hm aC
    have aP : aA < a0.length:=of_decide_eq_true aC
    refine wp_skip (Za (wp_seq (wp_block (wp_seq (wp_region_lit ?_)))))
    replace hm:=Zj hm;obtain⟨aN,aE,hm⟩:=hm
    obtain⟨aQ,aG⟩:=SlR.adV (h0.ext (REr.mono A) hS.x) aB aE
    obtain⟨aR,aO,⟨rfl,aH⟩,aK⟩:=SlR.elV h0 aB aG aE
    refine n_q H (Vw (i:=aA) Tryz.underlying314 sz39 rfl aB aG rfl (Zaz aE)) rfl (W_q (Zf rfl (LdX.ext (ldElH Ub aK) hS.x)) rfl (W_q (Zb rfl) rfl ?_));clear H a;intro a H
    refine Ze (Za (wp_seq (wp_region_lit (n_q H (Zc rfl) rfl (W_q (Qq (Jh Tryz.underlying39 rfl rfl (Xb.ext aH hS.x).form) (show _=Value.bool (!decide (aN.2=.nil)) by rw [Xb.isNil (Xb.ext aH hS.x)])) rfl ?_)))));clear H a;intro a H
    refine Ze (Za (Zl H rfl (fun aF=>?_) (fun aF=>?_)))
    · replace hm:=Zu hm aF
      refine wp_seq (wp_region_lit (n_q H (Zc rfl) rfl (W_q (Zb rfl) rfl ?_)));clear H a;intro a H
      refine Ze (Za (wp_ret (Zm (Zg (Zg (Zm (Zg ?_)))))))
      obtain rfl:=Option.some.inj hm;have hz : _=aI:=aD;subst hz;replace hm:=aJ;try dsimp only at hm
      obtain rfl:=Option.some.inj hm
      refine Xx H (.inr rfl) rfl rfl ?_
      exact⟨rfl,hS.x⟩
    · replace hm:=Zv hm aF
      refine wp_skip (Zo (Za (wp_region_lit (n_q H (Yn (i:=aA) (j:=1) rfl rfl (by omega)) rfl (W_q (Zc rfl) rfl ?_)))));clear H a;intro a H
      refine Ze (Za ?_)
      obtain rfl:=Option.some.inj hm
      exact Wv (aM,aA + 1) H ⟨rfl,rfl,rfl,trivial⟩ ⟨aD,hS⟩ (Nat.lt_succ_self _)
  · replace hm:=Zv hm aC
    refine wp_exit (Zq (Zq (Qg ?_)))
    obtain rfl:=Option.some.inj hm;have hz : _=aI:=aD;subst hz;replace hm:=aJ;try dsimp only at hm
    refine Za (wp_seq (wp_region_lit (n_q H (Zb rfl) rfl ?_)));clear H a;intro a H
    refine Ze (Za (wp_ret ?_))
    obtain rfl:=Option.some.inj hm
    refine Xx H (.inr rfl) rfl rfl ?_
    exact⟨rfl,hS.x⟩
theorem Tl (ps : List (Value × ErrM)) : Za7 ps=some (pickE ps):=by
  have key : ∀ m k,k + m=ps.length → (Ur (Xq ps) k).bind (fun q=>match q with | .inl _=>some (.nilIface,.nil) | .inr p=>some p)=some (pickE (ps.drop k)):=by
    intro m
    induction m with
    | zero=>
      intro k hk
      have e : ps.drop k=[]:=List.drop_eq_nil_of_le (by omega)
      rw [Wj (show Xq ps k=some (.inr (.inl ())) by simp [Xq,show ¬ k < ps.length by omega]),e];rfl
    | succ m ih=>
      intro k hk
      have hlt : k < ps.length:=by omega
      have hx : ps[k]? = some ps[k]:=List.getElem?_eq_getElem hlt
      have hd : ps.drop k=ps[k] :: ps.drop (k + 1):=List.drop_eq_getElem_cons hlt
      by_cases e : ps[k].2=.nil
      · rw [Ya (show Xq ps k=some (.inl (k + 1)) by simp [Xq,hlt,e]),ih (k + 1) (by omega),hd]
        simp only [pickE,e,if_true]
      · rw [Wj (show Xq ps k=some (.inr (.inr ps[k])) by simp [Xq,hlt,e]),hd]
        simp only [pickE,e,if_false,Option.bind_some]
  exact key ps.length 0 (by omega)
theorem Ul {w : World} {A : Nat → Addr} {fp : Nat → Prop} {b0 : Nat} {v0_0 : Value} {a0 : GWireCursor} (hG : ∀ w',ChgP fp w w' → EV A w') (hP : Sep w fp [blkR b0 [v0_0,.int .i64 a0.at_,.int .i64 a0.bound_] 248]) (ro0_b : ∀ w',ChgP fp w w' → SlR w' 1 (Zn eB) v0_0 a0.b_) {r : ErrM × GWireCursor} (hm : Xv a0=some r) :
    Calls Tryz.prog 184 [.pointer (some ⟨b0,0,none⟩)].toArray w (Ret fun u w'=>∃ h_0,u=h_0 ∧ St fp w w' [blkR b0 [v0_0,.int .i64 r.2.at_,.int .i64 r.2.bound_] 248,erQ A h_0 r.1]):=by
  have hS:=St.init hP
  unfold Xv at hm
  refine enter Tryz.func184 rfl rfl rfl ?_;intro a H;dsimp only [Qn,Nat.zero_add,Nat.reduceAdd] at H
  refine wp_seq (wp_region_lit (n_q H (Zb rfl) rfl ?_));clear H a;intro a H
  refine Ze (Za (wp_seq (wp_seq (wp_region_lit (n_q H (Zc rfl) rfl ?_)))));clear H a;intro a H
  obtain⟨aO,aC,aD,aJ,aE⟩:=hS.frame (rs1:=[blkR b0 [v0_0,.int .i64 a0.at_,.int .i64 a0.bound_] 248])
  replace hm:=Zj hm;obtain⟨aP,aK,hm⟩:=hm
  refine Zi H rfl Zhy (Xe (A:=A) aC (a0:=(⟨a0.b_,a0.at_,a0.bound_⟩ : GWireCursor)) (fun w' hw=>ro0_b _ (aD _ hw)) aK) rfl ?_
  clear H;intro aQ aI hv;clear a;intro a H;obtain⟨rfl,aL⟩:=hv
  replace hS:=aE _ _ aL;simp only [List.cons_append,List.nil_append] at hS;clear aC aD aJ aE
  refine n_q H (Gv rfl rfl) rfl ?_;clear H a;intro a H
  refine Ze (Za (Zl H rfl (fun aA=>?_) (fun aA=>?_)))
  · replace hm:=Zu hm aA
    refine wp_seq (Tp [] 7 (by kernel_rfl) ?_)
    obtain⟨aF,aB⟩ : ∃ x,x=aI.drew:=⟨_,rfl⟩;rw [← aB];have aM : Ext aI aF:=by rw [aB];exact Ext.drew' _
    clear aB
    replace hS:=hS.ext aM
    have aG:=hS
    have hW:=Nat.le_refl aF.heap.size
    refine Zk 0 H rfl (Zc rfl) rfl (by kernel_rfl) (by kernel_rfl) (by kernel_rfl) (by kernel_rfl) (fun _ _ _ h=>h) ?_;clear H a;intro a H
    refine Zk 1 H rfl (Zt rfl) rfl (by kernel_rfl) (by kernel_rfl) (by kernel_rfl) (by kernel_rfl) (fun _ _ _ h=>h) ?_;clear H a;intro a H
    refine Zk 2 H rfl (Zd rfl Vn) rfl (by kernel_rfl) (by kernel_rfl) (by kernel_rfl) (by kernel_rfl) (fun _ _ _ h=>h) ?_;clear H a;intro a H
    refine Xu 3 H rfl (Zf rfl (LdC.old ((aG.blk 0 rfl).ld ag3 rfl) Ext.rfl' (Nat.le_refl _) (by simp))) rfl (by kernel_rfl) (by kernel_rfl) (by kernel_rfl) (by kernel_rfl) (fun _ _ _ h=>h) ?_;clear H a;intro a H
    refine Xu 4 H rfl (Zf rfl (LdC.old ((hG _ aG.chg).ld Zkn (by decide) Ub) Ext.rfl' (Nat.le_refl _) (by simp))) rfl (by kernel_rfl) (by kernel_rfl) (by kernel_rfl) (by kernel_rfl) (fun _ _ _ h=>h) ?_;clear H a;intro a H
    replace hm:=Zj hm;obtain⟨aR,aN,hm⟩:=hm
    refine Xl 5 (by kernel_rfl) ?_
    refine Xr 5 H rfl rfl Zht (Wf (A:=A) (Xb.var (by decide) : IsE A aF _ (.v Zkn)) aN) rfl (fun v w hv=>.inl (ChgF.of_ext (by obtain⟨_,_,hE0⟩:=hv;exact hE0.x))) ?_
    clear H;intro u32 aS hv;clear a;intro a H;obtain⟨_,rfl,aH⟩:=hv
    replace hS:=hS.new aH;simp only [List.cons_append,List.nil_append] at hS
    replace hW:=Nat.le_trans hW aH.x.size
    refine Zk 6 H rfl (Zb rfl) rfl (by kernel_rfl) (by kernel_rfl) (by kernel_rfl) (by kernel_rfl) (fun _ _ _ h=>h) ?_;clear H a;intro a H
    refine Xk (by kernel_rfl) ?_
    refine Za (wp_ret (Zg ?_))
    obtain rfl:=Option.some.inj hm
    replace hS:=hS.pk1
    refine Xx H (.inr rfl) rfl rfl ?_
    exact⟨_,rfl,hS⟩
  · replace hm:=Zv hm aA
    refine wp_skip (Za (wp_seq (wp_region_lit (n_q H (Zb rfl) rfl ?_))));clear H a;intro a H
    refine Ze (Za (wp_ret ?_))
    obtain rfl:=Option.some.inj hm
    replace hS:=hS.dNil (A:=A)
    replace hS:=hS.pk1
    refine Xx H (.inr rfl) rfl rfl ?_
    exact⟨_,rfl,hS⟩
theorem Zg1 {w : World} {A : Nat → Addr} {fp : Nat → Prop} {b0 : Nat} {v0_0 : Value} {a0 : GWireCursor} (hG : ∀ w',ChgP fp w w' → EV A w') (hP : Sep w fp [blkR b0 [v0_0,.int .i64 a0.at_,.int .i64 a0.bound_] 248]) (ro0_b : ∀ w',ChgP fp w w' → SlR w' 1 (Zn eB) v0_0 a0.b_) {r : GProcPlan × ErrM × GWireCursor} (hm : Uf a0=some r) :
    Calls Tryz.prog 180 [.pointer (some ⟨b0,0,none⟩)].toArray w (Ret fun u w'=>∃ h_0,u=.tuple #[.agg (Zy r.1).toArray,h_0] ∧ St fp w w' [blkR b0 [v0_0,.int .i64 r.2.2.at_,.int .i64 r.2.2.bound_] 248,erQ A h_0 r.2.1]):=by
  have hS:=St.init hP
  unfold Uf at hm
  refine enter Tryz.func180 rfl rfl rfl ?_;intro a H;dsimp only [Qn,Nat.zero_add,Nat.reduceAdd] at H
  refine wp_seq (wp_region_lit (Xf H Zd8 rfl ?_))
  clear H;intro bL bS hN aW hs;clear a;intro a H
  replace hS:=hS.newBlk hN aW hs;clear hN hs
  refine n_q H (Zb rfl) rfl ?_;clear H a;intro a H
  refine Ze (Za (wp_seq (wp_region_lit (n_q H (Zc rfl) rfl ?_))));clear H a;intro a H
  replace hS:=hS.pk1
  obtain⟨bO,aO,aJ,aX,aP⟩:=hS.frame (rs1:=[blkR b0 [v0_0,.int .i64 a0.at_,.int .i64 a0.bound_] 248])
  replace hm:=Zj hm;obtain⟨aA,aY,hm⟩:=hm
  refine Zi H rfl Zp6 (Uk (A:=A) (fun w' hw=>hG _ (aJ _ hw)) aO (a0:=(⟨a0.b_,a0.at_,a0.bound_⟩ : GWireCursor)) (fun w' hw=>ro0_b _ (aJ _ hw)) aY) rfl ?_
  clear H;intro bT bU hv;clear a;intro a H;obtain⟨aD,rfl,aZ⟩:=hv
  replace hS:=aP _ _ aZ;simp only [List.cons_append,List.nil_append] at hS;clear aO aJ aX aP
  refine n_q H (Zc rfl) rfl (W_q (Zh rfl rfl) rfl (W_q (Zh rfl rfl) rfl (W_q (Zb rfl) rfl (W_q (Zb rfl) rfl ?_))));clear H a;intro a H
  refine Ze (Za (wp_seq (wp_region_lit (n_q H (Zc rfl) rfl ?_))));clear H a;intro a H
  obtain⟨bP,aQ,aK,a9,aR⟩:=hS.frame (rs1:=[blkR b0 [v0_0,.int .i64 aA.2.2.at_,.int .i64 aA.2.2.bound_] 248])
  replace hm:=Zj hm;obtain⟨aB,bA,hm⟩:=hm
  refine Zi H rfl Zi7 (Ja (A:=A) (fun w' hw=>hG _ (aK _ hw)) aQ (a0:=(⟨a0.b_,aA.2.2.at_,aA.2.2.bound_⟩ : GWireCursor)) (fun w' hw=>ro0_b _ (aK _ hw)) bA) rfl ?_
  clear H;intro bV bW hv;clear a;intro a H;obtain⟨aE,rfl,bB⟩:=hv
  replace hS:=aR _ _ bB;simp only [List.cons_append,List.nil_append] at hS;clear aQ aK a9 aR
  refine n_q H (Zc rfl) rfl (W_q (Zh rfl rfl) rfl (W_q (Zh rfl rfl) rfl (W_q (Zb rfl) rfl (W_q (Zb rfl) rfl ?_))));clear H a;intro a H
  refine Ze (Za (wp_seq (wp_region_lit (n_q H (Zc rfl) rfl ?_))));clear H a;intro a H
  obtain⟨bQ,aS,aL,bC,aT⟩:=hS.frame (rs1:=[blkR b0 [v0_0,.int .i64 aB.2.2.at_,.int .i64 aB.2.2.bound_] 248])
  replace hm:=Zj hm;obtain⟨aC,bD,hm⟩:=hm
  refine Zi H rfl en103 (Hi (A:=A) (fun w' hw=>hG _ (aL _ hw)) aS (a0:=(⟨a0.b_,aB.2.2.at_,aB.2.2.bound_⟩ : GWireCursor)) (fun w' hw=>ro0_b _ (aL _ hw)) bD) rfl ?_
  clear H;intro bX bY hv;clear a;intro a H;obtain⟨aF,rfl,bE⟩:=hv
  replace hS:=aT _ _ bE;simp only [List.cons_append,List.nil_append] at hS;clear aS aL bC aT
  refine n_q H (Zc rfl) rfl (W_q (Zh rfl rfl) rfl (W_q (Zh rfl rfl) rfl (W_q (Zb rfl) rfl (W_q (Zb rfl) rfl ?_))));clear H a;intro a H
  refine Ze (Za (wp_seq (wp_region_lit (n_q H (Zc rfl) rfl (W_q (Zc rfl) rfl (W_q (Zc rfl) rfl (W_q (Qd (cs:=[.int .i64 aA.1,.int .i64 aB.1,.bool aC.1]) Zd8 Zpv Zpw rfl (by kernel_rfl)) rfl (W_q (Zc rfl) rfl (W_q (Zc rfl) rfl (W_q (Zc rfl) rfl (W_q (Zc rfl) rfl ?_)))))))))));clear H a;intro a H
  obtain⟨bR,aU,aM,bF,aV⟩:=hS.frame (rs1:=[blkR b0 [v0_0,.int .i64 aC.2.2.at_,.int .i64 aC.2.2.bound_] 248])
  replace hm:=Zj hm;obtain⟨aG,bG,hm⟩:=hm
  refine Zi H rfl Zp9 (Ul (A:=A) (fun w' hw=>hG _ (aM _ hw)) aU (a0:=(⟨a0.b_,aC.2.2.at_,aC.2.2.bound_⟩ : GWireCursor)) (fun w' hw=>ro0_b _ (aM _ hw)) bG) rfl ?_
  clear H;intro aH aN hv;clear a;intro a H;obtain⟨_,rfl,bH⟩:=hv
  replace hS:=aV _ _ bH;simp only [List.cons_append,List.nil_append] at hS;clear aU aM bF aV
  refine Qf H Tryz.underlying314 sz39 ze39 rfl rfl rfl (cs:=[aD,aE,aF,aH]) ((Qa (hS.any 4 rfl : IsE A aN aD aA.2.1).one rfl (by simp)).trans ((Qa (hS.any 3 rfl : IsE A aN aE aB.2.1).one rfl (by simp)).trans ((Qa (hS.any 2 rfl : IsE A aN aF aC.2.1).one rfl (by simp)).trans ((Qa (hS.any 1 rfl : IsE A aN aH aG.1).one rfl (by simp)).trans rfl)))) rfl ?_
  clear H;intro bM aI hN bI hs;clear a;intro a H
  replace hS:=hS.newBlk hN bI hs;clear hN hs
  refine Zi H rfl Zp8 (Zaa (A:=A) (SlR.ofBlk (k:=1) (R:=REr A) [[aD],[aE],[aF],[aH]] [(aD,aA.2.1),(aE,aB.2.1),(aF,aC.2.1),(aH,aG.1)] (hS.blk 0 rfl) (DIn.cons rfl (by simp [(hS.any 5 rfl : IsE A aI aD aA.2.1).one]) ⟨rfl,(hS.any 5 rfl : IsE A aI aD aA.2.1)⟩ (DIn.cons rfl (by simp [(hS.any 4 rfl : IsE A aI aE aB.2.1).one]) ⟨rfl,(hS.any 4 rfl : IsE A aI aE aB.2.1)⟩ (DIn.cons rfl (by simp [(hS.any 3 rfl : IsE A aI aF aC.2.1).one]) ⟨rfl,(hS.any 3 rfl : IsE A aI aF aC.2.1)⟩ (DIn.cons rfl (by simp [(hS.any 2 rfl : IsE A aI aH aG.1).one]) ⟨rfl,(hS.any 2 rfl : IsE A aI aH aG.1)⟩ trivial)))) rfl (by simp [maxLen])) (Tl _)) rfl ?_
  clear H;intro bZ bN hv;clear a;intro a H;obtain⟨rfl,bJ⟩:=hv;replace hS:=hS.ext bJ
  replace hS:=hS.pk2
  replace hS:=hS.pk3
  replace hS:=hS.pk4
  replace hS:=hS.pk5
  replace hS:=(St.pickE [(aD,aA.2.1),(aE,aB.2.1),(aF,aC.2.1),(aH,aG.1)] rfl hS : St fp w bN [erQ A ((pickE [(aD,aA.2.1),(aE,aB.2.1),(aF,aC.2.1),(aH,aG.1)]).1) (Zd6 [aA.2.1,aB.2.1,aC.2.1,aG.1]),blkR bM [aD,aE,aF,aH] 39,blkR b0 [v0_0,.int .i64 aG.2.at_,.int .i64 aG.2.bound_] 248,blkR bL [.int .i64 0,.int .i64 0,.bool false] 116])
  replace hS:=hS.pk3
  refine Zr H rfl rfl (vs:=[.int .i64 aA.1,.int .i64 aB.1,.bool aC.1]) rfl Ha (hS.blk 0 rfl) rfl (by simp) ?_
  clear H;intro b7 hN bK hz;clear a;intro a H;replace hS:=hS.setBlk hN bK;clear hN hz
  refine n_q H (Zb rfl) rfl ?_;clear H a;intro a H
  refine Ze (Za (wp_ret ?_))
  obtain rfl:=Option.some.inj hm
  replace hS:=hS.pk1
  replace hS:=hS.pk3
  replace hS:=hS.tk3
  refine Zae H (.inr rfl) rfl (vs:=[.agg #[.int .i64 aA.1,.int .i64 aB.1,.bool aC.1],(pickE [(aD,aA.2.1),(aE,aB.2.1),(aF,aC.2.1),(aH,aG.1)]).1]) (Xh rfl ((hS.blk 2 rfl).ldAll Zhq Ha) (Kv rfl Xt)) ?_
  replace hS:=hS.tk2
  exact⟨_,rfl,hS⟩
theorem Zev {w : World} {A : Nat → Addr} {fp : Nat → Prop} {b0 : Nat} {v0_0 : Value} {a0 : GWireCursor} (hG : ∀ w',ChgP fp w w' → EV A w') (hP : Sep w fp [blkR b0 [v0_0,.int .i64 a0.at_,.int .i64 a0.bound_] 248]) (ro0_b : ∀ w',ChgP fp w w' → SlR w' 1 (Zn eB) v0_0 a0.b_) {r : GPortPlan × ErrM × GWireCursor} (hm : Vl a0=some r) :
    Calls Tryz.prog 181 [.pointer (some ⟨b0,0,none⟩)].toArray w (Ret fun u w'=>∃ h_0,u=.tuple #[.agg (Zs r.1).toArray,h_0] ∧ St fp w w' [blkR b0 [v0_0,.int .i64 r.2.2.at_,.int .i64 r.2.2.bound_] 248,erQ A h_0 r.2.1]):=by
  have hS:=St.init hP
  unfold Vl at hm
  refine enter Tryz.func181 rfl rfl rfl ?_;intro a H;dsimp only [Qn,Nat.zero_add,Nat.reduceAdd] at H
  refine wp_seq (wp_region_lit (Xf H Zer rfl ?_))
  clear H;intro bT b8 hN bA hs;clear a;intro a H
  replace hS:=hS.newBlk hN bA hs;clear hN hs
  refine n_q H (Zb rfl) rfl ?_;clear H a;intro a H
  refine Ze (Za (wp_seq (wp_region_lit (n_q H (Zc rfl) rfl ?_))));clear H a;intro a H
  replace hS:=hS.pk1
  obtain⟨bW,aR,aM,bB,aS⟩:=hS.frame (rs1:=[blkR b0 [v0_0,.int .i64 a0.at_,.int .i64 a0.bound_] 248])
  replace hm:=Zj hm;obtain⟨aA,bC,hm⟩:=hm
  refine Zi H rfl Zi7 (Ja (A:=A) (fun w' hw=>hG _ (aM _ hw)) aR (a0:=(⟨a0.b_,a0.at_,a0.bound_⟩ : GWireCursor)) (fun w' hw=>ro0_b _ (aM _ hw)) bC) rfl ?_
  clear H;intro b9 cA hv;clear a;intro a H;obtain⟨aE,rfl,bD⟩:=hv
  replace hS:=aS _ _ bD;simp only [List.cons_append,List.nil_append] at hS;clear aR aM bB aS
  refine n_q H (Zc rfl) rfl (W_q (Zh rfl rfl) rfl (W_q (Zh rfl rfl) rfl (W_q (Zb rfl) rfl (W_q (Zb rfl) rfl ?_))));clear H a;intro a H
  refine Ze (Za (wp_seq (wp_region_lit (n_q H (Zc rfl) rfl ?_))));clear H a;intro a H
  obtain⟨bX,aT,aN,bE,aU⟩:=hS.frame (rs1:=[blkR b0 [v0_0,.int .i64 aA.2.2.at_,.int .i64 aA.2.2.bound_] 248])
  replace hm:=Zj hm;obtain⟨aB,bF,hm⟩:=hm
  refine Zi H rfl Zi7 (Ja (A:=A) (fun w' hw=>hG _ (aN _ hw)) aT (a0:=(⟨a0.b_,aA.2.2.at_,aA.2.2.bound_⟩ : GWireCursor)) (fun w' hw=>ro0_b _ (aN _ hw)) bF) rfl ?_
  clear H;intro cB cC hv;clear a;intro a H;obtain⟨aF,rfl,bG⟩:=hv
  replace hS:=aU _ _ bG;simp only [List.cons_append,List.nil_append] at hS;clear aT aN bE aU
  refine n_q H (Zc rfl) rfl (W_q (Zh rfl rfl) rfl (W_q (Zh rfl rfl) rfl (W_q (Zb rfl) rfl (W_q (Zb rfl) rfl ?_))));clear H a;intro a H
  refine Ze (Za (wp_seq (wp_region_lit (n_q H (Zc rfl) rfl ?_))));clear H a;intro a H
  obtain⟨bY,aV,aO,bH,aW⟩:=hS.frame (rs1:=[blkR b0 [v0_0,.int .i64 aB.2.2.at_,.int .i64 aB.2.2.bound_] 248])
  replace hm:=Zj hm;obtain⟨aC,bI,hm⟩:=hm
  refine Zi H rfl Zi7 (Ja (A:=A) (fun w' hw=>hG _ (aO _ hw)) aV (a0:=(⟨a0.b_,aB.2.2.at_,aB.2.2.bound_⟩ : GWireCursor)) (fun w' hw=>ro0_b _ (aO _ hw)) bI) rfl ?_
  clear H;intro cD cF hv;clear a;intro a H;obtain⟨aG,rfl,bJ⟩:=hv
  replace hS:=aW _ _ bJ;simp only [List.cons_append,List.nil_append] at hS;clear aV aO bH aW
  refine n_q H (Zc rfl) rfl (W_q (Zh rfl rfl) rfl (W_q (Zh rfl rfl) rfl (W_q (Zb rfl) rfl (W_q (Zb rfl) rfl ?_))));clear H a;intro a H
  refine Ze (Za (wp_seq (wp_region_lit (n_q H (Zc rfl) rfl ?_))));clear H a;intro a H
  obtain⟨bZ,aX,aP,bK,aY⟩:=hS.frame (rs1:=[blkR b0 [v0_0,.int .i64 aC.2.2.at_,.int .i64 aC.2.2.bound_] 248])
  replace hm:=Zj hm;obtain⟨aD,bL,hm⟩:=hm
  refine Zi H rfl Zi7 (Ja (A:=A) (fun w' hw=>hG _ (aP _ hw)) aX (a0:=(⟨a0.b_,aC.2.2.at_,aC.2.2.bound_⟩ : GWireCursor)) (fun w' hw=>ro0_b _ (aP _ hw)) bL) rfl ?_
  clear H;intro cG cH hv;clear a;intro a H;obtain⟨aH,rfl,bM⟩:=hv
  replace hS:=aY _ _ bM;simp only [List.cons_append,List.nil_append] at hS;clear aX aP bK aY
  refine n_q H (Zc rfl) rfl (W_q (Zh rfl rfl) rfl (W_q (Zh rfl rfl) rfl (W_q (Zb rfl) rfl (W_q (Zb rfl) rfl ?_))));clear H a;intro a H
  refine Ze (Za (wp_seq (wp_region_lit (n_q H (Zc rfl) rfl (W_q (Zc rfl) rfl (W_q (Zc rfl) rfl (W_q (Zc rfl) rfl (W_q (Qd (cs:=[.int .i64 aA.1,.int .i64 aB.1,.int .i64 aC.1,.int .i64 aD.1]) Zer Zpx Zpy rfl (by kernel_rfl)) rfl (W_q (Zc rfl) rfl (W_q (Zc rfl) rfl (W_q (Zc rfl) rfl (W_q (Zc rfl) rfl (W_q (Zc rfl) rfl ?_)))))))))))));clear H a;intro a H
  obtain⟨b7,aZ,aQ,bN,a9⟩:=hS.frame (rs1:=[blkR b0 [v0_0,.int .i64 aD.2.2.at_,.int .i64 aD.2.2.bound_] 248])
  replace hm:=Zj hm;obtain⟨aI,bO,hm⟩:=hm
  refine Zi H rfl Zp9 (Ul (A:=A) (fun w' hw=>hG _ (aQ _ hw)) aZ (a0:=(⟨a0.b_,aD.2.2.at_,aD.2.2.bound_⟩ : GWireCursor)) (fun w' hw=>ro0_b _ (aQ _ hw)) bO) rfl ?_
  clear H;intro aJ aL hv;clear a;intro a H;obtain⟨_,rfl,bP⟩:=hv
  replace hS:=a9 _ _ bP;simp only [List.cons_append,List.nil_append] at hS;clear aZ aQ bN a9
  refine Qf H Tryz.underlying314 sz39 ze39 rfl rfl rfl (cs:=[aE,aF,aG,aH,aJ]) ((Qa (hS.any 5 rfl : IsE A aL aE aA.2.1).one rfl (by simp)).trans ((Qa (hS.any 4 rfl : IsE A aL aF aB.2.1).one rfl (by simp)).trans ((Qa (hS.any 3 rfl : IsE A aL aG aC.2.1).one rfl (by simp)).trans ((Qa (hS.any 2 rfl : IsE A aL aH aD.2.1).one rfl (by simp)).trans ((Qa (hS.any 1 rfl : IsE A aL aJ aI.1).one rfl (by simp)).trans rfl))))) rfl ?_
  clear H;intro bU aK hN bQ hs;clear a;intro a H
  replace hS:=hS.newBlk hN bQ hs;clear hN hs
  refine Zi H rfl Zp8 (Zaa (A:=A) (SlR.ofBlk (k:=1) (R:=REr A) [[aE],[aF],[aG],[aH],[aJ]] [(aE,aA.2.1),(aF,aB.2.1),(aG,aC.2.1),(aH,aD.2.1),(aJ,aI.1)] (hS.blk 0 rfl) (DIn.cons rfl (by simp [(hS.any 6 rfl : IsE A aK aE aA.2.1).one]) ⟨rfl,(hS.any 6 rfl : IsE A aK aE aA.2.1)⟩ (DIn.cons rfl (by simp [(hS.any 5 rfl : IsE A aK aF aB.2.1).one]) ⟨rfl,(hS.any 5 rfl : IsE A aK aF aB.2.1)⟩ (DIn.cons rfl (by simp [(hS.any 4 rfl : IsE A aK aG aC.2.1).one]) ⟨rfl,(hS.any 4 rfl : IsE A aK aG aC.2.1)⟩ (DIn.cons rfl (by simp [(hS.any 3 rfl : IsE A aK aH aD.2.1).one]) ⟨rfl,(hS.any 3 rfl : IsE A aK aH aD.2.1)⟩ (DIn.cons rfl (by simp [(hS.any 2 rfl : IsE A aK aJ aI.1).one]) ⟨rfl,(hS.any 2 rfl : IsE A aK aJ aI.1)⟩ trivial))))) rfl (by simp [maxLen])) (Tl _)) rfl ?_
  clear H;intro cI bV hv;clear a;intro a H;obtain⟨rfl,bR⟩:=hv;replace hS:=hS.ext bR
  replace hS:=hS.pk2
  replace hS:=hS.pk3
  replace hS:=hS.pk4
  replace hS:=hS.pk5
  replace hS:=hS.pk6
  replace hS:=(St.pickE [(aE,aA.2.1),(aF,aB.2.1),(aG,aC.2.1),(aH,aD.2.1),(aJ,aI.1)] rfl hS : St fp w bV [erQ A ((pickE [(aE,aA.2.1),(aF,aB.2.1),(aG,aC.2.1),(aH,aD.2.1),(aJ,aI.1)]).1) (Zd6 [aA.2.1,aB.2.1,aC.2.1,aD.2.1,aI.1]),blkR bU [aE,aF,aG,aH,aJ] 39,blkR b0 [v0_0,.int .i64 aI.2.at_,.int .i64 aI.2.bound_] 248,blkR bT [.int .i64 0,.int .i64 0,.int .i64 0,.int .i64 0] 118])
  replace hS:=hS.pk3
  refine Zr H rfl rfl (vs:=[.int .i64 aA.1,.int .i64 aB.1,.int .i64 aC.1,.int .i64 aD.1]) rfl Wp (hS.blk 0 rfl) rfl (by simp) ?_
  clear H;intro cJ hN bS hz;clear a;intro a H;replace hS:=hS.setBlk hN bS;clear hN hz
  refine n_q H (Zb rfl) rfl ?_;clear H a;intro a H
  refine Ze (Za (wp_ret ?_))
  obtain rfl:=Option.some.inj hm
  replace hS:=hS.pk1
  replace hS:=hS.pk3
  replace hS:=hS.tk3
  refine Zae H (.inr rfl) rfl (vs:=[.agg #[.int .i64 aA.1,.int .i64 aB.1,.int .i64 aC.1,.int .i64 aD.1],(pickE [(aE,aA.2.1),(aF,aB.2.1),(aG,aC.2.1),(aH,aD.2.1),(aJ,aI.1)]).1]) (Xh rfl ((hS.blk 2 rfl).ldAll Za8 Wp) (Kv rfl Xt)) ?_
  replace hS:=hS.tk2
  exact⟨_,rfl,hS⟩
set_option maxHeartbeats 1000000 in
theorem Zh1 {w : World} {A : Nat → Addr} {fp : Nat → Prop} {b0 : Nat} {v0_0 : Value} {v0_1 : Value} {v0_2 : Value} {v0_3 : Value} {a0 : GPlan} {a1 : Int} {b2 : Nat} {v2_0 : Value} {a2 : GWireCursor} (hG : ∀ w',ChgP fp w w' → EV A w') (hP : Sep w fp [blkR b0 [.int .i64 a0.Id,.bool a0.Mobile,v0_0,v0_1,v0_2,.int .i64 a0.Events,v0_3] 27,ownR 114 2 v0_0 a0.Pages.length (a0.Pages.flatMap Zz),ownR 116 3 v0_1 a0.Procs.length (a0.Procs.flatMap Zy),ownR 118 4 v0_2 a0.Ports.length (a0.Ports.flatMap Zs),ownR 3 1 v0_3 a0.Sems.length (a0.Sems.flatMap eI),blkR b2 [v2_0,.int .i64 a2.at_,.int .i64 a2.bound_] 248]) (ro2_b : ∀ w',ChgP fp w w' → SlR w' 1 (Zn eB) v2_0 a2.b_) {r : ErrM × GPlan × GWireCursor} (hm : Xw a0 a1 a2=some r) :
    Calls Tryz.prog 106 [.pointer (some ⟨b0,0,none⟩),.int .i64 a1,.pointer (some ⟨b2,0,none⟩)].toArray w (Ret fun u w'=>∃ h_0 h_1 h_2 h_3 h_4,u=h_0 ∧ St fp w w' [blkR b0 [.int .i64 r.2.1.Id,.bool r.2.1.Mobile,h_1,h_2,h_3,.int .i64 r.2.1.Events,h_4] 27,ownR 114 2 h_1 r.2.1.Pages.length (r.2.1.Pages.flatMap Zz),ownR 116 3 h_2 r.2.1.Procs.length (r.2.1.Procs.flatMap Zy),ownR 118 4 h_3 r.2.1.Ports.length (r.2.1.Ports.flatMap Zs),ownR 3 1 h_4 r.2.1.Sems.length (r.2.1.Sems.flatMap eI),blkR b2 [v2_0,.int .i64 r.2.2.at_,.int .i64 r.2.2.bound_] 248,erQ A h_0 r.1]):=by
  have hS:=St.init hP
  unfold Xw at hm
  refine enter Tryz.func106 rfl rfl rfl ?_;intro a H;dsimp only [Qn,Nat.zero_add,Nat.reduceAdd] at H
  refine wp_seq (wp_region_lit (n_q H (Zb rfl) rfl ?_));clear H a;intro a H
  refine Ze (Za (wp_seq (wp_seq (wp_region_lit (n_q H (Zc rfl) rfl ?_)))));clear H a;intro a H
  refine Ze (Za (wp_block (wp_seq (wp_region_lit (n_q H (Um rfl rfl) rfl (W_q (Zb rfl) rfl ?_))))));clear H a;intro a H
  refine Ze (Za (Zl H rfl (fun aW=>?_) (fun aW=>?_)))
  · replace hm:=Zu hm aW
    refine wp_seq (wp_region_lit (n_q H (Zc rfl) rfl ?_));clear H a;intro a H
    replace hS:=hS.pk5
    obtain⟨e9,bQ,aX,dK,bR⟩:=hS.frame (rs1:=[blkR b2 [v2_0,.int .i64 a2.at_,.int .i64 a2.bound_] 248])
    replace hm:=Zj hm;obtain⟨aU,dL,hm⟩:=hm
    refine Zi H rfl en179 (Zg0 (A:=A) (fun w' hw=>hG _ (aX _ hw)) bQ (a0:=(⟨a2.b_,a2.at_,a2.bound_⟩ : GWireCursor)) (fun w' hw=>ro2_b _ (aX _ hw)) dL) rfl ?_
    clear H;intro fT fU hv;clear a;intro a H;obtain⟨fV,rfl,dM⟩:=hv
    replace hS:=bR _ _ dM;simp only [List.cons_append,List.nil_append] at hS;clear bQ aX dK bR
    refine n_q H (Zc rfl) rfl (W_q (Zh rfl rfl) rfl (W_q (Zh rfl rfl) rfl ?_));clear H a;intro a H
    refine Xf H Zd7 rfl ?_
    clear H;intro eL fW hN dN hs;clear a;intro a H
    replace hS:=hS.newBlk hN dN hs;clear hN hs
    refine Zr H rfl rfl (vs:=[.int .i64 aU.1.Rights,.string aU.1.Init]) rfl Gm (hS.blk 0 rfl) rfl (by simp) ?_
    clear H;intro bS hN dO hz;clear a;intro a H;replace hS:=hS.setBlk hN dO;clear hN hz
    refine n_q H (Zb rfl) rfl ?_;clear H a;intro a H
    refine Ze (Za (wp_seq (Tp (kB 0 (eL :: (b2 :: (b0 :: []))) bS.drew.heap.size) 10 (by kernel_rfl) ?_)))
    obtain⟨bT,aY⟩ : ∃ x,x=bS.drew:=⟨_,rfl⟩;rw [← aY];have dP : Ext bS bT:=by rw [aY];exact Ext.drew' _
    clear aY
    replace hS:=hS.ext dP
    have bU:=(hS.blk 0 rfl).lt
    have hh_b2:=(hS.blk 1 rfl).lt
    have hh_b0:=(hS.blk 3 rfl).lt
    have hW:=Nat.le_refl bT.heap.size
    refine Zk 0 H rfl (Zc rfl) rfl (by kernel_rfl) (by kernel_rfl) (by kernel_rfl) (by kernel_rfl) (fun _ _ _ h=>h) ?_;clear H a;intro a H
    refine Zk 1 H rfl (Zc rfl) rfl (by kernel_rfl) (by kernel_rfl) (by kernel_rfl) (by kernel_rfl) (fun _ _ _ h=>h) ?_;clear H a;intro a H
    refine Zk 2 H rfl (Zt rfl) rfl (by kernel_rfl) (by kernel_rfl) (by kernel_rfl) (by kernel_rfl) (fun _ _ _ h=>h) ?_;clear H a;intro a H
    refine Zk 3 H rfl (Zd rfl Vz) rfl (by kernel_rfl) (by kernel_rfl) (by kernel_rfl) (by kernel_rfl) (fun _ _ _ h=>h) ?_;clear H a;intro a H
    refine Xu 4 H rfl (Zf rfl ((hS.blk 3 rfl).ldB hh_b0 (Zfu (by simp)) Zfb rfl)) rfl (by kernel_rfl) (by kernel_rfl) (by kernel_rfl) (by kernel_rfl) (fun _ _ _ h=>h) ?_;clear H a;intro a H
    refine Xu 5 H rfl (Zf rfl ((hS.blk 0 rfl).ldAllB bU (Zfu (by simp)) Zhp Gm)) rfl (by kernel_rfl) (by kernel_rfl) (by kernel_rfl) (by kernel_rfl) (fun _ _ _ h=>h) ?_;clear H a;intro a H
    refine Tq 6 H rfl Tryz.underlying22 Gm Zd7 rfl rfl rfl (cs:=[.int .i64 aU.1.Rights,.string aU.1.Init]) (by kernel_rfl) rfl (by kernel_rfl) ?_
    clear H;intro eM fX hN bV hs;clear a;intro a H
    have eH : bT.heap.size ≤ eM:=hs ▸ hW
    replace hS:=hS.newBlk hN bV hs;clear hN hs
    replace hW:=Nat.le_trans hW bV.size
    replace hS:=hS.blkOwnL (e:=Zz) (k:=2) [aU.1] rfl rfl (by simp [maxLen])
    replace hS:=hS.pk5
    replace hm:=Zbm hm;obtain⟨dQ,hm⟩:=hm
    refine Zpt (e:=Zz) 7 H rfl rfl rfl Tryz.underlying22 Tryz.underlying22 (by simp) el114 (hS.own 0 rfl) (((hS.own 1 rfl).slr rfl (fun _ _=>rfl)).src (fun _ _=>rfl)) Zbw dQ (by simp only [maxLen];omega) rfl (by kernel_rfl) (.inl (fun c hc hlt=>Zcs hlt (Nat.zero_le _) (Jv (hS.neOwn' 0 2 (by decide) rfl rfl c hc) (Jv (hS.neOwn' 0 3 (by decide) rfl rfl c hc) (Jv (hS.neOwn' 0 5 (by decide) rfl rfl c hc) Uw))))) ?_
    clear H;intro fY fZ hN bW hb;clear a;intro a H;replace hS:=hS.setOwn hN bW hb;clear hN hb
    replace hW:=Nat.le_trans hW bW.size
    refine Zk 8 H rfl (Zt rfl) rfl (by kernel_rfl) (by kernel_rfl) (by kernel_rfl) (by kernel_rfl) (fun _ _ _ h=>h) ?_;clear H a;intro a H
    refine Zk 9 H rfl (Zd rfl Vz) rfl (by kernel_rfl) (by kernel_rfl) (by kernel_rfl) (by kernel_rfl) (fun _ _ _ h=>h) ?_;clear H a;intro a H
    replace hS:=hS.pk5
    refine Zgd 10 H rfl rfl rfl sz22 (hS.blk 0 rfl) (by simp) (((hS.own 1 rfl).slr rfl (fun _ _=>rfl))).one (by kernel_rfl) (.inr (by kernel_rfl)) ?_
    clear H;intro gA hN bX hz;clear a;intro a H;replace hS:=hS.setBlk hN bX;clear hN hz;replace hW:=Nat.le_trans hW bX.size
    try simp only [List.set_cons_succ,List.set_cons_zero] at hS
    refine Xk (by kernel_rfl) ?_
    refine Za (wp_seq (wp_region_lit (n_q H (Zc rfl) rfl (W_q (Zb rfl) rfl ?_))));clear H a;intro a H
    refine Ze (Za (wp_ret (Zm (Zg ?_))))
    obtain rfl:=Option.some.inj hm
    replace hS:=hS.pk5
    replace hS:=hS.pk5
    replace hS:=hS.pk8
    replace hS:=hS.pk8
    replace hS:=hS.pk8
    replace hS:=hS.pk6
    replace hS:=hS.pk6
    replace hS:=hS.tk7
    refine Xx H (.inr rfl) rfl rfl ?_
    exact⟨_,_,_,_,_,rfl,hS⟩
  · replace hm:=Zv hm aW
    refine wp_seq (wp_region_lit (n_q H (Um rfl rfl) rfl (W_q (Zb rfl) rfl ?_)));clear H a;intro a H
    refine Ze (Za (Zl H rfl (fun aZ=>?_) (fun aZ=>?_)))
    · replace hm:=Zu hm aZ
      refine wp_seq (wp_region_lit (n_q H (Zc rfl) rfl ?_));clear H a;intro a H
      replace hS:=hS.pk5
      obtain⟨fA,bY,a9,dR,bZ⟩:=hS.frame (rs1:=[blkR b2 [v2_0,.int .i64 a2.at_,.int .i64 a2.bound_] 248])
      replace hm:=Zj hm;obtain⟨aK,dS,hm⟩:=hm
      refine Zi H rfl en180 (Zg1 (A:=A) (fun w' hw=>hG _ (a9 _ hw)) bY (a0:=(⟨a2.b_,a2.at_,a2.bound_⟩ : GWireCursor)) (fun w' hw=>ro2_b _ (a9 _ hw)) dS) rfl ?_
      clear H;intro gB gC hv;clear a;intro a H;obtain⟨gD,rfl,dT⟩:=hv
      replace hS:=bZ _ _ dT;simp only [List.cons_append,List.nil_append] at hS;clear bY a9 dR bZ
      refine n_q H (Zc rfl) rfl (W_q (Zh rfl rfl) rfl (W_q (Zh rfl rfl) rfl ?_));clear H a;intro a H
      refine Xf H Zd8 rfl ?_
      clear H;intro eN gE hN dU hs;clear a;intro a H
      replace hS:=hS.newBlk hN dU hs;clear hN hs
      refine Zr H rfl rfl (vs:=[.int .i64 aK.1.Entry,.int .i64 aK.1.Prio,.bool aK.1.Auto]) rfl Ha (hS.blk 0 rfl) rfl (by simp) ?_
      clear H;intro b7 hN dV hz;clear a;intro a H;replace hS:=hS.setBlk hN dV;clear hN hz
      refine n_q H (Zb rfl) rfl ?_;clear H a;intro a H
      refine Ze (Za (wp_seq (Tp (kB 0 (eN :: (b2 :: (b0 :: []))) b7.drew.heap.size) 10 (by kernel_rfl) ?_)))
      obtain⟨b8,bA⟩ : ∃ x,x=b7.drew:=⟨_,rfl⟩;rw [← bA];have dW : Ext b7 b8:=by rw [bA];exact Ext.drew' _
      clear bA
      replace hS:=hS.ext dW
      have b9:=(hS.blk 0 rfl).lt
      have hh_b2:=(hS.blk 1 rfl).lt
      have hh_b0:=(hS.blk 3 rfl).lt
      have hW:=Nat.le_refl b8.heap.size
      refine Zk 0 H rfl (Zc rfl) rfl (by kernel_rfl) (by kernel_rfl) (by kernel_rfl) (by kernel_rfl) (fun _ _ _ h=>h) ?_;clear H a;intro a H
      refine Zk 1 H rfl (Zc rfl) rfl (by kernel_rfl) (by kernel_rfl) (by kernel_rfl) (by kernel_rfl) (fun _ _ _ h=>h) ?_;clear H a;intro a H
      refine Zk 2 H rfl (Zt rfl) rfl (by kernel_rfl) (by kernel_rfl) (by kernel_rfl) (by kernel_rfl) (fun _ _ _ h=>h) ?_;clear H a;intro a H
      refine Zk 3 H rfl (Zd rfl Wx) rfl (by kernel_rfl) (by kernel_rfl) (by kernel_rfl) (by kernel_rfl) (fun _ _ _ h=>h) ?_;clear H a;intro a H
      refine Xu 4 H rfl (Zf rfl ((hS.blk 3 rfl).ldB hh_b0 (Zfu (by simp)) Zgm rfl)) rfl (by kernel_rfl) (by kernel_rfl) (by kernel_rfl) (by kernel_rfl) (fun _ _ _ h=>h) ?_;clear H a;intro a H
      refine Xu 5 H rfl (Zf rfl ((hS.blk 0 rfl).ldAllB b9 (Zfu (by simp)) Zhq Ha)) rfl (by kernel_rfl) (by kernel_rfl) (by kernel_rfl) (by kernel_rfl) (fun _ _ _ h=>h) ?_;clear H a;intro a H
      refine Tq 6 H rfl Tryz.underlying23 Ha Zd8 rfl rfl rfl (cs:=[.int .i64 aK.1.Entry,.int .i64 aK.1.Prio,.bool aK.1.Auto]) (by kernel_rfl) rfl (by kernel_rfl) ?_
      clear H;intro eO gF hN cA hs;clear a;intro a H
      have eJ : b8.heap.size ≤ eO:=hs ▸ hW
      replace hS:=hS.newBlk hN cA hs;clear hN hs
      replace hW:=Nat.le_trans hW cA.size
      replace hS:=hS.blkOwnL (e:=Zy) (k:=3) [aK.1] rfl rfl (by simp [maxLen])
      replace hS:=hS.pk6
      replace hm:=Zbm hm;obtain⟨dX,hm⟩:=hm
      refine Zpt (e:=Zy) 7 H rfl rfl rfl Tryz.underlying23 Tryz.underlying23 (by simp) el116 (hS.own 0 rfl) (((hS.own 1 rfl).slr rfl (fun _ _=>rfl)).src (fun _ _=>rfl)) Zbx dX (by simp only [maxLen];omega) rfl (by kernel_rfl) (.inl (fun c hc hlt=>Zcs hlt (Nat.zero_le _) (Jv (hS.neOwn' 0 2 (by decide) rfl rfl c hc) (Jv (hS.neOwn' 0 3 (by decide) rfl rfl c hc) (Jv (hS.neOwn' 0 5 (by decide) rfl rfl c hc) Uw))))) ?_
      clear H;intro gG gH hN cB hb;clear a;intro a H;replace hS:=hS.setOwn hN cB hb;clear hN hb
      replace hW:=Nat.le_trans hW cB.size
      refine Zk 8 H rfl (Zt rfl) rfl (by kernel_rfl) (by kernel_rfl) (by kernel_rfl) (by kernel_rfl) (fun _ _ _ h=>h) ?_;clear H a;intro a H
      refine Zk 9 H rfl (Zd rfl Wx) rfl (by kernel_rfl) (by kernel_rfl) (by kernel_rfl) (by kernel_rfl) (fun _ _ _ h=>h) ?_;clear H a;intro a H
      replace hS:=hS.pk5
      refine Zgd 10 H rfl rfl rfl sz23 (hS.blk 0 rfl) (by simp) (((hS.own 1 rfl).slr rfl (fun _ _=>rfl))).one (by kernel_rfl) (.inr (by kernel_rfl)) ?_
      clear H;intro gI hN cC hz;clear a;intro a H;replace hS:=hS.setBlk hN cC;clear hN hz;replace hW:=Nat.le_trans hW cC.size
      try simp only [List.set_cons_succ,List.set_cons_zero] at hS
      refine Xk (by kernel_rfl) ?_
      refine Za (wp_seq (wp_region_lit (n_q H (Zc rfl) rfl (W_q (Zb rfl) rfl ?_))));clear H a;intro a H
      refine Ze (Za (wp_ret (Zm (Zg ?_))))
      obtain rfl:=Option.some.inj hm
      replace hS:=hS.pk5
      replace hS:=hS.pk5
      replace hS:=hS.pk8
      replace hS:=hS.pk8
      replace hS:=hS.pk5
      replace hS:=hS.pk8
      replace hS:=hS.pk6
      replace hS:=hS.tk7
      refine Xx H (.inr rfl) rfl rfl ?_
      exact⟨_,_,_,_,_,rfl,hS⟩
    · replace hm:=Zv hm aZ
      refine wp_seq (wp_region_lit (n_q H (Um rfl rfl) rfl (W_q (Zb rfl) rfl ?_)));clear H a;intro a H
      refine Ze (Za (Zl H rfl (fun bB=>?_) (fun bB=>?_)))
      · replace hm:=Zu hm bB
        refine wp_seq (wp_region_lit (n_q H (Zc rfl) rfl ?_));clear H a;intro a H
        replace hS:=hS.pk5
        obtain⟨fB,cD,bC,dY,cF⟩:=hS.frame (rs1:=[blkR b2 [v2_0,.int .i64 a2.at_,.int .i64 a2.bound_] 248])
        replace hm:=Zj hm;obtain⟨aH,dZ,hm⟩:=hm
        refine Zi H rfl en181 (Zev (A:=A) (fun w' hw=>hG _ (bC _ hw)) cD (a0:=(⟨a2.b_,a2.at_,a2.bound_⟩ : GWireCursor)) (fun w' hw=>ro2_b _ (bC _ hw)) dZ) rfl ?_
        clear H;intro gJ gK hv;clear a;intro a H;obtain⟨gL,rfl,d5⟩:=hv
        replace hS:=cF _ _ d5;simp only [List.cons_append,List.nil_append] at hS;clear cD bC dY cF
        refine n_q H (Zc rfl) rfl (W_q (Zh rfl rfl) rfl (W_q (Zh rfl rfl) rfl ?_));clear H a;intro a H
        refine Xf H Zer rfl ?_
        clear H;intro eP gM hN d6 hs;clear a;intro a H
        replace hS:=hS.newBlk hN d6 hs;clear hN hs
        refine Zr H rfl rfl (vs:=[.int .i64 aH.1.Kind,.int .i64 aH.1.Size,.int .i64 aH.1.Depth,.int .i64 aH.1.Refresh]) rfl Wp (hS.blk 0 rfl) rfl (by simp) ?_
        clear H;intro cG hN d7 hz;clear a;intro a H;replace hS:=hS.setBlk hN d7;clear hN hz
        refine n_q H (Zb rfl) rfl ?_;clear H a;intro a H
        refine Ze (Za (wp_seq (Tp (kB 0 (eP :: (b2 :: (b0 :: []))) cG.drew.heap.size) 10 (by kernel_rfl) ?_)))
        obtain⟨cH,bD⟩ : ∃ x,x=cG.drew:=⟨_,rfl⟩;rw [← bD];have d8 : Ext cG cH:=by rw [bD];exact Ext.drew' _
        clear bD
        replace hS:=hS.ext d8
        have cI:=(hS.blk 0 rfl).lt
        have hh_b2:=(hS.blk 1 rfl).lt
        have hh_b0:=(hS.blk 3 rfl).lt
        have hW:=Nat.le_refl cH.heap.size
        refine Zk 0 H rfl (Zc rfl) rfl (by kernel_rfl) (by kernel_rfl) (by kernel_rfl) (by kernel_rfl) (fun _ _ _ h=>h) ?_;clear H a;intro a H
        refine Zk 1 H rfl (Zc rfl) rfl (by kernel_rfl) (by kernel_rfl) (by kernel_rfl) (by kernel_rfl) (fun _ _ _ h=>h) ?_;clear H a;intro a H
        refine Zk 2 H rfl (Zt rfl) rfl (by kernel_rfl) (by kernel_rfl) (by kernel_rfl) (by kernel_rfl) (fun _ _ _ h=>h) ?_;clear H a;intro a H
        refine Zk 3 H rfl (Zd rfl Gb) rfl (by kernel_rfl) (by kernel_rfl) (by kernel_rfl) (by kernel_rfl) (fun _ _ _ h=>h) ?_;clear H a;intro a H
        refine Xu 4 H rfl (Zf rfl ((hS.blk 3 rfl).ldB hh_b0 (Zfu (by simp)) Zhr rfl)) rfl (by kernel_rfl) (by kernel_rfl) (by kernel_rfl) (by kernel_rfl) (fun _ _ _ h=>h) ?_;clear H a;intro a H
        refine Xu 5 H rfl (Zf rfl ((hS.blk 0 rfl).ldAllB cI (Zfu (by simp)) Za8 Wp)) rfl (by kernel_rfl) (by kernel_rfl) (by kernel_rfl) (by kernel_rfl) (fun _ _ _ h=>h) ?_;clear H a;intro a H
        refine Tq 6 H rfl Tryz.underlying24 Wp Zer rfl rfl rfl (cs:=[.int .i64 aH.1.Kind,.int .i64 aH.1.Size,.int .i64 aH.1.Depth,.int .i64 aH.1.Refresh]) (by kernel_rfl) rfl (by kernel_rfl) ?_
        clear H;intro eQ gN hN cJ hs;clear a;intro a H
        have eK : cH.heap.size ≤ eQ:=hs ▸ hW
        replace hS:=hS.newBlk hN cJ hs;clear hN hs
        replace hW:=Nat.le_trans hW cJ.size
        replace hS:=hS.blkOwnL (e:=Zs) (k:=4) [aH.1] rfl rfl (by simp [maxLen])
        replace hS:=hS.pk7
        replace hm:=Zbm hm;obtain⟨d9,hm⟩:=hm
        refine Zpt (e:=Zs) 7 H rfl rfl rfl Tryz.underlying24 Tryz.underlying24 (by simp) el118 (hS.own 0 rfl) (((hS.own 1 rfl).slr rfl (fun _ _=>rfl)).src (fun _ _=>rfl)) Zby d9 (by simp only [maxLen];omega) rfl (by kernel_rfl) (.inl (fun c hc hlt=>Zcs hlt (Nat.zero_le _) (Jv (hS.neOwn' 0 2 (by decide) rfl rfl c hc) (Jv (hS.neOwn' 0 3 (by decide) rfl rfl c hc) (Jv (hS.neOwn' 0 5 (by decide) rfl rfl c hc) Uw))))) ?_
        clear H;intro gO gP hN cK hb;clear a;intro a H;replace hS:=hS.setOwn hN cK hb;clear hN hb
        replace hW:=Nat.le_trans hW cK.size
        refine Zk 8 H rfl (Zt rfl) rfl (by kernel_rfl) (by kernel_rfl) (by kernel_rfl) (by kernel_rfl) (fun _ _ _ h=>h) ?_;clear H a;intro a H
        refine Zk 9 H rfl (Zd rfl Gb) rfl (by kernel_rfl) (by kernel_rfl) (by kernel_rfl) (by kernel_rfl) (fun _ _ _ h=>h) ?_;clear H a;intro a H
        replace hS:=hS.pk5
        refine Zgd 10 H rfl rfl rfl sz24 (hS.blk 0 rfl) (by simp) (((hS.own 1 rfl).slr rfl (fun _ _=>rfl))).one (by kernel_rfl) (.inr (by kernel_rfl)) ?_
        clear H;intro fC hN bF hz;clear a;intro a H;replace hS:=hS.setBlk hN bF;clear hN hz;replace hW:=Nat.le_trans hW bF.size
        try simp only [List.set_cons_succ,List.set_cons_zero] at hS
        refine Xk (by kernel_rfl) ?_
        refine Za (wp_seq (wp_region_lit (n_q H (Zc rfl) rfl (W_q (Zb rfl) rfl ?_))));clear H a;intro a H
        refine Ze (Za (wp_ret (Zm (Zg ?_))))
        obtain rfl:=Option.some.inj hm
        replace hS:=hS.pk5
        replace hS:=hS.pk5
        replace hS:=hS.pk8
        replace hS:=hS.pk4
        replace hS:=hS.pk8
        replace hS:=hS.pk8
        replace hS:=hS.pk6
        replace hS:=hS.tk7
        refine Xx H (.inr rfl) rfl rfl ?_
        exact⟨_,_,_,_,_,rfl,hS⟩
      · replace hm:=Zv hm bB
        refine wp_seq (wp_region_lit (n_q H (Um rfl rfl) rfl (W_q (Zb rfl) rfl ?_)));clear H a;intro a H
        refine Ze (Za (Zl H rfl (fun aM=>?_) (fun aM=>?_)))
        · replace hm:=Zu hm aM
          refine wp_seq (wp_region_lit (n_q H (Zc rfl) rfl ?_));clear H a;intro a H
          replace hS:=hS.pk5
          obtain⟨eV,bG,aN,cP,bH⟩:=hS.frame (rs1:=[blkR b2 [v2_0,.int .i64 a2.at_,.int .i64 a2.bound_] 248])
          replace hm:=Zj hm;obtain⟨aA,cQ,hm⟩:=hm
          refine Zi H rfl Zi7 (Ja (A:=A) (fun w' hw=>hG _ (aN _ hw)) bG (a0:=(⟨a2.b_,a2.at_,a2.bound_⟩ : GWireCursor)) (fun w' hw=>ro2_b _ (aN _ hw)) cQ) rfl ?_
          clear H;intro fD fE hv;clear a;intro a H;obtain⟨aC,rfl,cR⟩:=hv
          replace hS:=bH _ _ cR;simp only [List.cons_append,List.nil_append] at hS;clear bG aN cP bH
          refine n_q H (Zc rfl) rfl (W_q (Zh rfl rfl) rfl (W_q (Zh rfl rfl) rfl (W_q (Zb rfl) rfl (W_q (Zb rfl) rfl ?_))));clear H a;intro a H
          refine Ze (Za (wp_seq (wp_region_lit (n_q H (Zc rfl) rfl (W_q (Zc rfl) rfl (W_q (Zt rfl) rfl (W_q (Zd rfl Zbb) rfl ?_)))))));clear H a;intro a H
          replace hS:=hS.pk2
          refine Kj H rfl rfl sz3 (hS.blk 0 rfl) (by simp) rfl ?_
          clear H;intro fF hN cT hz;clear a;intro a H;replace hS:=hS.setBlk hN cT;clear hN hz
          try simp only [List.set_cons_succ,List.set_cons_zero] at hS
          refine Ze (Za (wp_seq (wp_region_lit (n_q H (Zc rfl) rfl (W_q (Zc rfl) rfl ?_)))));clear H a;intro a H
          replace hS:=hS.pk1
          obtain⟨eW,bI,aO,cU,bJ⟩:=hS.frame (rs1:=[blkR b2 [v2_0,.int .i64 aA.2.2.at_,.int .i64 aA.2.2.bound_] 248])
          replace hm:=Zj hm;obtain⟨aD,cV,hm⟩:=hm
          refine Zi H rfl Zp9 (Ul (A:=A) (fun w' hw=>hG _ (aO _ hw)) bI (a0:=(⟨a2.b_,aA.2.2.at_,aA.2.2.bound_⟩ : GWireCursor)) (fun w' hw=>ro2_b _ (aO _ hw)) cV) rfl ?_
          clear H;intro aE cL hv;clear a;intro a H;obtain⟨_,rfl,cW⟩:=hv
          replace hS:=bJ _ _ cW;simp only [List.cons_append,List.nil_append] at hS;clear bI aO cU bJ
          refine Qf H Tryz.underlying314 sz39 ze39 rfl rfl rfl (cs:=[aC,aE]) ((Qa (hS.any 3 rfl : IsE A cL aC aA.2.1).one rfl (by simp)).trans ((Qa (hS.any 1 rfl : IsE A cL aE aD.1).one rfl (by simp)).trans rfl)) rfl ?_
          clear H;intro eA aP hN cX hs;clear a;intro a H
          replace hS:=hS.newBlk hN cX hs;clear hN hs
          refine Zi H rfl Zp8 (Zaa (A:=A) (SlR.ofBlk (k:=1) (R:=REr A) [[aC],[aE]] [(aC,aA.2.1),(aE,aD.1)] (hS.blk 0 rfl) (DIn.cons rfl (by simp [(hS.any 4 rfl : IsE A aP aC aA.2.1).one]) ⟨rfl,(hS.any 4 rfl : IsE A aP aC aA.2.1)⟩ (DIn.cons rfl (by simp [(hS.any 2 rfl : IsE A aP aE aD.1).one]) ⟨rfl,(hS.any 2 rfl : IsE A aP aE aD.1)⟩ trivial)) rfl (by simp [maxLen])) (Tl _)) rfl ?_
          clear H;intro fG eC hv;clear a;intro a H;obtain⟨rfl,cY⟩:=hv;replace hS:=hS.ext cY
          replace hS:=hS.pk2
          replace hS:=hS.pk4
          replace hS:=(St.pickE [(aC,aA.2.1),(aE,aD.1)] rfl hS : St fp w eC [erQ A ((pickE [(aC,aA.2.1),(aE,aD.1)]).1) (Zd6 [aA.2.1,aD.1]),blkR eA [aC,aE] 39,blkR b2 [v2_0,.int .i64 aD.2.at_,.int .i64 aD.2.bound_] 248,blkR b0 [.int .i64 a0.Id,.bool a0.Mobile,v0_0,v0_1,v0_2,.int .i64 aA.1,v0_3] 27,ownR 114 2 v0_0 a0.Pages.length (a0.Pages.flatMap Zz),ownR 116 3 v0_1 a0.Procs.length (a0.Procs.flatMap Zy),ownR 118 4 v0_2 a0.Ports.length (a0.Ports.flatMap Zs),ownR 3 1 v0_3 a0.Sems.length (a0.Sems.flatMap eI)])
          refine n_q H (Zb rfl) rfl ?_;clear H a;intro a H
          refine Ze (Za (wp_ret (Zm (Zg ?_))))
          obtain rfl:=Option.some.inj hm
          replace hS:=hS.pk2
          replace hS:=hS.pk7
          replace hS:=hS.pk7
          replace hS:=hS.pk7
          replace hS:=hS.pk7
          replace hS:=hS.pk7
          replace hS:=hS.tk7
          refine Xx H (.inr rfl) rfl rfl ?_
          exact⟨_,_,_,_,_,rfl,hS⟩
        · replace hm:=Zv hm aM
          refine wp_seq (wp_region_lit (n_q H (Um rfl rfl) rfl (W_q (Zb rfl) rfl ?_)));clear H a;intro a H
          refine Ze (Za (Zl H rfl (fun aQ=>?_) (fun aQ=>?_)))
          · replace hm:=Zu hm aQ
            refine wp_seq (wp_region_lit (n_q H (Zc rfl) rfl (W_q (Zc rfl) rfl ?_)));clear H a;intro a H
            replace hS:=hS.pk5
            obtain⟨eX,bK,bL,cZ,bM⟩:=hS.frame (rs1:=[blkR b2 [v2_0,.int .i64 a2.at_,.int .i64 a2.bound_] 248])
            replace hm:=Zj hm;obtain⟨aR,dA,hm⟩:=hm
            refine Zi H rfl Zhy (Xe (A:=A) bK (a0:=(⟨a2.b_,a2.at_,a2.bound_⟩ : GWireCursor)) (fun w' hw=>ro2_b _ (bL _ hw)) dA) rfl ?_
            clear H;intro fH fI hv;clear a;intro a H;obtain⟨rfl,dB⟩:=hv
            replace hS:=bM _ _ dB;simp only [List.cons_append,List.nil_append] at hS;clear bK bL cZ bM
            obtain⟨eY,bN,aS,dC,bO⟩:=hS.frame (rs1:=[blkR b2 [v2_0,.int .i64 aR.2.at_,.int .i64 aR.2.bound_] 248])
            replace hm:=Zj hm;obtain⟨aF,dD,hm⟩:=hm
            refine Zi H rfl Zp5 (Uj (A:=A) (fun w' hw=>hG _ (aS _ hw)) bN (a0:=(⟨a2.b_,aR.2.at_,aR.2.bound_⟩ : GWireCursor)) (fun w' hw=>ro2_b _ (aS _ hw)) dD) rfl ?_
            clear H;intro fJ fK hv;clear a;intro a H;obtain⟨cM,cN,rfl,dE⟩:=hv
            replace hS:=bO _ _ dE;simp only [List.cons_append,List.nil_append] at hS;clear bN aS dC bO
            refine n_q H (Zc rfl) rfl (W_q (Zh rfl rfl) rfl (W_q (Zh rfl rfl) rfl (W_q (Zb rfl) rfl (W_q (Zb rfl) rfl ?_))));clear H a;intro a H
            refine Ze (Za (wp_seq (wp_seq (wp_region_lit (n_q H (Zc rfl) rfl ?_)))));clear H a;intro a H
            obtain⟨fL,fM,aI,eZ,e8⟩:=SlR.formV ((hS.own 1 rfl).slr rfl (fun _ _=>rfl))
            refine n_q H (Qe Tryz.underlying100 rfl aI) rfl (W_q (Zc rfl) rfl ?_);clear H a;intro a H
            refine Ze (Za (wp_block ?_))
            replace hS:=hS.pk7
            replace hS:=hS.pk7
            replace hS:=hS.pk7
            replace hS:=hS.pk7
            replace hS:=hS.pk7
            replace hS:=hS.pk6
            replace hS:=hS.pk7
            replace hm:=Zj hm;obtain⟨cO,hm,dF⟩:=hm;replace hm:=Qk hm;obtain⟨eD,hm⟩:=hm
            refine Kn (σ:=Nat × Nat × (List Int) × Value) (fun (m,aB,aG,aL)=>[(0,.pointer (some ⟨b0,0,none⟩)),(2,.pointer (some ⟨b2,0,none⟩)),(16,cN),(99,cM),(100,.int .i64 ((aF.1.length : Nat) : Int)),(101,.int .i64 ((aB : Nat) : Int))]) (fun (m,aB,aG,aL) wl=>Kq (Vm aF) m (aB,aG)=some cO ∧ St fp w wl [erQ A cN aF.2.1,ownR 5 1 cM aF.1.length (aF.1.flatMap eB),blkR b0 [.int .i64 a0.Id,.bool a0.Mobile,v0_0,v0_1,v0_2,.int .i64 a0.Events,aL] 27,ownR 114 2 v0_0 a0.Pages.length (a0.Pages.flatMap Zz),ownR 116 3 v0_1 a0.Procs.length (a0.Procs.flatMap Zy),ownR 118 4 v0_2 a0.Ports.length (a0.Ports.flatMap Zs),ownR 3 1 aL aG.length (aG.flatMap eI),blkR b2 [v2_0,.int .i64 aF.2.2.at_,.int .i64 aF.2.2.bound_] 248]) (fun (m,aB,aG,aL)=>m) (eD,0,a0.Sems,v0_3) H ⟨rfl,rfl,rfl,rfl,rfl,rfl,trivial⟩ ⟨hm,hS⟩ ?_
            clear H hS hm a;intro xx a fN H hR;obtain⟨m,aB,aG,aL⟩:=xx;simp only [ent,List.map_cons,List.map_nil] at H;(try dsimp only at hR);obtain⟨hm,hS⟩:=hR
            replace hm:=Qi hm;obtain⟨eE,fO,rfl,hm,bP⟩:=hm;try dsimp only [Vm] at hm
            refine wp_seq (wp_region_lit (n_q H (Jr (i:=aB) (j:=aF.1.length) rfl rfl) rfl ?_));clear H a;intro a H
            refine Ze (Za (wp_seq (Zl H rfl (fun aJ=>?_) (fun aJ=>?_))))
            · replace hm:=Zu hm aJ
              have eT : aB < aF.1.length:=of_decide_eq_true aJ
              refine wp_skip (Za (wp_seq (wp_block (wp_seq (wp_region_lit ?_)))))
              replace hm:=Zj hm;obtain⟨bE,aT,hm⟩:=hm
              obtain⟨eU,aV⟩:=SlR.adV ((hS.own 1 rfl).slr rfl (fun _ _=>rfl)) aI aT
              refine n_q H (Vw (i:=aB) Tryz.underlying100 sz5 rfl aI aV rfl (Zaz aT)) rfl (W_q (Zf rfl (SlR.ldOneV ((hS.own 1 rfl).slr rfl (fun _ _=>rfl)) aI aV ag5 aT rfl)) rfl (W_q (Zb rfl) rfl ?_));clear H a;intro a H
              refine Ze (Za (wp_region_lit (n_q H (Zc rfl) rfl (W_q (Zc rfl) rfl (W_q (Zt rfl) rfl (W_q (Zd rfl Gc) rfl (W_q (Zf rfl ((hS.blk 2 rfl).ld Zgn rfl)) rfl (W_q (Zc rfl) rfl (W_q (Qq (Us Tryz.underlying5 Tryz.underlying3 ⟨_,rfl⟩ rfl) (Zcq _)) rfl ?_)))))))));clear H a;intro a H
              refine Qf H Tryz.underlying25 sz3 ze3 rfl rfl rfl (cs:=[.int .i64 (bE.toNat : Int)]) (by kernel_rfl) rfl ?_
              clear H;intro fP fQ hN dG hs;clear a;intro a H
              replace hS:=hS.newBlk hN dG hs;clear hN hs
              replace hS:=hS.blkOwnL (e:=eI) (k:=1) [(bE.toNat : Int)] rfl rfl (by simp [maxLen])
              replace hS:=hS.pk7
              replace hm:=Zbm hm;obtain⟨dH,hm⟩:=hm
              refine Zcr (e:=eI) H rfl rfl Tryz.underlying25 Tryz.underlying25 (by simp) el3 (hS.own 0 rfl) (((hS.own 1 rfl).slr rfl (fun _ _=>rfl)).src (fun _ _=>rfl)) Zjy dH (by simp only [maxLen];omega) rfl ?_
              clear H;intro eG fR hN dI hb;clear a;intro a H;replace hS:=hS.setOwn hN dI hb;clear hN hb
              refine n_q H (Zt rfl) rfl (W_q (Zd rfl Gc) rfl ?_);clear H a;intro a H
              replace hS:=hS.pk4
              refine Kj H rfl rfl sz25 (hS.blk 0 rfl) (by simp) (((hS.own 1 rfl).slr rfl (fun _ _=>rfl))).one ?_
              clear H;intro fS hN dJ hz;clear a;intro a H;replace hS:=hS.setBlk hN dJ;clear hN hz
              try simp only [List.set_cons_succ,List.set_cons_zero] at hS
              refine Ze (Zo (Za (wp_region_lit (n_q H (Yn (i:=aB) (j:=1) rfl rfl (by omega)) rfl (W_q (Zc rfl) rfl ?_)))));clear H a;intro a H
              refine Ze (Za ?_)
              obtain rfl:=Option.some.inj hm
              replace hS:=hS.pk8
              replace hS:=hS.pk2
              replace hS:=hS.pk8
              replace hS:=hS.pk8
              replace hS:=hS.pk8
              replace hS:=hS.pk5
              replace hS:=hS.pk8
              replace hS:=hS.pk8
              replace hS:=hS.tk8
              exact Wv (eE,aB + 1,(aG ++ [(bE.toNat : Int)]),eG) H ⟨rfl,rfl,rfl,rfl,rfl,rfl,trivial⟩ ⟨bP,hS⟩ (Nat.lt_succ_self _)
            · replace hm:=Zv hm aJ
              refine wp_exit (Zq (Zq (Qg ?_)))
              obtain rfl:=Option.some.inj hm;have hz : _=cO:=bP;subst hz;replace hm:=dF;try dsimp only at hm
              refine Za (wp_seq (wp_region_lit (n_q H (Zc rfl) rfl (W_q (Zb rfl) rfl ?_))));clear H a;intro a H
              refine Ze (Za (wp_ret (Zm (Zg ?_))))
              obtain rfl:=Option.some.inj hm
              replace hS:=hS.pk7
              replace hS:=hS.pk7
              replace hS:=hS.pk7
              replace hS:=hS.pk7
              replace hS:=hS.pk7
              replace hS:=hS.pk7
              replace hS:=hS.tk7
              refine Xx H (.inr rfl) rfl rfl ?_
              exact⟨_,_,_,_,_,rfl,hS⟩
          · replace hm:=Zv hm aQ
            refine wp_skip (Zo (Za (wp_seq (wp_region_lit (n_q H (Zf rfl ((hG _ hS.chg).ld Zko (by decide) Ub)) rfl (W_q (Zb rfl) rfl ?_))))));clear H a;intro a H
            refine Ze (Za (wp_ret ?_))
            obtain rfl:=Option.some.inj hm
            replace hS:=hS.dVar (A:=A) (g:=Zko) (by decide)
            replace hS:=hS.pk6
            replace hS:=hS.pk6
            replace hS:=hS.pk6
            replace hS:=hS.pk6
            replace hS:=hS.pk6
            replace hS:=hS.pk6
            refine Xx H (.inr rfl) rfl rfl ?_
            exact⟨_,_,_,_,_,rfl,hS⟩
theorem Zbe {w : World} {A : Nat → Addr} {v0 : Value} {a0 : List UInt8} {v1 : Value} {a1 : List UInt8} (h0 : SlR w 1 (Zn eB) v0 a0) (h1 : SlR w 1 (Zn eB) v1 a1) {r : Bool} (hm : Xs a0 a1=some r) :
    Calls Tryz.prog 107 [v0,v1].toArray w (Ret fun u w'=>u=.bool r ∧ Ext w w'):=by
  have hS:=St.begin NB w
  unfold Xs at hm
  refine enter Tryz.func107 rfl rfl rfl ?_;intro a H;dsimp only [Qn,Nat.zero_add,Nat.reduceAdd] at H
  refine wp_seq (wp_region_lit (n_q H (Zb rfl) rfl ?_));clear H a;intro a H
  refine Ze (Za (wp_seq (wp_seq (wp_region_lit (n_q H (Zc rfl) rfl ?_)))));clear H a;intro a H
  obtain⟨aX,aY,aB,aT,aU⟩:=SlR.formV (h0.ext (Zn.mono _) hS.x)
  refine n_q H (Qe Tryz.underlying100 rfl aB) rfl (W_q (Zc rfl) rfl ?_);clear H a;intro a H
  obtain⟨aZ,a9,aC,aV,aW⟩:=SlR.formV (h1.ext (Zn.mono _) hS.x)
  refine n_q H (Qe Tryz.underlying100 rfl aC) rfl (W_q (Zcp (i:=a0.length) (j:=a1.length) rfl rfl) rfl ?_);clear H a;intro a H
  refine Ze (Za (Zl H rfl (fun aE=>?_) (fun aE=>?_)))
  · replace hm:=Zu hm aE
    refine wp_seq (wp_region_lit (n_q H (Zb rfl) rfl ?_));clear H a;intro a H
    refine Ze (Za (wp_ret (Zg ?_)))
    obtain rfl:=Option.some.inj hm
    refine Xx H (.inr rfl) rfl rfl ?_
    exact⟨rfl,hS.x⟩
  · replace hm:=Zv hm aE
    refine wp_skip (Za (wp_seq (wp_seq (wp_region_lit (n_q H (Zc rfl) rfl (W_q (Qe Tryz.underlying100 rfl aB) rfl (W_q (Zc rfl) rfl ?_)))))));clear H a;intro a H
    refine Ze (Za (wp_block ?_))
    replace hm:=Zj hm;obtain⟨aL,hm,aM⟩:=hm;replace hm:=Qk hm;obtain⟨aO,hm⟩:=hm
    refine Kn (σ:=Nat × Nat) (fun (m,aA)=>[(0,v0),(1,v1),(12,.int .i64 ((a0.length : Nat) : Int)),(13,.int .i64 ((aA : Nat) : Int))]) (fun (m,aA) wl=>Kq (Xp a0 a1) m aA=some aL ∧ St NB w wl []) (fun (m,aA)=>m) (aO,0) H ⟨rfl,rfl,rfl,rfl,trivial⟩ ⟨hm,hS⟩ ?_
    clear H hS hm a;intro xx a bA H hR;obtain⟨m,aA⟩:=xx;simp only [ent,List.map_cons,List.map_nil] at H;(try dsimp only at hR);obtain⟨hm,hS⟩:=hR
    replace hm:=Qi hm;obtain⟨aP,bB,rfl,hm,aF⟩:=hm;try dsimp only [Xp] at hm
    refine wp_seq (wp_region_lit (n_q H (Jr (i:=aA) (j:=a0.length) rfl rfl) rfl ?_));clear H a;intro a H
    refine Ze (Za (wp_seq (Zl H rfl (fun aD=>?_) (fun aD=>?_))))
    · replace hm:=Zu hm aD
      have aQ : aA < a0.length:=of_decide_eq_true aD
      refine wp_skip (Za (wp_seq (wp_block (wp_seq (wp_region_lit (n_q H (Zc rfl) rfl (W_q (Zb rfl) rfl ?_)))))));clear H a;intro a H
      refine Ze (Za (wp_seq (Wq (by kernel_rfl) (by kernel_rfl) ?_)))
      refine Xg H (Zc rfl) rfl ?_;clear H a;intro a H
      refine Xg H (Zc rfl) rfl ?_;clear H a;intro a H
      replace hm:=Zj hm;obtain⟨bC,aG,hm⟩:=hm
      obtain⟨aR,aJ⟩:=SlR.adV (h0.ext (Zn.mono _) hS.x) aB aG
      refine Xg H (Vw (i:=aA) Tryz.underlying100 sz5 rfl aB aJ rfl (Zaz aG)) rfl ?_;clear H a;intro a H
      refine Xg H (Zf rfl (SlR.ldOneV (h0.ext (Zn.mono _) hS.x) aB aJ ag5 aG rfl)) rfl ?_;clear H a;intro a H
      refine Xg H (Zc rfl) rfl ?_;clear H a;intro a H
      refine Xg H (Zc rfl) rfl ?_;clear H a;intro a H
      replace hm:=Zj hm;obtain⟨bD,aH,hm⟩:=hm
      obtain⟨aS,aK⟩:=SlR.adV (h1.ext (Zn.mono _) hS.x) aC aH
      refine Xg H (Vw (i:=aA) Tryz.underlying100 sz5 rfl aC aK rfl (Zaz aH)) rfl ?_;clear H a;intro a H
      refine Xg H (Zf rfl (SlR.ldOneV (h1.ext (Zn.mono _) hS.x) aC aK ag5 aH rfl)) rfl ?_;clear H a;intro a H
      refine Xg H (Uv rfl rfl) rfl ?_;clear H a;intro a H
      refine Hf ?_;intro bE aN
      replace hS:=hS.ext aN
      refine Za (Zl H rfl (fun aI=>?_) (fun aI=>?_))
      · replace hm:=Zu hm aI
        refine wp_seq (wp_region_lit (n_q H (Zb rfl) rfl ?_));clear H a;intro a H
        refine Ze (Za (wp_ret (Zm (Zg (Zg (Zm (Zg ?_)))))))
        obtain rfl:=Option.some.inj hm;have hz : _=aL:=aF;subst hz;replace hm:=aM;try dsimp only at hm
        obtain rfl:=Option.some.inj hm
        refine Xx H (.inr rfl) rfl rfl ?_
        exact⟨rfl,hS.x⟩
      · replace hm:=Zv hm aI
        refine wp_skip (Zo (Za (wp_region_lit (n_q H (Yn (i:=aA) (j:=1) rfl rfl (by omega)) rfl (W_q (Zc rfl) rfl ?_)))));clear H a;intro a H
        refine Ze (Za ?_)
        obtain rfl:=Option.some.inj hm
        exact Wv (aP,aA + 1) H ⟨rfl,rfl,rfl,rfl,trivial⟩ ⟨aF,hS⟩ (Nat.lt_succ_self _)
    · replace hm:=Zv hm aD
      refine wp_exit (Zq (Zq (Qg ?_)))
      obtain rfl:=Option.some.inj hm;have hz : _=aL:=aF;subst hz;replace hm:=aM;try dsimp only at hm
      refine Za (wp_seq (wp_region_lit (n_q H (Zb rfl) rfl ?_)));clear H a;intro a H
      refine Ze (Za (wp_ret ?_))
      obtain rfl:=Option.some.inj hm
      refine Xx H (.inr rfl) rfl rfl ?_
      exact⟨rfl,hS.x⟩
set_option maxHeartbeats 1000000 in
theorem Zc1 {w : World} {A : Nat → Addr} {v0 : Value} {a0 : List UInt8} (hG : EV A w) (h0 : SlR w 1 (Zn eB) v0 a0) {r : GPlan × ErrM} (hm : Xz a0=some r) :
    Calls Tryz.prog 49 [v0].toArray w (Ret fun u w'=>∃ h_0 h_1 h_2 h_3 h_4,u=.tuple #[.agg #[.int .i64 r.1.Id,.bool r.1.Mobile,h_0,h_1,h_2,.int .i64 r.1.Events,h_3],h_4] ∧ St NB w w' [ownR 114 2 h_0 r.1.Pages.length (r.1.Pages.flatMap Zz),ownR 116 3 h_1 r.1.Procs.length (r.1.Procs.flatMap Zy),ownR 118 4 h_2 r.1.Ports.length (r.1.Ports.flatMap Zs),ownR 3 1 h_3 r.1.Sems.length (r.1.Sems.flatMap eI),erQ A h_4 r.2]):=by
  have hS:=St.begin NB w
  unfold Xz at hm
  refine enter Tryz.func49 rfl rfl rfl ?_;intro a H;dsimp only [Qn,Nat.zero_add,Nat.reduceAdd] at H
  refine wp_seq (wp_region_lit (Xf H Zi3 rfl ?_))
  clear H;intro bE hY hN eZ hs;clear a;intro a H
  replace hS:=hS.newBlk hN eZ hs;clear hN hs
  refine n_q H (Zb rfl) rfl ?_;clear H a;intro a H
  refine Ze (Za (wp_seq (wp_region_lit (n_q H (Zc rfl) rfl ?_))));clear H a;intro a H
  replace hm:=Zj hm;obtain⟨bF,e8,hm⟩:=hm
  refine Zi H rfl en99 (Zh0 (A:=A) (hG.ext hS.x) (h0.ext (Zn.mono _) hS.x) e8) rfl ?_
  clear H;intro hZ aZ hv;clear a;intro a H;obtain⟨iA,dB,rfl,e9⟩:=hv
  replace hS:=hS.new e9;simp only [List.cons_append,List.nil_append] at hS
  refine n_q H (Zc rfl) rfl (W_q (Zh rfl rfl) rfl (W_q (Zh rfl rfl) rfl (W_q (Zb rfl) rfl (W_q (Zb rfl) rfl ?_))));clear H a;intro a H
  refine Ze (Za (wp_seq (wp_seq (wp_region_lit (n_q H (Zc rfl) rfl (W_q (Qq (Jh Tryz.underlying39 rfl rfl (hS.any 1 rfl : IsE A aZ dB bF.2).form) (show _=Value.bool (!decide (bF.2=.nil)) by rw [Xb.isNil (hS.any 1 rfl : IsE A aZ dB bF.2)])) rfl ?_))))));clear H a;intro a H
  refine Ze (Za (Zl H rfl (fun bS=>?_) (fun bS=>?_)))
  · replace hm:=Zu hm bS
    refine wp_seq (wp_region_lit (n_q H (Qd (cs:=[.int .i64 0,.bool false,.slice none 0 0,.slice none 0 0,.slice none 0 0,.int .i64 0,.slice none 0 0]) Zi3 Zo9 Zpa rfl (by kernel_rfl)) rfl (W_q (Zc rfl) rfl ?_)));clear H a;intro a H
    replace hS:=hS.pk2
    refine Zr H rfl rfl (vs:=[.int .i64 0,.bool false,.slice none 0 0,.slice none 0 0,.slice none 0 0,.int .i64 0,.slice none 0 0]) rfl Gh (hS.blk 0 rfl) rfl (by simp) ?_
    clear H;intro iB hN fA hz;clear a;intro a H;replace hS:=hS.setBlk hN fA;clear hN hz
    refine n_q H (Zb rfl) rfl ?_;clear H a;intro a H
    refine Ze (Za (wp_ret (Zg ?_)))
    obtain rfl:=Option.some.inj hm
    replace hS:=hS.nilOwn 114 2
    replace hS:=hS.nilOwn 116 3
    replace hS:=hS.nilOwn 118 4
    replace hS:=hS.nilOwn 3 1
    replace hS:=hS.pk4
    replace hS:=hS.pk6
    replace hS:=hS.pk2
    replace hS:=hS.pk3
    replace hS:=hS.pk4
    replace hS:=hS.pk5
    replace hS:=hS.tk6
    refine Zae H (.inr rfl) rfl (vs:=[.agg #[.int .i64 0,.bool false,.slice none 0 0,.slice none 0 0,.slice none 0 0,.int .i64 0,.slice none 0 0],dB]) (Xh rfl ((hS.blk 5 rfl).ldAll Zam Gh) (Kv rfl Xt)) ?_
    replace hS:=hS.tk5
    exact⟨_,_,_,_,_,rfl,hS⟩
  · replace hm:=Zv hm bS
    refine wp_skip (Za (wp_seq (wp_seq (wp_region_lit (n_q H (Zc rfl) rfl ?_)))));clear H a;intro a H
    obtain⟨fX,fY,bT,gJ,gK⟩:=SlR.formV ((hS.own 0 rfl).slr rfl (fun _ _=>rfl))
    refine n_q H (Qe Tryz.underlying100 rfl bT) rfl (W_q (Jr (i:=bF.1.length) (j:=15) rfl rfl) rfl ?_);clear H a;intro a H
    refine Ze (Za (Zl H rfl (fun bG=>?_) (fun bG=>?_)))
    · replace hm:=Zu hm bG
      have fZ : bF.1.length < 15:=of_decide_eq_true bG
      refine wp_seq (Tp (kB w.heap.size [] aZ.drew.heap.size) 4 (by kernel_rfl) ?_)
      obtain⟨eW,bU⟩ : ∃ x,x=aZ.drew:=⟨_,rfl⟩;rw [← bU];have fB : Ext aZ eW:=by rw [bU];exact Ext.drew' _
      clear bU
      replace hS:=hS.ext fB
      have fC:=hS.x.size
      have hW:=Nat.le_refl eW.heap.size
      refine Zk 0 H rfl (Qd (cs:=[.int .i64 0,.bool false,.slice none 0 0,.slice none 0 0,.slice none 0 0,.int .i64 0,.slice none 0 0]) Zi3 Zo9 Zpa rfl (by kernel_rfl)) rfl (by kernel_rfl) (by kernel_rfl) (by kernel_rfl) (by kernel_rfl) (fun _ _ _ h=>h) ?_;clear H a;intro a H
      refine Xu 1 H rfl (Zf rfl (LdC.old (hG.ld Yc (by decide) Ub) hS.x fC Zfv)) rfl (by kernel_rfl) (by kernel_rfl) (by kernel_rfl) (by kernel_rfl) (fun _ _ _ h=>h) ?_;clear H a;intro a H
      replace hS:=hS.pk2
      refine Qh 2 H rfl rfl rfl (vs:=[.int .i64 0,.bool false,.slice none 0 0,.slice none 0 0,.slice none 0 0,.int .i64 0,.slice none 0 0]) rfl Gh (hS.blk 0 rfl) rfl (by simp) (by kernel_rfl) (.inl (fun h=>Zcs h (hS.ge (i:=0) rfl) Uw)) ?_
      clear H;intro iC hN dC hz;clear a;intro a H;replace hS:=hS.setBlk hN dC;clear hN hz;replace hW:=Nat.le_trans hW dC.size
      refine Zk 3 H rfl (Zb rfl) rfl (by kernel_rfl) (by kernel_rfl) (by kernel_rfl) (by kernel_rfl) (fun _ _ _ h=>h) ?_;clear H a;intro a H
      refine Xk (by kernel_rfl) ?_
      refine Za (wp_ret (Zg ?_))
      obtain rfl:=Option.some.inj hm
      replace hS:=hS.nilOwn 114 2
      replace hS:=hS.nilOwn 116 3
      replace hS:=hS.nilOwn 118 4
      replace hS:=hS.nilOwn 3 1
      replace hS:=hS.dVar (A:=A) (g:=Yc) (by decide)
      replace hS:=hS.pk5
      replace hS:=hS.pk1
      replace hS:=hS.pk2
      replace hS:=hS.pk3
      replace hS:=hS.pk4
      replace hS:=hS.pk5
      replace hS:=hS.tk6
      refine Zae H (.inr rfl) rfl (vs:=[.agg #[.int .i64 0,.bool false,.slice none 0 0,.slice none 0 0,.slice none 0 0,.int .i64 0,.slice none 0 0],sv 340 A Yc]) (Xh rfl ((hS.blk 5 rfl).ldAll Zam Gh) (Kv rfl Xt)) ?_
      replace hS:=hS.tk5
      exact⟨_,_,_,_,_,rfl,hS⟩
    · replace hm:=Zv hm bG
      refine wp_skip (Za (wp_seq (wp_seq (wp_region_lit (n_q H (Zc rfl) rfl ?_)))));clear H a;intro a H
      replace hm:=Zbm hm;obtain⟨bV,hm⟩:=hm
      refine n_q H (Zco Tryz.underlying100 sz5 (show _=some (Value.slice fX bF.1.length fY) by rw [← bT];rfl) rfl bV.1 (by omega)) rfl (W_q (Ziw Tryz.underlying100 Tryz.underlying5 Tryz.underlying9 rfl (fun w' hw=>((SlR.takeV ((hS.own 0 rfl).slr rfl (fun _ _=>rfl)) bT bV.1 bV.2).ext (Zn.mono _) hw))) rfl (W_q (Zo0 rfl rfl) rfl ?_));clear H a;intro a H
      refine Ze (Za (Zl H rfl (fun bW=>?_) (fun bW=>?_)))
      · replace hm:=Zu hm bW
        refine wp_seq (Tp (kB w.heap.size [] aZ.drew.heap.size) 4 (by kernel_rfl) ?_)
        obtain⟨eX,bX⟩ : ∃ x,x=aZ.drew:=⟨_,rfl⟩;rw [← bX];have fD : Ext aZ eX:=by rw [bX];exact Ext.drew' _
        clear bX
        replace hS:=hS.ext fD
        have fE:=hS.x.size
        have hW:=Nat.le_refl eX.heap.size
        refine Zk 0 H rfl (Qd (cs:=[.int .i64 0,.bool false,.slice none 0 0,.slice none 0 0,.slice none 0 0,.int .i64 0,.slice none 0 0]) Zi3 Zo9 Zpa rfl (by kernel_rfl)) rfl (by kernel_rfl) (by kernel_rfl) (by kernel_rfl) (by kernel_rfl) (fun _ _ _ h=>h) ?_;clear H a;intro a H
        refine Xu 1 H rfl (Zf rfl (LdC.old (hG.ld Zgi (by decide) Ub) hS.x fE Zfv)) rfl (by kernel_rfl) (by kernel_rfl) (by kernel_rfl) (by kernel_rfl) (fun _ _ _ h=>h) ?_;clear H a;intro a H
        replace hS:=hS.pk2
        refine Qh 2 H rfl rfl rfl (vs:=[.int .i64 0,.bool false,.slice none 0 0,.slice none 0 0,.slice none 0 0,.int .i64 0,.slice none 0 0]) rfl Gh (hS.blk 0 rfl) rfl (by simp) (by kernel_rfl) (.inl (fun h=>Zcs h (hS.ge (i:=0) rfl) Uw)) ?_
        clear H;intro iD hN dD hz;clear a;intro a H;replace hS:=hS.setBlk hN dD;clear hN hz;replace hW:=Nat.le_trans hW dD.size
        refine Zk 3 H rfl (Zb rfl) rfl (by kernel_rfl) (by kernel_rfl) (by kernel_rfl) (by kernel_rfl) (fun _ _ _ h=>h) ?_;clear H a;intro a H
        refine Xk (by kernel_rfl) ?_
        refine Za (wp_ret (Zg ?_))
        obtain rfl:=Option.some.inj hm
        replace hS:=hS.nilOwn 114 2
        replace hS:=hS.nilOwn 116 3
        replace hS:=hS.nilOwn 118 4
        replace hS:=hS.nilOwn 3 1
        replace hS:=hS.dVar (A:=A) (g:=Zgi) (by decide)
        replace hS:=hS.pk5
        replace hS:=hS.pk1
        replace hS:=hS.pk2
        replace hS:=hS.pk3
        replace hS:=hS.pk4
        replace hS:=hS.pk5
        replace hS:=hS.tk6
        refine Zae H (.inr rfl) rfl (vs:=[.agg #[.int .i64 0,.bool false,.slice none 0 0,.slice none 0 0,.slice none 0 0,.int .i64 0,.slice none 0 0],sv 340 A Zgi]) (Xh rfl ((hS.blk 5 rfl).ldAll Zam Gh) (Kv rfl Xt)) ?_
        replace hS:=hS.tk5
        exact⟨_,_,_,_,_,rfl,hS⟩
      · replace hm:=Zv hm bW
        refine wp_skip (Za (wp_seq (wp_region_lit (n_q H (Zc rfl) rfl ?_))));clear H a;intro a H
        replace hm:=Zj hm;obtain⟨aM,fF,hm⟩:=hm
        refine Zi H rfl en100 (Zgz (A:=A) ((hS.own 0 rfl).slr rfl (fun _ _=>rfl)) fF) rfl ?_
        clear H;intro iE iF hv;clear a;intro a H;obtain⟨aP,aQ,rfl,fG⟩:=hv
        replace hS:=hS.new fG;simp only [List.cons_append,List.nil_append] at hS
        refine n_q H (Zb rfl) rfl ?_;clear H a;intro a H
        refine Ze (Za (wp_seq (wp_region_lit (n_q H (Zc rfl) rfl ?_))));clear H a;intro a H
        obtain⟨gL,dE,dF,dG,dH⟩:=hS.frame (rs1:=[blkR aP [aQ,.int .i64 aM.at_,.int .i64 aM.bound_] 248])
        replace hm:=Zj hm;obtain⟨b9,fH,hm⟩:=hm
        refine Zi H rfl Zp5 (Uj (A:=A) (fun w' hw=>hG.ext (dF _ hw).ext) dE (a0:=(⟨aM.b_,aM.at_,aM.bound_⟩ : GWireCursor)) (fun w' hw=>(Uu (dG 0 _ rfl _ hw)).slr rfl (fun _ _=>rfl)) fH) rfl ?_
        clear H;intro iG iH hv;clear a;intro a H;obtain⟨iI,iJ,rfl,fI⟩:=hv
        replace hS:=dH _ _ fI;simp only [List.cons_append,List.nil_append] at hS;clear dE dF dG dH
        refine Ze (Za (wp_seq (wp_seq (wp_region_lit (n_q H (Zc rfl) rfl ?_)))));clear H a;intro a H
        obtain⟨gM,dI,dJ,dK,dL⟩:=hS.frame (rs1:=[blkR aP [aQ,.int .i64 b9.2.2.at_,.int .i64 b9.2.2.bound_] 248])
        replace hm:=Zj hm;obtain⟨cA,fJ,hm⟩:=hm
        refine Zi H rfl Zp6 (Uk (A:=A) (fun w' hw=>hG.ext (dJ _ hw).ext) dI (a0:=(⟨aM.b_,b9.2.2.at_,b9.2.2.bound_⟩ : GWireCursor)) (fun w' hw=>(Uu (dK 2 _ rfl _ hw)).slr rfl (fun _ _=>rfl)) fJ) rfl ?_
        clear H;intro iK dM hv;clear a;intro a H;obtain⟨iL,rfl,fK⟩:=hv
        replace hS:=dL _ _ fK;simp only [List.cons_append,List.nil_append] at hS;clear dI dJ dK dL
        refine n_q H (Zc rfl) rfl (W_q (Zh rfl rfl) rfl (W_q (Zh rfl rfl) rfl (W_q (Zb rfl) rfl (W_q (Zb rfl) rfl ?_))));clear H a;intro a H
        refine Ze (Za (wp_seq (wp_region_lit (n_q H (Zc rfl) rfl (W_q (Zc rfl) rfl ?_)))));clear H a;intro a H
        obtain⟨iM,iN,fL,gN,gO⟩:=SlR.formV (h0.ext (Zn.mono _) hS.x)
        refine n_q H (Qe Tryz.underlying100 rfl fL) rfl (W_q (Uv rfl rfl) rfl ?_);clear H a;intro a H
        refine Ze (Za (Zl H rfl (fun bY=>?_) (fun bY=>?_)))
        · replace hm:=Zu hm bY
          refine wp_seq (Tp (kB w.heap.size (aP :: []) dM.drew.heap.size) 4 (by kernel_rfl) ?_)
          obtain⟨eY,bZ⟩ : ∃ x,x=dM.drew:=⟨_,rfl⟩;rw [← bZ];have fM : Ext dM eY:=by rw [bZ];exact Ext.drew' _
          clear bZ
          replace hS:=hS.ext fM
          have dN:=(hS.blk 0 rfl).lt
          have fN:=hS.x.size
          have hW:=Nat.le_refl eY.heap.size
          refine Zk 0 H rfl (Qd (cs:=[.int .i64 0,.bool false,.slice none 0 0,.slice none 0 0,.slice none 0 0,.int .i64 0,.slice none 0 0]) Zi3 Zo9 Zpa rfl (by kernel_rfl)) rfl (by kernel_rfl) (by kernel_rfl) (by kernel_rfl) (by kernel_rfl) (fun _ _ _ h=>h) ?_;clear H a;intro a H
          refine Xu 1 H rfl (Zf rfl (LdC.old (hG.ld Yu (by decide) Ub) hS.x fN Zfv)) rfl (by kernel_rfl) (by kernel_rfl) (by kernel_rfl) (by kernel_rfl) (fun _ _ _ h=>h) ?_;clear H a;intro a H
          replace hS:=hS.pk7
          refine Qh 2 H rfl rfl rfl (vs:=[.int .i64 0,.bool false,.slice none 0 0,.slice none 0 0,.slice none 0 0,.int .i64 0,.slice none 0 0]) rfl Gh (hS.blk 0 rfl) rfl (by simp) (by kernel_rfl) (.inl (fun h=>Zcs h (hS.ge (i:=0) rfl) (Jv (hS.ne (i:=0) (j:=1) (by decide) rfl rfl) Uw))) ?_
          clear H;intro iO hN dO hz;clear a;intro a H;replace hS:=hS.setBlk hN dO;clear hN hz;replace hW:=Nat.le_trans hW dO.size
          refine Zk 3 H rfl (Zb rfl) rfl (by kernel_rfl) (by kernel_rfl) (by kernel_rfl) (by kernel_rfl) (fun _ _ _ h=>h) ?_;clear H a;intro a H
          refine Xk (by kernel_rfl) ?_
          refine Za (wp_ret (Zg ?_))
          obtain rfl:=Option.some.inj hm
          replace hS:=hS.nilOwn 114 2
          replace hS:=hS.nilOwn 116 3
          replace hS:=hS.nilOwn 118 4
          replace hS:=hS.nilOwn 3 1
          replace hS:=hS.dVar (A:=A) (g:=Yu) (by decide)
          replace hS:=hS.pk5
          replace hS:=hS.pk1
          replace hS:=hS.pk2
          replace hS:=hS.pk3
          replace hS:=hS.pk4
          replace hS:=hS.pk5
          replace hS:=hS.tk6
          refine Zae H (.inr rfl) rfl (vs:=[.agg #[.int .i64 0,.bool false,.slice none 0 0,.slice none 0 0,.slice none 0 0,.int .i64 0,.slice none 0 0],sv 340 A Yu]) (Xh rfl ((hS.blk 5 rfl).ldAll Zam Gh) (Kv rfl Xt)) ?_
          replace hS:=hS.tk5
          exact⟨_,_,_,_,_,rfl,hS⟩
        · replace hm:=Zv hm bY
          refine wp_skip (Za (wp_seq (wp_region_lit (Xf H Zi3 rfl ?_))))
          clear H;intro aO gP hN d6 hs;clear a;intro a H
          replace hS:=hS.newBlk hN d6 hs;clear hN hs
          refine Ze (Za (wp_seq (wp_region_lit (n_q H (Zc rfl) rfl ?_))));clear H a;intro a H
          replace hS:=hS.pk1
          obtain⟨gA,cB,cC,cD,cF⟩:=hS.frame (rs1:=[blkR aP [aQ,.int .i64 cA.2.2.at_,.int .i64 cA.2.2.bound_] 248])
          replace hm:=Zj hm;obtain⟨bA,d7,hm⟩:=hm
          refine Zi H rfl Zp6 (Uk (A:=A) (fun w' hw=>hG.ext (cC _ hw).ext) cB (a0:=(⟨aM.b_,cA.2.2.at_,cA.2.2.bound_⟩ : GWireCursor)) (fun w' hw=>(Uu (cD 4 _ rfl _ hw)).slr rfl (fun _ _=>rfl)) d7) rfl ?_
          clear H;intro gQ gR hv;clear a;intro a H;obtain⟨gS,rfl,d8⟩:=hv
          replace hS:=cF _ _ d8;simp only [List.cons_append,List.nil_append] at hS;clear cB cC cD cF
          refine n_q H (Zc rfl) rfl (W_q (Zh rfl rfl) rfl (W_q (Zh rfl rfl) rfl (W_q (Zd rfl Zcu) rfl ?_)));clear H a;intro a H
          replace hS:=hS.pk2
          refine Kj H rfl rfl sz3 (hS.blk 0 rfl) (by simp) rfl ?_
          clear H;intro gT hN d9 hz;clear a;intro a H;replace hS:=hS.setBlk hN d9;clear hN hz
          try simp only [List.set_cons_succ,List.set_cons_zero] at hS
          refine Ze (Za (wp_seq (wp_region_lit (n_q H (Zc rfl) rfl ?_))));clear H a;intro a H
          replace hS:=hS.pk1
          obtain⟨gB,cG,cH,cI,cJ⟩:=hS.frame (rs1:=[blkR aP [aQ,.int .i64 bA.2.2.at_,.int .i64 bA.2.2.bound_] 248])
          replace hm:=Zj hm;obtain⟨bH,eA,hm⟩:=hm
          refine Zi H rfl en103 (Hi (A:=A) (fun w' hw=>hG.ext (cH _ hw).ext) cG (a0:=(⟨aM.b_,bA.2.2.at_,bA.2.2.bound_⟩ : GWireCursor)) (fun w' hw=>(Uu (cI 5 _ rfl _ hw)).slr rfl (fun _ _=>rfl)) eA) rfl ?_
          clear H;intro gU gV hv;clear a;intro a H;obtain⟨fO,rfl,eC⟩:=hv
          replace hS:=cJ _ _ eC;simp only [List.cons_append,List.nil_append] at hS;clear cG cH cI cJ
          refine n_q H (Zc rfl) rfl (W_q (Zh rfl rfl) rfl (W_q (Zh rfl rfl) rfl (W_q (Zd rfl Zj6) rfl ?_)));clear H a;intro a H
          replace hS:=hS.pk2
          refine Kj H rfl rfl sz4 (hS.blk 0 rfl) (by simp) rfl ?_
          clear H;intro gW hN eD hz;clear a;intro a H;replace hS:=hS.setBlk hN eD;clear hN hz
          try simp only [List.set_cons_succ,List.set_cons_zero] at hS
          refine n_q H (Zb rfl) rfl ?_;clear H a;intro a H
          refine Ze (Za (wp_seq (wp_block ?_)))
          replace hS:=hS.nilOwn 114 2
          replace hS:=hS.nilOwn 116 3
          replace hS:=hS.nilOwn 118 4
          replace hS:=hS.nilOwn 3 1
          replace hS:=hS.pk1
          replace hS:=hS.pk2
          replace hS:=hS.pk3
          replace hS:=hS.pk4
          replace hS:=hS.pick 11 rfl;dsimp only [List.eraseIdx] at hS
          replace hS:=hS.pk6
          replace hS:=hS.pick 14 rfl;dsimp only [List.eraseIdx] at hS
          replace hS:=hS.pk8
          replace hS:=hS.tk9
          replace hm:=Zj hm;obtain⟨dP,hm,eE⟩:=hm;replace hm:=Qk hm;obtain⟨fP,hm⟩:=hm
          refine Kn (σ:=Nat × ErrM × Int × Int × Int × Bool × (List GPagePlan) × (List GProcPlan) × (List GPortPlan) × Int × (List Int) × Value × Value × Value × Value × Value) (fun (m,aL,aR,aS,aE,aF,aA,aB,aC,aG,aD,aN,aH,aI,aJ,aK)=>[(0,v0),(2,.pointer (some ⟨bE,0,none⟩)),(5,aN),(6,.pointer (some ⟨aP,0,none⟩)),(9,.pointer (some ⟨aO,0,none⟩))]) (fun (m,aL,aR,aS,aE,aF,aA,aB,aC,aG,aD,aN,aH,aI,aJ,aK) wl=>Kq (Qo aM) m (aL,aR,aS,aE,aF,aA,aB,aC,aG,aD)=some dP ∧ St NB w wl [erQ A aN aL,blkR bE [.int .i64 0,.bool false,.slice none 0 0,.slice none 0 0,.slice none 0 0,.int .i64 0,.slice none 0 0] 27,blkR aP [aQ,.int .i64 aR,.int .i64 aS] 248,ownR 5 1 aQ aM.b_.length (aM.b_.flatMap eB),blkR aO [.int .i64 aE,.bool aF,aH,aI,aJ,.int .i64 aG,aK] 27,ownR 114 2 aH aA.length (aA.flatMap Zz),ownR 116 3 aI aB.length (aB.flatMap Zy),ownR 118 4 aJ aC.length (aC.flatMap Zs),ownR 3 1 aK aD.length (aD.flatMap eI)]) (fun (m,aL,aR,aS,aE,aF,aA,aB,aC,aG,aD,aN,aH,aI,aJ,aK)=>m) (fP,bH.2.1,bH.2.2.at_,bH.2.2.bound_,bA.1,bH.1,([] : List GPagePlan),([] : List GProcPlan),([] : List GPortPlan),0,([] : List Int),fO,.slice none 0 0,.slice none 0 0,.slice none 0 0,.slice none 0 0) H ⟨rfl,rfl,rfl,rfl,rfl,trivial⟩ ⟨hm,hS⟩ ?_
          clear H hS hm a;intro xx a dQ H hR;obtain⟨m,aL,aR,aS,aE,aF,aA,aB,aC,aG,aD,aN,aH,aI,aJ,aK⟩:=xx;simp only [ent,List.map_cons,List.map_nil] at H;(try dsimp only at hR);obtain⟨hm,hS⟩:=hR
          replace hm:=Qi hm;obtain⟨dR,fQ,rfl,hm,bI⟩:=hm;try dsimp only [Qo] at hm
          refine wp_seq ?_
          replace hm:=Zj hm;obtain⟨gX,hm,cK⟩:=hm
          refine Gw (σ:=Bool × Int × Int) H (fun (bJ,aX,aY)=>[(0,v0),(2,.pointer (some ⟨bE,0,none⟩)),(5,aN),(6,.pointer (some ⟨aP,0,none⟩)),(9,.pointer (some ⟨aO,0,none⟩)),(67,.bool bJ)]) (fun (bJ,aX,aY) wl=>(Ym aM aL aE aF aA aB aC aG aD) (bJ,aX,aY)=some fQ ∧ St NB w wl [erQ A aN aL,blkR bE [.int .i64 0,.bool false,.slice none 0 0,.slice none 0 0,.slice none 0 0,.int .i64 0,.slice none 0 0] 27,blkR aP [aQ,.int .i64 aX,.int .i64 aY] 248,ownR 5 1 aQ aM.b_.length (aM.b_.flatMap eB),blkR aO [.int .i64 aE,.bool aF,aH,aI,aJ,.int .i64 aG,aK] 27,ownR 114 2 aH aA.length (aA.flatMap Zz),ownR 116 3 aI aB.length (aB.flatMap Zy),ownR 118 4 aJ aC.length (aC.flatMap Zs),ownR 3 1 aK aD.length (aD.flatMap eI)]) ?_ ?_
          · skip
            refine wp_region_lit (n_q H (Zc rfl) rfl (W_q (Qq (Za4 Tryz.underlying39 rfl rfl (hS.any 0 rfl : IsE A dQ aN aL).form) (show _=Value.bool (decide (aL=.nil)) by rw [Xb.isNil (hS.any 0 rfl : IsE A dQ aN aL)])) rfl (W_q (Zc rfl) rfl ?_)));clear H a;intro a H
            rcases Bool.eq_false_or_eq_true (decide (aL=.nil)) with aW|aW
            · replace H:=H.know 63 rfl aW
              replace hm:=Zu hm aW
              refine Vg H rfl rfl (n_q H (Zc rfl) rfl (Qw rfl rfl ?_));clear H a;intro a H
              replace hS:=hS.pk2
              obtain⟨gC,cL,eG,cM,cN⟩:=hS.frame (rs1:=[blkR aP [aQ,.int .i64 aR,.int .i64 aS] 248])
              replace hm:=Zj hm;obtain⟨b7,eH,hm⟩:=hm
              refine Zi H rfl Zhy (Xe (A:=A) cL (a0:=(⟨aM.b_,aR,aS⟩ : GWireCursor)) (fun w' hw=>(Uu (cM 2 _ rfl _ hw)).slr rfl (fun _ _=>rfl)) eH) rfl ?_
              clear H;intro gY gZ hv;clear a;intro a H;obtain⟨rfl,eJ⟩:=hv
              replace hS:=cN _ _ eJ;simp only [List.cons_append,List.nil_append] at hS;clear cL eG cM cN
              refine Vg H rfl rfl (n_q H (Gv rfl rfl) rfl (W_q (Zx rfl rfl) rfl ?_));clear H a;intro a H
              refine Ze (Za ?_)
              obtain rfl:=Option.some.inj hm;replace hm:=cK;try dsimp only at hm
              replace hS:=hS.pk8
              replace hS:=hS.pk8
              replace hS:=hS.pk8
              replace hS:=hS.pk8
              replace hS:=hS.pk8
              replace hS:=hS.pk8
              replace hS:=hS.pk6
              replace hS:=hS.pk8
              replace hS:=hS.pk8
              exact Wb (decide (0 < b7.1),b7.2.at_,b7.2.bound_) H ⟨rfl,rfl,rfl,rfl,rfl,rfl,trivial⟩ ⟨hm,hS⟩
            · replace H:=H.know 63 rfl aW
              replace hm:=Zv hm aW
              refine Ts H rfl rfl (by decide) rfl (Qc rfl rfl (by decide) rfl (Qc rfl rfl (by decide) rfl (W_q (Xj rfl rfl) rfl ?_)));clear H a;intro a H
              refine Ze (Za ?_)
              obtain rfl:=Option.some.inj hm;replace hm:=cK;try dsimp only at hm
              exact Wb (false,aR,aS) H ⟨rfl,rfl,rfl,rfl,rfl,rfl,trivial⟩ ⟨hm,hS⟩
          · clear H hS hm a;intro xx a bB H hR
            obtain⟨bJ,aX,aY⟩:=xx
            simp only [ent,List.map_cons,List.map_nil] at H;(try dsimp only at hR);obtain⟨hm,hS⟩:=hR;try dsimp only [Ym] at hm
            refine Zl H rfl (fun bK=>?_) (fun bK=>?_)
            · replace hm:=Zu hm bK
              refine wp_skip (Za (wp_block (wp_seq (wp_region_lit (n_q H (Zb rfl) rfl ?_)))));clear H a;intro a H
              refine Ze (Za (wp_seq (wp_region_lit (n_q H (Zb rfl) rfl ?_))));clear H a;intro a H
              refine Ze (Za (wp_seq (wp_region_lit (n_q H (Zc rfl) rfl ?_))));clear H a;intro a H
              replace hS:=hS.pk2
              obtain⟨gD,cO,cP,cQ,cR⟩:=hS.frame (rs1:=[blkR aP [aQ,.int .i64 aX,.int .i64 aY] 248])
              replace hm:=Zj hm;obtain⟨aT,eK,hm⟩:=hm
              refine Zi H rfl en105 (Zbq (A:=A) (fun w' hw=>hG.ext (cP _ hw).ext) cO (a0:=(⟨aM.b_,aX,aY⟩ : GWireCursor)) (fun w' hw=>(Uu (cQ 2 _ rfl _ hw)).slr rfl (fun _ _=>rfl)) eK) rfl ?_
              clear H;intro g6 dS hv;clear a;intro a H;obtain⟨g7,b8,rfl,eL⟩:=hv
              replace hS:=cR _ _ eL;simp only [List.cons_append,List.nil_append] at hS;clear cO cP cQ cR
              refine n_q H (Zc rfl) rfl (W_q (Zh rfl rfl) rfl (W_q (Zh rfl rfl) rfl (W_q (Zh rfl rfl) rfl (W_q (Zb rfl) rfl (W_q (Zb rfl) rfl (W_q (Zb rfl) rfl ?_))))));clear H a;intro a H
              refine Ze (Za (wp_seq (wp_region_lit (n_q H (Zc rfl) rfl (W_q (Qq (Za4 Tryz.underlying39 rfl rfl (hS.any 2 rfl : IsE A dS b8 aT.2.2.1).form) (show _=Value.bool (decide (aT.2.2.1=.nil)) by rw [Xb.isNil (hS.any 2 rfl : IsE A dS b8 aT.2.2.1)])) rfl ?_)))));clear H a;intro a H
              refine Ze (Za (Zl H rfl (fun bL=>?_) (fun bL=>?_)))
              · replace hm:=Zu hm bL
                refine wp_region_lit (n_q H (Zc rfl) rfl (W_q (Zc rfl) rfl ?_));clear H a;intro a H
                replace hm:=Zj hm;obtain⟨bM,eM,hm⟩:=hm
                replace hS:=hS.pk1
                obtain⟨fR,hv,hS'⟩:=St.optOpen eM hS;clear hS;subst hv;have hS:=hS';clear hS';try dsimp only at hS
                replace hS:=hS.pk10
                replace hS:=hS.pk10
                replace hS:=hS.pk10
                replace hS:=hS.pk10
                replace hS:=hS.pk10
                obtain⟨gE,cT,cU,cV,cW⟩:=hS.frame (rs1:=[blkR aO [.int .i64 aE,.bool aF,aH,aI,aJ,.int .i64 aG,aK] 27,ownR 114 2 aH aA.length (aA.flatMap Zz),ownR 116 3 aI aB.length (aB.flatMap Zy),ownR 118 4 aJ aC.length (aC.flatMap Zs),ownR 3 1 aK aD.length (aD.flatMap eI),blkR fR [aQ,.int .i64 bM.at_,.int .i64 bM.bound_] 248])
                replace hm:=Zj hm;obtain⟨aU,eN,hm⟩:=hm
                refine Zi H rfl en106 (Zh1 (A:=A) (fun w' hw=>hG.ext (cU _ hw).ext) cT (a2:=(⟨aM.b_,bM.at_,bM.bound_⟩ : GWireCursor)) (fun w' hw=>(Uu (cV 4 _ rfl _ hw)).slr rfl (fun _ _=>rfl)) eN) rfl ?_
                clear H;intro fS g8 hv;clear a;intro a H;obtain⟨_,fT,fU,fV,fW,rfl,eO⟩:=hv
                replace hS:=cW _ _ eO;simp only [List.cons_append,List.nil_append] at hS;clear cT cU cV cW
                refine n_q H (Zb rfl) rfl ?_;clear H a;intro a H
                refine Ze (Zo (Za ?_))
                obtain rfl:=Option.some.inj hm
                replace hS:=hS.pk4
                replace hS:=hS.pk4
                replace hS:=hS.pk4
                replace hS:=hS.pk4
                replace hS:=hS.pk4
                replace hS:=hS.pick 11 rfl;dsimp only [List.eraseIdx] at hS
                replace hS:=hS.pk8
                replace hS:=hS.pick 11 rfl;dsimp only [List.eraseIdx] at hS
                replace hS:=hS.pk9
                replace hS:=hS.tk9
                exact Wv (dR,aU.1,aT.2.2.2.at_,aT.2.2.2.bound_,aU.2.1.Id,aU.2.1.Mobile,aU.2.1.Pages,aU.2.1.Procs,aU.2.1.Ports,aU.2.1.Events,aU.2.1.Sems,fS,fT,fU,fV,fW) H ⟨rfl,rfl,rfl,rfl,rfl,trivial⟩ ⟨bI,hS⟩ (Nat.lt_succ_self _)
              · replace hm:=Zv hm bL
                refine wp_skip (Zo (Za ?_))
                obtain rfl:=Option.some.inj hm
                replace hS:=hS.pk10
                replace hS:=hS.pk10
                replace hS:=hS.pk10
                replace hS:=hS.pk10
                replace hS:=hS.pk10
                replace hS:=hS.pk10
                replace hS:=hS.pk6
                replace hS:=hS.pk10
                replace hS:=hS.pk9
                replace hS:=hS.tk9
                exact Wv (dR,aT.2.2.1,aT.2.2.2.at_,aT.2.2.2.bound_,aE,aF,aA,aB,aC,aG,aD,b8,aH,aI,aJ,aK) H ⟨rfl,rfl,rfl,rfl,rfl,trivial⟩ ⟨bI,hS⟩ (Nat.lt_succ_self _)
            · replace hm:=Zv hm bK
              refine wp_exit (Zq (Zq (Qg ?_)))
              obtain rfl:=Option.some.inj hm;have hz : _=dP:=bI;subst hz;replace hm:=eE;try dsimp only at hm
              refine Za (wp_seq (wp_seq (wp_region_lit (n_q H (Zc rfl) rfl (W_q (Qq (Jh Tryz.underlying39 rfl rfl (hS.any 0 rfl : IsE A bB aN aL).form) (show _=Value.bool (!decide (aL=.nil)) by rw [Xb.isNil (hS.any 0 rfl : IsE A bB aN aL)])) rfl ?_)))));clear H a;intro a H
              refine Ze (Za (Zl H rfl (fun bN=>?_) (fun bN=>?_)))
              · replace hm:=Zu hm bN
                refine wp_seq (Tp (kB w.heap.size (aP :: (aO :: [])) bB.drew.heap.size) 4 (by kernel_rfl) ?_)
                obtain⟨dT,bO⟩ : ∃ x,x=bB.drew:=⟨_,rfl⟩;rw [← bO];have eP : Ext bB dT:=by rw [bO];exact Ext.drew' _
                clear bO
                replace hS:=hS.ext eP
                have dN:=(hS.blk 2 rfl).lt
                have dA:=(hS.blk 4 rfl).lt
                have eQ:=hS.x.size
                have hW:=Nat.le_refl dT.heap.size
                refine Zk 0 H rfl (Qd (cs:=[.int .i64 0,.bool false,.slice none 0 0,.slice none 0 0,.slice none 0 0,.int .i64 0,.slice none 0 0]) Zi3 Zo9 Zpa rfl (by kernel_rfl)) rfl (by kernel_rfl) (by kernel_rfl) (by kernel_rfl) (by kernel_rfl) (fun _ _ _ h=>h) ?_;clear H a;intro a H
                refine Xu 1 H rfl (Zf rfl (LdC.old (hG.ld Gf (by decide) Ub) hS.x eQ Zfv)) rfl (by kernel_rfl) (by kernel_rfl) (by kernel_rfl) (by kernel_rfl) (fun _ _ _ h=>h) ?_;clear H a;intro a H
                replace hS:=hS.pk1
                refine Qh 2 H rfl rfl rfl (vs:=[.int .i64 0,.bool false,.slice none 0 0,.slice none 0 0,.slice none 0 0,.int .i64 0,.slice none 0 0]) rfl Gh (hS.blk 0 rfl) rfl (by simp) (by kernel_rfl) (.inl (fun h=>Zcs h (hS.ge (i:=0) rfl) (Jv (hS.ne (i:=0) (j:=2) (by decide) rfl rfl) (Jv (hS.ne (i:=0) (j:=4) (by decide) rfl rfl) Uw)))) ?_
                clear H;intro g9 hN cX hz;clear a;intro a H;replace hS:=hS.setBlk hN cX;clear hN hz;replace hW:=Nat.le_trans hW cX.size
                refine Zk 3 H rfl (Zb rfl) rfl (by kernel_rfl) (by kernel_rfl) (by kernel_rfl) (by kernel_rfl) (fun _ _ _ h=>h) ?_;clear H a;intro a H
                refine Xk (by kernel_rfl) ?_
                refine Za (wp_ret (Zg ?_))
                obtain rfl:=Option.some.inj hm
                replace hS:=hS.nilOwn 114 2
                replace hS:=hS.nilOwn 116 3
                replace hS:=hS.nilOwn 118 4
                replace hS:=hS.nilOwn 3 1
                replace hS:=hS.dVar (A:=A) (g:=Gf) (by decide)
                replace hS:=hS.pk5
                replace hS:=hS.pk1
                replace hS:=hS.pk2
                replace hS:=hS.pk3
                replace hS:=hS.pk4
                replace hS:=hS.pk5
                replace hS:=hS.tk6
                refine Zae H (.inr rfl) rfl (vs:=[.agg #[.int .i64 0,.bool false,.slice none 0 0,.slice none 0 0,.slice none 0 0,.int .i64 0,.slice none 0 0],sv 340 A Gf]) (Xh rfl ((hS.blk 5 rfl).ldAll Zam Gh) (Kv rfl Xt)) ?_
                replace hS:=hS.tk5
                exact⟨_,_,_,_,_,rfl,hS⟩
              · replace hm:=Zv hm bN
                refine wp_skip (Za (wp_seq (wp_seq (wp_region_lit (n_q H (Zf rfl ((hS.blk 4 rfl).ldAll Zam Gh)) rfl ?_)))));clear H a;intro a H
                replace hm:=Zj hm;obtain⟨bP,eT,hm⟩:=hm
                refine Zi H rfl en47 (Wz (A:=A) (hG.ext hS.x) (⟨_,_,_,_,rfl,((hS.own 5 rfl).slr rfl (fun _ _=>rfl)),((hS.own 6 rfl).slr rfl (fun _ _=>rfl)),((hS.own 7 rfl).slr rfl (fun _ _=>rfl)),((hS.own 8 rfl).slr rfl (fun _ _=>rfl))⟩ : Qs _ [.int .i64 aE,.bool aF,aH,aI,aJ,.int .i64 aG,aK] (⟨aE,aF,aA,aB,aC,aG,aD⟩ : GPlan)) eT) rfl ?_
                clear H;intro hJ dU hv;clear a;intro a H;obtain⟨hM,dV,rfl,eU⟩:=hv
                replace hS:=hS.new eU;simp only [List.cons_append,List.nil_append] at hS
                refine n_q H (Zc rfl) rfl (W_q (Zh rfl rfl) rfl (W_q (Zh rfl rfl) rfl (W_q (Zb rfl) rfl (W_q (Zb rfl) rfl ?_))));clear H a;intro a H
                refine Ze (Za ?_)
                replace hm:=Zj hm;obtain⟨hU,hm,cY⟩:=hm
                refine Gw (σ:=Bool) H (fun a9=>[(2,.pointer (some ⟨bE,0,none⟩)),(9,.pointer (some ⟨aO,0,none⟩)),(95,.bool a9)]) (fun a9 wl=>(Ko aE aF aA aB aC aG aD) a9=some r ∧ St NB w wl [blkR bE [.int .i64 0,.bool false,.slice none 0 0,.slice none 0 0,.slice none 0 0,.int .i64 0,.slice none 0 0] 27,blkR aO [.int .i64 aE,.bool aF,aH,aI,aJ,.int .i64 aG,aK] 27,ownR 114 2 aH aA.length (aA.flatMap Zz),ownR 116 3 aI aB.length (aB.flatMap Zy),ownR 118 4 aJ aC.length (aC.flatMap Zs),ownR 3 1 aK aD.length (aD.flatMap eI)]) ?_ ?_
                · skip
                  refine wp_region_lit (n_q H (Zc rfl) rfl (W_q (Qq (Jh Tryz.underlying39 rfl rfl (hS.any 1 rfl : IsE A dU dV bP.2).form) (show _=Value.bool (!decide (bP.2=.nil)) by rw [Xb.isNil (hS.any 1 rfl : IsE A dU dV bP.2)])) rfl (W_q (Zc rfl) rfl ?_)));clear H a;intro a H
                  rcases Bool.eq_false_or_eq_true (!decide (bP.2=.nil)) with aV|aV
                  · replace H:=H.know 90 rfl aV
                    replace hm:=Zu hm aV
                    refine Ts H rfl rfl (by decide) rfl (Qc rfl rfl (by decide) rfl (Qc rfl rfl (by decide) rfl (Qc rfl rfl (by decide) rfl (W_q (Zx rfl rfl) rfl ?_))));clear H a;intro a H
                    refine Ze (Za ?_)
                    obtain rfl:=Option.some.inj hm;replace hm:=cY;try dsimp only at hm
                    replace hS:=hS.pk10
                    replace hS:=hS.pk10
                    replace hS:=hS.pk10
                    replace hS:=hS.pk10
                    replace hS:=hS.pk10
                    replace hS:=hS.pk8
                    replace hS:=hS.tk6
                    exact Wb true H ⟨rfl,rfl,rfl,trivial⟩ ⟨hm,hS⟩
                  · replace H:=H.know 90 rfl aV
                    replace hm:=Zv hm aV
                    refine Vg H rfl rfl (n_q H (Zc rfl) rfl (Qw rfl rfl (W_q (Zc rfl) rfl (Qw rfl rfl ?_))));clear H a;intro a H
                    replace hm:=Zj hm;obtain⟨eV,dW,hm⟩:=hm
                    refine Zi H rfl en107 (Zbe (A:=A) ((hS.own 0 rfl).slr rfl (fun _ _=>rfl)) (h0.ext (Zn.mono _) hS.x) dW) rfl ?_
                    clear H;intro gF gG hv;clear a;intro a H;obtain⟨rfl,dX⟩:=hv
                    replace hS:=hS.ext dX
                    refine Vg H rfl rfl (n_q H (Zhe rfl) rfl (W_q (Xj rfl rfl) rfl ?_));clear H a;intro a H
                    refine Ze (Za ?_)
                    obtain rfl:=Option.some.inj hm;replace hm:=cY;try dsimp only at hm
                    replace hS:=hS.pk10
                    replace hS:=hS.pk10
                    replace hS:=hS.pk10
                    replace hS:=hS.pk10
                    replace hS:=hS.pk10
                    replace hS:=hS.pk8
                    replace hS:=hS.tk6
                    exact Wb (!eV) H ⟨rfl,rfl,rfl,trivial⟩ ⟨hm,hS⟩
                · clear H hS hm a;intro a9 a bQ H hR
                  simp only [ent,List.map_cons,List.map_nil] at H;(try dsimp only at hR);obtain⟨hm,hS⟩:=hR;try dsimp only [Ko] at hm
                  refine Zl H rfl (fun bC=>?_) (fun bC=>?_)
                  · replace hm:=Zu hm bC
                    refine wp_seq (Tp (kB w.heap.size (aO :: []) bQ.drew.heap.size) 4 (by kernel_rfl) ?_)
                    obtain⟨cZ,bD⟩ : ∃ x,x=bQ.drew:=⟨_,rfl⟩;rw [← bD];have dY : Ext bQ cZ:=by rw [bD];exact Ext.drew' _
                    clear bD
                    replace hS:=hS.ext dY
                    have dA:=(hS.blk 1 rfl).lt
                    have dZ:=hS.x.size
                    have hW:=Nat.le_refl cZ.heap.size
                    refine Zk 0 H rfl (Qd (cs:=[.int .i64 0,.bool false,.slice none 0 0,.slice none 0 0,.slice none 0 0,.int .i64 0,.slice none 0 0]) Zi3 Zo9 Zpa rfl (by kernel_rfl)) rfl (by kernel_rfl) (by kernel_rfl) (by kernel_rfl) (by kernel_rfl) (fun _ _ _ h=>h) ?_;clear H a;intro a H
                    refine Xu 1 H rfl (Zf rfl (LdC.old (hG.ld Gf (by decide) Ub) hS.x dZ Zfv)) rfl (by kernel_rfl) (by kernel_rfl) (by kernel_rfl) (by kernel_rfl) (fun _ _ _ h=>h) ?_;clear H a;intro a H
                    refine Qh 2 H rfl rfl rfl (vs:=[.int .i64 0,.bool false,.slice none 0 0,.slice none 0 0,.slice none 0 0,.int .i64 0,.slice none 0 0]) rfl Gh (hS.blk 0 rfl) rfl (by simp) (by kernel_rfl) (.inl (fun h=>Zcs h (hS.ge (i:=0) rfl) (Jv (hS.ne (i:=0) (j:=1) (by decide) rfl rfl) Uw))) ?_
                    clear H;intro gH hN bR hz;clear a;intro a H;replace hS:=hS.setBlk hN bR;clear hN hz;replace hW:=Nat.le_trans hW bR.size
                    refine Zk 3 H rfl (Zb rfl) rfl (by kernel_rfl) (by kernel_rfl) (by kernel_rfl) (by kernel_rfl) (fun _ _ _ h=>h) ?_;clear H a;intro a H
                    refine Xk (by kernel_rfl) ?_
                    refine Za (wp_ret (Zg ?_))
                    obtain rfl:=Option.some.inj hm
                    replace hS:=hS.nilOwn 114 2
                    replace hS:=hS.nilOwn 116 3
                    replace hS:=hS.nilOwn 118 4
                    replace hS:=hS.nilOwn 3 1
                    replace hS:=hS.dVar (A:=A) (g:=Gf) (by decide)
                    replace hS:=hS.pk5
                    replace hS:=hS.pk1
                    replace hS:=hS.pk2
                    replace hS:=hS.pk3
                    replace hS:=hS.pk4
                    replace hS:=hS.pk5
                    replace hS:=hS.tk6
                    refine Zae H (.inr rfl) rfl (vs:=[.agg #[.int .i64 0,.bool false,.slice none 0 0,.slice none 0 0,.slice none 0 0,.int .i64 0,.slice none 0 0],sv 340 A Gf]) (Xh rfl ((hS.blk 5 rfl).ldAll Zam Gh) (Kv rfl Xt)) ?_
                    replace hS:=hS.tk5
                    exact⟨_,_,_,_,_,rfl,hS⟩
                  · replace hm:=Zv hm bC
                    refine wp_skip (Za (wp_seq (wp_region_lit (n_q H (Zf rfl ((hS.blk 1 rfl).ldAll Zam Gh)) rfl ?_))));clear H a;intro a H
                    refine Zr H rfl rfl (vs:=[.int .i64 aE,.bool aF,aH,aI,aJ,.int .i64 aG,aK]) rfl Gh (hS.blk 0 rfl) rfl (by simp [(((hS.own 2 rfl).slr rfl (fun _ _=>rfl))).one,(((hS.own 3 rfl).slr rfl (fun _ _=>rfl))).one,(((hS.own 4 rfl).slr rfl (fun _ _=>rfl))).one,(((hS.own 5 rfl).slr rfl (fun _ _=>rfl))).one]) ?_
                    clear H;intro gI hN d5 hz;clear a;intro a H;replace hS:=hS.setBlk hN d5;clear hN hz
                    refine n_q H (Zb rfl) rfl ?_;clear H a;intro a H
                    refine Ze (Za (wp_ret ?_))
                    obtain rfl:=Option.some.inj hm
                    replace hS:=hS.dNil (A:=A)
                    replace hS:=hS.pk1
                    replace hS:=hS.pk1
                    replace hS:=hS.pk6
                    replace hS:=hS.pk6
                    replace hS:=hS.pk6
                    replace hS:=hS.pk6
                    replace hS:=hS.tk6
                    refine Zae H (.inr rfl) rfl (vs:=[.agg #[.int .i64 aE,.bool aF,aH,aI,aJ,.int .i64 aG,aK],.nilIface]) (Xh rfl ((hS.blk 5 rfl).ldAll Zam Gh) (Kv rfl Xt)) ?_
                    replace hS:=hS.tk5
                    exact⟨_,_,_,_,_,rfl,hS⟩
end Go.Proofs.YtfemfiiagjnhdaaGreatDoor
