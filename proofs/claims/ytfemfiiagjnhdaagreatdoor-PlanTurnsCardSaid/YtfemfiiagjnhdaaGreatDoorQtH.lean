/- Part of a claim, shortened by a program from its texts: PtT1. -/
import Derived.Test.YtfemfiiagjnhdaaGreatDoorQtG
set_option linter.unusedVariables false
set_option linter.unusedSimpArgs false
set_option maxRecDepth 10000
namespace Go.Proofs.YtfemfiiagjnhdaaGreatDoor
open Go Go.RowKit
theorem en14 : Zp Tryz.prog 14=true:=by kernel_rfl
theorem en33 : Zp Tryz.prog 33=true:=by kernel_rfl
theorem en45 : Zp Tryz.prog 45=true:=by kernel_rfl
theorem en49 : Zp Tryz.prog 49=true:=by kernel_rfl
theorem en55 : Zp Tryz.prog 55=true:=by kernel_rfl
theorem en62 : Zp Tryz.prog 62=true:=by kernel_rfl
theorem Zg2 : Za2 Tryz.prog 103 0=some 0:=by kernel_rfl
theorem Zl9 : Za2 Tryz.prog 103 2=some 14:=by kernel_rfl
theorem Zd3 {w : World} {A : Nat → Addr} {cs0 : List Value} {a0 : GPlan} {cs1 : List Value} {a1 : GPlan} (h0 : Qs w cs0 a0) (h1 : Qs w cs1 a1) {r : Bool} (hm : Vu a0 a1=some r) :
    Calls Tryz.prog 55 [.agg cs0.toArray,.agg cs1.toArray].toArray w (Ret fun u w'=>u=.bool r ∧ Ext w w'):=by
  obtain⟨aE,aF,aG,aH,rfl,aO,aP,aQ,aR⟩:=h0
  obtain⟨aI,aJ,aK,aL,rfl,aS,aT,aU,aV⟩:=h1
  have hS:=St.begin NB w
  unfold Vu at hm
  refine enter Tryz.func55 rfl rfl rfl ?_;intro a H;dsimp only [Qn,Nat.zero_add,Nat.reduceAdd] at H
  refine wp_seq (wp_region_lit (Wi H rfl (cs:=[.int .i64 a0.Id,.bool a0.Mobile,aE,aF,aG,.int .i64 a0.Events,aH]) rfl rfl ?_))
  clear H;intro aM eG hN cM hs;clear a;intro a H
  replace hS:=hS.newBlk hN cM hs;clear hN hs
  refine Wi H rfl (cs:=[.int .i64 a1.Id,.bool a1.Mobile,aI,aJ,aK,.int .i64 a1.Events,aL]) rfl rfl ?_
  clear H;intro aN eH hN cN hs;clear a;intro a H
  replace hS:=hS.newBlk hN cN hs;clear hN hs
  refine n_q H (Zb rfl) rfl ?_;clear H a;intro a H
  refine Ze (Za (wp_seq (wp_seq (wp_region_lit (n_c H (fun HC=>?_))))));clear H
  refine Hx HC (Zd rfl Zcu) rfl (by kernel_rfl) (V_q (Zf rfl ((hS.blk 1 rfl).ld ag3 rfl)) rfl (by kernel_rfl) (V_q (Zd rfl Zcu) rfl (by kernel_rfl) (V_q (Zf rfl ((hS.blk 0 rfl).ld ag3 rfl)) rfl (by kernel_rfl) (V_q (Uv rfl rfl) rfl (by kernel_rfl) (V_q (Zc rfl) rfl (by kernel_rfl) (V_g (Zd rfl Zj6) (by kernel_rfl) (by kernel_rfl) (by kernel_rfl) (V_g (Zf rfl ((hS.blk 1 rfl).ld ag4 rfl)) (by kernel_rfl) (by kernel_rfl) (by kernel_rfl) (V_g (Zd rfl Zj6) (by kernel_rfl) (by kernel_rfl) (by kernel_rfl) (V_g (Zf rfl ((hS.blk 0 rfl).ld ag4 rfl)) (by kernel_rfl) (by kernel_rfl) (by kernel_rfl) (V_g (q_neqB Tryz.underlying4 rfl rfl) (by kernel_rfl) (by kernel_rfl) (by kernel_rfl) (Zdd (j:=5) rfl rfl rfl (by kernel_rfl) (by kernel_rfl) ?_)))))))))));clear HC a;intro a HC
  refine Hx HC (Zc rfl) rfl (by kernel_rfl) (V_g (Zd rfl Zbb) (by kernel_rfl) (by kernel_rfl) (by kernel_rfl) (V_g (Zf rfl ((hS.blk 1 rfl).ld ag3 rfl)) (by kernel_rfl) (by kernel_rfl) (by kernel_rfl) (V_g (Zd rfl Zbb) (by kernel_rfl) (by kernel_rfl) (by kernel_rfl) (V_g (Zf rfl ((hS.blk 0 rfl).ld ag3 rfl)) (by kernel_rfl) (by kernel_rfl) (by kernel_rfl) (V_g (Uv rfl rfl) (by kernel_rfl) (by kernel_rfl) (by kernel_rfl) (Zdd (j:=12) rfl rfl rfl (by kernel_rfl) (by kernel_rfl) (V_q (Zc rfl) rfl (by kernel_rfl) (V_g (Zd rfl Vz) (by kernel_rfl) (by kernel_rfl) (by kernel_rfl) (V_g (Zf rfl ((hS.blk 1 rfl).ld Zfb rfl)) (by kernel_rfl) (by kernel_rfl) (by kernel_rfl) ?_)))))))));clear HC a;intro a HC
  obtain⟨eJ,eK,aW,dT,dU⟩:=SlR.formV (aO.ext (Zn.mono _) hS.x)
  refine Zde HC (Qe Tryz.underlying22 rfl aW) (by kernel_rfl) (by kernel_rfl) (by kernel_rfl) (V_g (Zd rfl Vz) (by kernel_rfl) (by kernel_rfl) (by kernel_rfl) (V_g (Zf rfl ((hS.blk 0 rfl).ld Zfb rfl)) (by kernel_rfl) (by kernel_rfl) (by kernel_rfl) ?_));clear HC a;intro a HC
  obtain⟨eL,eM,a9,dV,dW⟩:=SlR.formV (aS.ext (Zn.mono _) hS.x)
  refine Zde HC (Qe Tryz.underlying22 rfl a9) (by kernel_rfl) (by kernel_rfl) (by kernel_rfl) (V_g (Zcp (i:=a0.Pages.length) (j:=a1.Pages.length) rfl rfl) (by kernel_rfl) (by kernel_rfl) (by kernel_rfl) (Zdd (j:=19) rfl rfl rfl (by kernel_rfl) (by kernel_rfl) (V_q (Zc rfl) rfl (by kernel_rfl) (V_g (Zd rfl Wx) (by kernel_rfl) (by kernel_rfl) (by kernel_rfl) (V_g (Zf rfl ((hS.blk 1 rfl).ld Zgm rfl)) (by kernel_rfl) (by kernel_rfl) (by kernel_rfl) ?_)))));clear HC a;intro a HC
  obtain⟨eN,eO,aX,dX,dY⟩:=SlR.formV (aP.ext (Zn.mono _) hS.x)
  refine Zde HC (Qe Tryz.underlying23 rfl aX) (by kernel_rfl) (by kernel_rfl) (by kernel_rfl) (V_g (Zd rfl Wx) (by kernel_rfl) (by kernel_rfl) (by kernel_rfl) (V_g (Zf rfl ((hS.blk 0 rfl).ld Zgm rfl)) (by kernel_rfl) (by kernel_rfl) (by kernel_rfl) ?_));clear HC a;intro a HC
  obtain⟨eP,eQ,bA,dZ,d5⟩:=SlR.formV (aT.ext (Zn.mono _) hS.x)
  refine Zde HC (Qe Tryz.underlying23 rfl bA) (by kernel_rfl) (by kernel_rfl) (by kernel_rfl) (V_g (Zcp (i:=a0.Procs.length) (j:=a1.Procs.length) rfl rfl) (by kernel_rfl) (by kernel_rfl) (by kernel_rfl) (Zdd (j:=28) rfl rfl rfl (by kernel_rfl) (by kernel_rfl) (V_q (Zc rfl) rfl (by kernel_rfl) (V_g (Zd rfl Gb) (by kernel_rfl) (by kernel_rfl) (by kernel_rfl) (V_g (Zf rfl ((hS.blk 1 rfl).ld Zhr rfl)) (by kernel_rfl) (by kernel_rfl) (by kernel_rfl) ?_)))));clear HC a;intro a HC
  obtain⟨eT,eU,aY,d6,d7⟩:=SlR.formV (aQ.ext (Zn.mono _) hS.x)
  refine Zde HC (Qe Tryz.underlying24 rfl aY) (by kernel_rfl) (by kernel_rfl) (by kernel_rfl) (V_g (Zd rfl Gb) (by kernel_rfl) (by kernel_rfl) (by kernel_rfl) (V_g (Zf rfl ((hS.blk 0 rfl).ld Zhr rfl)) (by kernel_rfl) (by kernel_rfl) (by kernel_rfl) ?_));clear HC a;intro a HC
  obtain⟨eV,eW,bB,d8,d9⟩:=SlR.formV (aU.ext (Zn.mono _) hS.x)
  refine Zde HC (Qe Tryz.underlying24 rfl bB) (by kernel_rfl) (by kernel_rfl) (by kernel_rfl) (V_g (Zcp (i:=a0.Ports.length) (j:=a1.Ports.length) rfl rfl) (by kernel_rfl) (by kernel_rfl) (by kernel_rfl) (Zdd (j:=37) rfl rfl rfl (by kernel_rfl) (by kernel_rfl) (V_q (Zc rfl) rfl (by kernel_rfl) (V_g (Zd rfl Gc) (by kernel_rfl) (by kernel_rfl) (by kernel_rfl) (V_g (Zf rfl ((hS.blk 1 rfl).ld Zgn rfl)) (by kernel_rfl) (by kernel_rfl) (by kernel_rfl) ?_)))));clear HC a;intro a HC
  obtain⟨eX,eY,aZ,eA,eC⟩:=SlR.formV (aR.ext (Zn.mono _) hS.x)
  refine Zde HC (Qe Tryz.underlying25 rfl aZ) (by kernel_rfl) (by kernel_rfl) (by kernel_rfl) (V_g (Zd rfl Gc) (by kernel_rfl) (by kernel_rfl) (by kernel_rfl) (V_g (Zf rfl ((hS.blk 0 rfl).ld Zgn rfl)) (by kernel_rfl) (by kernel_rfl) (by kernel_rfl) ?_));clear HC a;intro a HC
  obtain⟨eZ,e8,bC,eD,eE⟩:=SlR.formV (aV.ext (Zn.mono _) hS.x)
  refine Zde HC (Qe Tryz.underlying25 rfl bC) (by kernel_rfl) (by kernel_rfl) (by kernel_rfl) (V_g (Zcp (i:=a0.Sems.length) (j:=a1.Sems.length) rfl rfl) (by kernel_rfl) (by kernel_rfl) (by kernel_rfl) (Zdd (j:=46) rfl rfl rfl (by kernel_rfl) (by kernel_rfl) ?_));clear HC a;intro a HC
  have H:=HC.has;clear HC
  refine Ze (Za (Zl H rfl (fun bH=>?_) (fun bH=>?_)))
  · replace hm:=Zu hm bH
    refine wp_seq (wp_region_lit (n_q H (Zb rfl) rfl ?_));clear H a;intro a H
    refine Ze (Za (wp_ret (Zg ?_)))
    obtain rfl:=Option.some.inj hm
    replace hS:=hS.tk0
    refine Xx H (.inr rfl) rfl rfl ?_
    exact⟨rfl,hS.x⟩
  · replace hm:=Zv hm bH
    refine wp_skip (Za (wp_seq (wp_seq (wp_region_lit (n_q H (Zb rfl) rfl ?_)))));clear H a;intro a H
    refine Ze (Za (wp_block ?_))
    replace hS:=hS.pk1
    replace hm:=Zj hm;obtain⟨cD,hm,cF⟩:=hm;replace hm:=Qk hm;obtain⟨cT,hm⟩:=hm
    refine Kn (σ:=Nat × Nat) (fun (m,aA)=>[(2,.pointer (some ⟨aM,0,none⟩)),(3,.pointer (some ⟨aN,0,none⟩)),(5,.int .i64 ((aA : Nat) : Int))]) (fun (m,aA) wl=>Kq (Wo a0 a1) m aA=some cD ∧ St NB w wl [blkR aM [.int .i64 a0.Id,.bool a0.Mobile,aE,aF,aG,.int .i64 a0.Events,aH] 27,blkR aN [.int .i64 a1.Id,.bool a1.Mobile,aI,aJ,aK,.int .i64 a1.Events,aL] 27]) (fun (m,aA)=>m) (cT,0) H ⟨rfl,rfl,rfl,trivial⟩ ⟨hm,hS⟩ ?_
    clear H hS hm a;intro xx a e9 H hR;obtain⟨m,aA⟩:=xx;simp only [ent,List.map_cons,List.map_nil] at H;(try dsimp only at hR);obtain⟨hm,hS⟩:=hR
    replace hm:=Qi hm;obtain⟨cU,fA,rfl,hm,bI⟩:=hm;try dsimp only [Wo] at hm
    refine wp_seq (wp_seq (wp_region_lit (n_q H (Zc rfl) rfl (W_q (Zd rfl Vz) rfl (W_q (Zf rfl ((hS.blk 0 rfl).ld Zfb rfl)) rfl (W_q (Qe Tryz.underlying22 rfl aW) rfl (W_q (Jr (i:=aA) (j:=a0.Pages.length) rfl rfl) rfl ?_)))))));clear H a;intro a H
    refine Ze (Za (Zl H rfl (fun bD=>?_) (fun bD=>?_)))
    · replace hm:=Zu hm bD
      have dH : aA < a0.Pages.length:=of_decide_eq_true bD
      refine wp_skip (Za (wp_seq (wp_block (wp_seq (Wq (by kernel_rfl) (by kernel_rfl) ?_)))))
      refine Xg H (Zd rfl Vz) rfl ?_;clear H a;intro a H
      refine Xg H (Zf rfl ((hS.blk 0 rfl).ld Zfb rfl)) rfl ?_;clear H a;intro a H
      refine Xg H (Zc rfl) rfl ?_;clear H a;intro a H
      replace hm:=Zj hm;obtain⟨cV,bJ,hm⟩:=hm
      obtain⟨dI,bY⟩:=SlR.adV (aO.ext (Zn.mono _) hS.x) aW bJ
      refine Xg H (Vw (i:=aA) Tryz.underlying22 Gm rfl aW bY rfl (Zaz bJ)) rfl ?_;clear H a;intro a H
      refine Xg H (Zf rfl (SlR.ldAggV (aO.ext (Zn.mono _) hS.x) aW bY Zhp Gm bJ)) rfl ?_;clear H a;intro a H
      refine Xg H (Zd rfl Vz) rfl ?_;clear H a;intro a H
      refine Xg H (Zf rfl ((hS.blk 1 rfl).ld Zfb rfl)) rfl ?_;clear H a;intro a H
      refine Xg H (Zc rfl) rfl ?_;clear H a;intro a H
      replace hm:=Zj hm;obtain⟨cW,bK,hm⟩:=hm
      obtain⟨dJ,bZ⟩:=SlR.adV (aS.ext (Zn.mono _) hS.x) a9 bK
      refine Xg H (Vw (i:=aA) Tryz.underlying22 Gm rfl a9 bZ rfl (Zaz bK)) rfl ?_;clear H a;intro a H
      refine Xg H (Zf rfl (SlR.ldAggV (aS.ext (Zn.mono _) hS.x) a9 bZ Zhp Gm bK)) rfl ?_;clear H a;intro a H
      refine Xg H (Zlh (Zas st114) (Zgj cV cW) (by omega) rfl rfl) rfl ?_;clear H a;intro a H
      refine Hf ?_;intro fB cO
      replace hS:=hS.ext cO
      refine Za (Zl H rfl (fun bL=>?_) (fun bL=>?_))
      · replace hm:=Zu hm bL
        refine wp_seq (wp_region_lit (n_q H (Zb rfl) rfl ?_));clear H a;intro a H
        refine Ze (Za (wp_ret (Zm (Zg (Zg (Zm (Zg ?_)))))))
        obtain rfl:=Option.some.inj hm;have hz : _=cD:=bI;subst hz;replace hm:=cF;try dsimp only at hm
        obtain rfl:=Option.some.inj hm
        replace hS:=hS.tk0
        refine Xx H (.inr rfl) rfl rfl ?_
        exact⟨rfl,hS.x⟩
      · replace hm:=Zv hm bL
        refine wp_skip (Zo (Za (wp_region_lit (n_q H (Zc rfl) rfl (W_q (Yn (i:=aA) (j:=1) rfl rfl (by omega)) rfl (W_q (Zb rfl) rfl ?_))))));clear H a;intro a H
        refine Ze (Za ?_)
        obtain rfl:=Option.some.inj hm
        exact Wv (cU,aA + 1) H ⟨rfl,rfl,rfl,trivial⟩ ⟨bI,hS⟩ (Nat.lt_succ_self _)
    · replace hm:=Zv hm bD
      refine wp_exit (Zq (Zq (Qg ?_)))
      obtain rfl:=Option.some.inj hm;have hz : _=cD:=bI;subst hz;replace hm:=cF;try dsimp only at hm
      refine Za (wp_seq (wp_seq (wp_region_lit (n_q H (Zb rfl) rfl ?_))));clear H a;intro a H
      refine Ze (Za (wp_block ?_))
      replace hm:=Zj hm;obtain⟨cG,hm,cH⟩:=hm;replace hm:=Qk hm;obtain⟨cX,hm⟩:=hm
      refine Kn (σ:=Nat × Nat) (fun (m,aB)=>[(2,.pointer (some ⟨aM,0,none⟩)),(3,.pointer (some ⟨aN,0,none⟩)),(6,.int .i64 ((aB : Nat) : Int))]) (fun (m,aB) wl=>Kq (Wn a0 a1) m aB=some cG ∧ St NB w wl [blkR aM [.int .i64 a0.Id,.bool a0.Mobile,aE,aF,aG,.int .i64 a0.Events,aH] 27,blkR aN [.int .i64 a1.Id,.bool a1.Mobile,aI,aJ,aK,.int .i64 a1.Events,aL] 27]) (fun (m,aB)=>m) (cX,0) H ⟨rfl,rfl,rfl,trivial⟩ ⟨hm,hS⟩ ?_
      clear H hS hm a;intro xx a fC H hR;obtain⟨m,aB⟩:=xx;simp only [ent,List.map_cons,List.map_nil] at H;(try dsimp only at hR);obtain⟨hm,hS⟩:=hR
      replace hm:=Qi hm;obtain⟨cY,fD,rfl,hm,bM⟩:=hm;try dsimp only [Wn] at hm
      refine wp_seq (wp_seq (wp_region_lit (n_q H (Zc rfl) rfl (W_q (Zd rfl Wx) rfl (W_q (Zf rfl ((hS.blk 0 rfl).ld Zgm rfl)) rfl (W_q (Qe Tryz.underlying23 rfl aX) rfl (W_q (Jr (i:=aB) (j:=a0.Procs.length) rfl rfl) rfl ?_)))))));clear H a;intro a H
      refine Ze (Za (Zl H rfl (fun bE=>?_) (fun bE=>?_)))
      · replace hm:=Zu hm bE
        have dK : aB < a0.Procs.length:=of_decide_eq_true bE
        refine wp_skip (Za (wp_seq (wp_block (wp_seq (Wq (by kernel_rfl) (by kernel_rfl) ?_)))))
        refine Xg H (Zd rfl Wx) rfl ?_;clear H a;intro a H
        refine Xg H (Zf rfl ((hS.blk 0 rfl).ld Zgm rfl)) rfl ?_;clear H a;intro a H
        refine Xg H (Zc rfl) rfl ?_;clear H a;intro a H
        replace hm:=Zj hm;obtain⟨cZ,bN,hm⟩:=hm
        obtain⟨dL,b7⟩:=SlR.adV (aP.ext (Zn.mono _) hS.x) aX bN
        refine Xg H (Vw (i:=aB) Tryz.underlying23 Ha rfl aX b7 rfl (Zaz bN)) rfl ?_;clear H a;intro a H
        refine Xg H (Zf rfl (SlR.ldAggV (aP.ext (Zn.mono _) hS.x) aX b7 Zhq Ha bN)) rfl ?_;clear H a;intro a H
        refine Xg H (Zd rfl Wx) rfl ?_;clear H a;intro a H
        refine Xg H (Zf rfl ((hS.blk 1 rfl).ld Zgm rfl)) rfl ?_;clear H a;intro a H
        refine Xg H (Zc rfl) rfl ?_;clear H a;intro a H
        replace hm:=Zj hm;obtain⟨dA,bO,hm⟩:=hm
        obtain⟨dM,b8⟩:=SlR.adV (aT.ext (Zn.mono _) hS.x) bA bO
        refine Xg H (Vw (i:=aB) Tryz.underlying23 Ha rfl bA b8 rfl (Zaz bO)) rfl ?_;clear H a;intro a H
        refine Xg H (Zf rfl (SlR.ldAggV (aT.ext (Zn.mono _) hS.x) bA b8 Zhq Ha bO)) rfl ?_;clear H a;intro a H
        refine Xg H (Zlh (Zas st116) (Zgk cZ dA) (by omega) rfl rfl) rfl ?_;clear H a;intro a H
        refine Hf ?_;intro fE cP
        replace hS:=hS.ext cP
        refine Za (Zl H rfl (fun bP=>?_) (fun bP=>?_))
        · replace hm:=Zu hm bP
          refine wp_seq (wp_region_lit (n_q H (Zb rfl) rfl ?_));clear H a;intro a H
          refine Ze (Za (wp_ret (Zm (Zg (Zg (Zm (Zg ?_)))))))
          obtain rfl:=Option.some.inj hm;have hz : _=cG:=bM;subst hz;replace hm:=cH;try dsimp only at hm
          obtain rfl:=Option.some.inj hm
          replace hS:=hS.tk0
          refine Xx H (.inr rfl) rfl rfl ?_
          exact⟨rfl,hS.x⟩
        · replace hm:=Zv hm bP
          refine wp_skip (Zo (Za (wp_region_lit (n_q H (Zc rfl) rfl (W_q (Yn (i:=aB) (j:=1) rfl rfl (by omega)) rfl (W_q (Zb rfl) rfl ?_))))));clear H a;intro a H
          refine Ze (Za ?_)
          obtain rfl:=Option.some.inj hm
          exact Wv (cY,aB + 1) H ⟨rfl,rfl,rfl,trivial⟩ ⟨bM,hS⟩ (Nat.lt_succ_self _)
      · replace hm:=Zv hm bE
        refine wp_exit (Zq (Zq (Qg ?_)))
        obtain rfl:=Option.some.inj hm;have hz : _=cG:=bM;subst hz;replace hm:=cH;try dsimp only at hm
        refine Za (wp_seq (wp_seq (wp_region_lit (n_q H (Zb rfl) rfl ?_))));clear H a;intro a H
        refine Ze (Za (wp_block ?_))
        replace hm:=Zj hm;obtain⟨cI,hm,cJ⟩:=hm;replace hm:=Qk hm;obtain⟨dB,hm⟩:=hm
        refine Kn (σ:=Nat × Nat) (fun (m,aC)=>[(2,.pointer (some ⟨aM,0,none⟩)),(3,.pointer (some ⟨aN,0,none⟩)),(7,.int .i64 ((aC : Nat) : Int))]) (fun (m,aC) wl=>Kq (Wm a0 a1) m aC=some cI ∧ St NB w wl [blkR aM [.int .i64 a0.Id,.bool a0.Mobile,aE,aF,aG,.int .i64 a0.Events,aH] 27,blkR aN [.int .i64 a1.Id,.bool a1.Mobile,aI,aJ,aK,.int .i64 a1.Events,aL] 27]) (fun (m,aC)=>m) (dB,0) H ⟨rfl,rfl,rfl,trivial⟩ ⟨hm,hS⟩ ?_
        clear H hS hm a;intro xx a fF H hR;obtain⟨m,aC⟩:=xx;simp only [ent,List.map_cons,List.map_nil] at H;(try dsimp only at hR);obtain⟨hm,hS⟩:=hR
        replace hm:=Qi hm;obtain⟨dC,fG,rfl,hm,bQ⟩:=hm;try dsimp only [Wm] at hm
        refine wp_seq (wp_seq (wp_region_lit (n_q H (Zc rfl) rfl (W_q (Zd rfl Gb) rfl (W_q (Zf rfl ((hS.blk 0 rfl).ld Zhr rfl)) rfl (W_q (Qe Tryz.underlying24 rfl aY) rfl (W_q (Jr (i:=aC) (j:=a0.Ports.length) rfl rfl) rfl ?_)))))));clear H a;intro a H
        refine Ze (Za (Zl H rfl (fun bF=>?_) (fun bF=>?_)))
        · replace hm:=Zu hm bF
          have dN : aC < a0.Ports.length:=of_decide_eq_true bF
          refine wp_skip (Za (wp_seq (wp_block (wp_seq (Wq (by kernel_rfl) (by kernel_rfl) ?_)))))
          refine Xg H (Zd rfl Gb) rfl ?_;clear H a;intro a H
          refine Xg H (Zf rfl ((hS.blk 0 rfl).ld Zhr rfl)) rfl ?_;clear H a;intro a H
          refine Xg H (Zc rfl) rfl ?_;clear H a;intro a H
          replace hm:=Zj hm;obtain⟨dD,bR,hm⟩:=hm
          obtain⟨dO,b9⟩:=SlR.adV (aQ.ext (Zn.mono _) hS.x) aY bR
          refine Xg H (Vw (i:=aC) Tryz.underlying24 Wp rfl aY b9 rfl (Zaz bR)) rfl ?_;clear H a;intro a H
          refine Xg H (Zf rfl (SlR.ldAggV (aQ.ext (Zn.mono _) hS.x) aY b9 Za8 Wp bR)) rfl ?_;clear H a;intro a H
          refine Xg H (Zd rfl Gb) rfl ?_;clear H a;intro a H
          refine Xg H (Zf rfl ((hS.blk 1 rfl).ld Zhr rfl)) rfl ?_;clear H a;intro a H
          refine Xg H (Zc rfl) rfl ?_;clear H a;intro a H
          replace hm:=Zj hm;obtain⟨dE,bS,hm⟩:=hm
          obtain⟨dP,cA⟩:=SlR.adV (aU.ext (Zn.mono _) hS.x) bB bS
          refine Xg H (Vw (i:=aC) Tryz.underlying24 Wp rfl bB cA rfl (Zaz bS)) rfl ?_;clear H a;intro a H
          refine Xg H (Zf rfl (SlR.ldAggV (aU.ext (Zn.mono _) hS.x) bB cA Za8 Wp bS)) rfl ?_;clear H a;intro a H
          refine Xg H (Zlh (Zas st118) (Zgl dD dE) (by omega) rfl rfl) rfl ?_;clear H a;intro a H
          refine Hf ?_;intro fH cQ
          replace hS:=hS.ext cQ
          refine Za (Zl H rfl (fun bT=>?_) (fun bT=>?_))
          · replace hm:=Zu hm bT
            refine wp_seq (wp_region_lit (n_q H (Zb rfl) rfl ?_));clear H a;intro a H
            refine Ze (Za (wp_ret (Zm (Zg (Zg (Zm (Zg ?_)))))))
            obtain rfl:=Option.some.inj hm;have hz : _=cI:=bQ;subst hz;replace hm:=cJ;try dsimp only at hm
            obtain rfl:=Option.some.inj hm
            replace hS:=hS.tk0
            refine Xx H (.inr rfl) rfl rfl ?_
            exact⟨rfl,hS.x⟩
          · replace hm:=Zv hm bT
            refine wp_skip (Zo (Za (wp_region_lit (n_q H (Zc rfl) rfl (W_q (Yn (i:=aC) (j:=1) rfl rfl (by omega)) rfl (W_q (Zb rfl) rfl ?_))))));clear H a;intro a H
            refine Ze (Za ?_)
            obtain rfl:=Option.some.inj hm
            exact Wv (dC,aC + 1) H ⟨rfl,rfl,rfl,trivial⟩ ⟨bQ,hS⟩ (Nat.lt_succ_self _)
        · replace hm:=Zv hm bF
          refine wp_exit (Zq (Zq (Qg ?_)))
          obtain rfl:=Option.some.inj hm;have hz : _=cI:=bQ;subst hz;replace hm:=cJ;try dsimp only at hm
          refine Za (wp_seq (wp_seq (wp_region_lit (n_q H (Zb rfl) rfl ?_))));clear H a;intro a H
          refine Ze (Za (wp_block ?_))
          replace hm:=Zj hm;obtain⟨cK,hm,cL⟩:=hm;replace hm:=Qk hm;obtain⟨dF,hm⟩:=hm
          refine Kn (σ:=Nat × Nat) (fun (m,aD)=>[(2,.pointer (some ⟨aM,0,none⟩)),(3,.pointer (some ⟨aN,0,none⟩)),(8,.int .i64 ((aD : Nat) : Int))]) (fun (m,aD) wl=>Kq (Wl a0 a1) m aD=some cK ∧ St NB w wl [blkR aM [.int .i64 a0.Id,.bool a0.Mobile,aE,aF,aG,.int .i64 a0.Events,aH] 27,blkR aN [.int .i64 a1.Id,.bool a1.Mobile,aI,aJ,aK,.int .i64 a1.Events,aL] 27]) (fun (m,aD)=>m) (dF,0) H ⟨rfl,rfl,rfl,trivial⟩ ⟨hm,hS⟩ ?_
          clear H hS hm a;intro xx a fI H hR;obtain⟨m,aD⟩:=xx;simp only [ent,List.map_cons,List.map_nil] at H;(try dsimp only at hR);obtain⟨hm,hS⟩:=hR
          replace hm:=Qi hm;obtain⟨dG,fJ,rfl,hm,bU⟩:=hm;try dsimp only [Wl] at hm
          refine wp_seq (wp_seq (wp_region_lit (n_q H (Zc rfl) rfl (W_q (Zd rfl Gc) rfl (W_q (Zf rfl ((hS.blk 0 rfl).ld Zgn rfl)) rfl (W_q (Qe Tryz.underlying25 rfl aZ) rfl (W_q (Jr (i:=aD) (j:=a0.Sems.length) rfl rfl) rfl ?_)))))));clear H a;intro a H
          refine Ze (Za (Zl H rfl (fun bG=>?_) (fun bG=>?_)))
          · replace hm:=Zu hm bG
            have dQ : aD < a0.Sems.length:=of_decide_eq_true bG
            refine wp_skip (Za (wp_seq (wp_block (wp_seq (Wq (by kernel_rfl) (by kernel_rfl) ?_)))))
            refine Xg H (Zd rfl Gc) rfl ?_;clear H a;intro a H
            refine Xg H (Zf rfl ((hS.blk 0 rfl).ld Zgn rfl)) rfl ?_;clear H a;intro a H
            refine Xg H (Zc rfl) rfl ?_;clear H a;intro a H
            replace hm:=Zj hm;obtain⟨fK,bV,hm⟩:=hm
            obtain⟨dR,cB⟩:=SlR.adV (aR.ext (Zn.mono _) hS.x) aZ bV
            refine Xg H (Vw (i:=aD) Tryz.underlying25 sz3 rfl aZ cB rfl (Zaz bV)) rfl ?_;clear H a;intro a H
            refine Xg H (Zf rfl (SlR.ldOneV (aR.ext (Zn.mono _) hS.x) aZ cB ag3 bV rfl)) rfl ?_;clear H a;intro a H
            refine Xg H (Zd rfl Gc) rfl ?_;clear H a;intro a H
            refine Xg H (Zf rfl ((hS.blk 1 rfl).ld Zgn rfl)) rfl ?_;clear H a;intro a H
            refine Xg H (Zc rfl) rfl ?_;clear H a;intro a H
            replace hm:=Zj hm;obtain⟨fL,bW,hm⟩:=hm
            obtain⟨dS,cC⟩:=SlR.adV (aV.ext (Zn.mono _) hS.x) bC bW
            refine Xg H (Vw (i:=aD) Tryz.underlying25 sz3 rfl bC cC rfl (Zaz bW)) rfl ?_;clear H a;intro a H
            refine Xg H (Zf rfl (SlR.ldOneV (aV.ext (Zn.mono _) hS.x) bC cC ag3 bW rfl)) rfl ?_;clear H a;intro a H
            refine Xg H (Uv rfl rfl) rfl ?_;clear H a;intro a H
            refine Hf ?_;intro fM cR
            replace hS:=hS.ext cR
            refine Za (Zl H rfl (fun bX=>?_) (fun bX=>?_))
            · replace hm:=Zu hm bX
              refine wp_seq (wp_region_lit (n_q H (Zb rfl) rfl ?_));clear H a;intro a H
              refine Ze (Za (wp_ret (Zm (Zg (Zg (Zm (Zg ?_)))))))
              obtain rfl:=Option.some.inj hm;have hz : _=cK:=bU;subst hz;replace hm:=cL;try dsimp only at hm
              obtain rfl:=Option.some.inj hm
              replace hS:=hS.tk0
              refine Xx H (.inr rfl) rfl rfl ?_
              exact⟨rfl,hS.x⟩
            · replace hm:=Zv hm bX
              refine wp_skip (Zo (Za (wp_region_lit (n_q H (Zc rfl) rfl (W_q (Yn (i:=aD) (j:=1) rfl rfl (by omega)) rfl (W_q (Zb rfl) rfl ?_))))));clear H a;intro a H
              refine Ze (Za ?_)
              obtain rfl:=Option.some.inj hm
              exact Wv (dG,aD + 1) H ⟨rfl,rfl,rfl,trivial⟩ ⟨bU,hS⟩ (Nat.lt_succ_self _)
          · replace hm:=Zv hm bG
            refine wp_exit (Zq (Zq (Qg ?_)))
            obtain rfl:=Option.some.inj hm;have hz : _=cK:=bU;subst hz;replace hm:=cL;try dsimp only at hm
            refine Za (wp_seq (wp_region_lit (n_q H (Zb rfl) rfl ?_)));clear H a;intro a H
            refine Ze (Za (wp_ret ?_))
            obtain rfl:=Option.some.inj hm
            replace hS:=hS.tk0
            refine Xx H (.inr rfl) rfl rfl ?_
            exact⟨rfl,hS.x⟩
theorem Zh2 {w : World} {A : Nat → Addr} {cs0 : List Value} {a0 : GPlan} (hG : EV A w) (h0 : Qs w cs0 a0) {r : Int × ErrM} (hm : Zal a0=some r) :
    Calls Tryz.prog 62 [.agg cs0.toArray].toArray w (Ret fun u w'=>∃ h_0,u=.tuple #[.int .u32 r.1,h_0] ∧ St NB w w' [erQ A h_0 r.2]):=by
  obtain⟨aD,aE,aF,aG,rfl,aI,aJ,aK,aL⟩:=h0
  have hS:=St.begin NB w
  unfold Zal at hm
  refine enter Tryz.func62 rfl rfl rfl ?_;intro a H;dsimp only [Qn,Nat.zero_add,Nat.reduceAdd] at H
  refine wp_seq (wp_region_lit (Wi H rfl (cs:=[.int .i64 a0.Id,.bool a0.Mobile,aD,aE,aF,.int .i64 a0.Events,aG]) rfl rfl ?_))
  clear H;intro aX aY hN aO hs;clear a;intro a H
  replace hS:=hS.newBlk hN aO hs;clear hN hs
  refine n_q H (Zb rfl) rfl (W_q (Zb rfl) rfl ?_);clear H a;intro a H
  refine Ze (Za (wp_seq (wp_region_lit (n_q H (Zf rfl ((hS.blk 0 rfl).ldAll Zam Gh)) rfl ?_))));clear H a;intro a H
  replace hm:=Zj hm;obtain⟨aH,aP,hm⟩:=hm
  refine Zi H rfl en47 (Wz (A:=A) (hG.ext hS.x) (⟨_,_,_,_,rfl,(aI.ext (Zn.mono _) hS.x),(aJ.ext (Zn.mono _) hS.x),(aK.ext (Zn.mono _) hS.x),(aL.ext (Zn.mono _) hS.x)⟩ : Qs _ [.int .i64 a0.Id,.bool a0.Mobile,aD,aE,aF,.int .i64 a0.Events,aG] a0) aP) rfl ?_
  clear H;intro aZ aM hv;clear a;intro a H;obtain⟨a9,aN,rfl,aQ⟩:=hv
  replace hS:=hS.new aQ;simp only [List.cons_append,List.nil_append] at hS
  refine n_q H (Zc rfl) rfl (W_q (Zh rfl rfl) rfl (W_q (Zh rfl rfl) rfl (W_q (Zb rfl) rfl (W_q (Zb rfl) rfl ?_))));clear H a;intro a H
  refine Ze (Za (wp_seq (wp_seq (wp_region_lit (n_q H (Zc rfl) rfl (W_q (Qq (Jh Tryz.underlying39 rfl rfl (hS.any 1 rfl : IsE A aM aN aH.2).form) (show _=Value.bool (!decide (aH.2=.nil)) by rw [Xb.isNil (hS.any 1 rfl : IsE A aM aN aH.2)])) rfl ?_))))));clear H a;intro a H
  refine Ze (Za (Zl H rfl (fun aA=>?_) (fun aA=>?_)))
  · replace hm:=Zu hm aA
    refine wp_seq (wp_region_lit (n_q H (Zc rfl) rfl (W_q (Zb rfl) rfl (W_q (Zb rfl) rfl ?_))));clear H a;intro a H
    refine Ze (Za (wp_ret (Zg ?_)))
    obtain rfl:=Option.some.inj hm
    replace hS:=hS.pk1
    replace hS:=hS.tk1
    refine Zbu H (.inr rfl) rfl rfl rfl ?_
    exact⟨_,rfl,hS⟩
  · replace hm:=Zv hm aA
    refine wp_skip (Za (wp_seq (wp_region_lit (n_q H (Zc rfl) rfl (W_q (Zc rfl) rfl ?_)))));clear H a;intro a H
    obtain⟨aT,aU,aB,aV,aW⟩:=SlR.formV ((hS.own 0 rfl).slr rfl (fun _ _=>rfl))
    refine n_q H (Qe Tryz.underlying100 rfl aB) rfl (W_q (Za3 rfl rfl) rfl ?_);clear H a;intro a H
    replace hm:=Zbm hm;obtain⟨aC,hm⟩:=hm
    refine n_q H (Zco Tryz.underlying100 sz5 (show _=some (Value.slice aT aH.1.length aU) by rw [← aB];rfl) rfl aC.1 (by omega)) rfl ?_;clear H a;intro a H
    replace hm:=Zj hm;obtain⟨bA,aR,hm⟩:=hm
    refine Zi H rfl Zpz (Zcb (A:=A) (SlR.takeV ((hS.own 0 rfl).slr rfl (fun _ _=>rfl)) aB aC.1 aC.2) aR) rfl ?_
    clear H;intro bB bC hv;clear a;intro a H;obtain⟨rfl,aS⟩:=hv
    replace hS:=hS.ext aS
    refine n_q H (Zb rfl) rfl (W_q (Zb rfl) rfl ?_);clear H a;intro a H
    refine Ze (Za (wp_ret ?_))
    obtain rfl:=Option.some.inj hm
    replace hS:=hS.dNil (A:=A)
    replace hS:=hS.tk1
    refine Zbu H (.inr rfl) rfl rfl rfl ?_
    exact⟨_,rfl,hS⟩
set_option maxHeartbeats 1000000 in
theorem Zcd {w : World} {A : Nat → Addr} {cs0 : List Value} {a0 : GL10Case} (hG : EV A w) (hH : HE w) (h0 : Zct w cs0 a0) {r : Bool} (hm : Vc a0=some r) :
    Calls Tryz.prog 10 [.agg cs0.toArray].toArray w (Ret fun u w'=>u=.bool r ∧ Ext w w'):=by
  obtain⟨aD,aE,aF,aG,bL,bM,bN,bO,bP,rfl,aO,aP,aQ,aR,eD,eE,eG,eH,bU⟩:=h0
  have hS:=St.begin NB w
  unfold Vc at hm
  refine enter Tryz.func10 rfl rfl rfl ?_;intro a H;dsimp only [Qn,Nat.zero_add,Nat.reduceAdd] at H
  refine wp_seq (wp_region_lit (Wi H rfl (cs:=[.int .i64 a0.P.Id,.bool a0.P.Mobile,aD,aE,aF,.int .i64 a0.P.Events,aG,.int .i64 a0.Q.Id,.bool a0.Q.Mobile,bL,bM,bN,.int .i64 a0.Q.Events,bO,bP,.int .i64 a0.At,.int .u32 a0.Mask]) rfl rfl ?_))
  clear H;intro bW gH hN dS hs;clear a;intro a H
  replace hS:=hS.newBlk hN dS hs;clear hN hs
  refine n_q H (Zb rfl) rfl ?_;clear H a;intro a H
  refine Ze (Za (wp_seq (wp_seq (wp_region_lit ?_))))
  replace hm:=Zj hm;obtain⟨gI,dT,hm⟩:=hm
  refine Zi H rfl en45 (Zet (A:=A) (hG.ext hS.x) (hH.ext hS.x) dT) rfl ?_
  clear H;intro gJ gK hv;clear a;intro a H;obtain⟨rfl,dU⟩:=hv
  replace hS:=hS.ext dU
  refine n_q H (Zhe rfl) rfl ?_;clear H a;intro a H
  refine Ze (Za (Zl H rfl (fun bV=>?_) (fun bV=>?_)))
  · replace hm:=Zu hm bV
    refine wp_seq (wp_region_lit (n_q H (Zb rfl) rfl ?_));clear H a;intro a H
    refine Ze (Za (wp_ret (Zg ?_)))
    obtain rfl:=Option.some.inj hm
    replace hS:=hS.tk0
    refine Xx H (.inr rfl) rfl rfl ?_
    exact⟨rfl,hS.x⟩
  · replace hm:=Zv hm bV
    refine wp_skip (Za ?_)
    replace hm:=Zj hm;obtain⟨eJ,hm,bQ⟩:=hm
    refine Gw (σ:=Unit) H (fun u_=>[(1,.pointer (some ⟨bW,0,none⟩))]) (fun u_ wl=>(Jd a0) ()=some r ∧ St NB w wl [blkR bW [.int .i64 a0.P.Id,.bool a0.P.Mobile,aD,aE,aF,.int .i64 a0.P.Events,aG,.int .i64 a0.Q.Id,.bool a0.Q.Mobile,bL,bM,bN,.int .i64 a0.Q.Events,bO,bP,.int .i64 a0.At,.int .u32 a0.Mask] 103]) ?_ ?_
    · skip
      refine wp_seq (wp_region_lit (n_q H (Zd rfl Zg2) rfl (W_q (Zf rfl ((hS.blk 0 rfl).ldPart 0 7 Zam Gh (by simp))) rfl ?_)));clear H a;intro a H
      replace hm:=Zj hm;obtain⟨fR,dD,hm⟩:=hm
      refine Zi H rfl en33 (Zd2 (A:=A) (⟨_,_,_,_,rfl,(aO.ext (Zn.mono _) hS.x),(aP.ext (Zn.mono _) hS.x),(aQ.ext (Zn.mono _) hS.x),(aR.ext (Zn.mono _) hS.x)⟩ : Qs _ [.int .i64 a0.P.Id,.bool a0.P.Mobile,aD,aE,aF,.int .i64 a0.P.Events,aG] a0.P) dD) rfl ?_
      clear H;intro fS fT hv;clear a;intro a H;obtain⟨rfl,dE⟩:=hv
      replace hS:=hS.ext dE
      refine Ze (Za (Zl H rfl (fun bR=>?_) (fun bR=>?_)))
      · replace hm:=Zu hm bR
        refine wp_seq (wp_region_lit (n_q H (Zd rfl Zg2) rfl (W_q (Zf rfl ((hS.blk 0 rfl).ldPart 0 7 Zam Gh (by simp))) rfl ?_)));clear H a;intro a H
        replace hm:=Zj hm;obtain⟨bS,dF,hm⟩:=hm
        refine Zi H rfl en14 (Zd1 (A:=A) (⟨_,_,_,_,rfl,(aO.ext (Zn.mono _) hS.x),(aP.ext (Zn.mono _) hS.x),(aQ.ext (Zn.mono _) hS.x),(aR.ext (Zn.mono _) hS.x)⟩ : Qs _ [.int .i64 a0.P.Id,.bool a0.P.Mobile,aD,aE,aF,.int .i64 a0.P.Events,aG] a0.P) dF) rfl ?_
        clear H;intro fU fV hv;clear a;intro a H;obtain⟨dV,dW,dX,dY,rfl,dG⟩:=hv
        replace hS:=hS.new dG;simp only [List.cons_append,List.nil_append] at hS
        replace hm:=Zj hm;obtain⟨aH,dH,hm⟩:=hm
        refine Zi H rfl en47 (Wz (A:=A) (hG.ext hS.x) (⟨_,_,_,_,rfl,((hS.own 0 rfl).slr rfl (fun _ _=>rfl)),((hS.own 1 rfl).slr rfl (fun _ _=>rfl)),((hS.own 2 rfl).slr rfl (fun _ _=>rfl)),((hS.own 3 rfl).slr rfl (fun _ _=>rfl))⟩ : Qs _ [.int .i64 bS.Id,.bool bS.Mobile,dV,dW,dX,.int .i64 bS.Events,dY] bS) dH) rfl ?_
        clear H;intro fW fX hv;clear a;intro a H;obtain⟨b8,b9,rfl,dI⟩:=hv
        replace hS:=hS.new dI;simp only [List.cons_append,List.nil_append] at hS
        refine n_q H (Zc rfl) rfl (W_q (Zh rfl rfl) rfl (W_q (Zh rfl rfl) rfl (W_q (Zb rfl) rfl (W_q (Zb rfl) rfl ?_))));clear H a;intro a H
        refine Ze (Za (wp_seq (wp_region_lit (n_q H (Zc rfl) rfl ?_))));clear H a;intro a H
        replace hm:=Zj hm;obtain⟨aC,dJ,hm⟩:=hm
        refine Zi H rfl en49 (Zc1 (A:=A) (hG.ext hS.x) ((hS.own 0 rfl).slr rfl (fun _ _=>rfl)) dJ) rfl ?_
        clear H;intro fY fZ hv;clear a;intro a H;obtain⟨cA,cB,cC,cD,cF,rfl,dK⟩:=hv
        replace hS:=hS.new dK;simp only [List.cons_append,List.nil_append] at hS
        refine n_q H (Zc rfl) rfl (W_q (Zh rfl rfl) rfl (W_q (Zh rfl rfl) rfl ?_));clear H a;intro a H
        refine Xf H Zi3 rfl ?_
        clear H;intro gA gB hN dL hs;clear a;intro a H
        replace hS:=hS.newBlk hN dL hs;clear hN hs
        refine Zr H rfl rfl (vs:=[.int .i64 aC.1.Id,.bool aC.1.Mobile,cA,cB,cC,.int .i64 aC.1.Events,cD]) rfl Gh (hS.blk 0 rfl) rfl (by simp [(((hS.own 1 rfl).slr rfl (fun _ _=>rfl))).one,(((hS.own 2 rfl).slr rfl (fun _ _=>rfl))).one,(((hS.own 3 rfl).slr rfl (fun _ _=>rfl))).one,(((hS.own 4 rfl).slr rfl (fun _ _=>rfl))).one]) ?_
        clear H;intro gC hN dM hz;clear a;intro a H;replace hS:=hS.setBlk hN dM;clear hN hz
        refine n_q H (Zb rfl) rfl ?_;clear H a;intro a H
        refine Ze (Za (wp_seq (wp_region_lit (n_q H (Zd rfl Zg2) rfl (W_q (Zf rfl ((hS.blk 12 rfl).ldPart 0 7 Zam Gh (by simp))) rfl ?_)))));clear H a;intro a H
        replace hm:=Zj hm;obtain⟨bT,dN,hm⟩:=hm
        refine Zi H rfl en14 (Zd1 (A:=A) (⟨_,_,_,_,rfl,(aO.ext (Zn.mono _) hS.x),(aP.ext (Zn.mono _) hS.x),(aQ.ext (Zn.mono _) hS.x),(aR.ext (Zn.mono _) hS.x)⟩ : Qs _ [.int .i64 a0.P.Id,.bool a0.P.Mobile,aD,aE,aF,.int .i64 a0.P.Events,aG] a0.P) dN) rfl ?_
        clear H;intro gD gE hv;clear a;intro a H;obtain⟨dZ,d5,d6,d7,rfl,dO⟩:=hv
        replace hS:=hS.new dO;simp only [List.cons_append,List.nil_append] at hS
        replace hm:=Zj hm;obtain⟨aU,dP,hm⟩:=hm
        refine Zi H rfl en62 (Zh2 (A:=A) (hG.ext hS.x) (⟨_,_,_,_,rfl,((hS.own 0 rfl).slr rfl (fun _ _=>rfl)),((hS.own 1 rfl).slr rfl (fun _ _=>rfl)),((hS.own 2 rfl).slr rfl (fun _ _=>rfl)),((hS.own 3 rfl).slr rfl (fun _ _=>rfl))⟩ : Qs _ [.int .i64 bT.Id,.bool bT.Mobile,dZ,d5,d6,.int .i64 bT.Events,d7] bT) dP) rfl ?_
        clear H;intro gF aV hv;clear a;intro a H;obtain⟨cG,rfl,dQ⟩:=hv
        replace hS:=hS.new dQ;simp only [List.cons_append,List.nil_append] at hS
        refine n_q H (Zc rfl) rfl (W_q (Zh rfl rfl) rfl (W_q (Zh rfl rfl) rfl (W_q (Zb rfl) rfl (W_q (Zb rfl) rfl ?_))));clear H a;intro a H
        refine Ze (Za (wp_seq ?_))
        replace hm:=Zj hm;obtain⟨gG,hm,aS⟩:=hm
        refine Gw (σ:=Bool) H (fun aW=>[(1,.pointer (some ⟨bW,0,none⟩)),(3,b8),(7,.int .u32 aU.1),(59,.bool aW)]) (fun aW wl=>(Ys aH aU) aW=some eJ ∧ St NB w wl [ownR 5 1 b8 aH.1.length (aH.1.flatMap eB),blkR bW [.int .i64 a0.P.Id,.bool a0.P.Mobile,aD,aE,aF,.int .i64 a0.P.Events,aG,.int .i64 a0.Q.Id,.bool a0.Q.Mobile,bL,bM,bN,.int .i64 a0.Q.Events,bO,bP,.int .i64 a0.At,.int .u32 a0.Mask] 103]) ?_ ?_
        · skip
          refine wp_region_lit (n_q H (Zc rfl) rfl (W_q (Qq (Jh Tryz.underlying39 rfl rfl (hS.any 12 rfl : IsE A aV b9 aH.2).form) (show _=Value.bool (!decide (aH.2=.nil)) by rw [Xb.isNil (hS.any 12 rfl : IsE A aV b9 aH.2)])) rfl (W_q (Zc rfl) rfl ?_)));clear H a;intro a H
          rcases Bool.eq_false_or_eq_true (!decide (aH.2=.nil)) with aI|aI
          · replace H:=H.know 40 rfl aI
            replace hm:=Zu hm aI
            refine Ts H rfl rfl (by decide) rfl (Qc rfl rfl (by decide) rfl (W_q (Zx rfl rfl) rfl (W_q (Zc rfl) rfl (Qc rfl rfl (by decide) rfl (Qc rfl rfl (by decide) rfl (W_q (Zx rfl rfl) rfl (W_q (Zc rfl) rfl (Qc rfl rfl (by decide) rfl (Qc rfl rfl (by decide) rfl (Qc rfl rfl (by decide) rfl (Qc rfl rfl (by decide) rfl ?_)))))))))));clear H a;intro a H
            refine Ts H rfl rfl (by decide) rfl (W_q (Zx rfl rfl) rfl (W_q (Zc rfl) rfl (Qc rfl rfl (by decide) rfl (Qc rfl rfl (by decide) rfl (Qc rfl rfl (by decide) rfl (W_q (Zx rfl rfl) rfl ?_))))));clear H a;intro a H
            refine Ze (Za ?_)
            obtain rfl:=Option.some.inj hm;replace hm:=aS;try dsimp only at hm
            replace hS:=hS.pick 17 rfl;dsimp only [List.eraseIdx] at hS
            replace hS:=hS.pick 12 rfl;dsimp only [List.eraseIdx] at hS
            replace hS:=hS.tk2
            exact Wb true H ⟨rfl,rfl,rfl,rfl,trivial⟩ ⟨hm,hS⟩
          · replace H:=H.know 40 rfl aI
            replace hm:=Zv hm aI
            refine Vg H rfl rfl (n_q H (Zc rfl) rfl (Qw rfl rfl (W_q (Qq (Jh Tryz.underlying39 rfl rfl (hS.any 10 rfl : IsE A aV cF aC.2).form) (show _=Value.bool (!decide (aC.2=.nil)) by rw [Xb.isNil (hS.any 10 rfl : IsE A aV cF aC.2)])) rfl (W_q (Xj rfl rfl) rfl (W_q (Zc rfl) rfl ?_)))));clear H a;intro a H
            rcases Bool.eq_false_or_eq_true (!decide (aC.2=.nil)) with aJ|aJ
            · replace H:=H.know 44 rfl aJ
              replace hm:=Zu hm aJ
              refine Ts H rfl rfl (by decide) rfl (Qc rfl rfl (by decide) rfl (W_q (Zx rfl rfl) rfl (W_q (Zc rfl) rfl (Qc rfl rfl (by decide) rfl (Qc rfl rfl (by decide) rfl (Qc rfl rfl (by decide) rfl (Qc rfl rfl (by decide) rfl (Qc rfl rfl (by decide) rfl (W_q (Zx rfl rfl) rfl (W_q (Zc rfl) rfl (Qc rfl rfl (by decide) rfl ?_)))))))))));clear H a;intro a H
              refine Ts H rfl rfl (by decide) rfl (Qc rfl rfl (by decide) rfl (W_q (Zx rfl rfl) rfl ?_));clear H a;intro a H
              refine Ze (Za ?_)
              obtain rfl:=Option.some.inj hm;replace hm:=aS;try dsimp only at hm
              replace hS:=hS.pick 17 rfl;dsimp only [List.eraseIdx] at hS
              replace hS:=hS.pick 12 rfl;dsimp only [List.eraseIdx] at hS
              replace hS:=hS.tk2
              exact Wb true H ⟨rfl,rfl,rfl,rfl,trivial⟩ ⟨hm,hS⟩
            · replace H:=H.know 44 rfl aJ
              replace hm:=Zv hm aJ
              refine Vg H rfl rfl (n_q H (Zc rfl) rfl (Qw rfl rfl (W_q (Qq (Jh Tryz.underlying39 rfl rfl (hS.any 0 rfl : IsE A aV cG aU.2).form) (show _=Value.bool (!decide (aU.2=.nil)) by rw [Xb.isNil (hS.any 0 rfl : IsE A aV cG aU.2)])) rfl (W_q (Xj rfl rfl) rfl (W_q (Zc rfl) rfl ?_)))));clear H a;intro a H
              rcases Bool.eq_false_or_eq_true (!decide (aU.2=.nil)) with aK|aK
              · replace H:=H.know 48 rfl aK
                replace hm:=Zu hm aK
                refine Ts H rfl rfl (by decide) rfl (Qc rfl rfl (by decide) rfl (Qc rfl rfl (by decide) rfl (Qc rfl rfl (by decide) rfl (Qc rfl rfl (by decide) rfl (W_q (Zx rfl rfl) rfl (W_q (Zc rfl) rfl (Qc rfl rfl (by decide) rfl (Qc rfl rfl (by decide) rfl (Qc rfl rfl (by decide) rfl (W_q (Zx rfl rfl) rfl ?_))))))))));clear H a;intro a H
                refine Ze (Za ?_)
                obtain rfl:=Option.some.inj hm;replace hm:=aS;try dsimp only at hm
                replace hS:=hS.pick 17 rfl;dsimp only [List.eraseIdx] at hS
                replace hS:=hS.pick 12 rfl;dsimp only [List.eraseIdx] at hS
                replace hS:=hS.tk2
                exact Wb true H ⟨rfl,rfl,rfl,rfl,trivial⟩ ⟨hm,hS⟩
              · replace H:=H.know 48 rfl aK
                replace hm:=Zv hm aK
                refine Vg H rfl rfl (n_q H (Zf rfl ((hS.blk 5 rfl).ldAll Zam Gh)) rfl (Qw rfl rfl (W_q (Zd rfl Zg2) rfl (Qw rfl rfl (W_q (Zf rfl ((hS.blk 17 rfl).ldPart 0 7 Zam Gh (by simp))) rfl (Qw rfl rfl ?_))))));clear H a;intro a H
                replace hm:=Zj hm;obtain⟨dR,cH,hm⟩:=hm
                refine Zi H rfl en55 (Zd3 (A:=A) (⟨_,_,_,_,rfl,((hS.own 6 rfl).slr rfl (fun _ _=>rfl)),((hS.own 7 rfl).slr rfl (fun _ _=>rfl)),((hS.own 8 rfl).slr rfl (fun _ _=>rfl)),((hS.own 9 rfl).slr rfl (fun _ _=>rfl))⟩ : Qs _ [.int .i64 aC.1.Id,.bool aC.1.Mobile,cA,cB,cC,.int .i64 aC.1.Events,cD] aC.1) (⟨_,_,_,_,rfl,(aO.ext (Zn.mono _) hS.x),(aP.ext (Zn.mono _) hS.x),(aQ.ext (Zn.mono _) hS.x),(aR.ext (Zn.mono _) hS.x)⟩ : Qs _ [.int .i64 a0.P.Id,.bool a0.P.Mobile,aD,aE,aF,.int .i64 a0.P.Events,aG] a0.P) cH) rfl ?_
                clear H;intro eO eP hv;clear a;intro a H;obtain⟨rfl,cI⟩:=hv
                replace hS:=hS.ext cI
                refine Vg H rfl rfl (n_q H (Zhe rfl) rfl (W_q (Xj rfl rfl) rfl (W_q (Zc rfl) rfl ?_)));clear H a;intro a H
                rcases Bool.eq_false_or_eq_true (!dR) with aL|aL
                · replace H:=H.know 55 rfl aL
                  replace hm:=Zu hm aL
                  refine Ts H rfl rfl (by decide) rfl (Qc rfl rfl (by decide) rfl (Qc rfl rfl (by decide) rfl (W_q (Zx rfl rfl) rfl ?_)));clear H a;intro a H
                  refine Ze (Za ?_)
                  obtain rfl:=Option.some.inj hm;replace hm:=aS;try dsimp only at hm
                  replace hS:=hS.pick 17 rfl;dsimp only [List.eraseIdx] at hS
                  replace hS:=hS.pick 12 rfl;dsimp only [List.eraseIdx] at hS
                  replace hS:=hS.tk2
                  exact Wb true H ⟨rfl,rfl,rfl,rfl,trivial⟩ ⟨hm,hS⟩
                · replace H:=H.know 55 rfl aL
                  replace hm:=Zv hm aL
                  refine Vg H rfl rfl (n_q H (Zc rfl) rfl (Qw rfl rfl ?_));clear H a;intro a H
                  obtain⟨eQ,eT,cJ,eK,eL⟩:=SlR.formV ((hS.own 11 rfl).slr rfl (fun _ _=>rfl))
                  refine n_q H (Qe Tryz.underlying100 rfl cJ) rfl (Qw rfl rfl (W_q (Jr (i:=aH.1.length) (j:=19) rfl rfl) rfl (W_q (Xj rfl rfl) rfl ?_)));clear H a;intro a H
                  refine Ze (Za ?_)
                  obtain rfl:=Option.some.inj hm;replace hm:=aS;try dsimp only at hm
                  replace hS:=hS.pick 17 rfl;dsimp only [List.eraseIdx] at hS
                  replace hS:=hS.pick 12 rfl;dsimp only [List.eraseIdx] at hS
                  replace hS:=hS.tk2
                  exact Wb (decide (aH.1.length < 19)) H ⟨rfl,rfl,rfl,rfl,trivial⟩ ⟨hm,hS⟩
        · clear H hS hm a;intro aW a eU H hR
          simp only [ent,List.map_cons,List.map_nil] at H;(try dsimp only at hR);obtain⟨hm,hS⟩:=hR;try dsimp only [Ys] at hm
          refine Zl H rfl (fun bA=>?_) (fun bA=>?_)
          · replace hm:=Zu hm bA
            refine wp_seq (wp_region_lit (n_q H (Zb rfl) rfl ?_));clear H a;intro a H
            refine Ze (Za (wp_ret (Zg (Zg ?_))))
            obtain rfl:=Option.some.inj hm;replace hm:=bQ;try dsimp only at hm
            obtain rfl:=Option.some.inj hm
            replace hS:=hS.tk0
            refine Xx H (.inr rfl) rfl rfl ?_
            exact⟨rfl,hS.x⟩
          · replace hm:=Zv hm bA
            refine wp_skip (Za (wp_seq (wp_region_lit (n_q H (Zc rfl) rfl ?_))));clear H a;intro a H
            obtain⟨eV,eW,aB,eM,eN⟩:=SlR.formV ((hS.own 0 rfl).slr rfl (fun _ _=>rfl))
            refine n_q H (Qe Tryz.underlying100 rfl aB) rfl (W_q (Zb rfl) rfl ?_);clear H a;intro a H
            refine Ze (Za (wp_seq (Wq (by kernel_rfl) (by kernel_rfl) ?_)))
            refine Xg H (Zc rfl) rfl ?_;clear H a;intro a H
            refine Xg H (Zc rfl) rfl ?_;clear H a;intro a H
            refine Xg H (Zc rfl) rfl ?_;clear H a;intro a H
            refine Xg H (Za3 rfl rfl) rfl ?_;clear H a;intro a H
            replace hm:=Zj hm;obtain⟨eX,cK,hm⟩:=hm
            obtain⟨h0x1106,h1x1106,bD⟩:=Zef cK
            obtain⟨d8,bE⟩:=SlR.adV ((hS.own 0 rfl).slr rfl (fun _ _=>rfl)) aB bD
            refine Xg H (Zj3 Tryz.underlying100 sz5 rfl aB bE rfl h0x1106 h1x1106) rfl ?_;clear H a;intro a H
            refine Xg H (Zf rfl (SlR.ldOneV ((hS.own 0 rfl).slr rfl (fun _ _=>rfl)) aB bE ag5 bD rfl)) rfl ?_;clear H a;intro a H
            refine Xg H (Qq (Us Tryz.underlying5 Tryz.underlying101 ⟨_,rfl⟩ rfl) (Hj _)) rfl ?_;clear H a;intro a H
            refine Xg H (Zc rfl) rfl ?_;clear H a;intro a H
            refine Xg H (Zc rfl) rfl ?_;clear H a;intro a H
            refine Xg H (Za3 rfl rfl) rfl ?_;clear H a;intro a H
            replace hm:=Zj hm;obtain⟨eY,cL,hm⟩:=hm
            obtain⟨h0x1107,h1x1107,bF⟩:=Zef cL
            obtain⟨d9,bG⟩:=SlR.adV ((hS.own 0 rfl).slr rfl (fun _ _=>rfl)) aB bF
            refine Xg H (Zj3 Tryz.underlying100 sz5 rfl aB bG rfl h0x1107 h1x1107) rfl ?_;clear H a;intro a H
            refine Xg H (Zf rfl (SlR.ldOneV ((hS.own 0 rfl).slr rfl (fun _ _=>rfl)) aB bG ag5 bF rfl)) rfl ?_;clear H a;intro a H
            refine Xg H (Qq (Us Tryz.underlying5 Tryz.underlying101 ⟨_,rfl⟩ rfl) (Hj _)) rfl ?_;clear H a;intro a H
            refine Xg H (Zk5 rfl rfl (by decide)) rfl ?_;clear H a;intro a H
            refine Xg H (q_or rfl rfl) rfl ?_;clear H a;intro a H
            refine Xg H (Zc rfl) rfl ?_;clear H a;intro a H
            refine Xg H (Zc rfl) rfl ?_;clear H a;intro a H
            refine Xg H (Za3 rfl rfl) rfl ?_;clear H a;intro a H
            replace hm:=Zj hm;obtain⟨eZ,cM,hm⟩:=hm
            obtain⟨h0x1108,h1x1108,bH⟩:=Zef cM
            obtain⟨eA,bI⟩:=SlR.adV ((hS.own 0 rfl).slr rfl (fun _ _=>rfl)) aB bH
            refine Xg H (Zj3 Tryz.underlying100 sz5 rfl aB bI rfl h0x1108 h1x1108) rfl ?_;clear H a;intro a H
            refine Xg H (Zf rfl (SlR.ldOneV ((hS.own 0 rfl).slr rfl (fun _ _=>rfl)) aB bI ag5 bH rfl)) rfl ?_;clear H a;intro a H
            refine Xg H (Qq (Us Tryz.underlying5 Tryz.underlying101 ⟨_,rfl⟩ rfl) (Hj _)) rfl ?_;clear H a;intro a H
            refine Xg H (Zk5 rfl rfl (by decide)) rfl ?_;clear H a;intro a H
            refine Xg H (q_or rfl rfl) rfl ?_;clear H a;intro a H
            refine Xg H (Zc rfl) rfl ?_;clear H a;intro a H
            refine Xg H (Zc rfl) rfl ?_;clear H a;intro a H
            refine Xg H (Za3 rfl rfl) rfl ?_;clear H a;intro a H
            replace hm:=Zj hm;obtain⟨e8,cN,hm⟩:=hm
            obtain⟨h0x1109,h1x1109,bJ⟩:=Zef cN
            obtain⟨eC,bK⟩:=SlR.adV ((hS.own 0 rfl).slr rfl (fun _ _=>rfl)) aB bJ
            refine Xg H (Zj3 Tryz.underlying100 sz5 rfl aB bK rfl h0x1109 h1x1109) rfl ?_;clear H a;intro a H
            refine Xg H (Zf rfl (SlR.ldOneV ((hS.own 0 rfl).slr rfl (fun _ _=>rfl)) aB bK ag5 bJ rfl)) rfl ?_;clear H a;intro a H
            refine Xg H (Qq (Us Tryz.underlying5 Tryz.underlying101 ⟨_,rfl⟩ rfl) (Hj _)) rfl ?_;clear H a;intro a H
            refine Xg H (Zk5 rfl rfl (by decide)) rfl ?_;clear H a;intro a H
            refine Xg H (q_or rfl rfl) rfl ?_;clear H a;intro a H
            refine Xg H (Uv rfl rfl) rfl ?_;clear H a;intro a H
            refine Hf ?_;intro e9 cO
            replace hS:=hS.ext cO
            refine Za (Zl H rfl (fun bB=>?_) (fun bB=>?_))
            · replace hm:=Zu hm bB
              refine wp_seq (wp_region_lit (n_q H (Zb rfl) rfl ?_));clear H a;intro a H
              refine Ze (Za (wp_ret (Zg ?_)))
              obtain rfl:=Option.some.inj hm;replace hm:=bQ;try dsimp only at hm
              obtain rfl:=Option.some.inj hm
              replace hS:=hS.tk0
              refine Xx H (.inr rfl) rfl rfl ?_
              exact⟨rfl,hS.x⟩
            · replace hm:=Zv hm bB
              refine wp_skip (Za ?_)
              obtain rfl:=Option.some.inj hm;replace hm:=bQ;try dsimp only at hm
              replace hS:=hS.pk1
              replace hS:=hS.tk1
              exact Wb () H ⟨rfl,trivial⟩ ⟨hm,hS⟩
      · replace hm:=Zv hm bR
        refine wp_skip (Za ?_)
        obtain rfl:=Option.some.inj hm;replace hm:=bQ;try dsimp only at hm
        exact Wb () H ⟨rfl,trivial⟩ ⟨hm,hS⟩
    · clear H hS hm a;intro u_ a fA H hR
      simp only [ent,List.map_cons,List.map_nil] at H;(try dsimp only at hR);obtain⟨hm,hS⟩:=hR;try dsimp only [Jd] at hm
      refine wp_seq (wp_region_lit (Qf H Tryz.underlying100 sz5 ze5 rfl rfl rfl (cs:=[]) rfl rfl ?_))
      clear H;intro fB fC hN cP hs;clear a;intro a H
      replace hS:=hS.newBlk hN cP hs;clear hN hs
      replace hS:=hS.blkOwnL (e:=eB) (k:=1) ([] : List UInt8) rfl rfl (by simp [maxLen])
      refine n_q H (Zd rfl Zl9) rfl (W_q (Zf rfl ((hS.blk 1 rfl).ld Zho rfl)) rfl ?_);clear H a;intro a H
      replace hm:=Zbm hm;obtain⟨cQ,hm⟩:=hm
      refine Zcr (e:=eB) H rfl rfl Tryz.underlying100 Tryz.underlying100 (by simp) el5 (hS.own 0 rfl) ((bU.ext (Zn.mono _) hS.x).src (fun _ _=>rfl)) Zhj cQ (by simp only [maxLen];omega) rfl ?_
      clear H;intro fD fE hN cR hb;clear a;intro a H;replace hS:=hS.setOwn hN cR hb;clear hN hb
      replace hm:=Zj hm;obtain⟨aA,cT,hm⟩:=hm
      refine Zi H rfl en49 (Zc1 (A:=A) (hG.ext hS.x) ((hS.own 0 rfl).slr rfl (fun _ _=>rfl)) cT) rfl ?_
      clear H;intro fF fG hv;clear a;intro a H;obtain⟨aX,aY,aZ,a9,bX,rfl,cU⟩:=hv
      replace hS:=hS.new cU;simp only [List.cons_append,List.nil_append] at hS
      refine n_q H (Zc rfl) rfl (W_q (Zh rfl rfl) rfl (W_q (Zh rfl rfl) rfl ?_));clear H a;intro a H
      refine Xf H Zi3 rfl ?_
      clear H;intro fH fI hN cV hs;clear a;intro a H
      replace hS:=hS.newBlk hN cV hs;clear hN hs
      refine Zr H rfl rfl (vs:=[.int .i64 aA.1.Id,.bool aA.1.Mobile,aX,aY,aZ,.int .i64 aA.1.Events,a9]) rfl Gh (hS.blk 0 rfl) rfl (by simp [(((hS.own 1 rfl).slr rfl (fun _ _=>rfl))).one,(((hS.own 2 rfl).slr rfl (fun _ _=>rfl))).one,(((hS.own 3 rfl).slr rfl (fun _ _=>rfl))).one,(((hS.own 4 rfl).slr rfl (fun _ _=>rfl))).one]) ?_
      clear H;intro bY hN cW hz;clear a;intro a H;replace hS:=hS.setBlk hN cW;clear hN hz
      refine n_q H (Zb rfl) rfl ?_;clear H a;intro a H
      refine Ze (Za (wp_seq (wp_seq (wp_region_lit (n_q H (Zc rfl) rfl (W_q (Qq (Jh Tryz.underlying39 rfl rfl (hS.any 5 rfl : IsE A bY bX aA.2).form) (show _=Value.bool (!decide (aA.2=.nil)) by rw [Xb.isNil (hS.any 5 rfl : IsE A bY bX aA.2)])) rfl ?_))))));clear H a;intro a H
      refine Ze (Za (Zl H rfl (fun bC=>?_) (fun bC=>?_)))
      · replace hm:=Zu hm bC
        refine wp_seq (wp_region_lit (n_q H (Zf rfl ((hS.blk 0 rfl).ldAll Zam Gh)) rfl (W_q (Qd (cs:=[.int .i64 0,.bool false,.slice none 0 0,.slice none 0 0,.slice none 0 0,.int .i64 0,.slice none 0 0]) Zi3 Zo9 Zpa rfl (by kernel_rfl)) rfl ?_)));clear H a;intro a H
        replace hm:=Zj hm;obtain⟨fJ,cX,hm⟩:=hm
        refine Zi H rfl en55 (Zd3 (A:=A) (⟨_,_,_,_,rfl,((hS.own 1 rfl).slr rfl (fun _ _=>rfl)),((hS.own 2 rfl).slr rfl (fun _ _=>rfl)),((hS.own 3 rfl).slr rfl (fun _ _=>rfl)),((hS.own 4 rfl).slr rfl (fun _ _=>rfl))⟩ : Qs _ [.int .i64 aA.1.Id,.bool aA.1.Mobile,aX,aY,aZ,.int .i64 aA.1.Events,a9] aA.1) (⟨_,_,_,_,rfl,(SlR.nil _ 2 (Zn Zz)),(SlR.nil _ 3 (Zn Zy)),(SlR.nil _ 4 (Zn Zs)),(SlR.nil _ 1 (Zn eI))⟩ : Qs _ [.int .i64 0,.bool false,.slice none 0 0,.slice none 0 0,.slice none 0 0,.int .i64 0,.slice none 0 0] (⟨0,false,([] : List GPagePlan),([] : List GProcPlan),([] : List GPortPlan),0,([] : List Int)⟩ : GPlan)) cX) rfl ?_
        clear H;intro fK fL hv;clear a;intro a H;obtain⟨rfl,cY⟩:=hv
        replace hS:=hS.ext cY
        refine n_q H (Zb rfl) rfl ?_;clear H a;intro a H
        refine Ze (Za (wp_ret (Zg ?_)))
        obtain rfl:=Option.some.inj hm
        replace hS:=hS.tk0
        refine Xx H (.inr rfl) rfl rfl ?_
        exact⟨rfl,hS.x⟩
      · replace hm:=Zv hm bC
        refine wp_skip (Za (wp_seq (wp_region_lit (n_q H (Zf rfl ((hS.blk 0 rfl).ldAll Zam Gh)) rfl ?_))));clear H a;intro a H
        replace hm:=Zj hm;obtain⟨aT,cZ,hm⟩:=hm
        refine Zi H rfl en47 (Wz (A:=A) (hG.ext hS.x) (⟨_,_,_,_,rfl,((hS.own 1 rfl).slr rfl (fun _ _=>rfl)),((hS.own 2 rfl).slr rfl (fun _ _=>rfl)),((hS.own 3 rfl).slr rfl (fun _ _=>rfl)),((hS.own 4 rfl).slr rfl (fun _ _=>rfl))⟩ : Qs _ [.int .i64 aA.1.Id,.bool aA.1.Mobile,aX,aY,aZ,.int .i64 aA.1.Events,a9] aA.1) cZ) rfl ?_
        clear H;intro fM bZ hv;clear a;intro a H;obtain⟨fN,b7,rfl,dA⟩:=hv
        replace hS:=hS.new dA;simp only [List.cons_append,List.nil_append] at hS
        refine n_q H (Zc rfl) rfl (W_q (Zh rfl rfl) rfl (W_q (Zh rfl rfl) rfl (W_q (Zb rfl) rfl (W_q (Zb rfl) rfl ?_))));clear H a;intro a H
        refine Ze (Za (wp_seq (wp_region_lit (n_q H (Zc rfl) rfl (W_q (Qq (Za4 Tryz.underlying39 rfl rfl (hS.any 1 rfl : IsE A bZ b7 aT.2).form) (show _=Value.bool (decide (aT.2=.nil)) by rw [Xb.isNil (hS.any 1 rfl : IsE A bZ b7 aT.2)])) rfl (W_q (Zc rfl) rfl ?_))))));clear H a;intro a H
        rcases Bool.eq_false_or_eq_true (decide (aT.2=.nil)) with aM|aM
        · replace H:=H.know 114 rfl aM
          replace hm:=Zu hm aM
          refine Vg H rfl rfl (n_q H (Zc rfl) rfl (Qw rfl rfl (W_q (Ziw Tryz.underlying100 Tryz.underlying5 Tryz.underlying9 rfl (fun w' hw=>(((hS.own 0 rfl).slr rfl (fun _ _=>rfl)).ext (Zn.mono _) hw))) rfl (Qw rfl rfl (W_q (Zd rfl Zl9) rfl (Qw rfl rfl (W_q (Zf rfl ((hS.blk 9 rfl).ld Zho rfl)) rfl (Qw rfl rfl (W_q (Ziw Tryz.underlying100 Tryz.underlying5 Tryz.underlying9 rfl (fun w' hw=>((bU.ext (Zn.mono _) hS.x).ext (Zn.mono _) hw))) rfl (Qw rfl rfl (W_q (Zoz rfl rfl) rfl ?_)))))))))));clear H a;intro a H
          refine n_q H (Zx rfl rfl) rfl (W_q (Zc rfl) rfl ?_);clear H a;intro a H
          rcases Bool.eq_false_or_eq_true (decide ((Zcg aT.1)=(Zcg a0.B))) with aN|aN
          · replace H:=H.know 122 rfl aN
            replace hm:=Zu hm aN
            refine Vg H rfl rfl (n_q H (Zf rfl ((hS.blk 2 rfl).ldAll Zam Gh)) rfl (Qw rfl rfl ?_));clear H a;intro a H
            replace hm:=Zj hm;obtain⟨fO,dB,hm⟩:=hm
            refine Zi H rfl en33 (Zd2 (A:=A) (⟨_,_,_,_,rfl,((hS.own 3 rfl).slr rfl (fun _ _=>rfl)),((hS.own 4 rfl).slr rfl (fun _ _=>rfl)),((hS.own 5 rfl).slr rfl (fun _ _=>rfl)),((hS.own 6 rfl).slr rfl (fun _ _=>rfl))⟩ : Qs _ [.int .i64 aA.1.Id,.bool aA.1.Mobile,aX,aY,aZ,.int .i64 aA.1.Events,a9] aA.1) dB) rfl ?_
            clear H;intro fP fQ hv;clear a;intro a H;obtain⟨rfl,dC⟩:=hv
            replace hS:=hS.ext dC
            refine n_q H (Zx rfl rfl) rfl (W_q (Zb rfl) rfl ?_);clear H a;intro a H
            refine Ze (Za (wp_ret ?_))
            obtain rfl:=Option.some.inj hm
            replace hS:=hS.tk0
            refine Xx H (.inr rfl) rfl rfl ?_
            exact⟨rfl,hS.x⟩
          · replace H:=H.know 122 rfl aN
            replace hm:=Zv hm aN
            refine Ts H rfl rfl (by decide) rfl (Qc rfl rfl (by decide) rfl (W_q (Xj rfl rfl) rfl (W_q (Zb rfl) rfl ?_)));clear H a;intro a H
            refine Ze (Za (wp_ret ?_))
            obtain rfl:=Option.some.inj hm
            replace hS:=hS.tk0
            refine Xx H (.inr rfl) rfl rfl ?_
            exact⟨rfl,hS.x⟩
        · replace H:=H.know 114 rfl aM
          replace hm:=Zv hm aM
          refine Ts H rfl rfl (by decide) rfl (Qc rfl rfl (by decide) rfl (Qc rfl rfl (by decide) rfl (Qc rfl rfl (by decide) rfl (Qc rfl rfl (by decide) rfl (Qc rfl rfl (by decide) rfl (W_q (Xj rfl rfl) rfl (W_q (Zc rfl) rfl (Qc rfl rfl (by decide) rfl (Qc rfl rfl (by decide) rfl (W_q (Xj rfl rfl) rfl (W_q (Zb rfl) rfl ?_)))))))))));clear H a;intro a H
          refine Ze (Za (wp_ret ?_))
          obtain rfl:=Option.some.inj hm
          replace hS:=hS.tk0
          refine Xx H (.inr rfl) rfl rfl ?_
          exact⟨rfl,hS.x⟩
end Go.Proofs.YtfemfiiagjnhdaaGreatDoor
