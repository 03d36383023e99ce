/- Part of a claim, shortened by a program from its texts: PbF, PbB1. -/
import Derived.Test.YtfemfiiagjnhdaaGreatDoorQyH
set_option linter.unusedVariables false
set_option linter.unusedSimpArgs false
set_option maxRecDepth 10000
namespace Go.Proofs.YtfemfiiagjnhdaaGreatDoor
open Go Go.RowKit
theorem en14 : Zs Tryz.prog 14=true:=by kernel_rfl
theorem en45 : Zs Tryz.prog 45=true:=by kernel_rfl
theorem en49 : Zs Tryz.prog 49=true:=by kernel_rfl
theorem en51 : Zs Tryz.prog 51=true:=by kernel_rfl
theorem en54 : Zs Tryz.prog 54=true:=by kernel_rfl
theorem en55 : Zs Tryz.prog 55=true:=by kernel_rfl
theorem en61 : Zs Tryz.prog 61=true:=by kernel_rfl
theorem en62 : Zs Tryz.prog 62=true:=by kernel_rfl
theorem Zj9 : Zb2 Tryz.prog 103 0=some 0:=by kernel_rfl
theorem Zum : Zb2 Tryz.prog 103 2=some 14:=by kernel_rfl
theorem ze100 : Gc Tryz.prog 100=some [.slice none 0 0]:=by kernel_rfl
theorem Zch {w : World} {A : Nat → Addr} {v0 : Value} {a0 : ErrM} {a1 : Int} (hG : EV A w) (hH : HE w) (h0 : IsE A w v0 a0) {r : Bool} (hm : Kk a0 a1=some r) :
    Calls Tryz.prog 54 [v0,.int .i64 a1].toArray w (Ret fun u w'=>u=.bool r ∧ Ext w w'):=by
  have hS:=St.begin NB w
  unfold Kk at hm
  refine enter Tryz.func54 rfl rfl rfl ?_;intro a H;dsimp only [Qk,Nat.zero_add,Nat.reduceAdd] at H
  refine wp_seq (wp_region_lit (n_q H (Zb rfl) rfl ?_));clear H a;intro a H
  refine Ze (Za (wp_seq (wp_region_lit (n_q H (Zc rfl) rfl ?_))));clear H a;intro a H
  refine Zj H rfl en56 (Zte (hG.ext hS.x) (Xw.ext h0 hS.x)) rfl ?_
  clear H;intro aD aE hv;clear a;intro a H;obtain⟨rfl,aB⟩:=hv;replace hS:=hS.ext aB
  refine n_q H (Zc rfl) rfl (W_q (Ky rfl rfl) rfl (W_q (Zc rfl) rfl ?_));clear H a;intro a H
  rcases Bool.eq_false_or_eq_true (decide ((ErrM.code a0)=a1)) with aA|aA
  · replace H:=H.know 9 rfl aA
    replace hm:=Zu hm aA
    refine Wb H rfl rfl (n_q H (Zc rfl) rfl (Xe rfl rfl ?_));clear H a;intro a H
    refine Zj H rfl en60 (Zph (hH.ext hS.x) (Xw.ext h0 hS.x)) rfl ?_
    clear H;intro aF aG hv;clear a;intro a H;obtain⟨rfl,aC⟩:=hv;replace hS:=hS.ext aC
    refine Wb H rfl rfl (n_q H (Ky rfl rfl) rfl (W_q (Qi rfl rfl) rfl (W_q (Zb rfl) rfl ?_)));clear H a;intro a H
    refine Ze (Za (wp_ret ?_))
    obtain rfl:=Option.some.inj hm
    refine Je H (.inr rfl) rfl rfl ?_
    exact⟨rfl,hS.x⟩
  replace H:=H.know 9 rfl aA
  replace hm:=Zv hm aA
  refine Zci H rfl rfl (by decide) rfl (Qn rfl rfl (by decide) rfl (Qn rfl rfl (by decide) rfl (W_q (Jf rfl rfl) rfl (W_q (Zb rfl) rfl ?_))));clear H a;intro a H
  refine Ze (Za (wp_ret ?_))
  obtain rfl:=Option.some.inj hm
  refine Je H (.inr rfl) rfl rfl ?_
  exact⟨rfl,hS.x⟩
theorem Zll {w : World} {A : Nat → Addr} {cs0 : List Value} {a0 : GPlan} {cs1 : List Value} {a1 : GPlan} (h0 : Qw w cs0 a0) (h1 : Qw w cs1 a1) {r : Bool} (hm : Hh a0 a1=some r) :
    Calls Tryz.prog 55 [.agg cs0.toArray,.agg cs1.toArray].toArray w (Ret fun u w'=>u=.bool r ∧ Ext w w'):=by
  obtain⟨aE,aF,aG,aH,rfl,aO,aP,aQ,aR⟩:=h0
  obtain⟨aI,aJ,aK,aL,rfl,aS,aT,aU,aV⟩:=h1
  have hS:=St.begin NB w
  unfold Hh at hm
  refine enter Tryz.func55 rfl rfl rfl ?_;intro a H;dsimp only [Qk,Nat.zero_add,Nat.reduceAdd] at H
  refine wp_seq (wp_region_lit (Wt H rfl (cs:=[.int .i64 a0.Id,.bool a0.Mobile,aE,aF,aG,.int .i64 a0.Events,aH]) rfl rfl ?_))
  clear H;intro aM eH hN cM hs;clear a;intro a H
  replace hS:=hS.newBlk hN cM hs;clear hN hs
  refine Wt H rfl (cs:=[.int .i64 a1.Id,.bool a1.Mobile,aI,aJ,aK,.int .i64 a1.Events,aL]) rfl rfl ?_
  clear H;intro aN eJ hN cN hs;clear a;intro a H
  replace hS:=hS.newBlk hN cN hs;clear hN hs
  refine n_q H (Zb rfl) rfl ?_;clear H a;intro a H
  refine Ze (Za (wp_seq (wp_seq (wp_region_lit (n_c H (fun HC=>?_))))));clear H
  refine Tn HC (Zd rfl Zeh) rfl (by kernel_rfl) (V_q (Zf rfl ((hS.blk 1 rfl).ld ag3 rfl)) rfl (by kernel_rfl) (V_q (Zd rfl Zeh) rfl (by kernel_rfl) (V_q (Zf rfl ((hS.blk 0 rfl).ld ag3 rfl)) rfl (by kernel_rfl) (V_q (Vo rfl rfl) rfl (by kernel_rfl) (V_q (Zc rfl) rfl (by kernel_rfl) (V_g (Zd rfl Zk4) (by kernel_rfl) (by kernel_rfl) (by kernel_rfl) (V_g (Zf rfl ((hS.blk 1 rfl).ld ag4 rfl)) (by kernel_rfl) (by kernel_rfl) (by kernel_rfl) (V_g (Zd rfl Zk4) (by kernel_rfl) (by kernel_rfl) (by kernel_rfl) (V_g (Zf rfl ((hS.blk 0 rfl).ld ag4 rfl)) (by kernel_rfl) (by kernel_rfl) (by kernel_rfl) (V_g (q_neqB Tryz.underlying4 rfl rfl) (by kernel_rfl) (by kernel_rfl) (by kernel_rfl) (Zet (j:=5) rfl rfl rfl (by kernel_rfl) (by kernel_rfl) ?_)))))))))));clear HC a;intro a HC
  refine Tn HC (Zc rfl) rfl (by kernel_rfl) (V_g (Zd rfl Zc2) (by kernel_rfl) (by kernel_rfl) (by kernel_rfl) (V_g (Zf rfl ((hS.blk 1 rfl).ld ag3 rfl)) (by kernel_rfl) (by kernel_rfl) (by kernel_rfl) (V_g (Zd rfl Zc2) (by kernel_rfl) (by kernel_rfl) (by kernel_rfl) (V_g (Zf rfl ((hS.blk 0 rfl).ld ag3 rfl)) (by kernel_rfl) (by kernel_rfl) (by kernel_rfl) (V_g (Vo rfl rfl) (by kernel_rfl) (by kernel_rfl) (by kernel_rfl) (Zet (j:=12) rfl rfl rfl (by kernel_rfl) (by kernel_rfl) (V_q (Zc rfl) rfl (by kernel_rfl) (V_g (Zd rfl Vs) (by kernel_rfl) (by kernel_rfl) (by kernel_rfl) (V_g (Zf rfl ((hS.blk 1 rfl).ld Zgt rfl)) (by kernel_rfl) (by kernel_rfl) (by kernel_rfl) ?_)))))))));clear HC a;intro a HC
  obtain⟨eK,eL,aW,dT,dU⟩:=SlR.formV (aO.ext (Zq.mono _) hS.x)
  refine Zfe HC (Qf Tryz.underlying22 rfl aW) (by kernel_rfl) (by kernel_rfl) (by kernel_rfl) (V_g (Zd rfl Vs) (by kernel_rfl) (by kernel_rfl) (by kernel_rfl) (V_g (Zf rfl ((hS.blk 0 rfl).ld Zgt rfl)) (by kernel_rfl) (by kernel_rfl) (by kernel_rfl) ?_));clear HC a;intro a HC
  obtain⟨eM,eN,a9,dV,dW⟩:=SlR.formV (aS.ext (Zq.mono _) hS.x)
  refine Zfe HC (Qf Tryz.underlying22 rfl a9) (by kernel_rfl) (by kernel_rfl) (by kernel_rfl) (V_g (Zfi (i:=a0.Pages.length) (j:=a1.Pages.length) rfl rfl) (by kernel_rfl) (by kernel_rfl) (by kernel_rfl) (Zet (j:=19) rfl rfl rfl (by kernel_rfl) (by kernel_rfl) (V_q (Zc rfl) rfl (by kernel_rfl) (V_g (Zd rfl Ur) (by kernel_rfl) (by kernel_rfl) (by kernel_rfl) (V_g (Zf rfl ((hS.blk 1 rfl).ld Zii rfl)) (by kernel_rfl) (by kernel_rfl) (by kernel_rfl) ?_)))));clear HC a;intro a HC
  obtain⟨eO,eP,aX,dX,dY⟩:=SlR.formV (aP.ext (Zq.mono _) hS.x)
  refine Zfe HC (Qf Tryz.underlying23 rfl aX) (by kernel_rfl) (by kernel_rfl) (by kernel_rfl) (V_g (Zd rfl Ur) (by kernel_rfl) (by kernel_rfl) (by kernel_rfl) (V_g (Zf rfl ((hS.blk 0 rfl).ld Zii rfl)) (by kernel_rfl) (by kernel_rfl) (by kernel_rfl) ?_));clear HC a;intro a HC
  obtain⟨eQ,eT,bA,dZ,d5⟩:=SlR.formV (aT.ext (Zq.mono _) hS.x)
  refine Zfe HC (Qf Tryz.underlying23 rfl bA) (by kernel_rfl) (by kernel_rfl) (by kernel_rfl) (V_g (Zfi (i:=a0.Procs.length) (j:=a1.Procs.length) rfl rfl) (by kernel_rfl) (by kernel_rfl) (by kernel_rfl) (Zet (j:=28) rfl rfl rfl (by kernel_rfl) (by kernel_rfl) (V_q (Zc rfl) rfl (by kernel_rfl) (V_g (Zd rfl Gp) (by kernel_rfl) (by kernel_rfl) (by kernel_rfl) (V_g (Zf rfl ((hS.blk 1 rfl).ld Zi7 rfl)) (by kernel_rfl) (by kernel_rfl) (by kernel_rfl) ?_)))));clear HC a;intro a HC
  obtain⟨eU,eV,aY,d7,d8⟩:=SlR.formV (aQ.ext (Zq.mono _) hS.x)
  refine Zfe HC (Qf Tryz.underlying24 rfl aY) (by kernel_rfl) (by kernel_rfl) (by kernel_rfl) (V_g (Zd rfl Gp) (by kernel_rfl) (by kernel_rfl) (by kernel_rfl) (V_g (Zf rfl ((hS.blk 0 rfl).ld Zi7 rfl)) (by kernel_rfl) (by kernel_rfl) (by kernel_rfl) ?_));clear HC a;intro a HC
  obtain⟨eW,eX,bB,d9,eA⟩:=SlR.formV (aU.ext (Zq.mono _) hS.x)
  refine Zfe HC (Qf Tryz.underlying24 rfl bB) (by kernel_rfl) (by kernel_rfl) (by kernel_rfl) (V_g (Zfi (i:=a0.Ports.length) (j:=a1.Ports.length) rfl rfl) (by kernel_rfl) (by kernel_rfl) (by kernel_rfl) (Zet (j:=37) rfl rfl rfl (by kernel_rfl) (by kernel_rfl) (V_q (Zc rfl) rfl (by kernel_rfl) (V_g (Zd rfl Gq) (by kernel_rfl) (by kernel_rfl) (by kernel_rfl) (V_g (Zf rfl ((hS.blk 1 rfl).ld Zij rfl)) (by kernel_rfl) (by kernel_rfl) (by kernel_rfl) ?_)))));clear HC a;intro a HC
  obtain⟨eY,eZ,aZ,eC,eD⟩:=SlR.formV (aR.ext (Zq.mono _) hS.x)
  refine Zfe HC (Qf Tryz.underlying25 rfl aZ) (by kernel_rfl) (by kernel_rfl) (by kernel_rfl) (V_g (Zd rfl Gq) (by kernel_rfl) (by kernel_rfl) (by kernel_rfl) (V_g (Zf rfl ((hS.blk 0 rfl).ld Zij rfl)) (by kernel_rfl) (by kernel_rfl) (by kernel_rfl) ?_));clear HC a;intro a HC
  obtain⟨e8,e9,bC,eE,eG⟩:=SlR.formV (aV.ext (Zq.mono _) hS.x)
  refine Zfe HC (Qf Tryz.underlying25 rfl bC) (by kernel_rfl) (by kernel_rfl) (by kernel_rfl) (V_g (Zfi (i:=a0.Sems.length) (j:=a1.Sems.length) rfl rfl) (by kernel_rfl) (by kernel_rfl) (by kernel_rfl) (Zet (j:=46) rfl rfl rfl (by kernel_rfl) (by kernel_rfl) ?_));clear HC a;intro a HC
  have H:=HC.has;clear HC
  refine Ze (Za (Zl H rfl (fun bH=>?_) (fun bH=>?_)))
  · replace hm:=Zu hm bH
    refine wp_seq (wp_region_lit (n_q H (Zb rfl) rfl ?_));clear H a;intro a H
    refine Ze (Za (wp_ret (Zh ?_)))
    obtain rfl:=Option.some.inj hm
    replace hS:=hS.tk0
    refine Je H (.inr rfl) rfl rfl ?_
    exact⟨rfl,hS.x⟩
  replace hm:=Zv hm bH
  refine wp_skip (Za (wp_seq (wp_seq (wp_region_lit (n_q H (Zb rfl) rfl ?_)))));clear H a;intro a H
  refine Ze (Za (wp_block ?_))
  replace hS:=hS.pk1
  replace hm:=Zi hm;obtain⟨cD,hm,cF⟩:=hm;replace hm:=Qg hm;obtain⟨cT,hm⟩:=hm
  refine Jd (σ:=Nat × Nat) (fun (m,aA)=>[(2,.pointer (some ⟨aM,0,none⟩)),(3,.pointer (some ⟨aN,0,none⟩)),(5,.int .i64 ((aA : Nat) : Int))]) (fun (m,aA) wl=>Js (Hg a0 a1) m aA=some cD ∧ St NB w wl [blkR aM [.int .i64 a0.Id,.bool a0.Mobile,aE,aF,aG,.int .i64 a0.Events,aH] 27,blkR aN [.int .i64 a1.Id,.bool a1.Mobile,aI,aJ,aK,.int .i64 a1.Events,aL] 27]) (fun (m,aA)=>m) (cT,0) H ⟨rfl,rfl,rfl,trivial⟩ ⟨hm,hS⟩ ?_
  clear H hS hm a;intro xx a fA H hR;obtain⟨m,aA⟩:=xx;simp only [ent,List.map_cons,List.map_nil] at H;(try dsimp only at hR);obtain⟨hm,hS⟩:=hR
  replace hm:=Qa hm;obtain⟨cU,fB,rfl,hm,bI⟩:=hm;try dsimp only [Hg] at hm
  refine wp_seq (wp_seq (wp_region_lit (n_q H (Zc rfl) rfl (W_q (Zd rfl Vs) rfl (W_q (Zf rfl ((hS.blk 0 rfl).ld Zgt rfl)) rfl (W_q (Qf Tryz.underlying22 rfl aW) rfl (W_q (Xz (i:=aA) (j:=a0.Pages.length) rfl rfl) rfl ?_)))))));clear H a;intro a H
  refine Ze (Za (Zl H rfl (fun bD=>?_) (fun bD=>?_)))
  · replace hm:=Zu hm bD
    have dH : aA < a0.Pages.length:=of_decide_eq_true bD
    refine wp_skip (Za (wp_seq (wp_block (wp_seq (Ww (by kernel_rfl) (by kernel_rfl) ?_)))))
    refine Xb H (Zd rfl Vs) rfl ?_;clear H a;intro a H
    refine Xb H (Zf rfl ((hS.blk 0 rfl).ld Zgt rfl)) rfl ?_;clear H a;intro a H
    refine Xb H (Zc rfl) rfl ?_;clear H a;intro a H
    replace hm:=Zi hm;obtain⟨cV,bJ,hm⟩:=hm
    obtain⟨dI,bY⟩:=SlR.adV (aO.ext (Zq.mono _) hS.x) aW bJ
    refine Xb H (Jn (i:=aA) Tryz.underlying22 Tk rfl aW bY rfl (Ho bJ)) rfl ?_;clear H a;intro a H
    refine Xb H (Zf rfl (SlR.ldAggV (aO.ext (Zq.mono _) hS.x) aW bY Zk1 Tk bJ)) rfl ?_;clear H a;intro a H
    refine Xb H (Zd rfl Vs) rfl ?_;clear H a;intro a H
    refine Xb H (Zf rfl ((hS.blk 1 rfl).ld Zgt rfl)) rfl ?_;clear H a;intro a H
    refine Xb H (Zc rfl) rfl ?_;clear H a;intro a H
    replace hm:=Zi hm;obtain⟨cW,bK,hm⟩:=hm
    obtain⟨dJ,bZ⟩:=SlR.adV (aS.ext (Zq.mono _) hS.x) a9 bK
    refine Xb H (Jn (i:=aA) Tryz.underlying22 Tk rfl a9 bZ rfl (Ho bK)) rfl ?_;clear H a;intro a H
    refine Xb H (Zf rfl (SlR.ldAggV (aS.ext (Zq.mono _) hS.x) a9 bZ Zk1 Tk bK)) rfl ?_;clear H a;intro a H
    refine Xb H (Zpc (Zde st114) (Zjp cV cW) (by omega) rfl rfl) rfl ?_;clear H a;intro a H
    refine To ?_;intro fC cO
    replace hS:=hS.ext cO
    refine Za (Zl H rfl (fun bL=>?_) (fun bL=>?_))
    · replace hm:=Zu hm bL
      refine wp_seq (wp_region_lit (n_q H (Zb rfl) rfl ?_));clear H a;intro a H
      refine Ze (Za (wp_ret (Zo (Zh (Zh (Zo (Zh ?_)))))))
      obtain rfl:=Option.some.inj hm;have hz : _=cD:=bI;subst hz;replace hm:=cF;try dsimp only at hm
      obtain rfl:=Option.some.inj hm
      replace hS:=hS.tk0
      refine Je H (.inr rfl) rfl rfl ?_
      exact⟨rfl,hS.x⟩
    replace hm:=Zv hm bL
    refine wp_skip (Zm (Za (wp_region_lit (n_q H (Zc rfl) rfl (W_q (Kb (i:=aA) (j:=1) rfl rfl (by omega)) rfl (W_q (Zb rfl) rfl ?_))))));clear H a;intro a H
    refine Ze (Za ?_)
    obtain rfl:=Option.some.inj hm
    exact Vh (cU,aA + 1) H ⟨rfl,rfl,rfl,trivial⟩ ⟨bI,hS⟩ (Nat.lt_succ_self _)
  replace hm:=Zv hm bD
  refine wp_exit (Zn (Zn (Zy ?_)))
  obtain rfl:=Option.some.inj hm;have hz : _=cD:=bI;subst hz;replace hm:=cF;try dsimp only at hm
  refine Za (wp_seq (wp_seq (wp_region_lit (n_q H (Zb rfl) rfl ?_))));clear H a;intro a H
  refine Ze (Za (wp_block ?_))
  replace hm:=Zi hm;obtain⟨cG,hm,cH⟩:=hm;replace hm:=Qg hm;obtain⟨cX,hm⟩:=hm
  refine Jd (σ:=Nat × Nat) (fun (m,aB)=>[(2,.pointer (some ⟨aM,0,none⟩)),(3,.pointer (some ⟨aN,0,none⟩)),(6,.int .i64 ((aB : Nat) : Int))]) (fun (m,aB) wl=>Js (Hf a0 a1) m aB=some cG ∧ St NB w wl [blkR aM [.int .i64 a0.Id,.bool a0.Mobile,aE,aF,aG,.int .i64 a0.Events,aH] 27,blkR aN [.int .i64 a1.Id,.bool a1.Mobile,aI,aJ,aK,.int .i64 a1.Events,aL] 27]) (fun (m,aB)=>m) (cX,0) H ⟨rfl,rfl,rfl,trivial⟩ ⟨hm,hS⟩ ?_
  clear H hS hm a;intro xx a fD H hR;obtain⟨m,aB⟩:=xx;simp only [ent,List.map_cons,List.map_nil] at H;(try dsimp only at hR);obtain⟨hm,hS⟩:=hR
  replace hm:=Qa hm;obtain⟨cY,fE,rfl,hm,bM⟩:=hm;try dsimp only [Hf] at hm
  refine wp_seq (wp_seq (wp_region_lit (n_q H (Zc rfl) rfl (W_q (Zd rfl Ur) rfl (W_q (Zf rfl ((hS.blk 0 rfl).ld Zii rfl)) rfl (W_q (Qf Tryz.underlying23 rfl aX) rfl (W_q (Xz (i:=aB) (j:=a0.Procs.length) rfl rfl) rfl ?_)))))));clear H a;intro a H
  refine Ze (Za (Zl H rfl (fun bE=>?_) (fun bE=>?_)))
  · replace hm:=Zu hm bE
    have dK : aB < a0.Procs.length:=of_decide_eq_true bE
    refine wp_skip (Za (wp_seq (wp_block (wp_seq (Ww (by kernel_rfl) (by kernel_rfl) ?_)))))
    refine Xb H (Zd rfl Ur) rfl ?_;clear H a;intro a H
    refine Xb H (Zf rfl ((hS.blk 0 rfl).ld Zii rfl)) rfl ?_;clear H a;intro a H
    refine Xb H (Zc rfl) rfl ?_;clear H a;intro a H
    replace hm:=Zi hm;obtain⟨cZ,bN,hm⟩:=hm
    obtain⟨dL,b7⟩:=SlR.adV (aP.ext (Zq.mono _) hS.x) aX bN
    refine Xb H (Jn (i:=aB) Tryz.underlying23 Tl rfl aX b7 rfl (Ho bN)) rfl ?_;clear H a;intro a H
    refine Xb H (Zf rfl (SlR.ldAggV (aP.ext (Zq.mono _) hS.x) aX b7 Zjs Tl bN)) rfl ?_;clear H a;intro a H
    refine Xb H (Zd rfl Ur) rfl ?_;clear H a;intro a H
    refine Xb H (Zf rfl ((hS.blk 1 rfl).ld Zii rfl)) rfl ?_;clear H a;intro a H
    refine Xb H (Zc rfl) rfl ?_;clear H a;intro a H
    replace hm:=Zi hm;obtain⟨dA,bO,hm⟩:=hm
    obtain⟨dM,b8⟩:=SlR.adV (aT.ext (Zq.mono _) hS.x) bA bO
    refine Xb H (Jn (i:=aB) Tryz.underlying23 Tl rfl bA b8 rfl (Ho bO)) rfl ?_;clear H a;intro a H
    refine Xb H (Zf rfl (SlR.ldAggV (aT.ext (Zq.mono _) hS.x) bA b8 Zjs Tl bO)) rfl ?_;clear H a;intro a H
    refine Xb H (Zpc (Zde st116) (Zjq cZ dA) (by omega) rfl rfl) rfl ?_;clear H a;intro a H
    refine To ?_;intro fF cP
    replace hS:=hS.ext cP
    refine Za (Zl H rfl (fun bP=>?_) (fun bP=>?_))
    · replace hm:=Zu hm bP
      refine wp_seq (wp_region_lit (n_q H (Zb rfl) rfl ?_));clear H a;intro a H
      refine Ze (Za (wp_ret (Zo (Zh (Zh (Zo (Zh ?_)))))))
      obtain rfl:=Option.some.inj hm;have hz : _=cG:=bM;subst hz;replace hm:=cH;try dsimp only at hm
      obtain rfl:=Option.some.inj hm
      replace hS:=hS.tk0
      refine Je H (.inr rfl) rfl rfl ?_
      exact⟨rfl,hS.x⟩
    replace hm:=Zv hm bP
    refine wp_skip (Zm (Za (wp_region_lit (n_q H (Zc rfl) rfl (W_q (Kb (i:=aB) (j:=1) rfl rfl (by omega)) rfl (W_q (Zb rfl) rfl ?_))))));clear H a;intro a H
    refine Ze (Za ?_)
    obtain rfl:=Option.some.inj hm
    exact Vh (cY,aB + 1) H ⟨rfl,rfl,rfl,trivial⟩ ⟨bM,hS⟩ (Nat.lt_succ_self _)
  replace hm:=Zv hm bE
  refine wp_exit (Zn (Zn (Zy ?_)))
  obtain rfl:=Option.some.inj hm;have hz : _=cG:=bM;subst hz;replace hm:=cH;try dsimp only at hm
  refine Za (wp_seq (wp_seq (wp_region_lit (n_q H (Zb rfl) rfl ?_))));clear H a;intro a H
  refine Ze (Za (wp_block ?_))
  replace hm:=Zi hm;obtain⟨cI,hm,cJ⟩:=hm;replace hm:=Qg hm;obtain⟨dB,hm⟩:=hm
  refine Jd (σ:=Nat × Nat) (fun (m,aC)=>[(2,.pointer (some ⟨aM,0,none⟩)),(3,.pointer (some ⟨aN,0,none⟩)),(7,.int .i64 ((aC : Nat) : Int))]) (fun (m,aC) wl=>Js (He a0 a1) m aC=some cI ∧ St NB w wl [blkR aM [.int .i64 a0.Id,.bool a0.Mobile,aE,aF,aG,.int .i64 a0.Events,aH] 27,blkR aN [.int .i64 a1.Id,.bool a1.Mobile,aI,aJ,aK,.int .i64 a1.Events,aL] 27]) (fun (m,aC)=>m) (dB,0) H ⟨rfl,rfl,rfl,trivial⟩ ⟨hm,hS⟩ ?_
  clear H hS hm a;intro xx a fG H hR;obtain⟨m,aC⟩:=xx;simp only [ent,List.map_cons,List.map_nil] at H;(try dsimp only at hR);obtain⟨hm,hS⟩:=hR
  replace hm:=Qa hm;obtain⟨dC,fH,rfl,hm,bQ⟩:=hm;try dsimp only [He] at hm
  refine wp_seq (wp_seq (wp_region_lit (n_q H (Zc rfl) rfl (W_q (Zd rfl Gp) rfl (W_q (Zf rfl ((hS.blk 0 rfl).ld Zi7 rfl)) rfl (W_q (Qf Tryz.underlying24 rfl aY) rfl (W_q (Xz (i:=aC) (j:=a0.Ports.length) rfl rfl) rfl ?_)))))));clear H a;intro a H
  refine Ze (Za (Zl H rfl (fun bF=>?_) (fun bF=>?_)))
  · replace hm:=Zu hm bF
    have dN : aC < a0.Ports.length:=of_decide_eq_true bF
    refine wp_skip (Za (wp_seq (wp_block (wp_seq (Ww (by kernel_rfl) (by kernel_rfl) ?_)))))
    refine Xb H (Zd rfl Gp) rfl ?_;clear H a;intro a H
    refine Xb H (Zf rfl ((hS.blk 0 rfl).ld Zi7 rfl)) rfl ?_;clear H a;intro a H
    refine Xb H (Zc rfl) rfl ?_;clear H a;intro a H
    replace hm:=Zi hm;obtain⟨dD,bR,hm⟩:=hm
    obtain⟨dO,b9⟩:=SlR.adV (aQ.ext (Zq.mono _) hS.x) aY bR
    refine Xb H (Jn (i:=aC) Tryz.underlying24 Us rfl aY b9 rfl (Ho bR)) rfl ?_;clear H a;intro a H
    refine Xb H (Zf rfl (SlR.ldAggV (aQ.ext (Zq.mono _) hS.x) aY b9 Zdq Us bR)) rfl ?_;clear H a;intro a H
    refine Xb H (Zd rfl Gp) rfl ?_;clear H a;intro a H
    refine Xb H (Zf rfl ((hS.blk 1 rfl).ld Zi7 rfl)) rfl ?_;clear H a;intro a H
    refine Xb H (Zc rfl) rfl ?_;clear H a;intro a H
    replace hm:=Zi hm;obtain⟨dE,bS,hm⟩:=hm
    obtain⟨dP,cA⟩:=SlR.adV (aU.ext (Zq.mono _) hS.x) bB bS
    refine Xb H (Jn (i:=aC) Tryz.underlying24 Us rfl bB cA rfl (Ho bS)) rfl ?_;clear H a;intro a H
    refine Xb H (Zf rfl (SlR.ldAggV (aU.ext (Zq.mono _) hS.x) bB cA Zdq Us bS)) rfl ?_;clear H a;intro a H
    refine Xb H (Zpc (Zde st118) (Zjr dD dE) (by omega) rfl rfl) rfl ?_;clear H a;intro a H
    refine To ?_;intro fI cQ
    replace hS:=hS.ext cQ
    refine Za (Zl H rfl (fun bT=>?_) (fun bT=>?_))
    · replace hm:=Zu hm bT
      refine wp_seq (wp_region_lit (n_q H (Zb rfl) rfl ?_));clear H a;intro a H
      refine Ze (Za (wp_ret (Zo (Zh (Zh (Zo (Zh ?_)))))))
      obtain rfl:=Option.some.inj hm;have hz : _=cI:=bQ;subst hz;replace hm:=cJ;try dsimp only at hm
      obtain rfl:=Option.some.inj hm
      replace hS:=hS.tk0
      refine Je H (.inr rfl) rfl rfl ?_
      exact⟨rfl,hS.x⟩
    replace hm:=Zv hm bT
    refine wp_skip (Zm (Za (wp_region_lit (n_q H (Zc rfl) rfl (W_q (Kb (i:=aC) (j:=1) rfl rfl (by omega)) rfl (W_q (Zb rfl) rfl ?_))))));clear H a;intro a H
    refine Ze (Za ?_)
    obtain rfl:=Option.some.inj hm
    exact Vh (dC,aC + 1) H ⟨rfl,rfl,rfl,trivial⟩ ⟨bQ,hS⟩ (Nat.lt_succ_self _)
  replace hm:=Zv hm bF
  refine wp_exit (Zn (Zn (Zy ?_)))
  obtain rfl:=Option.some.inj hm;have hz : _=cI:=bQ;subst hz;replace hm:=cJ;try dsimp only at hm
  refine Za (wp_seq (wp_seq (wp_region_lit (n_q H (Zb rfl) rfl ?_))));clear H a;intro a H
  refine Ze (Za (wp_block ?_))
  replace hm:=Zi hm;obtain⟨cK,hm,cL⟩:=hm;replace hm:=Qg hm;obtain⟨dF,hm⟩:=hm
  refine Jd (σ:=Nat × Nat) (fun (m,aD)=>[(2,.pointer (some ⟨aM,0,none⟩)),(3,.pointer (some ⟨aN,0,none⟩)),(8,.int .i64 ((aD : Nat) : Int))]) (fun (m,aD) wl=>Js (Hd a0 a1) m aD=some cK ∧ St NB w wl [blkR aM [.int .i64 a0.Id,.bool a0.Mobile,aE,aF,aG,.int .i64 a0.Events,aH] 27,blkR aN [.int .i64 a1.Id,.bool a1.Mobile,aI,aJ,aK,.int .i64 a1.Events,aL] 27]) (fun (m,aD)=>m) (dF,0) H ⟨rfl,rfl,rfl,trivial⟩ ⟨hm,hS⟩ ?_
  clear H hS hm a;intro xx a fJ H hR;obtain⟨m,aD⟩:=xx;simp only [ent,List.map_cons,List.map_nil] at H;(try dsimp only at hR);obtain⟨hm,hS⟩:=hR
  replace hm:=Qa hm;obtain⟨dG,fK,rfl,hm,bU⟩:=hm;try dsimp only [Hd] at hm
  refine wp_seq (wp_seq (wp_region_lit (n_q H (Zc rfl) rfl (W_q (Zd rfl Gq) rfl (W_q (Zf rfl ((hS.blk 0 rfl).ld Zij rfl)) rfl (W_q (Qf Tryz.underlying25 rfl aZ) rfl (W_q (Xz (i:=aD) (j:=a0.Sems.length) rfl rfl) rfl ?_)))))));clear H a;intro a H
  refine Ze (Za (Zl H rfl (fun bG=>?_) (fun bG=>?_)))
  · replace hm:=Zu hm bG
    have dQ : aD < a0.Sems.length:=of_decide_eq_true bG
    refine wp_skip (Za (wp_seq (wp_block (wp_seq (Ww (by kernel_rfl) (by kernel_rfl) ?_)))))
    refine Xb H (Zd rfl Gq) rfl ?_;clear H a;intro a H
    refine Xb H (Zf rfl ((hS.blk 0 rfl).ld Zij rfl)) rfl ?_;clear H a;intro a H
    refine Xb H (Zc rfl) rfl ?_;clear H a;intro a H
    replace hm:=Zi hm;obtain⟨fL,bV,hm⟩:=hm
    obtain⟨dR,cB⟩:=SlR.adV (aR.ext (Zq.mono _) hS.x) aZ bV
    refine Xb H (Jn (i:=aD) Tryz.underlying25 sz3 rfl aZ cB rfl (Ho bV)) rfl ?_;clear H a;intro a H
    refine Xb H (Zf rfl (SlR.ldOneV (aR.ext (Zq.mono _) hS.x) aZ cB ag3 bV rfl)) rfl ?_;clear H a;intro a H
    refine Xb H (Zd rfl Gq) rfl ?_;clear H a;intro a H
    refine Xb H (Zf rfl ((hS.blk 1 rfl).ld Zij rfl)) rfl ?_;clear H a;intro a H
    refine Xb H (Zc rfl) rfl ?_;clear H a;intro a H
    replace hm:=Zi hm;obtain⟨fM,bW,hm⟩:=hm
    obtain⟨dS,cC⟩:=SlR.adV (aV.ext (Zq.mono _) hS.x) bC bW
    refine Xb H (Jn (i:=aD) Tryz.underlying25 sz3 rfl bC cC rfl (Ho bW)) rfl ?_;clear H a;intro a H
    refine Xb H (Zf rfl (SlR.ldOneV (aV.ext (Zq.mono _) hS.x) bC cC ag3 bW rfl)) rfl ?_;clear H a;intro a H
    refine Xb H (Vo rfl rfl) rfl ?_;clear H a;intro a H
    refine To ?_;intro fN cR
    replace hS:=hS.ext cR
    refine Za (Zl H rfl (fun bX=>?_) (fun bX=>?_))
    · replace hm:=Zu hm bX
      refine wp_seq (wp_region_lit (n_q H (Zb rfl) rfl ?_));clear H a;intro a H
      refine Ze (Za (wp_ret (Zo (Zh (Zh (Zo (Zh ?_)))))))
      obtain rfl:=Option.some.inj hm;have hz : _=cK:=bU;subst hz;replace hm:=cL;try dsimp only at hm
      obtain rfl:=Option.some.inj hm
      replace hS:=hS.tk0
      refine Je H (.inr rfl) rfl rfl ?_
      exact⟨rfl,hS.x⟩
    replace hm:=Zv hm bX
    refine wp_skip (Zm (Za (wp_region_lit (n_q H (Zc rfl) rfl (W_q (Kb (i:=aD) (j:=1) rfl rfl (by omega)) rfl (W_q (Zb rfl) rfl ?_))))));clear H a;intro a H
    refine Ze (Za ?_)
    obtain rfl:=Option.some.inj hm
    exact Vh (dG,aD + 1) H ⟨rfl,rfl,rfl,trivial⟩ ⟨bU,hS⟩ (Nat.lt_succ_self _)
  replace hm:=Zv hm bG
  refine wp_exit (Zn (Zn (Zy ?_)))
  obtain rfl:=Option.some.inj hm;have hz : _=cK:=bU;subst hz;replace hm:=cL;try dsimp only at hm
  refine Za (wp_seq (wp_region_lit (n_q H (Zb rfl) rfl ?_)));clear H a;intro a H
  refine Ze (Za (wp_ret ?_))
  obtain rfl:=Option.some.inj hm
  replace hS:=hS.tk0
  refine Je H (.inr rfl) rfl rfl ?_
  exact⟨rfl,hS.x⟩
theorem Zmr {w : World} {A : Nat → Addr} {cs0 : List Value} {a0 : GPlan} (h0 : Qw w cs0 a0) {r : Int × Int} (hm : Zc1 a0=some r) :
    Calls Tryz.prog 61 [.agg cs0.toArray].toArray w (Ret fun u w'=>u=.tuple #[.int .u32 r.1,.int .i64 r.2] ∧ Ext w w'):=by
  obtain⟨aD,aE,aF,aG,rfl,aH,aI,aJ,aK⟩:=h0
  have hS:=St.begin NB w
  unfold Zc1 at hm
  refine enter Tryz.func61 rfl rfl rfl ?_;intro a H;dsimp only [Qk,Nat.zero_add,Nat.reduceAdd] at H
  refine wp_seq (wp_region_lit (Wt H rfl (cs:=[.int .i64 a0.Id,.bool a0.Mobile,aD,aE,aF,.int .i64 a0.Events,aG]) rfl rfl ?_))
  clear H;intro aV aW hN aL hs;clear a;intro a H
  replace hS:=hS.newBlk hN aL hs;clear hN hs
  refine n_q H (Zb rfl) rfl (W_q (Zb rfl) rfl ?_);clear H a;intro a H
  refine Ze (Za (wp_seq (wp_region_lit (n_q H (Zf rfl ((hS.blk 0 rfl).ldAll Zap Ut)) rfl ?_))));clear H a;intro a H
  replace hm:=Zi hm;obtain⟨aQ,aM,hm⟩:=hm
  refine Zj H rfl en50 (Zdj (A:=A) (⟨_,_,_,_,rfl,(aH.ext (Zq.mono _) hS.x),(aI.ext (Zq.mono _) hS.x),(aJ.ext (Zq.mono _) hS.x),(aK.ext (Zq.mono _) hS.x)⟩ : Qw _ [.int .i64 a0.Id,.bool a0.Mobile,aD,aE,aF,.int .i64 a0.Events,aG] a0) aM) rfl ?_
  clear H;intro aX aY hv;clear a;intro a H;obtain⟨aZ,rfl,aN⟩:=hv
  replace hS:=hS.new aN;simp only [List.cons_append,List.nil_append] at hS
  refine n_q H (Zc rfl) rfl (W_q (Zk rfl rfl) rfl (W_q (Zk rfl rfl) rfl (W_q (Zb rfl) rfl (W_q (Zb rfl) rfl ?_))));clear H a;intro a H
  refine Ze (Za (wp_seq (wp_seq (wp_region_lit (n_q H (Zc rfl) rfl (W_q (Vo rfl rfl) rfl ?_))))));clear H a;intro a H
  refine Ze (Za (Zl H rfl (fun aA=>?_) (fun aA=>?_)))
  · replace hm:=Zu hm aA
    refine wp_seq (wp_region_lit (n_q H (Zc rfl) rfl (W_q (Zb rfl) rfl (W_q (Zb rfl) rfl ?_))));clear H a;intro a H
    refine Ze (Za (wp_ret (Zh ?_)))
    obtain rfl:=Option.some.inj hm
    replace hS:=hS.tk0
    refine Zda H (.inr rfl) rfl rfl rfl ?_
    exact⟨rfl,hS.x⟩
  replace hm:=Zv hm aA
  refine wp_skip (Za (wp_seq (wp_region_lit (n_q H (Zc rfl) rfl (W_q (Zc rfl) rfl ?_)))));clear H a;intro a H
  obtain⟨aR,aS,aB,aT,aU⟩:=SlR.formV ((hS.own 0 rfl).slr rfl (fun _ _=>rfl))
  refine n_q H (Qf Tryz.underlying100 rfl aB) rfl (W_q (Zcj rfl rfl) rfl ?_);clear H a;intro a H
  replace hm:=Tj hm;obtain⟨aC,hm⟩:=hm
  refine n_q H (Zak Tryz.underlying100 sz5 (show _=some (Value.slice aR aQ.1.length aS) by rw [← aB];rfl) rfl aC.1 (by omega)) rfl ?_;clear H a;intro a H
  replace hm:=Zi hm;obtain⟨a9,aO,hm⟩:=hm
  refine Zj H rfl Zui (Ze3 (A:=A) (SlR.takeV ((hS.own 0 rfl).slr rfl (fun _ _=>rfl)) aB aC.1 aC.2) aO) rfl ?_
  clear H;intro bA bB hv;clear a;intro a H;obtain⟨rfl,aP⟩:=hv
  replace hS:=hS.ext aP
  refine n_q H (Zb rfl) rfl (W_q (Zb rfl) rfl ?_);clear H a;intro a H
  refine Ze (Za (wp_ret ?_))
  obtain rfl:=Option.some.inj hm
  replace hS:=hS.tk0
  refine Zda H (.inr rfl) rfl rfl rfl ?_
  exact⟨rfl,hS.x⟩
theorem Zlm {w : World} {A : Nat → Addr} {cs0 : List Value} {a0 : GPlan} (hG : EV A w) (h0 : Qw w cs0 a0) {r : Int × ErrM} (hm : Zad a0=some r) :
    Calls Tryz.prog 62 [.agg cs0.toArray].toArray w (Ret fun u w'=>∃ h_0,u=.tuple #[.int .u32 r.1,h_0] ∧ St NB w w' [erQ A h_0 r.2]):=by
  obtain⟨aD,aE,aF,aG,rfl,aI,aJ,aK,aL⟩:=h0
  have hS:=St.begin NB w
  unfold Zad at hm
  refine enter Tryz.func62 rfl rfl rfl ?_;intro a H;dsimp only [Qk,Nat.zero_add,Nat.reduceAdd] at H
  refine wp_seq (wp_region_lit (Wt H rfl (cs:=[.int .i64 a0.Id,.bool a0.Mobile,aD,aE,aF,.int .i64 a0.Events,aG]) rfl rfl ?_))
  clear H;intro aX aY hN aO hs;clear a;intro a H
  replace hS:=hS.newBlk hN aO hs;clear hN hs
  refine n_q H (Zb rfl) rfl (W_q (Zb rfl) rfl ?_);clear H a;intro a H
  refine Ze (Za (wp_seq (wp_region_lit (n_q H (Zf rfl ((hS.blk 0 rfl).ldAll Zap Ut)) rfl ?_))));clear H a;intro a H
  replace hm:=Zi hm;obtain⟨aH,aP,hm⟩:=hm
  refine Zj H rfl en47 (Zaj (A:=A) (hG.ext hS.x) (⟨_,_,_,_,rfl,(aI.ext (Zq.mono _) hS.x),(aJ.ext (Zq.mono _) hS.x),(aK.ext (Zq.mono _) hS.x),(aL.ext (Zq.mono _) hS.x)⟩ : Qw _ [.int .i64 a0.Id,.bool a0.Mobile,aD,aE,aF,.int .i64 a0.Events,aG] a0) aP) rfl ?_
  clear H;intro aZ aM hv;clear a;intro a H;obtain⟨a9,aN,rfl,aQ⟩:=hv
  replace hS:=hS.new aQ;simp only [List.cons_append,List.nil_append] at hS
  refine n_q H (Zc rfl) rfl (W_q (Zk rfl rfl) rfl (W_q (Zk rfl rfl) rfl (W_q (Zb rfl) rfl (W_q (Zb rfl) rfl ?_))));clear H a;intro a H
  refine Ze (Za (wp_seq (wp_seq (wp_region_lit (n_q H (Zc rfl) rfl (W_q (Qo (Va Tryz.underlying39 rfl rfl (hS.any 1 rfl : IsE A aM aN aH.2).form) (show _=Value.bool (!decide (aH.2=.nil)) by rw [Xw.isNil (hS.any 1 rfl : IsE A aM aN aH.2)])) rfl ?_))))));clear H a;intro a H
  refine Ze (Za (Zl H rfl (fun aA=>?_) (fun aA=>?_)))
  · replace hm:=Zu hm aA
    refine wp_seq (wp_region_lit (n_q H (Zc rfl) rfl (W_q (Zb rfl) rfl (W_q (Zb rfl) rfl ?_))));clear H a;intro a H
    refine Ze (Za (wp_ret (Zh ?_)))
    obtain rfl:=Option.some.inj hm
    replace hS:=hS.pk1
    replace hS:=hS.tk1
    refine Zda H (.inr rfl) rfl rfl rfl ?_
    exact⟨_,rfl,hS⟩
  replace hm:=Zv hm aA
  refine wp_skip (Za (wp_seq (wp_region_lit (n_q H (Zc rfl) rfl (W_q (Zc rfl) rfl ?_)))));clear H a;intro a H
  obtain⟨aT,aU,aB,aV,aW⟩:=SlR.formV ((hS.own 0 rfl).slr rfl (fun _ _=>rfl))
  refine n_q H (Qf Tryz.underlying100 rfl aB) rfl (W_q (Zcj rfl rfl) rfl ?_);clear H a;intro a H
  replace hm:=Tj hm;obtain⟨aC,hm⟩:=hm
  refine n_q H (Zak Tryz.underlying100 sz5 (show _=some (Value.slice aT aH.1.length aU) by rw [← aB];rfl) rfl aC.1 (by omega)) rfl ?_;clear H a;intro a H
  replace hm:=Zi hm;obtain⟨bA,aR,hm⟩:=hm
  refine Zj H rfl Zt2 (Ze1 (A:=A) (SlR.takeV ((hS.own 0 rfl).slr rfl (fun _ _=>rfl)) aB aC.1 aC.2) aR) rfl ?_
  clear H;intro bB bC hv;clear a;intro a H;obtain⟨rfl,aS⟩:=hv
  replace hS:=hS.ext aS
  refine n_q H (Zb rfl) rfl (W_q (Zb rfl) rfl ?_);clear H a;intro a H
  refine Ze (Za (wp_ret ?_))
  obtain rfl:=Option.some.inj hm
  replace hS:=hS.dNil (A:=A)
  replace hS:=hS.tk1
  refine Zda H (.inr rfl) rfl rfl rfl ?_
  exact⟨_,rfl,hS⟩
theorem Ze5 {w : World} {A : Nat → Addr} {cs0 : List Value} {a0 : GL10Case} (hG : EV A w) (hH : HE w) (h0 : Zfk w cs0 a0) {r : Bool} (hm : Ws a0=some r) :
    Calls Tryz.prog 9 [.agg cs0.toArray].toArray w (Ret fun u w'=>u=.bool r ∧ Ext w w'):=by
  obtain⟨aG,aH,aI,aJ,bC,bD,bE,bF,aC,rfl,aN,aO,aP,aQ,eJ,eK,eL,eM,aB⟩:=h0
  have hS:=St.begin NB w
  unfold Ws at hm
  refine enter Tryz.func9 rfl rfl rfl ?_;intro a H;dsimp only [Qk,Nat.zero_add,Nat.reduceAdd] at H
  refine wp_seq (wp_region_lit (Wt H rfl (cs:=[.int .i64 a0.P.Id,.bool a0.P.Mobile,aG,aH,aI,.int .i64 a0.P.Events,aJ,.int .i64 a0.Q.Id,.bool a0.Q.Mobile,bC,bD,bE,.int .i64 a0.Q.Events,bF,aC,.int .i64 a0.At,.int .u32 a0.Mask]) rfl rfl ?_))
  clear H;intro bN gC hN dL hs;clear a;intro a H
  replace hS:=hS.newBlk hN dL hs;clear hN hs
  refine n_q H (Zb rfl) rfl ?_;clear H a;intro a H
  refine Ze (Za (wp_seq (wp_seq (wp_region_lit ?_))))
  replace hm:=Zi hm;obtain⟨gD,dM,hm⟩:=hm
  refine Zj H rfl en45 (Zhv (A:=A) (hG.ext hS.x) (hH.ext hS.x) dM) rfl ?_
  clear H;intro gE gF hv;clear a;intro a H;obtain⟨rfl,dN⟩:=hv
  replace hS:=hS.ext dN
  refine n_q H (Zf5 rfl) rfl ?_;clear H a;intro a H
  refine Ze (Za (Zl H rfl (fun bM=>?_) (fun bM=>?_)))
  · replace hm:=Zu hm bM
    refine wp_seq (wp_region_lit (n_q H (Zb rfl) rfl ?_));clear H a;intro a H
    refine Ze (Za (wp_ret (Zh ?_)))
    obtain rfl:=Option.some.inj hm
    replace hS:=hS.tk0
    refine Je H (.inr rfl) rfl rfl ?_
    exact⟨rfl,hS.x⟩
  replace hm:=Zv hm bM
  refine wp_skip (Za (wp_seq (wp_region_lit (n_q H (Zd rfl Zj9) rfl (W_q (Zf rfl ((hS.blk 0 rfl).ldPart 0 7 Zap Ut (by simp))) rfl ?_)))));clear H a;intro a H
  replace hm:=Zi hm;obtain⟨aD,dO,hm⟩:=hm
  refine Zj H rfl en50 (Zdj (A:=A) (⟨_,_,_,_,rfl,(aN.ext (Zq.mono _) hS.x),(aO.ext (Zq.mono _) hS.x),(aP.ext (Zq.mono _) hS.x),(aQ.ext (Zq.mono _) hS.x)⟩ : Qw _ [.int .i64 a0.P.Id,.bool a0.P.Mobile,aG,aH,aI,.int .i64 a0.P.Events,aJ] a0.P) dO) rfl ?_
  clear H;intro gG gH hv;clear a;intro a H;obtain⟨aF,rfl,dP⟩:=hv
  replace hS:=hS.new dP;simp only [List.cons_append,List.nil_append] at hS
  refine n_q H (Zc rfl) rfl (W_q (Zk rfl rfl) rfl (W_q (Zk rfl rfl) rfl (W_q (Zb rfl) rfl (W_q (Zb rfl) rfl ?_))));clear H a;intro a H
  refine Ze (Za (wp_seq (wp_region_lit (n_q H (Zd rfl Zj9) rfl (W_q (Zf rfl ((hS.blk 1 rfl).ldPart 0 7 Zap Ut (by simp))) rfl ?_)))));clear H a;intro a H
  replace hm:=Zi hm;obtain⟨bO,dQ,hm⟩:=hm
  refine Zj H rfl en61 (Zmr (A:=A) (⟨_,_,_,_,rfl,(aN.ext (Zq.mono _) hS.x),(aO.ext (Zq.mono _) hS.x),(aP.ext (Zq.mono _) hS.x),(aQ.ext (Zq.mono _) hS.x)⟩ : Qw _ [.int .i64 a0.P.Id,.bool a0.P.Mobile,aG,aH,aI,.int .i64 a0.P.Events,aJ] a0.P) dQ) rfl ?_
  clear H;intro gI gJ hv;clear a;intro a H;obtain⟨rfl,dR⟩:=hv
  replace hS:=hS.ext dR
  refine n_q H (Zc rfl) rfl (W_q (Zk rfl rfl) rfl (W_q (Zk rfl rfl) rfl (W_q (Zb rfl) rfl (W_q (Zb rfl) rfl ?_))));clear H a;intro a H
  refine Ze (Za (wp_seq (wp_region_lit (n_q H (Zd rfl Zj9) rfl (W_q (Zf rfl ((hS.blk 1 rfl).ldPart 0 7 Zap Ut (by simp))) rfl ?_)))));clear H a;intro a H
  replace hm:=Zi hm;obtain⟨bP,dS,hm⟩:=hm
  refine Zj H rfl en14 (Zgv (A:=A) (⟨_,_,_,_,rfl,(aN.ext (Zq.mono _) hS.x),(aO.ext (Zq.mono _) hS.x),(aP.ext (Zq.mono _) hS.x),(aQ.ext (Zq.mono _) hS.x)⟩ : Qw _ [.int .i64 a0.P.Id,.bool a0.P.Mobile,aG,aH,aI,.int .i64 a0.P.Events,aJ] a0.P) dS) rfl ?_
  clear H;intro gK gL hv;clear a;intro a H;obtain⟨eN,eO,eP,eQ,rfl,dT⟩:=hv
  replace hS:=hS.new dT;simp only [List.cons_append,List.nil_append] at hS
  replace hm:=Zi hm;obtain⟨dK,dU,hm⟩:=hm
  refine Zj H rfl en47 (Zaj (A:=A) (hG.ext hS.x) (⟨_,_,_,_,rfl,((hS.own 0 rfl).slr rfl (fun _ _=>rfl)),((hS.own 1 rfl).slr rfl (fun _ _=>rfl)),((hS.own 2 rfl).slr rfl (fun _ _=>rfl)),((hS.own 3 rfl).slr rfl (fun _ _=>rfl))⟩ : Qw _ [.int .i64 bP.Id,.bool bP.Mobile,eN,eO,eP,.int .i64 bP.Events,eQ] bP) dU) rfl ?_
  clear H;intro gM eT hv;clear a;intro a H;obtain⟨gN,eU,rfl,dV⟩:=hv
  replace hS:=hS.new dV;simp only [List.cons_append,List.nil_append] at hS
  refine n_q H (Zc rfl) rfl (W_q (Zk rfl rfl) rfl (W_q (Zk rfl rfl) rfl (W_q (Zb rfl) rfl (W_q (Zb rfl) rfl ?_))));clear H a;intro a H
  refine Ze (Za (wp_seq ?_))
  replace hm:=Zi hm;obtain⟨gO,hm,cA⟩:=hm
  refine Hj (σ:=Bool) H (fun bG=>[(1,.pointer (some ⟨bN,0,none⟩)),(3,aF),(5,.int .u32 bO.1),(6,.int .i64 bO.2),(47,.bool bG)]) (fun bG wl=>(Yd a0 aD bO) bG=some r ∧ St NB w wl [ownR 5 1 aF aD.1.length (aD.1.flatMap eB),blkR bN [.int .i64 a0.P.Id,.bool a0.P.Mobile,aG,aH,aI,.int .i64 a0.P.Events,aJ,.int .i64 a0.Q.Id,.bool a0.Q.Mobile,bC,bD,bE,.int .i64 a0.Q.Events,bF,aC,.int .i64 a0.At,.int .u32 a0.Mask] 103]) ?_ ?_
  · skip
    refine wp_region_lit (n_q H (Zc rfl) rfl (W_q (Zc rfl) rfl ?_));clear H a;intro a H
    replace hm:=Zi hm;obtain⟨dW,cW,hm⟩:=hm
    refine Zj H rfl en54 (Zch (A:=A) (hG.ext hS.x) (hH.ext hS.x) (hS.any 1 rfl : IsE A eT eU dK.2) cW) rfl ?_
    clear H;intro fV fW hv;clear a;intro a H;obtain⟨rfl,cX⟩:=hv
    replace hS:=hS.ext cX
    refine n_q H (Zf5 rfl) rfl (W_q (Zc rfl) rfl ?_);clear H a;intro a H
    rcases Bool.eq_false_or_eq_true (!dW) with aR|aR
    · replace H:=H.know 41 rfl aR
      replace hm:=Zu hm aR
      refine Zci H rfl rfl (by decide) rfl (Qn rfl rfl (by decide) rfl (Qn rfl rfl (by decide) rfl (Qn rfl rfl (by decide) rfl (Qn rfl rfl (by decide) rfl (W_q (Qi rfl rfl) rfl ?_)))));clear H a;intro a H
      refine Ze (Za ?_)
      obtain rfl:=Option.some.inj hm;replace hm:=cA;try dsimp only at hm
      replace hS:=hS.pk7
      replace hS:=hS.pk7
      replace hS:=hS.tk2
      exact Wh true H ⟨rfl,rfl,rfl,rfl,rfl,trivial⟩ ⟨hm,hS⟩
    replace H:=H.know 41 rfl aR
    replace hm:=Zv hm aR
    refine Wb H rfl rfl (n_q H (Zc rfl) rfl (Xe rfl rfl (W_q (Zhj Tryz.underlying100 Tryz.underlying5 Tryz.underlying9 rfl (fun w' hw=>(((hS.own 0 rfl).slr rfl (fun _ _=>rfl)).ext (Zq.mono _) hw))) rfl (Xe rfl rfl (W_q (Zc rfl) rfl (Xe rfl rfl (W_q (Zhj Tryz.underlying100 Tryz.underlying5 Tryz.underlying9 rfl (fun w' hw=>(((hS.own 6 rfl).slr rfl (fun _ _=>rfl)).ext (Zq.mono _) hw))) rfl (Xe rfl rfl (W_q (Zkq rfl rfl) rfl (W_q (Jf rfl rfl) rfl ?_))))))))));clear H a;intro a H
    refine Ze (Za ?_)
    obtain rfl:=Option.some.inj hm;replace hm:=cA;try dsimp only at hm
    replace hS:=hS.pk7
    replace hS:=hS.pk7
    replace hS:=hS.tk2
    exact Wh (!decide ((Za6 dK.1)=(Za6 aD.1))) H ⟨rfl,rfl,rfl,rfl,rfl,trivial⟩ ⟨hm,hS⟩
  clear H hS hm a;intro bG a fX H hR
  simp only [ent,List.map_cons,List.map_nil] at H;(try dsimp only at hR);obtain⟨hm,hS⟩:=hR;try dsimp only [Yd] at hm
  refine Zl H rfl (fun bH=>?_) (fun bH=>?_)
  · replace hm:=Zu hm bH
    refine wp_seq (wp_region_lit (n_q H (Zb rfl) rfl ?_));clear H a;intro a H
    refine Ze (Za (wp_ret (Zh ?_)))
    obtain rfl:=Option.some.inj hm
    replace hS:=hS.tk0
    refine Je H (.inr rfl) rfl rfl ?_
    exact⟨rfl,hS.x⟩
  replace hm:=Zv hm bH
  refine wp_skip (Za (wp_seq (wp_region_lit (n_q H (Zd rfl Zj9) rfl (W_q (Zf rfl ((hS.blk 1 rfl).ldPart 0 7 Zap Ut (by simp))) rfl ?_)))));clear H a;intro a H
  replace hm:=Zi hm;obtain⟨bI,cY,hm⟩:=hm
  refine Zj H rfl en14 (Zgv (A:=A) (⟨_,_,_,_,rfl,(aN.ext (Zq.mono _) hS.x),(aO.ext (Zq.mono _) hS.x),(aP.ext (Zq.mono _) hS.x),(aQ.ext (Zq.mono _) hS.x)⟩ : Qw _ [.int .i64 a0.P.Id,.bool a0.P.Mobile,aG,aH,aI,.int .i64 a0.P.Events,aJ] a0.P) cY) rfl ?_
  clear H;intro fY fZ hv;clear a;intro a H;obtain⟨dX,dY,dZ,d5,rfl,cZ⟩:=hv
  replace hS:=hS.new cZ;simp only [List.cons_append,List.nil_append] at hS
  replace hm:=Zi hm;obtain⟨cB,dA,hm⟩:=hm
  refine Zj H rfl en62 (Zlm (A:=A) (hG.ext hS.x) (⟨_,_,_,_,rfl,((hS.own 0 rfl).slr rfl (fun _ _=>rfl)),((hS.own 1 rfl).slr rfl (fun _ _=>rfl)),((hS.own 2 rfl).slr rfl (fun _ _=>rfl)),((hS.own 3 rfl).slr rfl (fun _ _=>rfl))⟩ : Qw _ [.int .i64 bI.Id,.bool bI.Mobile,dX,dY,dZ,.int .i64 bI.Events,d5] bI) dA) rfl ?_
  clear H;intro gA d7 hv;clear a;intro a H;obtain⟨d8,rfl,dB⟩:=hv
  replace hS:=hS.new dB;simp only [List.cons_append,List.nil_append] at hS
  refine n_q H (Zc rfl) rfl (W_q (Zk rfl rfl) rfl (W_q (Zk rfl rfl) rfl (W_q (Zb rfl) rfl (W_q (Zb rfl) rfl ?_))));clear H a;intro a H
  refine Ze (Za (wp_seq ?_))
  replace hm:=Zi hm;obtain⟨gB,hm,bQ⟩:=hm
  refine Hj (σ:=Bool) H (fun aT=>[(1,.pointer (some ⟨bN,0,none⟩)),(3,aF),(63,.bool aT)]) (fun aT wl=>(Yc a0 aD) aT=some r ∧ St NB w wl [ownR 5 1 aF aD.1.length (aD.1.flatMap eB),blkR bN [.int .i64 a0.P.Id,.bool a0.P.Mobile,aG,aH,aI,.int .i64 a0.P.Events,aJ,.int .i64 a0.Q.Id,.bool a0.Q.Mobile,bC,bD,bE,.int .i64 a0.Q.Events,bF,aC,.int .i64 a0.At,.int .u32 a0.Mask] 103]) ?_ ?_
  · skip
    refine wp_region_lit (n_q H (Zc rfl) rfl (W_q (Zc rfl) rfl (W_q (Vo rfl rfl) rfl (W_q (Zc rfl) rfl ?_))));clear H a;intro a H
    rcases Bool.eq_false_or_eq_true (!decide (cB.1=bO.1)) with aL|aL
    · replace H:=H.know 58 rfl aL
      replace hm:=Zu hm aL
      refine Zci H rfl rfl (by decide) rfl (Qn rfl rfl (by decide) rfl (Qn rfl rfl (by decide) rfl (Qn rfl rfl (by decide) rfl (W_q (Qi rfl rfl) rfl ?_))));clear H a;intro a H
      refine Ze (Za ?_)
      obtain rfl:=Option.some.inj hm;replace hm:=bQ;try dsimp only at hm
      replace hS:=hS.pk6
      replace hS:=hS.pk6
      replace hS:=hS.tk2
      exact Wh true H ⟨rfl,rfl,rfl,trivial⟩ ⟨hm,hS⟩
    replace H:=H.know 58 rfl aL
    replace hm:=Zv hm aL
    refine Wb H rfl rfl (n_q H (Zc rfl) rfl (Xe rfl rfl (W_q (Zc rfl) rfl (Xe rfl rfl ?_))));clear H a;intro a H
    replace hm:=Zi hm;obtain⟨dC,cC,hm⟩:=hm
    refine Zj H rfl en54 (Zch (A:=A) (hG.ext hS.x) (hH.ext hS.x) (hS.any 0 rfl : IsE A d7 d8 cB.2) cC) rfl ?_
    clear H;intro eX eY hv;clear a;intro a H;obtain⟨rfl,cD⟩:=hv
    replace hS:=hS.ext cD
    refine Wb H rfl rfl (n_q H (Zf5 rfl) rfl (W_q (Jf rfl rfl) rfl ?_));clear H a;intro a H
    refine Ze (Za ?_)
    obtain rfl:=Option.some.inj hm;replace hm:=bQ;try dsimp only at hm
    replace hS:=hS.pk6
    replace hS:=hS.pk6
    replace hS:=hS.tk2
    exact Wh (!dC) H ⟨rfl,rfl,rfl,trivial⟩ ⟨hm,hS⟩
  clear H hS hm a;intro aT a eZ H hR
  simp only [ent,List.map_cons,List.map_nil] at H;(try dsimp only at hR);obtain⟨hm,hS⟩:=hR;try dsimp only [Yc] at hm
  refine Zl H rfl (fun aW=>?_) (fun aW=>?_)
  · replace hm:=Zu hm aW
    refine wp_seq (wp_region_lit (n_q H (Zb rfl) rfl ?_));clear H a;intro a H
    refine Ze (Za (wp_ret (Zh ?_)))
    obtain rfl:=Option.some.inj hm
    replace hS:=hS.tk0
    refine Je H (.inr rfl) rfl rfl ?_
    exact⟨rfl,hS.x⟩
  replace hm:=Zv hm aW
  refine wp_skip (Za (wp_seq (wp_region_lit (n_q H (Zd rfl Zum) rfl (W_q (Zf rfl ((hS.blk 1 rfl).ld Zdx rfl)) rfl (W_q (Zc rfl) rfl ?_))))));clear H a;intro a H
  refine Qd H Tryz.underlying92 Zok ze100 rfl rfl rfl (cs:=[aC,aF]) ((Qh ((aB.ext (Zq.mono _) hS.x)).one rfl (by simp)).trans ((Qh (((hS.own 0 rfl).slr rfl (fun _ _=>rfl))).one rfl (by simp)).trans rfl)) rfl ?_
  clear H;intro aU e8 hN cF hs;clear a;intro a H
  replace hS:=hS.newBlk hN cF hs;clear hN hs
  refine n_q H (Zb rfl) rfl ?_;clear H a;intro a H
  refine Ze (Za (wp_seq (wp_seq (wp_region_lit (n_q H (Zb rfl) rfl ?_)))));clear H a;intro a H
  refine Ze (Za (wp_block ?_))
  replace hS:=hS.tk2
  replace hm:=Zi hm;obtain⟨bJ,hm,bK⟩:=hm;replace hm:=Qg hm;obtain⟨dD,hm⟩:=hm
  refine Jd (σ:=Nat × Nat) (fun (m,aA)=>[(10,.slice (some ⟨aU,0,none⟩) 2 2),(11,.int .i64 ((aA : Nat) : Int))]) (fun (m,aA) wl=>Js (Ji a0 aD) m aA=some bJ ∧ St NB w wl [blkR aU [aC,aF] 100,ownR 5 1 aF aD.1.length (aD.1.flatMap eB)]) (fun (m,aA)=>m) (dD,0) H ⟨rfl,rfl,trivial⟩ ⟨hm,hS⟩ ?_
  clear H hS hm a;intro xx a e9 H hR;obtain⟨m,aA⟩:=xx;simp only [ent,List.map_cons,List.map_nil] at H;(try dsimp only at hR);obtain⟨hm,hS⟩:=hR
  replace hm:=Qa hm;obtain⟨dE,dF,rfl,hm,aX⟩:=hm;try dsimp only [Ji] at hm
  refine wp_seq (wp_seq (wp_region_lit (n_q H (Zc rfl) rfl (W_q (Zc rfl) rfl (W_q (Zma Tryz.underlying92 rfl) rfl (W_q (Xz (i:=aA) (j:=2) rfl rfl) rfl ?_))))));clear H a;intro a H
  refine Ze (Za (Zl H rfl (fun aS=>?_) (fun aS=>?_)))
  · replace hm:=Zu hm aS
    have eC : aA < 2:=of_decide_eq_true aS
    refine wp_skip (Za (wp_seq (wp_block (wp_seq (wp_region_lit (n_q H (Zc rfl) rfl (W_q (Zc rfl) rfl ?_)))))));clear H a;intro a H
    replace hm:=Zi hm;obtain⟨fA,aY,hm⟩:=hm
    obtain⟨eD,bA⟩:=SlR.adV (SlR.ofBlk (k:=1) (R:=RSl 1 eB) [[aC],[aF]] [a0.B,aD.1] (hS.blk 0 rfl) (DIn.cons rfl (by simp [((aB.ext (Zq.mono _) hS.x)).one]) ⟨_,rfl,(aB.ext (Zq.mono _) hS.x)⟩ (DIn.cons rfl (by simp [(((hS.own 1 rfl).slr rfl (fun _ _=>rfl))).one]) ⟨_,rfl,((hS.own 1 rfl).slr rfl (fun _ _=>rfl))⟩ trivial)) rfl (by simp [maxLen])) rfl aY
    obtain⟨eE,d9,⟨eV,rfl,bZ⟩,b7⟩:=SlR.elV (SlR.ofBlk (k:=1) (R:=RSl 1 eB) [[aC],[aF]] [a0.B,aD.1] (hS.blk 0 rfl) (DIn.cons rfl (by simp [((aB.ext (Zq.mono _) hS.x)).one]) ⟨_,rfl,(aB.ext (Zq.mono _) hS.x)⟩ (DIn.cons rfl (by simp [(((hS.own 1 rfl).slr rfl (fun _ _=>rfl))).one]) ⟨_,rfl,((hS.own 1 rfl).slr rfl (fun _ _=>rfl))⟩ trivial)) rfl (by simp [maxLen])) rfl bA aY
    refine n_q H (Jn (i:=aA) Tryz.underlying92 Zok rfl rfl bA rfl (Ho aY)) rfl (W_q (Zf rfl (LdX.ext (Zt0 Zdx b7) Ext.rfl')) rfl ?_);clear H a;intro a H
    replace hm:=Zi hm;obtain⟨aK,cG,hm⟩:=hm
    refine Zj H rfl en51 (Zlk (A:=A) (bZ.ext (Zq.mono _) Ext.rfl') cG) rfl ?_
    clear H;intro fB fC hv;clear a;intro a H;obtain⟨bR,bS,bT,bU,rfl,cH⟩:=hv
    replace hS:=hS.new cH;simp only [List.cons_append,List.nil_append] at hS
    refine n_q H (Zc rfl) rfl (W_q (Zk rfl rfl) rfl (W_q (Zk rfl rfl) rfl ?_));clear H a;intro a H
    refine Qr H Zg9 rfl ?_
    clear H;intro fD fE hN cI hs;clear a;intro a H
    replace hS:=hS.newBlk hN cI hs;clear hN hs
    refine Zr H rfl rfl (vs:=[.int .i64 aK.1.Id,.bool aK.1.Mobile,bR,bS,bT,.int .i64 aK.1.Events,bU]) rfl Ut (hS.blk 0 rfl) rfl (by simp [(((hS.own 1 rfl).slr rfl (fun _ _=>rfl))).one,(((hS.own 2 rfl).slr rfl (fun _ _=>rfl))).one,(((hS.own 3 rfl).slr rfl (fun _ _=>rfl))).one,(((hS.own 4 rfl).slr rfl (fun _ _=>rfl))).one]) ?_
    clear H;intro fF hN cJ hz;clear a;intro a H;replace hS:=hS.setBlk hN cJ;clear hN hz
    refine n_q H (Zb rfl) rfl ?_;clear H a;intro a H
    refine Ze (Za (wp_seq (wp_region_lit (Qd H Tryz.underlying100 sz5 ze5 rfl rfl rfl (cs:=[]) rfl rfl ?_))))
    clear H;intro fG fH hN cK hs;clear a;intro a H
    replace hS:=hS.newBlk hN cK hs;clear hN hs
    replace hS:=hS.blkOwnL (e:=eB) (k:=1) ([] : List UInt8) rfl rfl (by simp [maxLen])
    refine n_q H (Zc rfl) rfl (W_q (Zc rfl) rfl ?_);clear H a;intro a H
    replace hm:=Zi hm;obtain⟨fI,aZ,hm⟩:=hm
    obtain⟨eG,bB⟩:=SlR.adV (SlR.ofBlk (k:=1) (R:=RSl 1 eB) [[aC],[aF]] [a0.B,aD.1] (hS.blk 6 rfl) (DIn.cons rfl (by simp [((aB.ext (Zq.mono _) hS.x)).one]) ⟨_,rfl,(aB.ext (Zq.mono _) hS.x)⟩ (DIn.cons rfl (by simp [(((hS.own 7 rfl).slr rfl (fun _ _=>rfl))).one]) ⟨_,rfl,((hS.own 7 rfl).slr rfl (fun _ _=>rfl))⟩ trivial)) rfl (by simp [maxLen])) rfl aZ
    obtain⟨eH,eA,⟨eW,rfl,b8⟩,b9⟩:=SlR.elV (SlR.ofBlk (k:=1) (R:=RSl 1 eB) [[aC],[aF]] [a0.B,aD.1] (hS.blk 6 rfl) (DIn.cons rfl (by simp [((aB.ext (Zq.mono _) hS.x)).one]) ⟨_,rfl,(aB.ext (Zq.mono _) hS.x)⟩ (DIn.cons rfl (by simp [(((hS.own 7 rfl).slr rfl (fun _ _=>rfl))).one]) ⟨_,rfl,((hS.own 7 rfl).slr rfl (fun _ _=>rfl))⟩ trivial)) rfl (by simp [maxLen])) rfl bB aZ
    refine n_q H (Jn (i:=aA) Tryz.underlying92 Zok rfl rfl bB rfl (Ho aZ)) rfl (W_q (Zf rfl (LdX.ext (Zt0 Zdx b9) Ext.rfl')) rfl ?_);clear H a;intro a H
    replace hm:=Tj hm;obtain⟨cL,hm⟩:=hm
    refine Zb1 (e:=eB) H rfl rfl Tryz.underlying100 Tryz.underlying100 (by simp) el5 (hS.own 0 rfl) ((b8.ext (Zq.mono _) Ext.rfl').src (fun _ _=>rfl)) Zal cL (by simp only [maxLen];omega) rfl ?_
    clear H;intro fJ fK hN cM hb;clear a;intro a H;replace hS:=hS.setOwn hN cM hb;clear hN hb
    replace hm:=Zi hm;obtain⟨aE,cN,hm⟩:=hm
    refine Zj H rfl en49 (Zj1 (A:=A) (hG.ext hS.x) ((hS.own 0 rfl).slr rfl (fun _ _=>rfl)) cN) rfl ?_
    clear H;intro fL fM hv;clear a;intro a H;obtain⟨bV,bW,bX,bY,dG,rfl,cO⟩:=hv
    replace hS:=hS.new cO;simp only [List.cons_append,List.nil_append] at hS
    refine n_q H (Zc rfl) rfl (W_q (Zk rfl rfl) rfl (W_q (Zk rfl rfl) rfl ?_));clear H a;intro a H
    refine Qr H Zg9 rfl ?_
    clear H;intro fN fO hN cP hs;clear a;intro a H
    replace hS:=hS.newBlk hN cP hs;clear hN hs
    refine Zr H rfl rfl (vs:=[.int .i64 aE.1.Id,.bool aE.1.Mobile,bV,bW,bX,.int .i64 aE.1.Events,bY]) rfl Ut (hS.blk 0 rfl) rfl (by simp [(((hS.own 1 rfl).slr rfl (fun _ _=>rfl))).one,(((hS.own 2 rfl).slr rfl (fun _ _=>rfl))).one,(((hS.own 3 rfl).slr rfl (fun _ _=>rfl))).one,(((hS.own 4 rfl).slr rfl (fun _ _=>rfl))).one]) ?_
    clear H;intro dH hN cQ hz;clear a;intro a H;replace hS:=hS.setBlk hN cQ;clear hN hz
    refine n_q H (Zb rfl) rfl ?_;clear H a;intro a H
    refine Ze (Za ?_)
    replace hm:=Zi hm;obtain⟨fP,hm,bL⟩:=hm
    refine Hj (σ:=Bool) H (fun aV=>[(10,.slice (some ⟨aU,0,none⟩) 2 2),(11,.int .i64 ((aA : Nat) : Int)),(101,.bool aV)]) (fun aV wl=>(Wf aA) aV=some dF ∧ St NB w wl [blkR aU [aC,aF] 100,ownR 5 1 aF aD.1.length (aD.1.flatMap eB)]) ?_ ?_
    · skip
      refine wp_region_lit (n_q H (Zc rfl) rfl (W_q (Zc rfl) rfl ?_));clear H a;intro a H
      replace hm:=Zi hm;obtain⟨dI,cR,hm⟩:=hm
      refine Zj H rfl en54 (Zch (A:=A) (hG.ext hS.x) (hH.ext hS.x) (hS.any 5 rfl : IsE A dH dG aE.2) cR) rfl ?_
      clear H;intro fQ fR hv;clear a;intro a H;obtain⟨rfl,cT⟩:=hv
      replace hS:=hS.ext cT
      refine n_q H (Zf5 rfl) rfl (W_q (Zc rfl) rfl ?_);clear H a;intro a H
      rcases Bool.eq_false_or_eq_true (!dI) with aM|aM
      · replace H:=H.know 96 rfl aM
        replace hm:=Zu hm aM
        refine Zci H rfl rfl (by decide) rfl (Qn rfl rfl (by decide) rfl (Qn rfl rfl (by decide) rfl (Qn rfl rfl (by decide) rfl (W_q (Qi rfl rfl) rfl ?_))));clear H a;intro a H
        refine Ze (Za ?_)
        obtain rfl:=Option.some.inj hm;replace hm:=bL;try dsimp only at hm
        replace hS:=hS.pick 13 rfl;dsimp only [List.eraseIdx] at hS
        replace hS:=hS.pick 13 rfl;dsimp only [List.eraseIdx] at hS
        replace hS:=hS.tk2
        exact Wh true H ⟨rfl,rfl,rfl,trivial⟩ ⟨hm,hS⟩
      replace H:=H.know 96 rfl aM
      replace hm:=Zv hm aM
      refine Wb H rfl rfl (n_q H (Zf rfl ((hS.blk 7 rfl).ldAll Zap Ut)) rfl (Xe rfl rfl (W_q (Zf rfl ((hS.blk 0 rfl).ldAll Zap Ut)) rfl (Xe rfl rfl ?_))));clear H a;intro a H
      replace hm:=Zi hm;obtain⟨dJ,cU,hm⟩:=hm
      refine Zj H rfl en55 (Zll (A:=A) (⟨_,_,_,_,rfl,((hS.own 8 rfl).slr rfl (fun _ _=>rfl)),((hS.own 9 rfl).slr rfl (fun _ _=>rfl)),((hS.own 10 rfl).slr rfl (fun _ _=>rfl)),((hS.own 11 rfl).slr rfl (fun _ _=>rfl))⟩ : Qw _ [.int .i64 aK.1.Id,.bool aK.1.Mobile,bR,bS,bT,.int .i64 aK.1.Events,bU] aK.1) (⟨_,_,_,_,rfl,((hS.own 1 rfl).slr rfl (fun _ _=>rfl)),((hS.own 2 rfl).slr rfl (fun _ _=>rfl)),((hS.own 3 rfl).slr rfl (fun _ _=>rfl)),((hS.own 4 rfl).slr rfl (fun _ _=>rfl))⟩ : Qw _ [.int .i64 aE.1.Id,.bool aE.1.Mobile,bV,bW,bX,.int .i64 aE.1.Events,bY] aE.1) cU) rfl ?_
      clear H;intro fS fT hv;clear a;intro a H;obtain⟨rfl,cV⟩:=hv
      replace hS:=hS.ext cV
      refine Wb H rfl rfl (n_q H (Zf5 rfl) rfl (W_q (Jf rfl rfl) rfl ?_));clear H a;intro a H
      refine Ze (Za ?_)
      obtain rfl:=Option.some.inj hm;replace hm:=bL;try dsimp only at hm
      replace hS:=hS.pick 13 rfl;dsimp only [List.eraseIdx] at hS
      replace hS:=hS.pick 13 rfl;dsimp only [List.eraseIdx] at hS
      replace hS:=hS.tk2
      exact Wh (!dJ) H ⟨rfl,rfl,rfl,trivial⟩ ⟨hm,hS⟩
    clear H hS hm a;intro aV a fU H hR
    simp only [ent,List.map_cons,List.map_nil] at H;(try dsimp only at hR);obtain⟨hm,hS⟩:=hR;try dsimp only [Wf] at hm
    refine Zl H rfl (fun a9=>?_) (fun a9=>?_)
    · replace hm:=Zu hm a9
      refine wp_seq (wp_region_lit (n_q H (Zb rfl) rfl ?_));clear H a;intro a H
      refine Ze (Za (wp_ret (Zo (Zh (Zh (Zo (Zh ?_)))))))
      obtain rfl:=Option.some.inj hm;have hz : _=bJ:=aX;subst hz;replace hm:=bK;try dsimp only at hm
      obtain rfl:=Option.some.inj hm
      replace hS:=hS.tk0
      refine Je H (.inr rfl) rfl rfl ?_
      exact⟨rfl,hS.x⟩
    replace hm:=Zv hm a9
    refine wp_skip (Zm (Za (wp_region_lit (n_q H (Zc rfl) rfl (W_q (Kb (i:=aA) (j:=1) rfl rfl (by omega)) rfl (W_q (Zb rfl) rfl ?_))))));clear H a;intro a H
    refine Ze (Za ?_)
    obtain rfl:=Option.some.inj hm
    exact Vh (dE,aA + 1) H ⟨rfl,rfl,trivial⟩ ⟨aX,hS⟩ (Nat.lt_succ_self _)
  replace hm:=Zv hm aS
  refine wp_exit (Zn (Zn (Zy ?_)))
  obtain rfl:=Option.some.inj hm;have hz : _=bJ:=aX;subst hz;replace hm:=bK;try dsimp only at hm
  refine Za (wp_seq (wp_region_lit (n_q H (Zb rfl) rfl ?_)));clear H a;intro a H
  refine Ze (Za (wp_ret ?_))
  obtain rfl:=Option.some.inj hm
  replace hS:=hS.tk0
  refine Je H (.inr rfl) rfl rfl ?_
  exact⟨rfl,hS.x⟩
end Go.Proofs.YtfemfiiagjnhdaaGreatDoor
set_option linter.unusedVariables false
set_option linter.unusedSimpArgs false
set_option maxRecDepth 10000
namespace Go.Proofs.YtfemfiiagjnhdaaGreatDoor
open Go Go.RowKit
end Go.Proofs.YtfemfiiagjnhdaaGreatDoor
