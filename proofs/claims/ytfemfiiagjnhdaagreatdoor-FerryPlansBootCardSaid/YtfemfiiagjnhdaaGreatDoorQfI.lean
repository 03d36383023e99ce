/- Part of a claim, shortened by a program from its texts: PtF2. -/
import Derived.Test.YtfemfiiagjnhdaaGreatDoorQfH
set_option linter.unusedVariables false
set_option linter.unusedSimpArgs false
set_option maxRecDepth 10000
namespace Go.Proofs.YtfemfiiagjnhdaaGreatDoor
open Go Go.RowKit
theorem bd154 : bdB Tryz.prog 154=true:=by kernel_rfl
theorem pl154 : Tl Tryz.prog 154=some #[(0,1),(1,1)]:=by kernel_rfl
theorem bd219 : bdB Tryz.prog 219=true:=by kernel_rfl
theorem pl219 : Tl Tryz.prog 219=some #[(0,7),(7,10)]:=by kernel_rfl
theorem el163 : ElemOk Tryz.prog 163 2 16 [.int .i64 0,.int .i64 0]:=⟨by kernel_rfl,by kernel_rfl,by kernel_rfl,rfl,by decide⟩
theorem el9 : ElemOk Tryz.prog 9 1 16 [.string ⟨#[]⟩]:=⟨by kernel_rfl,by kernel_rfl,by kernel_rfl,rfl,by decide⟩
theorem en139 : Zq Tryz.prog 139=true:=by kernel_rfl
theorem en141 : Zq Tryz.prog 141=true:=by kernel_rfl
theorem en49 : Zq Tryz.prog 49=true:=by kernel_rfl
theorem en58 : Zq Tryz.prog 58=true:=by kernel_rfl
theorem en63 : Zq Tryz.prog 63=true:=by kernel_rfl
theorem en64 : Zq Tryz.prog 64=true:=by kernel_rfl
theorem en65 : Zq Tryz.prog 65=true:=by kernel_rfl
theorem Zrt : Zq Tryz.prog 66=true:=by kernel_rfl
theorem en68 : Zq Tryz.prog 68=true:=by kernel_rfl
theorem en69 : Zq Tryz.prog 69=true:=by kernel_rfl
theorem en70 : Zq Tryz.prog 70=true:=by kernel_rfl
theorem Zt7 : Zaw Tryz.prog 144 1=some 16:=by kernel_rfl
theorem sz29 : Jd Tryz.prog 29=some 1:=by kernel_rfl
theorem sz30 : Jd Tryz.prog 30=some 1:=by kernel_rfl
theorem sz31 : Jd Tryz.prog 31=some 1:=by kernel_rfl
theorem ze219 : Hb Tryz.prog 219=some [.int .i64 0,.bool false,.slice none 0 0,.slice none 0 0,.slice none 0 0,.int .i64 0,.slice none 0 0,.int .i64 0,.int .i64 0,.int .i64 0,.slice none 0 0,.slice none 0 0,.slice none 0 0,.slice none 0 0,.slice none 0 0,.slice none 0 0,.slice none 0 0]:=by kernel_rfl
theorem ze4 : Hb Tryz.prog 4=some [.bool false]:=by kernel_rfl
theorem ze9 : Hb Tryz.prog 9=some [.string ⟨#[]⟩]:=by kernel_rfl
theorem Za0 {w : World} {A : Nat → Addr} {cs0 : List Value} {a0 : GPlan} {cs1 : List Value} {a1 : GState} (hG : EV A w) (h0 : Xa w cs0 a0) (h1 : Hg w cs1 a1) {r : List Int} (hm : Wf a0 a1=some r) :
    Calls Tryz.prog 64 [.agg cs0.toArray,.agg cs1.toArray].toArray w (Ret fun u w'=>∃ h_0,u=h_0 ∧ St NB w w' [ownR 3 1 h_0 r.length (r.flatMap eI)]):=by
  obtain⟨aD,aE,aF,aG,rfl,aS,aT,aU,aV⟩:=h0
  obtain⟨aJ,aK,aL,aM,aN,aO,aP,rfl,aX,aY,aZ,a9,bA,bB,bC⟩:=h1
  have hS:=St.begin NB w
  unfold Wf at hm
  refine enter Tryz.func64 rfl rfl rfl ?_;intro a H;dsimp only [Qn,Nat.zero_add,Nat.reduceAdd] at H
  refine wp_seq (wp_region_lit (Yy H rfl (cs:=[.int .i64 a0.Id,.bool a0.Mobile,aD,aE,aF,.int .i64 a0.Events,aG]) rfl rfl ?_))
  clear H;intro cD cF hN bP hs;clear a;intro a H
  replace hS:=hS.newBlk hN bP hs;clear hN hs
  refine Yy H rfl (cs:=[.int .i64 a1.Id,.int .i64 a1.Frame,.int .i64 a1.Epoch,aJ,aK,aL,aM,aN,aO,aP]) rfl rfl ?_
  clear H;intro cG cH hN bQ hs;clear a;intro a H
  replace hS:=hS.newBlk hN bQ hs;clear hN hs
  refine n_q H (Zb rfl) rfl ?_;clear H a;intro a H
  refine Ze (Za (wp_seq (wp_seq (wp_region_lit (n_q H (Zf rfl ((hS.blk 1 rfl).ldAll Zda Zav)) rfl ?_)))));clear H a;intro a H
  replace hm:=Zj hm;obtain⟨bD,bR,hm⟩:=hm
  refine Zk H rfl en57 (Hy (A:=A) (hG.ext hS.x) (⟨_,_,_,_,rfl,(aS.ext (Zi.mono _) hS.x),(aT.ext (Zi.mono _) hS.x),(aU.ext (Zi.mono _) hS.x),(aV.ext (Zi.mono _) hS.x)⟩ : Xa _ [.int .i64 a0.Id,.bool a0.Mobile,aD,aE,aF,.int .i64 a0.Events,aG] a0) bR) rfl ?_
  clear H;intro bM bN hv;clear a;intro a H;obtain⟨_,rfl,bS⟩:=hv
  replace hS:=hS.new bS;simp only [List.cons_append,List.nil_append] at hS
  refine n_q H (Xi (Vr Tryz.underlying39 rfl rfl (hS.any 0 rfl : IsE A bN bM bD).form) (show _=Value.bool (!decide (bD=.nil)) by rw [Xu.isNil (hS.any 0 rfl : IsE A bN bM bD)])) rfl ?_;clear H a;intro a H
  refine Ze (Za (Zn H rfl (fun aW=>?_) (fun aW=>?_)))
  · replace hm:=Zu hm aW
    refine wp_seq (wp_region_lit (Qb H Tryz.underlying25 sz3 ze3 rfl rfl rfl (cs:=[.int .i64 0]) (by kernel_rfl) rfl ?_))
    clear H;intro cI cJ hN bT hs;clear a;intro a H
    replace hS:=hS.newBlk hN bT hs;clear hN hs
    replace hS:=hS.blkOwnL (e:=eI) (k:=1) [0] rfl rfl (by simp [maxLen])
    refine n_q H (Zb rfl) rfl ?_;clear H a;intro a H
    refine Ze (Za (wp_ret (Zh ?_)))
    obtain rfl:=Option.some.inj hm
    replace hS:=hS.tk1
    refine Qx H (.inr rfl) rfl rfl ?_
    exact⟨_,rfl,hS⟩
  replace hm:=Zv hm aW
  refine wp_skip (Za (wp_seq (wp_region_lit (n_q H (Zb rfl) rfl ?_))));clear H a;intro a H
  refine Ze (Za (wp_seq (wp_seq (wp_region_lit (n_q H (Zf rfl ((hS.blk 2 rfl).ldAll Zda Zav)) rfl (W_q (Zf rfl ((hS.blk 1 rfl).ldAll Zo1 Zbz)) rfl (W_q (Qt (cs:=[.int .i64 a0.Id,.bool a0.Mobile,aD,aE,aF,.int .i64 a0.Events,aG,.int .i64 a1.Id,.int .i64 a1.Frame,.int .i64 a1.Epoch,aJ,aK,aL,aM,aN,aO,aP]) ze219 bd219 pl219 rfl (by kernel_rfl)) rfl ?_)))))));clear H a;intro a H
  replace hm:=Zj hm;obtain⟨bE,bU,hm⟩:=hm
  refine Zk H rfl en139 (Zdy (A:=A) (⟨_,_,_,_,_,_,_,_,_,_,_,rfl,(aS.ext (Zi.mono _) hS.x),(aT.ext (Zi.mono _) hS.x),(aU.ext (Zi.mono _) hS.x),(aV.ext (Zi.mono _) hS.x),(aX.ext (Zi.mono _) hS.x),(aY.ext (Zi.mono _) hS.x),(aZ.ext (Zi.mono _) hS.x),(a9.ext (Zi.mono _) hS.x),(bA.ext (Zi.mono _) hS.x),(bB.ext Qe.mono hS.x),(bC.ext (Zi.mono _) hS.x)⟩ : Qj _ [.int .i64 a0.Id,.bool a0.Mobile,aD,aE,aF,.int .i64 a0.Events,aG,.int .i64 a1.Id,.int .i64 a1.Frame,.int .i64 a1.Epoch,aJ,aK,aL,aM,aN,aO,aP] (⟨a0,a1⟩ : GValidAsked)) bU) rfl ?_
  clear H;intro cK cL hv;clear a;intro a H;obtain⟨rfl,bV⟩:=hv
  replace hS:=hS.ext bV
  refine n_q H (Zd rfl) rfl ?_;clear H a;intro a H
  refine Ze (Za (wp_block ?_))
  replace hS:=hS.nilOwn 3 1
  replace hS:=hS.tk1
  replace hm:=Zj hm;obtain⟨bO,hm,bW⟩:=hm;replace hm:=Ql hm;obtain⟨bY,hm⟩:=hm
  refine Kr (σ:=Nat × (List Int) × Nat × Value) (fun (m,aC,aA,aI)=>[(5,aI),(15,.agg (bE.toList.map Value.bool).toArray),(16,.int .i64 ((aA : Nat) : Int))]) (fun (m,aC,aA,aI) wl=>Ye (Yp bE) m (aC,aA)=some bO ∧ St NB w wl [ownR 3 1 aI aC.length (aC.flatMap eI)]) (fun (m,aC,aA,aI)=>m) (bY,([] : List Int),0,.slice none 0 0) H ⟨rfl,rfl,rfl,trivial⟩ ⟨hm,hS⟩ ?_
  clear H hS hm a;intro xx a cM H hR;obtain⟨m,aC,aA,aI⟩:=xx;simp only [ent,List.map_cons,List.map_nil] at H;(try dsimp only at hR);obtain⟨hm,hS⟩:=hR
  replace hm:=Qh hm;obtain⟨bZ,b6,rfl,hm,bF⟩:=hm;try dsimp only [Yp] at hm
  refine wp_seq (wp_region_lit (n_q H (Yc (i:=aA) (j:=17) rfl rfl) rfl ?_));clear H a;intro a H
  refine Ze (Za (wp_seq (Zn H rfl (fun aQ=>?_) (fun aQ=>?_))))
  · replace hm:=Zu hm aQ
    have b7 : aA < 17:=of_decide_eq_true aQ
    refine wp_skip (Za ?_)
    replace hm:=Zj hm;obtain⟨cN,hm,bG⟩:=hm
    refine Gm (σ:=(List Int) × Value) H (fun (aB,aH)=>[(5,aH),(15,.agg (bE.toList.map Value.bool).toArray),(16,.int .i64 ((aA : Nat) : Int))]) (fun (aB,aH) wl=>(Hr aA) aB=some b6 ∧ St NB w wl [ownR 3 1 aH aB.length (aB.flatMap eI)]) ?_ ?_
    · skip
      refine wp_block (wp_seq (wp_region_lit (n_q H (Zd rfl) rfl ?_)));clear H a;intro a H
      replace hm:=Zj hm;obtain⟨b8,bI,hm⟩:=hm
      obtain⟨h0x555,h1x555,bH⟩:=Zgw bI
      refine n_q H (Ztn Tryz.underlying217 sz4 ag4 rfl rfl h0x555 h1x555 (Zpr (f:=Value.bool) bH)) rfl (W_q (Zb rfl) rfl (W_q (Zb rfl) rfl ?_));clear H a;intro a H
      refine Ze (Za (wp_seq (wp_region_lit (n_q H (Zd rfl) rfl (W_q (Zb1 rfl) rfl ?_)))));clear H a;intro a H
      refine Ze (Za (Zn H rfl (fun aR=>?_) (fun aR=>?_)))
      · replace hm:=Zu hm aR
        refine wp_region_lit (n_q H (Zd rfl) rfl (W_q (Zd rfl) rfl (W_q (Yt (i:=aA) (j:=1) rfl rfl (by omega)) rfl ?_)));clear H a;intro a H
        refine Qb H Tryz.underlying25 sz3 ze3 rfl rfl rfl (cs:=[.int .i64 ((aA + 1 : Nat) : Int)]) (by kernel_rfl) rfl ?_
        clear H;intro b9 cA hN bJ hs;clear a;intro a H
        replace hS:=hS.newBlk hN bJ hs;clear hN hs
        replace hS:=hS.blkOwnL (e:=eI) (k:=1) [((aA + 1 : Nat) : Int)] rfl rfl (by simp [maxLen])
        replace hS:=hS.pk1
        replace hm:=Za6 hm;obtain⟨bK,hm⟩:=hm
        refine Zbv (e:=eI) H rfl rfl Tryz.underlying25 Tryz.underlying25 (by simp) el3 (hS.own 0 rfl) (((hS.own 1 rfl).slr rfl (fun _ _=>rfl)).src (fun _ _=>rfl)) Zhg bK (by simp only [maxLen];omega) rfl ?_
        clear H;intro bX cB hN bL hb;clear a;intro a H;replace hS:=hS.setOwn hN bL hb;clear hN hb
        refine n_q H (Zb rfl) rfl ?_;clear H a;intro a H
        refine Ze (Zo (Za ?_))
        obtain rfl:=Option.some.inj hm;replace hm:=bG;try dsimp only at hm
        replace hS:=hS.tk1
        exact Uy ((aC ++ [((aA + 1 : Nat) : Int)]),bX) H ⟨rfl,rfl,rfl,trivial⟩ ⟨hm,hS⟩
      replace hm:=Zv hm aR
      refine wp_skip (Zo (Za ?_))
      obtain rfl:=Option.some.inj hm;replace hm:=bG;try dsimp only at hm
      exact Uy (aC,aI) H ⟨rfl,rfl,rfl,trivial⟩ ⟨hm,hS⟩
    clear H hS hm a;intro xx a cC H hR
    obtain⟨aB,aH⟩:=xx
    simp only [ent,List.map_cons,List.map_nil] at H;(try dsimp only at hR);obtain⟨hm,hS⟩:=hR;try dsimp only [Hr] at hm
    refine wp_region_lit (n_q H (Yt (i:=aA) (j:=1) rfl rfl (by omega)) rfl (W_q (Zd rfl) rfl ?_));clear H a;intro a H
    refine Ze (Za ?_)
    obtain rfl:=Option.some.inj hm
    exact Uz (bZ,aB,aA + 1,aH) H ⟨rfl,rfl,rfl,trivial⟩ ⟨bF,hS⟩ (Nat.lt_succ_self _)
  replace hm:=Zv hm aQ
  refine wp_exit (Zr (Zr (Qf ?_)))
  obtain rfl:=Option.some.inj hm;have hz : _=bO:=bF;subst hz;replace hm:=bW;try dsimp only at hm
  refine Za (wp_seq (wp_region_lit (n_q H (Zd rfl) rfl (W_q (Zb rfl) rfl ?_))));clear H a;intro a H
  refine Ze (Za (wp_ret ?_))
  obtain rfl:=Option.some.inj hm
  refine Qx H (.inr rfl) rfl rfl ?_
  exact⟨_,rfl,hS⟩
theorem Zgu {w : World} {A : Nat → Addr} {v0 : Value} {a0 : List Int} {v1 : Value} {a1 : List Int} (h0 : SlR w 1 (Zi eI) v0 a0) (h1 : SlR w 1 (Zi eI) v1 a1) {r : Bool} (hm : Gu a0 a1=some r) :
    Calls Tryz.prog 65 [v0,v1].toArray w (Ret fun u w'=>u=.bool r ∧ Ext w w'):=by
  have hS:=St.begin NB w
  unfold Gu at hm
  refine enter Tryz.func65 rfl rfl rfl ?_;intro a H;dsimp only [Qn,Nat.zero_add,Nat.reduceAdd] at H
  refine wp_seq (wp_region_lit (n_q H (Zb rfl) rfl ?_));clear H a;intro a H
  refine Ze (Za (wp_seq (wp_seq (wp_region_lit (n_q H (Zd rfl) rfl ?_)))));clear H a;intro a H
  obtain⟨aX,aY,aB,aT,aU⟩:=SlR.formV (h0.ext (Zi.mono _) hS.x)
  refine n_q H (Qc Tryz.underlying25 rfl aB) rfl (W_q (Zd rfl) rfl ?_);clear H a;intro a H
  obtain⟨aZ,a9,aC,aV,aW⟩:=SlR.formV (h1.ext (Zi.mono _) hS.x)
  refine n_q H (Qc Tryz.underlying25 rfl aC) rfl (W_q (Zel (i:=a0.length) (j:=a1.length) rfl rfl) rfl ?_);clear H a;intro a H
  refine Ze (Za (Zn H rfl (fun aE=>?_) (fun aE=>?_)))
  · replace hm:=Zu hm aE
    refine wp_seq (wp_region_lit (n_q H (Zb rfl) rfl ?_));clear H a;intro a H
    refine Ze (Za (wp_ret (Zh ?_)))
    obtain rfl:=Option.some.inj hm
    refine Qx H (.inr rfl) rfl rfl ?_
    exact⟨rfl,hS.x⟩
  replace hm:=Zv hm aE
  refine wp_skip (Za (wp_seq (wp_seq (wp_region_lit (n_q H (Zd rfl) rfl (W_q (Qc Tryz.underlying25 rfl aB) rfl (W_q (Zd rfl) rfl ?_)))))));clear H a;intro a H
  refine Ze (Za (wp_block ?_))
  replace hm:=Zj hm;obtain⟨aL,hm,aM⟩:=hm;replace hm:=Ql hm;obtain⟨aO,hm⟩:=hm
  refine Kr (σ:=Nat × Nat) (fun (m,aA)=>[(0,v0),(1,v1),(12,.int .i64 ((a0.length : Nat) : Int)),(13,.int .i64 ((aA : Nat) : Int))]) (fun (m,aA) wl=>Ye (Wj a0 a1) m aA=some aL ∧ St NB w wl []) (fun (m,aA)=>m) (aO,0) H ⟨rfl,rfl,rfl,rfl,trivial⟩ ⟨hm,hS⟩ ?_
  clear H hS hm a;intro xx a bA H hR;obtain⟨m,aA⟩:=xx;simp only [ent,List.map_cons,List.map_nil] at H;(try dsimp only at hR);obtain⟨hm,hS⟩:=hR
  replace hm:=Qh hm;obtain⟨aP,bB,rfl,hm,aF⟩:=hm;try dsimp only [Wj] at hm
  refine wp_seq (wp_region_lit (n_q H (Yc (i:=aA) (j:=a0.length) rfl rfl) rfl ?_));clear H a;intro a H
  refine Ze (Za (wp_seq (Zn H rfl (fun aD=>?_) (fun aD=>?_))))
  · replace hm:=Zu hm aD
    have aQ : aA < a0.length:=of_decide_eq_true aD
    refine wp_skip (Za (wp_seq (wp_block (wp_seq (wp_region_lit (n_q H (Zd rfl) rfl (W_q (Zb rfl) rfl ?_)))))));clear H a;intro a H
    refine Ze (Za (wp_seq (Gw (by kernel_rfl) (by kernel_rfl) ?_)))
    refine Xn H (Zd rfl) rfl ?_;clear H a;intro a H
    refine Xn H (Zd rfl) rfl ?_;clear H a;intro a H
    replace hm:=Zj hm;obtain⟨bC,aG,hm⟩:=hm
    obtain⟨aR,aJ⟩:=SlR.adV (h0.ext (Zi.mono _) hS.x) aB aG
    refine Xn H (Ug (i:=aA) Tryz.underlying25 sz3 rfl aB aJ rfl (Zb5 aG)) rfl ?_;clear H a;intro a H
    refine Xn H (Zf rfl (SlR.ldOneV (h0.ext (Zi.mono _) hS.x) aB aJ ag3 aG rfl)) rfl ?_;clear H a;intro a H
    refine Xn H (Zd rfl) rfl ?_;clear H a;intro a H
    refine Xn H (Zd rfl) rfl ?_;clear H a;intro a H
    replace hm:=Zj hm;obtain⟨bD,aH,hm⟩:=hm
    obtain⟨aS,aK⟩:=SlR.adV (h1.ext (Zi.mono _) hS.x) aC aH
    refine Xn H (Ug (i:=aA) Tryz.underlying25 sz3 rfl aC aK rfl (Zb5 aH)) rfl ?_;clear H a;intro a H
    refine Xn H (Zf rfl (SlR.ldOneV (h1.ext (Zi.mono _) hS.x) aC aK ag3 aH rfl)) rfl ?_;clear H a;intro a H
    refine Xn H (Th rfl rfl) rfl ?_;clear H a;intro a H
    refine Tg ?_;intro bE aN
    replace hS:=hS.ext aN
    refine Za (Zn H rfl (fun aI=>?_) (fun aI=>?_))
    · replace hm:=Zu hm aI
      refine wp_seq (wp_region_lit (n_q H (Zb rfl) rfl ?_));clear H a;intro a H
      refine Ze (Za (wp_ret (Zl (Zh (Zh (Zl (Zh ?_)))))))
      obtain rfl:=Option.some.inj hm;have hz : _=aL:=aF;subst hz;replace hm:=aM;try dsimp only at hm
      obtain rfl:=Option.some.inj hm
      refine Qx H (.inr rfl) rfl rfl ?_
      exact⟨rfl,hS.x⟩
    replace hm:=Zv hm aI
    refine wp_skip (Zo (Za (wp_region_lit (n_q H (Yt (i:=aA) (j:=1) rfl rfl (by omega)) rfl (W_q (Zd rfl) rfl ?_)))));clear H a;intro a H
    refine Ze (Za ?_)
    obtain rfl:=Option.some.inj hm
    exact Uz (aP,aA + 1) H ⟨rfl,rfl,rfl,rfl,trivial⟩ ⟨aF,hS⟩ (Nat.lt_succ_self _)
  replace hm:=Zv hm aD
  refine wp_exit (Zr (Zr (Qf ?_)))
  obtain rfl:=Option.some.inj hm;have hz : _=aL:=aF;subst hz;replace hm:=aM;try dsimp only at hm
  refine Za (wp_seq (wp_region_lit (n_q H (Zb rfl) rfl ?_)));clear H a;intro a H
  refine Ze (Za (wp_ret ?_))
  obtain rfl:=Option.some.inj hm
  refine Qx H (.inr rfl) rfl rfl ?_
  exact⟨rfl,hS.x⟩
theorem Kd {w : World} {A : Nat → Addr} {cs0 : List Value} {a0 : GPlan} (h0 : Xa w cs0 a0) {r : GPlan} (hm : Xy a0=some r) :
    Calls Tryz.prog 66 [.agg cs0.toArray].toArray w (Ret fun u w'=>∃ h_0 h_1 h_2 h_3,u=.agg #[.int .i64 r.Id,.bool r.Mobile,h_0,h_1,h_2,.int .i64 r.Events,h_3] ∧ St NB w w' [ownR 114 2 h_0 r.Pages.length (r.Pages.flatMap Zw),ownR 116 3 h_1 r.Procs.length (r.Procs.flatMap Zs),ownR 118 4 h_2 r.Ports.length (r.Ports.flatMap Zp),ownR 3 1 h_3 r.Sems.length (r.Sems.flatMap eI)]):=by
  obtain⟨aE,aF,aG,aH,rfl,aA,aB,aC,aD⟩:=h0
  have hS:=St.begin NB w
  unfold Xy at hm
  refine enter Tryz.func66 rfl rfl rfl ?_;intro a H;dsimp only [Qn,Nat.zero_add,Nat.reduceAdd] at H
  refine wp_seq (wp_region_lit (Yy H rfl (cs:=[.int .i64 a0.Id,.bool a0.Mobile,aE,aF,aG,.int .i64 a0.Events,aH]) rfl rfl ?_))
  clear H;intro bE bF hN aM hs;clear a;intro a H
  replace hS:=hS.newBlk hN aM hs;clear hN hs
  refine Jb H Zms rfl ?_
  clear H;intro bG bH hN aN hs;clear a;intro a H
  replace hS:=hS.newBlk hN aN hs;clear hN hs
  refine Ze (Za (wp_seq (wp_region_lit (Qb H Tryz.underlying22 Zax Zgo rfl rfl rfl (cs:=[]) rfl rfl ?_))))
  clear H;intro bI bJ hN aO hs;clear a;intro a H
  replace hS:=hS.newBlk hN aO hs;clear hN hs
  replace hS:=hS.blkOwnL (e:=Zw) (k:=2) ([] : List GPagePlan) rfl rfl (by simp [maxLen])
  refine n_q H (Zc rfl Zap) rfl (W_q (Zf rfl ((hS.blk 2 rfl).ld Zmo rfl)) rfl ?_);clear H a;intro a H
  replace hm:=Za6 hm;obtain⟨aP,hm⟩:=hm
  refine Zbv (e:=Zw) H rfl rfl Tryz.underlying22 Tryz.underlying22 (by simp) el114 (hS.own 0 rfl) ((aA.ext (Zi.mono _) hS.x).src (fun _ _=>rfl)) Zem aP (by simp only [maxLen];omega) rfl ?_
  clear H;intro aI bK hN aQ hb;clear a;intro a H;replace hS:=hS.setOwn hN aQ hb;clear hN hb
  refine n_q H (Zc rfl Zap) rfl ?_;clear H a;intro a H
  replace hS:=hS.pk2
  refine Kb H rfl rfl sz22 (hS.blk 0 rfl) (by simp) (((hS.own 1 rfl).slr rfl (fun _ _=>rfl))).one ?_
  clear H;intro bL hN aR hz;clear a;intro a H;replace hS:=hS.setBlk hN aR;clear hN hz
  try simp only [List.set_cons_succ,List.set_cons_zero] at hS
  refine Ze (Za (wp_seq (wp_region_lit (Qb H Tryz.underlying23 Zay Zhs rfl rfl rfl (cs:=[]) rfl rfl ?_))))
  clear H;intro bM bN hN aS hs;clear a;intro a H
  replace hS:=hS.newBlk hN aS hs;clear hN hs
  replace hS:=hS.blkOwnL (e:=Zs) (k:=3) ([] : List GProcPlan) rfl rfl (by simp [maxLen])
  refine n_q H (Zc rfl Zbn) rfl (W_q (Zf rfl ((hS.blk 1 rfl).ld Zom rfl)) rfl ?_);clear H a;intro a H
  replace hm:=Za6 hm;obtain⟨aT,hm⟩:=hm
  refine Zbv (e:=Zs) H rfl rfl Tryz.underlying23 Tryz.underlying23 (by simp) el116 (hS.own 0 rfl) ((aB.ext (Zi.mono _) hS.x).src (fun _ _=>rfl)) Zen aT (by simp only [maxLen];omega) rfl ?_
  clear H;intro aJ bO hN aU hb;clear a;intro a H;replace hS:=hS.setOwn hN aU hb;clear hN hb
  refine n_q H (Zc rfl Zbn) rfl ?_;clear H a;intro a H
  replace hS:=hS.pk1
  refine Kb H rfl rfl sz23 (hS.blk 0 rfl) (by simp) (((hS.own 1 rfl).slr rfl (fun _ _=>rfl))).one ?_
  clear H;intro bP hN aV hz;clear a;intro a H;replace hS:=hS.setBlk hN aV;clear hN hz
  try simp only [List.set_cons_succ,List.set_cons_zero] at hS
  refine Ze (Za (wp_seq (wp_region_lit (Qb H Tryz.underlying24 Gp Zgp rfl rfl rfl (cs:=[]) rfl rfl ?_))))
  clear H;intro bQ bR hN aW hs;clear a;intro a H
  replace hS:=hS.newBlk hN aW hs;clear hN hs
  replace hS:=hS.blkOwnL (e:=Zp) (k:=4) ([] : List GPortPlan) rfl rfl (by simp [maxLen])
  refine n_q H (Zc rfl Tu) rfl (W_q (Zf rfl ((hS.blk 1 rfl).ld Zk2 rfl)) rfl ?_);clear H a;intro a H
  replace hm:=Za6 hm;obtain⟨aX,hm⟩:=hm
  refine Zbv (e:=Zp) H rfl rfl Tryz.underlying24 Tryz.underlying24 (by simp) el118 (hS.own 0 rfl) ((aC.ext (Zi.mono _) hS.x).src (fun _ _=>rfl)) Zeo aX (by simp only [maxLen];omega) rfl ?_
  clear H;intro aK bS hN aY hb;clear a;intro a H;replace hS:=hS.setOwn hN aY hb;clear hN hb
  refine n_q H (Zc rfl Tu) rfl ?_;clear H a;intro a H
  replace hS:=hS.pk1
  refine Kb H rfl rfl sz24 (hS.blk 0 rfl) (by simp) (((hS.own 1 rfl).slr rfl (fun _ _=>rfl))).one ?_
  clear H;intro bT hN aZ hz;clear a;intro a H;replace hS:=hS.setBlk hN aZ;clear hN hz
  try simp only [List.set_cons_succ,List.set_cons_zero] at hS
  refine Ze (Za (wp_seq (wp_region_lit (Qb H Tryz.underlying25 sz3 ze3 rfl rfl rfl (cs:=[]) rfl rfl ?_))))
  clear H;intro bU bV hN a9 hs;clear a;intro a H
  replace hS:=hS.newBlk hN a9 hs;clear hN hs
  replace hS:=hS.blkOwnL (e:=eI) (k:=1) ([] : List Int) rfl rfl (by simp [maxLen])
  refine n_q H (Zc rfl Zbx) rfl (W_q (Zf rfl ((hS.blk 1 rfl).ld Zil rfl)) rfl ?_);clear H a;intro a H
  replace hm:=Za6 hm;obtain⟨bA,hm⟩:=hm
  refine Zbv (e:=eI) H rfl rfl Tryz.underlying25 Tryz.underlying25 (by simp) el3 (hS.own 0 rfl) ((aD.ext (Zi.mono _) hS.x).src (fun _ _=>rfl)) Zhg bA (by simp only [maxLen];omega) rfl ?_
  clear H;intro aL bW hN bB hb;clear a;intro a H;replace hS:=hS.setOwn hN bB hb;clear hN hb
  refine n_q H (Zc rfl Zbx) rfl ?_;clear H a;intro a H
  replace hS:=hS.pk1
  refine Kb H rfl rfl sz25 (hS.blk 0 rfl) (by simp) (((hS.own 1 rfl).slr rfl (fun _ _=>rfl))).one ?_
  clear H;intro bX hN bC hz;clear a;intro a H;replace hS:=hS.setBlk hN bC;clear hN hz
  try simp only [List.set_cons_succ,List.set_cons_zero] at hS
  refine Ze (Za (wp_seq (wp_region_lit (n_q H (Zf rfl ((hS.blk 0 rfl).ldAll Zda Zav)) rfl ?_))));clear H a;intro a H
  replace hS:=hS.pk5
  refine Qi H rfl rfl (vs:=[.int .i64 a0.Id,.bool a0.Mobile,aI,aJ,aK,.int .i64 a0.Events,aL]) rfl Zav (hS.blk 0 rfl) rfl (by simp [(((hS.own 5 rfl).slr rfl (fun _ _=>rfl))).one,(((hS.own 4 rfl).slr rfl (fun _ _=>rfl))).one,(((hS.own 3 rfl).slr rfl (fun _ _=>rfl))).one,(((hS.own 2 rfl).slr rfl (fun _ _=>rfl))).one]) ?_
  clear H;intro bY hN bD hz;clear a;intro a H;replace hS:=hS.setBlk hN bD;clear hN hz
  refine Ze (Za (wp_ret ?_))
  obtain rfl:=Option.some.inj hm
  replace hS:=hS.pk2
  replace hS:=hS.pk3
  replace hS:=hS.pk4
  replace hS:=hS.pk5
  replace hS:=hS.tk5
  refine Zhd H (.inr rfl) rfl (vs:=[.agg #[.int .i64 a0.Id,.bool a0.Mobile,aI,aJ,aK,.int .i64 a0.Events,aL]]) (He rfl ((hS.blk 4 rfl).ldAll Zda Zav) Hd) ?_
  replace hS:=hS.tk4
  exact⟨_,_,_,_,rfl,hS⟩
theorem Zcq {w : World} {A : Nat → Addr} {v0 : Value} {a0 : List UInt8} (hG : EV A w) (h0 : SlR w 1 (Zi eB) v0 a0) {r : Bool} (hm : Wr a0=some r) :
    Calls Tryz.prog 68 [v0].toArray w (Ret fun u w'=>u=.bool r ∧ Ext w w'):=by
  have hS:=St.begin NB w
  unfold Wr at hm
  refine enter Tryz.func68 rfl rfl rfl ?_;intro a H;dsimp only [Qn,Nat.zero_add,Nat.reduceAdd] at H
  refine wp_seq (wp_region_lit (n_q H (Zb rfl) rfl ?_));clear H a;intro a H
  refine Ze (Za (wp_seq (wp_region_lit (Qb H Tryz.underlying100 sz5 ze5 rfl rfl rfl (cs:=[]) rfl rfl ?_))))
  clear H;intro aU aV hN aL hs;clear a;intro a H
  replace hS:=hS.newBlk hN aL hs;clear hN hs
  replace hS:=hS.blkOwnL (e:=eB) (k:=1) ([] : List UInt8) rfl rfl (by simp [maxLen])
  refine n_q H (Zd rfl) rfl ?_;clear H a;intro a H
  replace hm:=Za6 hm;obtain⟨aM,hm⟩:=hm
  refine Zbv (e:=eB) H rfl rfl Tryz.underlying100 Tryz.underlying100 (by simp) el5 (hS.own 0 rfl) ((h0.ext (Zi.mono _) hS.x).src (fun _ _=>rfl)) Zi1 aM (by simp only [maxLen];omega) rfl ?_
  clear H;intro aW aX hN aN hb;clear a;intro a H;replace hS:=hS.setOwn hN aN hb;clear hN hb
  replace hm:=Zj hm;obtain⟨aA,aO,hm⟩:=hm
  refine Zk H rfl en49 (Zfn (A:=A) (hG.ext hS.x) ((hS.own 0 rfl).slr rfl (fun _ _=>rfl)) aO) rfl ?_
  clear H;intro aY aZ hv;clear a;intro a H;obtain⟨aE,u32,aF,aG,aH,rfl,aP⟩:=hv
  replace hS:=hS.new aP;simp only [List.cons_append,List.nil_append] at hS
  refine n_q H (Zd rfl) rfl (W_q (Zm rfl rfl) rfl (W_q (Zm rfl rfl) rfl ?_));clear H a;intro a H
  refine Jb H Zms rfl ?_
  clear H;intro a9 bA hN aQ hs;clear a;intro a H
  replace hS:=hS.newBlk hN aQ hs;clear hN hs
  refine Qi H rfl rfl (vs:=[.int .i64 aA.1.Id,.bool aA.1.Mobile,aE,u32,aF,.int .i64 aA.1.Events,aG]) rfl Zav (hS.blk 0 rfl) rfl (by simp [(((hS.own 1 rfl).slr rfl (fun _ _=>rfl))).one,(((hS.own 2 rfl).slr rfl (fun _ _=>rfl))).one,(((hS.own 3 rfl).slr rfl (fun _ _=>rfl))).one,(((hS.own 4 rfl).slr rfl (fun _ _=>rfl))).one]) ?_
  clear H;intro aI hN aR hz;clear a;intro a H;replace hS:=hS.setBlk hN aR;clear hN hz
  refine n_q H (Zb rfl) rfl ?_;clear H a;intro a H
  refine Ze (Za (wp_seq (wp_seq (wp_region_lit (n_q H (Zd rfl) rfl (W_q (Xi (Vr Tryz.underlying39 rfl rfl (hS.any 5 rfl : IsE A aI aH aA.2).form) (show _=Value.bool (!decide (aA.2=.nil)) by rw [Xu.isNil (hS.any 5 rfl : IsE A aI aH aA.2)])) rfl ?_))))));clear H a;intro a H
  refine Ze (Za (Zn H rfl (fun aC=>?_) (fun aC=>?_)))
  · replace hm:=Zu hm aC
    refine wp_seq (wp_region_lit (n_q H (Zb rfl) rfl ?_));clear H a;intro a H
    refine Ze (Za (wp_ret (Zh ?_)))
    obtain rfl:=Option.some.inj hm
    replace hS:=hS.tk0
    refine Qx H (.inr rfl) rfl rfl ?_
    exact⟨rfl,hS.x⟩
  replace hm:=Zv hm aC
  refine wp_skip (Za (wp_seq (wp_region_lit (n_q H (Zf rfl ((hS.blk 0 rfl).ldAll Zda Zav)) rfl ?_))));clear H a;intro a H
  replace hm:=Zj hm;obtain⟨aD,aS,hm⟩:=hm
  refine Zk H rfl en47 (Zai (A:=A) (hG.ext hS.x) (⟨_,_,_,_,rfl,((hS.own 1 rfl).slr rfl (fun _ _=>rfl)),((hS.own 2 rfl).slr rfl (fun _ _=>rfl)),((hS.own 3 rfl).slr rfl (fun _ _=>rfl)),((hS.own 4 rfl).slr rfl (fun _ _=>rfl))⟩ : Xa _ [.int .i64 aA.1.Id,.bool aA.1.Mobile,aE,u32,aF,.int .i64 aA.1.Events,aG] aA.1) aS) rfl ?_
  clear H;intro bB aJ hv;clear a;intro a H;obtain⟨bC,aK,rfl,aT⟩:=hv
  replace hS:=hS.new aT;simp only [List.cons_append,List.nil_append] at hS
  refine n_q H (Zd rfl) rfl (W_q (Zm rfl rfl) rfl (W_q (Zm rfl rfl) rfl (W_q (Zb rfl) rfl (W_q (Zb rfl) rfl ?_))));clear H a;intro a H
  refine Ze (Za (wp_seq (wp_region_lit (n_q H (Zd rfl) rfl (W_q (Xi (Zc9 Tryz.underlying39 rfl rfl (hS.any 1 rfl : IsE A aJ aK aD.2).form) (show _=Value.bool (decide (aD.2=.nil)) by rw [Xu.isNil (hS.any 1 rfl : IsE A aJ aK aD.2)])) rfl (W_q (Zd rfl) rfl ?_))))));clear H a;intro a H
  rcases Bool.eq_false_or_eq_true (decide (aD.2=.nil)) with aB|aB
  · replace H:=H.know 23 rfl aB
    replace hm:=Zu hm aB
    refine Kq H rfl rfl (n_q H (Zd rfl) rfl (Zy rfl rfl (W_q (Zmh Tryz.underlying100 Tryz.underlying5 Tryz.underlying9 rfl (fun w' hw=>(((hS.own 0 rfl).slr rfl (fun _ _=>rfl)).ext (Zi.mono _) hw))) rfl (Zy rfl rfl (W_q (Zd rfl) rfl (Zy rfl rfl (W_q (Zmh Tryz.underlying100 Tryz.underlying5 Tryz.underlying9 rfl (fun w' hw=>((h0.ext (Zi.mono _) hS.x).ext (Zi.mono _) hw))) rfl (Zy rfl rfl (W_q (Zsw rfl rfl) rfl (W_q (Zx rfl rfl) rfl (W_q (Zb rfl) rfl ?_)))))))))));clear H a;intro a H
    refine Ze (Za (wp_ret ?_))
    obtain rfl:=Option.some.inj hm
    replace hS:=hS.tk0
    refine Qx H (.inr rfl) rfl rfl ?_
    exact⟨rfl,hS.x⟩
  replace H:=H.know 23 rfl aB
  replace hm:=Zv hm aB
  refine Tp H rfl rfl (by decide) rfl (Zz rfl rfl (by decide) rfl (Zz rfl rfl (by decide) rfl (Zz rfl rfl (by decide) rfl (Zz rfl rfl (by decide) rfl (W_q (Zt rfl rfl) rfl (W_q (Zb rfl) rfl ?_))))));clear H a;intro a H
  refine Ze (Za (wp_ret ?_))
  obtain rfl:=Option.some.inj hm
  replace hS:=hS.tk0
  refine Qx H (.inr rfl) rfl rfl ?_
  exact⟨rfl,hS.x⟩
theorem Zcr {w : World} {A : Nat → Addr} {cs0 : List Value} {a0 : GState} (h0 : Hg w cs0 a0) {r : GState} (hm : Ux a0=some r) :
    Calls Tryz.prog 69 [.agg cs0.toArray].toArray w (Ret fun u w'=>∃ h_0 h_1 h_2 h_3 h_4 h_5 h_6,u=.agg #[.int .i64 r.Id,.int .i64 r.Frame,.int .i64 r.Epoch,h_0,h_1,h_2,h_3,h_4,h_5,h_6] ∧ St NB w w' [ownR 144 21 h_0 r.Procs.length (r.Procs.flatMap Xf),ownR 3 1 h_1 r.Ready.length (r.Ready.flatMap eI),ownR 163 2 h_2 r.Timers.length (r.Timers.flatMap Jq),ownR 4 1 h_3 r.Up.length (r.Up.flatMap eF),ownR 3 1 h_4 r.Sems.length (r.Sems.flatMap eI),deepR 154 2 Qe h_5 r.Ports,ownR 82 66 h_6 r.Pages.length (r.Pages.flatMap Jr)]):=by
  obtain⟨bJ,bK,bL,bM,bN,aI,bO,rfl,a9,bA,bB,bC,bD,aG,bE⟩:=h0
  have hS:=St.begin NB w
  unfold Ux at hm
  refine enter Tryz.func69 rfl rfl rfl ?_;intro a H;dsimp only [Qn,Nat.zero_add,Nat.reduceAdd] at H
  refine wp_seq (wp_region_lit (Yy H rfl (cs:=[.int .i64 a0.Id,.int .i64 a0.Frame,.int .i64 a0.Epoch,bJ,bK,bL,bM,bN,aI,bO]) rfl rfl ?_))
  clear H;intro bW dS hN bZ hs;clear a;intro a H
  replace hS:=hS.newBlk hN bZ hs;clear hN hs
  refine Jb H Zbp rfl ?_
  clear H;intro bX dT hN b6 hs;clear a;intro a H
  replace hS:=hS.newBlk hN b6 hs;clear hN hs
  refine Ze (Za (wp_seq (wp_region_lit (Qb H Tryz.underlying28 Zcx Zmu rfl rfl rfl (cs:=[]) rfl rfl ?_))))
  clear H;intro dU dV hN b7 hs;clear a;intro a H
  replace hS:=hS.newBlk hN b7 hs;clear hN hs
  replace hS:=hS.blkOwnL (e:=Xf) (k:=21) ([] : List GProc) rfl (by simp [Xf]) (by simp [maxLen])
  refine n_q H (Zc rfl Zaq) rfl (W_q (Zf rfl ((hS.blk 2 rfl).ld Zmt rfl)) rfl ?_);clear H a;intro a H
  replace hm:=Za6 hm;obtain⟨b8,hm⟩:=hm
  refine Zbv (e:=Xf) H rfl rfl Tryz.underlying28 Tryz.underlying28 (by simp) el144 (hS.own 0 rfl) ((a9.ext (Zi.mono _) hS.x).src (fun x _=>Xk x)) Zbf b8 (by simp only [maxLen];omega) rfl ?_
  clear H;intro aP dW hN b9 hb;clear a;intro a H;replace hS:=hS.setOwn hN b9 hb;clear hN hb
  refine n_q H (Zc rfl Zaq) rfl ?_;clear H a;intro a H
  replace hS:=hS.pk2
  refine Kb H rfl rfl sz28 (hS.blk 0 rfl) (by simp) (((hS.own 1 rfl).slr rfl (fun x _=>Xk x))).one ?_
  clear H;intro dX hN cA hz;clear a;intro a H;replace hS:=hS.setBlk hN cA;clear hN hz
  try simp only [List.set_cons_succ,List.set_cons_zero] at hS
  refine Ze (Za (wp_seq (wp_region_lit (Qb H Tryz.underlying25 sz3 ze3 rfl rfl rfl (cs:=[]) rfl rfl ?_))))
  clear H;intro dY dZ hN cB hs;clear a;intro a H
  replace hS:=hS.newBlk hN cB hs;clear hN hs
  replace hS:=hS.blkOwnL (e:=eI) (k:=1) ([] : List Int) rfl rfl (by simp [maxLen])
  refine n_q H (Zc rfl Zi8) rfl (W_q (Zf rfl ((hS.blk 1 rfl).ld Zil rfl)) rfl ?_);clear H a;intro a H
  replace hm:=Za6 hm;obtain⟨cC,hm⟩:=hm
  refine Zbv (e:=eI) H rfl rfl Tryz.underlying25 Tryz.underlying25 (by simp) el3 (hS.own 0 rfl) ((bA.ext (Zi.mono _) hS.x).src (fun _ _=>rfl)) Zhg cC (by simp only [maxLen];omega) rfl ?_
  clear H;intro aQ d5 hN cD hb;clear a;intro a H;replace hS:=hS.setOwn hN cD hb;clear hN hb
  refine n_q H (Zc rfl Zi8) rfl ?_;clear H a;intro a H
  replace hS:=hS.pk1
  refine Kb H rfl rfl sz25 (hS.blk 0 rfl) (by simp) (((hS.own 1 rfl).slr rfl (fun _ _=>rfl))).one ?_
  clear H;intro d6 hN cF hz;clear a;intro a H;replace hS:=hS.setBlk hN cF;clear hN hz
  try simp only [List.set_cons_succ,List.set_cons_zero] at hS
  refine Ze (Za (wp_seq (wp_region_lit (Qb H Tryz.underlying29 Zim Zrs rfl rfl rfl (cs:=[]) rfl rfl ?_))))
  clear H;intro d7 d8 hN cG hs;clear a;intro a H
  replace hS:=hS.newBlk hN cG hs;clear hN hs
  replace hS:=hS.blkOwnL (e:=Jq) (k:=2) ([] : List GTimer) rfl rfl (by simp [maxLen])
  refine n_q H (Zc rfl Zld) rfl (W_q (Zf rfl ((hS.blk 1 rfl).ld ag29 rfl)) rfl ?_);clear H a;intro a H
  replace hm:=Za6 hm;obtain⟨cH,hm⟩:=hm
  refine Zbv (e:=Jq) H rfl rfl Tryz.underlying29 Tryz.underlying29 (by simp) el163 (hS.own 0 rfl) ((bB.ext (Zi.mono _) hS.x).src (fun _ _=>rfl)) Zmn cH (by simp only [maxLen];omega) rfl ?_
  clear H;intro aR d9 hN cI hb;clear a;intro a H;replace hS:=hS.setOwn hN cI hb;clear hN hb
  refine n_q H (Zc rfl Zld) rfl ?_;clear H a;intro a H
  replace hS:=hS.pk1
  refine Kb H rfl rfl sz29 (hS.blk 0 rfl) (by simp) (((hS.own 1 rfl).slr rfl (fun _ _=>rfl))).one ?_
  clear H;intro eA hN cJ hz;clear a;intro a H;replace hS:=hS.setBlk hN cJ;clear hN hz
  try simp only [List.set_cons_succ,List.set_cons_zero] at hS
  refine Ze (Za (wp_seq (wp_region_lit (Qb H Tryz.underlying30 sz4 ze4 rfl rfl rfl (cs:=[]) rfl rfl ?_))))
  clear H;intro eC eD hN cK hs;clear a;intro a H
  replace hS:=hS.newBlk hN cK hs;clear hN hs
  replace hS:=hS.blkOwnL (e:=eF) (k:=1) ([] : List Bool) rfl rfl (by simp [maxLen])
  refine n_q H (Zc rfl Zle) rfl (W_q (Zf rfl ((hS.blk 1 rfl).ld ag30 rfl)) rfl ?_);clear H a;intro a H
  replace hm:=Za6 hm;obtain⟨cL,hm⟩:=hm
  refine Zbv (e:=eF) H rfl rfl Tryz.underlying30 Tryz.underlying30 (by simp) el4 (hS.own 0 rfl) ((bC.ext (Zi.mono _) hS.x).src (fun _ _=>rfl)) eF_one cL (by simp only [maxLen];omega) rfl ?_
  clear H;intro aS eE hN cM hb;clear a;intro a H;replace hS:=hS.setOwn hN cM hb;clear hN hb
  refine n_q H (Zc rfl Zle) rfl ?_;clear H a;intro a H
  replace hS:=hS.pk1
  refine Kb H rfl rfl sz30 (hS.blk 0 rfl) (by simp) (((hS.own 1 rfl).slr rfl (fun _ _=>rfl))).one ?_
  clear H;intro eG hN cN hz;clear a;intro a H;replace hS:=hS.setBlk hN cN;clear hN hz
  try simp only [List.set_cons_succ,List.set_cons_zero] at hS
  refine Ze (Za (wp_seq (wp_region_lit (Qb H Tryz.underlying25 sz3 ze3 rfl rfl rfl (cs:=[]) rfl rfl ?_))))
  clear H;intro eH eJ hN cO hs;clear a;intro a H
  replace hS:=hS.newBlk hN cO hs;clear hN hs
  replace hS:=hS.blkOwnL (e:=eI) (k:=1) ([] : List Int) rfl rfl (by simp [maxLen])
  refine n_q H (Zc rfl Zi9) rfl (W_q (Zf rfl ((hS.blk 1 rfl).ld Zil rfl)) rfl ?_);clear H a;intro a H
  replace hm:=Za6 hm;obtain⟨cP,hm⟩:=hm
  refine Zbv (e:=eI) H rfl rfl Tryz.underlying25 Tryz.underlying25 (by simp) el3 (hS.own 0 rfl) ((bD.ext (Zi.mono _) hS.x).src (fun _ _=>rfl)) Zhg cP (by simp only [maxLen];omega) rfl ?_
  clear H;intro aT eK hN cQ hb;clear a;intro a H;replace hS:=hS.setOwn hN cQ hb;clear hN hb
  refine n_q H (Zc rfl Zi9) rfl ?_;clear H a;intro a H
  replace hS:=hS.pk1
  refine Kb H rfl rfl sz25 (hS.blk 0 rfl) (by simp) (((hS.own 1 rfl).slr rfl (fun _ _=>rfl))).one ?_
  clear H;intro eL hN cR hz;clear a;intro a H;replace hS:=hS.setBlk hN cR;clear hN hz
  try simp only [List.set_cons_succ,List.set_cons_zero] at hS
  refine Ze (Za (wp_seq (wp_region_lit (Qb H Tryz.underlying32 sz82 ze82 rfl rfl rfl (cs:=[]) rfl rfl ?_))))
  clear H;intro eM eN hN cT hs;clear a;intro a H
  replace hS:=hS.newBlk hN cT hs;clear hN hs
  replace hS:=hS.blkOwnL (e:=Jr) (k:=66) ([] : List GPage) rfl (by simp [Jr]) (by simp [maxLen])
  refine n_q H (Zc rfl Zgj) rfl (W_q (Zf rfl ((hS.blk 1 rfl).ld ag32 rfl)) rfl ?_);clear H a;intro a H
  replace hm:=Za6 hm;obtain⟨cU,hm⟩:=hm
  refine Zbv (e:=Jr) H rfl rfl Tryz.underlying32 Tryz.underlying32 (by simp) el82 (hS.own 0 rfl) ((bE.ext (Zi.mono _) hS.x).src (fun x _=>Kz x)) Zf3 cU (by simp only [maxLen];omega) rfl ?_
  clear H;intro aU eO hN cV hb;clear a;intro a H;replace hS:=hS.setOwn hN cV hb;clear hN hb
  refine n_q H (Zc rfl Zgj) rfl ?_;clear H a;intro a H
  replace hS:=hS.pk1
  refine Kb H rfl rfl sz32 (hS.blk 0 rfl) (by simp) (((hS.own 1 rfl).slr rfl (fun x _=>Kz x))).one ?_
  clear H;intro eP hN cW hz;clear a;intro a H;replace hS:=hS.setBlk hN cW;clear hN hz
  try simp only [List.set_cons_succ,List.set_cons_zero] at hS
  refine Ze (Za (wp_seq (wp_region_lit (Qb H Tryz.underlying31 Zhy Zoo rfl rfl rfl (cs:=[]) rfl rfl ?_))))
  clear H;intro dB eQ hN cX hs;clear a;intro a H
  replace hS:=hS.newBlk hN cX hs;clear hN hs
  replace hS:=hS.trivAny (F:=DIn 2 Qe [] ([] : List GPort)) (fun w'=>trivial)
  replace hS:=hS.pk1
  replace hS:=hS.litDeep (n:=0) [] ([] : List GPort) rfl (by simp [maxLen]) rfl
  refine n_q H (Zb rfl) rfl ?_;clear H a;intro a H
  refine Ze (Za (wp_seq (wp_seq (wp_region_lit (n_q H (Zc rfl Zhx) rfl (W_q (Zf rfl ((hS.blk 1 rfl).ld ag31 rfl)) rfl ?_))))));clear H a;intro a H
  obtain⟨eR,eT,aJ,dH,dI⟩:=SlR.formV (aG.ext Qe.mono hS.x)
  refine n_q H (Qc Tryz.underlying31 rfl aJ) rfl (W_q (Zd rfl) rfl ?_);clear H a;intro a H
  refine Ze (Za (wp_block ?_))
  replace hS:=hS.pk8
  replace hS:=hS.pk3
  replace hS:=hS.pk4
  replace hS:=hS.pk5
  replace hS:=hS.pk6
  replace hS:=hS.pk7
  replace hS:=hS.pk8
  replace hS:=hS.pk8
  replace hS:=hS.pk8
  replace hm:=Zj hm;obtain⟨bY,hm,cY⟩:=hm;replace hm:=Ql hm;obtain⟨dC,hm⟩:=hm
  refine Kr (σ:=Nat × (List GPort) × Nat × Value) (fun (m,aD,aB,aC)=>[(1,.pointer (some ⟨bW,0,none⟩)),(2,.pointer (some ⟨bX,0,none⟩)),(3,aC),(38,aI),(39,.int .i64 ((a0.Ports.length : Nat) : Int)),(40,.int .i64 ((aB : Nat) : Int))]) (fun (m,aD,aB,aC) wl=>Ye (Ve a0) m (aD,aB)=some bY ∧ St NB w wl [deepR 154 2 Qe aC aD,blkR bW [.int .i64 a0.Id,.int .i64 a0.Frame,.int .i64 a0.Epoch,aP,aQ,aR,aS,aT,aI,aU] 34,ownR 144 21 aP (([] : List GProc) ++ a0.Procs).length ((([] : List GProc) ++ a0.Procs).flatMap Xf),ownR 3 1 aQ (([] : List Int) ++ a0.Ready).length ((([] : List Int) ++ a0.Ready).flatMap eI),ownR 163 2 aR (([] : List GTimer) ++ a0.Timers).length ((([] : List GTimer) ++ a0.Timers).flatMap Jq),ownR 4 1 aS (([] : List Bool) ++ a0.Up).length ((([] : List Bool) ++ a0.Up).flatMap eF),ownR 3 1 aT (([] : List Int) ++ a0.Sems).length ((([] : List Int) ++ a0.Sems).flatMap eI),ownR 82 66 aU (([] : List GPage) ++ a0.Pages).length ((([] : List GPage) ++ a0.Pages).flatMap Jr),blkR bX [.int .i64 0,.int .i64 0,.int .i64 0,.slice none 0 0,.slice none 0 0,.slice none 0 0,.slice none 0 0,.slice none 0 0,.slice none 0 0,.slice none 0 0] 34]) (fun (m,aD,aB,aC)=>m) (dC,([] : List GPort),0,.slice (some ⟨dB,0,none⟩) 0 0) H ⟨rfl,rfl,rfl,rfl,rfl,rfl,trivial⟩ ⟨hm,hS⟩ ?_
  clear H hS hm a;intro xx a dJ H hR;obtain⟨m,aD,aB,aC⟩:=xx;simp only [ent,List.map_cons,List.map_nil] at H;(try dsimp only at hR);obtain⟨hm,hS⟩:=hR
  replace hm:=Qh hm;obtain⟨dD,eU,rfl,hm,bF⟩:=hm;try dsimp only [Ve] at hm
  refine wp_seq (wp_region_lit (n_q H (Yc (i:=aB) (j:=a0.Ports.length) rfl rfl) rfl ?_));clear H a;intro a H
  refine Ze (Za (wp_seq (Zn H rfl (fun aF=>?_) (fun aF=>?_))))
  · replace hm:=Zu hm aF
    have dE : aB < a0.Ports.length:=of_decide_eq_true aF
    refine wp_skip (Za (wp_seq (wp_block (wp_seq (wp_region_lit ?_)))))
    replace hm:=Zj hm;obtain⟨aA,aK,hm⟩:=hm
    obtain⟨dF,aN⟩:=SlR.adV (aG.ext Qe.mono hS.x) aJ aK
    obtain⟨dG,dA,⟨aZ,rfl,aH⟩,bG⟩:=SlR.elV aG aJ aN aK
    refine n_q H (Ug (i:=aB) Tryz.underlying31 Zhy rfl aJ aN rfl (Zb5 aK)) rfl (W_q (Zf rfl (LdX.ext (ldEl Zt3 Zhy rfl bG) hS.x)) rfl ?_);clear H a;intro a H
    refine Jb H Zoo rfl ?_
    clear H;intro dK dL hN bP hs;clear a;intro a H
    replace hS:=hS.newBlk hN bP hs;clear hN hs
    refine Qi H rfl rfl (vs:=[aZ,.int .i64 aA.Age]) rfl Zhy (hS.blk 0 rfl) rfl (by simp [((aH.ext (Zi.mono _) hS.x)).one]) ?_
    clear H;intro bH hN bQ hz;clear a;intro a H;replace hS:=hS.setBlk hN bQ;clear hN hz
    refine Ze (Za (Tm [] 9 (by kernel_rfl) ?_))
    obtain⟨aL,aM⟩ : ∃ x,x=bH.drew:=⟨_,rfl⟩;rw [← aM];have bR : Ext bH aL:=by rw [aM];exact Ext.drew' _
    clear aM
    replace hS:=hS.ext bR
    have aV:=hS
    have hW:=Nat.le_refl aL.heap.size
    refine Zg 0 H rfl (Zd rfl) rfl (by kernel_rfl) (by kernel_rfl) (by kernel_rfl) (by kernel_rfl) (fun _ _ _ h=>h) ?_;clear H a;intro a H
    refine Zg 2 H rfl (Zc rfl Ze5) rfl (by kernel_rfl) (by kernel_rfl) (by kernel_rfl) (by kernel_rfl) (fun _ _ _ h=>h) ?_;clear H a;intro a H
    refine Zhm 3 4 H rfl (Zf rfl (LdC.old ((aV.blk 0 rfl).ld Zmx rfl) Ext.rfl' (Nat.le_refl _) (by simp))) rfl (by kernel_rfl) (by kernel_rfl) (by kernel_rfl) (by kernel_rfl) (fun _ _ _ h=>h) ?_;clear H a;intro a H
    refine Zg 5 H rfl (Zc rfl Zmy) rfl (by kernel_rfl) (by kernel_rfl) (by kernel_rfl) (by kernel_rfl) (fun _ _ _ h=>h) ?_;clear H a;intro a H
    refine Zhm 6 4 H rfl (Zf rfl (LdC.old ((aV.blk 0 rfl).ld ag3 rfl) Ext.rfl' (Nat.le_refl _) (by simp))) rfl (by kernel_rfl) (by kernel_rfl) (by kernel_rfl) (by kernel_rfl) (fun _ _ _ h=>h) ?_;clear H a;intro a H
    refine Zal 1 H rfl Tryz.underlying152 sz9 ze9 rfl rfl rfl (cs:=[]) rfl rfl (by kernel_rfl) ?_
    clear H;intro bI dM hN aW hs;clear a;intro a H
    have aO : aL.heap.size ≤ bI:=hs ▸ hW
    replace hS:=hS.newBlk hN aW hs;clear hN hs
    replace hW:=Nat.le_trans hW aW.size
    replace hS:=hS.blkOwnL (e:=eS) (k:=1) ([] : List ByteArray) rfl rfl (by simp [maxLen])
    replace hm:=Za6 hm;obtain⟨bS,hm⟩:=hm
    refine Zrh (e:=eS) 4 H rfl rfl rfl Tryz.underlying152 Tryz.underlying152 (by simp) el9 (hS.own 0 rfl) ((aH.ext (Zi.mono _) hS.x).src (fun _ _=>rfl)) eS_one bS (by simp only [maxLen];omega) rfl (by kernel_rfl) (.inl (fun c hc h=>absurd ((show c=bI from List.mem_singleton.1 hc) ▸ h) (Nat.not_lt.2 aO))) ?_
    clear H;intro aE dN hN aX hb;clear a;intro a H;replace hS:=hS.setOwn hN aX hb;clear hN hb
    replace hW:=Nat.le_trans hW aX.size
    refine Zg 7 H rfl (Qt (cs:=[aE,.int .i64 aA.Age]) Zoo bd154 pl154 rfl ((Qk (((hS.own 0 rfl).slr rfl (fun _ _=>rfl))).one rfl (by simp)).trans ((Qk rfl rfl (by simp)).trans rfl))) rfl (by kernel_rfl) (by kernel_rfl) (by kernel_rfl) (by kernel_rfl) (fun _ _ _ h=>h) ?_;clear H a;intro a H
    refine Zal 8 H rfl Tryz.underlying31 Zhy Zoo rfl rfl rfl (cs:=[aE,.int .i64 aA.Age]) ((fillA (ds:=[aE,.int .i64 aA.Age]) rfl rfl rfl (by simp)).trans rfl) rfl (by kernel_rfl) ?_
    clear H;intro cZ dO hN aY hs;clear a;intro a H
    have c7 : aL.heap.size ≤ cZ:=hs ▸ hW
    replace hS:=hS.newBlk hN aY hs;clear hN hs
    replace hW:=Nat.le_trans hW aY.size
    replace hS:=hS.pk1
    replace hS:=hS.ownAny (F:=(fun w'=>SlR w' 1 (Zi eS) aE (([] : List ByteArray) ++ aA.Msgs))) (fun w' hO=>hO.slr rfl (fun _ _=>rfl))
    replace hS:=hS.anyMono (G:=DIn 2 Qe [[aE,.int .i64 aA.Age]] [(⟨(([] : List ByteArray) ++ aA.Msgs),aA.Age⟩ : GPort)]) (fun w' hw=>(DIn.cons rfl (by simp [hw.one]) ⟨_,rfl,hw⟩ trivial))
    replace hm:=Za6 hm;obtain⟨bT,hm⟩:=hm
    replace hS:=hS.pk3
    refine k_appD (css:=[[aE,.int .i64 aA.Age]]) 9 hS H rfl rfl rfl Tryz.underlying31 Tryz.underlying31 (by simp) Zds (Src.blk (k:=2) (hS.blk 2 rfl) rfl) bT (by simp only [maxLen,List.length_cons,List.length_nil];omega) rfl (by kernel_rfl) (fun _ _=>.inr (by kernel_rfl)) ?_
    clear H hS;intro c9 dP hS hz;clear a;intro a H;replace hW:=Nat.le_trans hW hz;clear hz
    refine Zg 10 H rfl (Zb rfl) rfl (by kernel_rfl) (by kernel_rfl) (by kernel_rfl) (by kernel_rfl) (fun _ _ _ h=>h) ?_;clear H a;intro a H
    refine Xc (by kernel_rfl) ?_
    refine Zo (Za (wp_region_lit (n_q H (Yt (i:=aB) (j:=1) rfl rfl (by omega)) rfl (W_q (Zd rfl) rfl ?_))));clear H a;intro a H
    refine Ze (Za ?_)
    obtain rfl:=Option.some.inj hm
    replace hS:=hS.pk10
    replace hS:=hS.pk10
    replace hS:=hS.pk10
    replace hS:=hS.pk10
    replace hS:=hS.pk10
    replace hS:=hS.pk10
    replace hS:=hS.pk10
    replace hS:=hS.pk10
    replace hS:=hS.pk8
    replace hS:=hS.tk9
    exact Uz (dD,(aD ++ [(⟨(([] : List ByteArray) ++ aA.Msgs),aA.Age⟩ : GPort)]),aB + 1,c9) H ⟨rfl,rfl,rfl,rfl,rfl,rfl,trivial⟩ ⟨bF,hS⟩ (Nat.lt_succ_self _)
  replace hm:=Zv hm aF
  refine wp_exit (Zr (Zr (Qf ?_)))
  obtain rfl:=Option.some.inj hm;have hz : _=bY:=bF;subst hz;replace hm:=cY;try dsimp only at hm
  refine Za (wp_seq (wp_region_lit (n_q H (Zd rfl) rfl (W_q (Zc rfl Zhx) rfl ?_))));clear H a;intro a H
  replace hS:=hS.pk1
  refine Kb H rfl rfl sz31 (hS.blk 0 rfl) (by simp) ((hS.deepSl 1 rfl)).one ?_
  clear H;intro dQ hN bU hz;clear a;intro a H;replace hS:=hS.setBlk hN bU;clear hN hz
  try simp only [List.set_cons_succ,List.set_cons_zero] at hS
  refine Ze (Za (wp_seq (wp_region_lit (n_q H (Zf rfl ((hS.blk 0 rfl).ldAll Zo1 Zbz)) rfl ?_))));clear H a;intro a H
  replace hS:=hS.pk8
  refine Qi H rfl rfl (vs:=[.int .i64 a0.Id,.int .i64 a0.Frame,.int .i64 a0.Epoch,aP,aQ,aR,aS,aT,aC,aU]) rfl Zbz (hS.blk 0 rfl) rfl (by simp [(((hS.own 3 rfl).slr rfl (fun x _=>Xk x))).one,(((hS.own 4 rfl).slr rfl (fun _ _=>rfl))).one,(((hS.own 5 rfl).slr rfl (fun _ _=>rfl))).one,(((hS.own 6 rfl).slr rfl (fun _ _=>rfl))).one,(((hS.own 7 rfl).slr rfl (fun _ _=>rfl))).one,((hS.deepSl 2 rfl)).one,(((hS.own 8 rfl).slr rfl (fun x _=>Kz x))).one]) ?_
  clear H;intro dR hN bV hz;clear a;intro a H;replace hS:=hS.setBlk hN bV;clear hN hz
  refine Ze (Za (wp_ret ?_))
  obtain rfl:=Option.some.inj hm
  replace hS:=hS.pk8
  replace hS:=hS.pk3
  replace hS:=hS.pk8
  replace hS:=hS.pk8
  replace hS:=hS.pk8
  replace hS:=hS.pk8
  replace hS:=hS.pk8
  replace hS:=hS.tk8
  refine Zhd H (.inr rfl) rfl (vs:=[.agg #[.int .i64 a0.Id,.int .i64 a0.Frame,.int .i64 a0.Epoch,aP,aQ,aR,aS,aT,aC,aU]]) (He rfl ((hS.blk 7 rfl).ldAll Zo1 Zbz) Hd) ?_
  replace hS:=hS.tk7
  exact⟨_,_,_,_,_,_,_,rfl,hS⟩
theorem Zin {w : World} {A : Nat → Addr} {cs0 : List Value} {a0 : GPlan} {cs1 : List Value} {a1 : GState} {a2 : Int} (hG : EV A w) (h0 : Xa w cs0 a0) (h1 : Hg w cs1 a1) {r : ErrM} (hm : Zan a0 a1 a2=some r) :
    Calls Tryz.prog 141 [.agg cs0.toArray,.agg cs1.toArray,.int .i64 a2].toArray w (Ret fun u w'=>∃ h_0,u=h_0 ∧ St NB w w' [erQ A h_0 r]):=by
  obtain⟨aP,aQ,aR,aS,rfl,bB,bC,bD,bE⟩:=h0
  obtain⟨aT,aU,aV,aW,aX,aY,aZ,rfl,bF,bG,bH,bI,bJ,bK,bL⟩:=h1
  have hS:=St.begin NB w
  unfold Zan at hm
  refine enter Tryz.func141 rfl rfl rfl ?_;intro a H;dsimp only [Qn,Nat.zero_add,Nat.reduceAdd] at H
  refine wp_seq (wp_region_lit (Yy H rfl (cs:=[.int .i64 a0.Id,.bool a0.Mobile,aP,aQ,aR,.int .i64 a0.Events,aS]) rfl rfl ?_))
  clear H;intro cI cJ hN bR hs;clear a;intro a H
  replace hS:=hS.newBlk hN bR hs;clear hN hs
  refine Yy H rfl (cs:=[.int .i64 a1.Id,.int .i64 a1.Frame,.int .i64 a1.Epoch,aT,aU,aV,aW,aX,aY,aZ]) rfl rfl ?_
  clear H;intro cK cL hN bS hs;clear a;intro a H
  replace hS:=hS.newBlk hN bS hs;clear hN hs
  refine n_q H (Zb rfl) rfl ?_;clear H a;intro a H
  refine Ze (Za (wp_seq (wp_region_lit (n_q H (Zf rfl ((hS.blk 1 rfl).ldAll Zda Zav)) rfl (W_q (Zf rfl ((hS.blk 0 rfl).ldAll Zo1 Zbz)) rfl ?_)))));clear H a;intro a H
  replace hm:=Zj hm;obtain⟨aL,bT,hm⟩:=hm
  refine Zk H rfl en64 (Za0 (A:=A) (hG.ext hS.x) (⟨_,_,_,_,rfl,(bB.ext (Zi.mono _) hS.x),(bC.ext (Zi.mono _) hS.x),(bD.ext (Zi.mono _) hS.x),(bE.ext (Zi.mono _) hS.x)⟩ : Xa _ [.int .i64 a0.Id,.bool a0.Mobile,aP,aQ,aR,.int .i64 a0.Events,aS] a0) (⟨_,_,_,_,_,_,_,rfl,(bF.ext (Zi.mono _) hS.x),(bG.ext (Zi.mono _) hS.x),(bH.ext (Zi.mono _) hS.x),(bI.ext (Zi.mono _) hS.x),(bJ.ext (Zi.mono _) hS.x),(bK.ext Qe.mono hS.x),(bL.ext (Zi.mono _) hS.x)⟩ : Hg _ [.int .i64 a1.Id,.int .i64 a1.Frame,.int .i64 a1.Epoch,aT,aU,aV,aW,aX,aY,aZ] a1) bT) rfl ?_
  clear H;intro bQ cM hv;clear a;intro a H;obtain⟨_,rfl,bU⟩:=hv
  replace hS:=hS.new bU;simp only [List.cons_append,List.nil_append] at hS
  refine n_q H (Zb rfl) rfl ?_;clear H a;intro a H
  refine Ze (Za (wp_seq (wp_block ?_)))
  replace hm:=Zj hm;obtain⟨cN,hm,bM⟩:=hm
  refine Gm (σ:=Bool) H (fun aD=>[(7,bQ),(11,.bool aD)]) (fun aD wl=>(Ts aL) aD=some r ∧ St NB w wl [ownR 3 1 bQ aL.length (aL.flatMap eI)]) ?_ ?_
  · skip
    refine wp_region_lit (n_q H (Zd rfl) rfl ?_);clear H a;intro a H
    obtain⟨cB,cC,aC,b7,b8⟩:=SlR.formV ((hS.own 0 rfl).slr rfl (fun _ _=>rfl))
    refine n_q H (Qc Tryz.underlying25 rfl aC) rfl (W_q (Zgg (i:=aL.length) (j:=0) rfl rfl) rfl (W_q (Zd rfl) rfl ?_));clear H a;intro a H
    rcases Bool.eq_false_or_eq_true (decide (aL.length=0)) with aB|aB
    · replace H:=H.know 15 rfl aB
      replace hm:=Zu hm aB
      refine Tp H rfl rfl (by decide) rfl (Zz rfl rfl (by decide) rfl (Zz rfl rfl (by decide) rfl (Zz rfl rfl (by decide) rfl (Zz rfl rfl (by decide) rfl (W_q (Zx rfl rfl) rfl (W_q (Zb rfl) rfl ?_))))));clear H a;intro a H
      refine Ze (Za ?_)
      obtain rfl:=Option.some.inj hm;replace hm:=bM;try dsimp only at hm
      replace hS:=hS.tk1
      exact Uy true H ⟨rfl,rfl,trivial⟩ ⟨hm,hS⟩
    replace H:=H.know 15 rfl aB
    replace hm:=Zv hm aB
    refine Kq H rfl rfl (n_q H (Zd rfl) rfl (Zy rfl rfl ?_));clear H a;intro a H
    replace hm:=Zj hm;obtain⟨bV,aE,hm⟩:=hm
    obtain⟨bY,aM⟩:=SlR.adV ((hS.own 0 rfl).slr rfl (fun _ _=>rfl)) aC aE
    refine n_q H (Ug (i:=0) Tryz.underlying25 sz3 rfl aC aM rfl (Zb5 aE)) rfl (Zy rfl rfl (W_q (Zf rfl (SlR.ldOneV ((hS.own 0 rfl).slr rfl (fun _ _=>rfl)) aC aM ag3 aE rfl)) rfl (Zy rfl rfl (W_q (Zd rfl) rfl (Zy rfl rfl (W_q (Zcd rfl rfl) rfl (W_q (Zt rfl rfl) rfl (W_q (Zb rfl) rfl ?_))))))));clear H a;intro a H
    refine Ze (Za ?_)
    obtain rfl:=Option.some.inj hm;replace hm:=bM;try dsimp only at hm
    replace hS:=hS.tk1
    exact Uy (decide (a2 < bV)) H ⟨rfl,rfl,trivial⟩ ⟨hm,hS⟩
  clear H hS hm a;intro aD a bN H hR
  simp only [ent,List.map_cons,List.map_nil] at H;(try dsimp only at hR);obtain⟨hm,hS⟩:=hR;try dsimp only [Ts] at hm
  refine Zn H rfl (fun aF=>?_) (fun aF=>?_)
  · replace hm:=Zu hm aF
    refine wp_seq (wp_region_lit (n_q H (Zb rfl) rfl ?_));clear H a;intro a H
    refine Ze (Za (wp_ret (Zl (Zh ?_))))
    obtain rfl:=Option.some.inj hm
    replace hS:=hS.dNil (A:=A)
    replace hS:=hS.tk1
    refine Qx H (.inr rfl) rfl rfl ?_
    exact⟨_,rfl,hS⟩
  replace hm:=Zv hm aF
  refine wp_seq (wp_region_lit (n_q H (Zd rfl) rfl ?_));clear H a;intro a H
  obtain⟨cD,cF,aA,b9,cA⟩:=SlR.formV ((hS.own 0 rfl).slr rfl (fun _ _=>rfl))
  replace hm:=Zj hm;obtain⟨cG,aG,hm⟩:=hm
  obtain⟨bZ,aN⟩:=SlR.adV ((hS.own 0 rfl).slr rfl (fun _ _=>rfl)) aA aG
  refine n_q H (Ug (i:=0) Tryz.underlying25 sz3 rfl aA aN rfl (Zb5 aG)) rfl (W_q (Zf rfl (SlR.ldOneV ((hS.own 0 rfl).slr rfl (fun _ _=>rfl)) aA aN ag3 aG rfl)) rfl (W_q (Jy rfl rfl) rfl (W_q (Zb rfl) rfl ?_)));clear H a;intro a H
  refine Ze (Za (Zn H rfl (fun aH=>?_) (fun aH=>?_)))
  · replace hm:=Zu hm aH
    refine wp_seq (wp_region_lit (n_q H (Zf rfl ((hG.ext hS.x).ld Hp (by decide) Hv)) rfl (W_q (Zb rfl) rfl ?_)));clear H a;intro a H
    refine Ze (Za (wp_ret (Zl (Zh ?_))))
    obtain rfl:=Option.some.inj hm
    replace hS:=hS.dVar (A:=A) (g:=Hp) (by decide)
    replace hS:=hS.tk1
    refine Qx H (.inr rfl) rfl rfl ?_
    exact⟨_,rfl,hS⟩
  replace hm:=Zv hm aH
  refine wp_skip (Zo (Za (wp_seq (Tm [] 8 (by kernel_rfl) ?_))))
  obtain⟨aI,aJ⟩ : ∃ x,x=bN.drew:=⟨_,rfl⟩;rw [← aJ];have bP : Ext bN aI:=by rw [aJ];exact Ext.drew' _
  clear aJ
  replace hS:=hS.ext bP
  have a9:=hS
  have hW:=Nat.le_refl aI.heap.size
  refine Zg 0 H rfl (Zd rfl) rfl (by kernel_rfl) (by kernel_rfl) (by kernel_rfl) (by kernel_rfl) (fun _ _ _ h=>h) ?_;clear H a;intro a H
  replace hm:=Zj hm;obtain⟨bO,aK,hm⟩:=hm
  obtain⟨b6,aO⟩:=SlR.adV ((hS.own 0 rfl).slr rfl (fun _ _=>rfl)) aA aK
  refine Zg 1 H rfl (Ug (i:=0) Tryz.underlying25 sz3 rfl aA aO rfl (Zb5 aK)) rfl (by kernel_rfl) (by kernel_rfl) (by kernel_rfl) (by kernel_rfl) (fun _ _ _ h=>h) ?_;clear H a;intro a H
  refine Qr 2 H rfl (Zf rfl (LdC.old (SlR.ldOneV ((a9.own 0 rfl).slr rfl (fun _ _=>rfl)) aA aO ag3 aK rfl) Ext.rfl' (Nat.le_refl _) (by simp))) rfl (by kernel_rfl) (by kernel_rfl) (by kernel_rfl) (by kernel_rfl) (fun _ _ _ h=>h) ?_;clear H a;intro a H
  refine Qr 3 H rfl (Zf rfl (LdC.old ((hG.ext a9.x).ld Zhn (by decide) Hv) Ext.rfl' (Nat.le_refl _) (by simp))) rfl (by kernel_rfl) (by kernel_rfl) (by kernel_rfl) (by kernel_rfl) (fun _ _ _ h=>h) ?_;clear H a;intro a H
  refine Zg 4 H rfl (Qt (cs:=[.int .i64 bO,sv 340 A Zhn]) Ztw Ztq Ztr rfl ((Qk rfl rfl (by simp)).trans ((Qk (Xu.var (by decide) : IsE A aI _ (.v Zhn)).one rfl (by simp)).trans rfl))) rfl (by kernel_rfl) (by kernel_rfl) (by kernel_rfl) (by kernel_rfl) (fun _ _ _ h=>h) ?_;clear H a;intro a H
  refine k_box 5 H rfl rfl (cs:=[.int .i64 bO,sv 340 A Zhn]) rfl rfl (by kernel_rfl) ?_
  clear H;intro bW cH hN bA hs;clear a;intro a H
  have bX : aI.heap.size ≤ bW:=hs ▸ hW
  replace hS:=hS.newBlk hN bA hs;clear hN hs
  replace hW:=Nat.le_trans hW bA.size
  refine Zg 6 H rfl (Zbi Tryz.underlying210 (by simp) rfl) rfl (by kernel_rfl) (by kernel_rfl) (by kernel_rfl) (by kernel_rfl) (fun _ _ _ h=>h) ?_;clear H a;intro a H
  replace hS:=hS.dAt (g:=Zhn) (by decide)
  refine Zg 7 H rfl (Zb rfl) rfl (by kernel_rfl) (by kernel_rfl) (by kernel_rfl) (by kernel_rfl) (fun _ _ _ h=>h) ?_;clear H a;intro a H
  refine Xc (by kernel_rfl) ?_
  refine Za (wp_ret ?_)
  obtain rfl:=Option.some.inj hm
  replace hS:=hS.tk1
  refine Qx H (.inr rfl) rfl rfl ?_
  exact⟨_,rfl,hS⟩
theorem Zio {w : World} {A : Nat → Addr} {cs0 : List Value} {a0 : GPlan} {cs1 : List Value} {a1 : GState} (hG : EV A w) (h0 : Xa w cs0 a0) (h1 : Hg w cs1 a1) {r : ErrM} (hm : Zao a0 a1=some r) :
    Calls Tryz.prog 70 [.agg cs0.toArray,.agg cs1.toArray].toArray w (Ret fun u w'=>∃ h_0,u=h_0 ∧ St NB w w' [erQ A h_0 r]):=by
  obtain⟨aA,aB,aC,aD,rfl,aL,aM,aN,aO⟩:=h0
  obtain⟨aE,aF,aG,aH,aI,aJ,aK,rfl,aP,aQ,aR,aS,aT,aU,aV⟩:=h1
  have hS:=St.begin NB w
  unfold Zao at hm
  refine enter Tryz.func70 rfl rfl rfl ?_;intro a H;dsimp only [Qn,Nat.zero_add,Nat.reduceAdd] at H
  refine wp_seq (wp_region_lit (Yy H rfl (cs:=[.int .i64 a0.Id,.bool a0.Mobile,aA,aB,aC,.int .i64 a0.Events,aD]) rfl rfl ?_))
  clear H;intro a9 bA hN aW hs;clear a;intro a H
  replace hS:=hS.newBlk hN aW hs;clear hN hs
  refine Yy H rfl (cs:=[.int .i64 a1.Id,.int .i64 a1.Frame,.int .i64 a1.Epoch,aE,aF,aG,aH,aI,aJ,aK]) rfl rfl ?_
  clear H;intro bB bC hN aX hs;clear a;intro a H
  replace hS:=hS.newBlk hN aX hs;clear hN hs
  refine n_q H (Zb rfl) rfl ?_;clear H a;intro a H
  refine Ze (Za (wp_seq (wp_region_lit (n_q H (Zf rfl ((hS.blk 1 rfl).ldAll Zda Zav)) rfl (W_q (Zf rfl ((hS.blk 0 rfl).ldAll Zo1 Zbz)) rfl ?_)))));clear H a;intro a H
  replace hm:=Zj hm;obtain⟨bD,aY,hm⟩:=hm
  refine Zk H rfl en141 (Zin (A:=A) (hG.ext hS.x) (⟨_,_,_,_,rfl,(aL.ext (Zi.mono _) hS.x),(aM.ext (Zi.mono _) hS.x),(aN.ext (Zi.mono _) hS.x),(aO.ext (Zi.mono _) hS.x)⟩ : Xa _ [.int .i64 a0.Id,.bool a0.Mobile,aA,aB,aC,.int .i64 a0.Events,aD] a0) (⟨_,_,_,_,_,_,_,rfl,(aP.ext (Zi.mono _) hS.x),(aQ.ext (Zi.mono _) hS.x),(aR.ext (Zi.mono _) hS.x),(aS.ext (Zi.mono _) hS.x),(aT.ext (Zi.mono _) hS.x),(aU.ext Qe.mono hS.x),(aV.ext (Zi.mono _) hS.x)⟩ : Hg _ [.int .i64 a1.Id,.int .i64 a1.Frame,.int .i64 a1.Epoch,aE,aF,aG,aH,aI,aJ,aK] a1) aY) rfl ?_
  clear H;intro bE bF hv;clear a;intro a H;obtain⟨_,rfl,aZ⟩:=hv
  replace hS:=hS.new aZ;simp only [List.cons_append,List.nil_append] at hS
  refine n_q H (Zb rfl) rfl ?_;clear H a;intro a H
  refine Ze (Za (wp_ret ?_))
  obtain rfl:=Option.some.inj hm
  replace hS:=hS.tk1
  refine Qx H (.inr rfl) rfl rfl ?_
  exact⟨_,rfl,hS⟩
set_option maxHeartbeats 4000000 in
theorem Zdf {w : World} {A : Nat → Addr} {cs0 : List Value} {a0 : GPlan} {v1 : Value} {a1 : List UInt8} (hG : EV A w) (h0 : Xa w cs0 a0) (h1 : SlR w 1 (Zi eB) v1 a1) {r : Bool} (hm : Un a0 a1=some r) :
    Calls Tryz.prog 11 [.agg cs0.toArray,v1].toArray w (Ret fun u w'=>u=.bool r ∧ Ext w w'):=by
  obtain⟨aQ,aP,aR,aS,rfl,bB,aW,bC,bD⟩:=h0
  have hS:=St.begin NB w
  unfold Un at hm
  refine enter Tryz.func11 rfl rfl rfl ?_;intro a H;dsimp only [Qn,Nat.zero_add,Nat.reduceAdd] at H
  refine wp_seq (wp_region_lit (Yy H rfl (cs:=[.int .i64 a0.Id,.bool a0.Mobile,aQ,aP,aR,.int .i64 a0.Events,aS]) rfl rfl ?_))
  clear H;intro cH pE hN j5 hs;clear a;intro a H
  replace hS:=hS.newBlk hN j5 hs;clear hN hs
  refine n_q H (Zb rfl) rfl ?_;clear H a;intro a H
  refine Ze (Za (wp_seq (wp_region_lit ?_)))
  replace hm:=Zj hm;obtain⟨fL,j6,hm⟩:=hm
  refine Zk H rfl en63 (Zfo (A:=A) j6) rfl ?_
  clear H;intro pF pG hv;clear a;intro a H;obtain⟨lM,lN,lO,lP,rfl,j7⟩:=hv
  replace hS:=hS.new j7;simp only [List.cons_append,List.nil_append] at hS
  replace hm:=Zj hm;obtain⟨aG,j8,hm⟩:=hm
  refine Zk H rfl en53 (Zcy (A:=A) (hG.ext hS.x) (⟨_,_,_,_,rfl,((hS.own 0 rfl).slr rfl (fun _ _=>rfl)),((hS.own 1 rfl).slr rfl (fun _ _=>rfl)),((hS.own 2 rfl).slr rfl (fun _ _=>rfl)),((hS.own 3 rfl).slr rfl (fun _ _=>rfl))⟩ : Xa _ [.int .i64 fL.Id,.bool fL.Mobile,lM,lN,lO,.int .i64 fL.Events,lP] fL) j8) rfl ?_
  clear H;intro pH pI hv;clear a;intro a H;obtain⟨dP,dQ,dR,dS,dT,dU,dV,j3,rfl,j9⟩:=hv
  replace hS:=hS.new j9;simp only [List.cons_append,List.nil_append] at hS
  refine n_q H (Zd rfl) rfl (W_q (Zm rfl rfl) rfl (W_q (Zm rfl rfl) rfl ?_));clear H a;intro a H
  refine Jb H Zbp rfl ?_
  clear H;intro cI pJ hN kA hs;clear a;intro a H
  replace hS:=hS.newBlk hN kA hs;clear hN hs
  refine Qi H rfl rfl (vs:=[.int .i64 aG.1.Id,.int .i64 aG.1.Frame,.int .i64 aG.1.Epoch,dP,dQ,dR,dS,dT,dU,dV]) rfl Zbz (hS.blk 0 rfl) rfl (by simp [(((hS.own 1 rfl).slr rfl (fun x _=>Xk x))).one,(((hS.own 2 rfl).slr rfl (fun _ _=>rfl))).one,(((hS.own 3 rfl).slr rfl (fun _ _=>rfl))).one,(((hS.own 4 rfl).slr rfl (fun _ _=>rfl))).one,(((hS.own 5 rfl).slr rfl (fun _ _=>rfl))).one,((hS.deepSl 6 rfl)).one,(((hS.own 7 rfl).slr rfl (fun x _=>Kz x))).one]) ?_
  clear H;intro j4 hN kC hz;clear a;intro a H;replace hS:=hS.setBlk hN kC;clear hN hz
  refine n_q H (Zb rfl) rfl ?_;clear H a;intro a H
  refine Ze (Za (wp_seq ?_))
  replace hm:=Zj hm;obtain⟨pK,hm,fK⟩:=hm
  refine Gm (σ:=Bool) H (fun cT=>[(1,v1),(2,.pointer (some ⟨cH,0,none⟩)),(5,.pointer (some ⟨cI,0,none⟩)),(40,.bool cT)]) (fun cT wl=>(Jc a0 a1) cT=some r ∧ St NB w wl [blkR cH [.int .i64 a0.Id,.bool a0.Mobile,aQ,aP,aR,.int .i64 a0.Events,aS] 27,blkR cI [.int .i64 aG.1.Id,.int .i64 aG.1.Frame,.int .i64 aG.1.Epoch,dP,dQ,dR,dS,dT,dU,dV] 34,ownR 144 21 dP aG.1.Procs.length (aG.1.Procs.flatMap Xf),ownR 3 1 dQ aG.1.Ready.length (aG.1.Ready.flatMap eI),ownR 163 2 dR aG.1.Timers.length (aG.1.Timers.flatMap Jq),ownR 4 1 dS aG.1.Up.length (aG.1.Up.flatMap eF),ownR 3 1 dT aG.1.Sems.length (aG.1.Sems.flatMap eI),deepR 154 2 Qe dU aG.1.Ports,ownR 82 66 dV aG.1.Pages.length (aG.1.Pages.flatMap Jr)]) ?_ ?_
  · skip
    refine Tm [] 16 (by kernel_rfl) ?_
    obtain⟨eH,eZ⟩ : ∃ x,x=j4.drew:=⟨_,rfl⟩;rw [← eZ];have iP : Ext j4 eH:=by rw [eZ];exact Ext.drew' _
    clear eZ
    replace hS:=hS.ext iP
    have fM:=hS
    have hW:=Nat.le_refl eH.heap.size
    refine Zg 0 H rfl (Zd rfl) rfl (by kernel_rfl) (by kernel_rfl) (by kernel_rfl) (by kernel_rfl) (fun _ _ _ h=>h) ?_;clear H a;intro a H
    refine Zg 1 H rfl (Xi (Vr Tryz.underlying39 rfl rfl (hS.any 8 rfl : IsE A eH j3 aG.2).form) (show _=Value.bool (!decide (aG.2=.nil)) by rw [Xu.isNil (hS.any 8 rfl : IsE A eH j3 aG.2)])) rfl (by kernel_rfl) (by kernel_rfl) (by kernel_rfl) (by kernel_rfl) (fun _ _ _ h=>h) ?_;clear H a;intro a H
    refine Zg 2 H rfl (Zd rfl) rfl (by kernel_rfl) (by kernel_rfl) (by kernel_rfl) (by kernel_rfl) (fun _ _ _ h=>h) ?_;clear H a;intro a H
    rcases Bool.eq_false_or_eq_true (!decide (aG.2=.nil)) with dW|dW
    · replace H:=H.know 27 rfl dW
      replace hm:=Zu hm dW
      refine Jg 4 H rfl rfl rfl (by decide) rfl (by kernel_rfl) (by kernel_rfl) (by kernel_rfl) (by kernel_rfl) (fun _ _ _ h=>h) ?_;clear H a;intro a H
      refine Jg 3 H rfl rfl rfl (by decide) rfl (by kernel_rfl) (by kernel_rfl) (by kernel_rfl) (by kernel_rfl) (fun _ _ _ h=>h) ?_;clear H a;intro a H
      refine Jg 5 H rfl rfl rfl (by decide) rfl (by kernel_rfl) (by kernel_rfl) (by kernel_rfl) (by kernel_rfl) (fun _ _ _ h=>h) ?_;clear H a;intro a H
      refine Jg 6 H rfl rfl rfl (by decide) rfl (by kernel_rfl) (by kernel_rfl) (by kernel_rfl) (by kernel_rfl) (fun _ _ _ h=>h) ?_;clear H a;intro a H
      refine Jg 7 H rfl rfl rfl (by decide) rfl (by kernel_rfl) (by kernel_rfl) (by kernel_rfl) (by kernel_rfl) (fun _ _ _ h=>h) ?_;clear H a;intro a H
      refine Zg 8 H rfl (Zx rfl rfl) rfl (by kernel_rfl) (by kernel_rfl) (by kernel_rfl) (by kernel_rfl) (fun _ _ _ h=>h) ?_;clear H a;intro a H
      refine Zg 9 H rfl (Zd rfl) rfl (by kernel_rfl) (by kernel_rfl) (by kernel_rfl) (by kernel_rfl) (fun _ _ _ h=>h) ?_;clear H a;intro a H
      refine Jg 10 H rfl rfl rfl (by decide) rfl (by kernel_rfl) (by kernel_rfl) (by kernel_rfl) (by kernel_rfl) (fun _ _ _ h=>h) ?_;clear H a;intro a H
      refine Jg 11 H rfl rfl rfl (by decide) rfl (by kernel_rfl) (by kernel_rfl) (by kernel_rfl) (by kernel_rfl) (fun _ _ _ h=>h) ?_;clear H a;intro a H
      refine Jg 12 H rfl rfl rfl (by decide) rfl (by kernel_rfl) (by kernel_rfl) (by kernel_rfl) (by kernel_rfl) (fun _ _ _ h=>h) ?_;clear H a;intro a H
      refine Jg 13 H rfl rfl rfl (by decide) rfl (by kernel_rfl) (by kernel_rfl) (by kernel_rfl) (by kernel_rfl) (fun _ _ _ h=>h) ?_;clear H a;intro a H
      refine Jg 14 H rfl rfl rfl (by decide) rfl (by kernel_rfl) (by kernel_rfl) (by kernel_rfl) (by kernel_rfl) (fun _ _ _ h=>h) ?_;clear H a;intro a H
      refine Zg 15 H rfl (Zx rfl rfl) rfl (by kernel_rfl) (by kernel_rfl) (by kernel_rfl) (by kernel_rfl) (fun _ _ _ h=>h) ?_;clear H a;intro a H
      refine Xc (by kernel_rfl) ?_
      refine Za ?_
      obtain rfl:=Option.some.inj hm;replace hm:=fK;try dsimp only at hm
      replace hS:=hS.pk7
      replace hS:=hS.pk7
      replace hS:=hS.pk7
      replace hS:=hS.pk7
      replace hS:=hS.pk7
      replace hS:=hS.pk7
      replace hS:=hS.pk7
      replace hS:=hS.pk7
      replace hS:=hS.pick 13 rfl;dsimp only [List.eraseIdx] at hS
      replace hS:=hS.tk9
      exact Uy true H ⟨rfl,rfl,rfl,rfl,trivial⟩ ⟨hm,hS⟩
    replace H:=H.know 27 rfl dW
    replace hm:=Zv hm dW
    refine Wm 4 H rfl rfl rfl (Zf rfl (LdC.old ((fM.blk 0 rfl).ldAll Zo1 Zbz) Ext.rfl' (Nat.le_refl _) (by simp))) rfl (by kernel_rfl) (by kernel_rfl) (by kernel_rfl) (by kernel_rfl) (fun _ _ _ h=>h) ?_;clear H a;intro a H
    replace hm:=Zj hm;obtain⟨e7,iQ,hm⟩:=hm
    refine Zb4 3 H rfl rfl rfl rfl en63 (Zfo (A:=A) iQ) rfl (by kernel_rfl) (fun v w hv=>.inl (ChgF.of_ext (by obtain⟨_,_,_,_,_,hE0⟩:=hv;exact hE0.x))) ?_
    clear H;intro oL oM hv;clear a;intro a H;obtain⟨kD,kE,kF,kG,rfl,e8⟩:=hv
    replace hS:=hS.new e8;simp only [List.cons_append,List.nil_append] at hS
    replace hW:=Nat.le_trans hW e8.x.size
    replace hm:=Zj hm;obtain⟨f5,iR,hm⟩:=hm
    refine Zb4 5 H rfl rfl rfl rfl en64 (Za0 (A:=A) (hG.ext hS.x) (⟨_,_,_,_,rfl,((hS.own 0 rfl).slr rfl (fun _ _=>rfl)),((hS.own 1 rfl).slr rfl (fun _ _=>rfl)),((hS.own 2 rfl).slr rfl (fun _ _=>rfl)),((hS.own 3 rfl).slr rfl (fun _ _=>rfl))⟩ : Xa _ [.int .i64 e7.Id,.bool e7.Mobile,kD,kE,kF,.int .i64 e7.Events,kG] e7) (⟨_,_,_,_,_,_,_,rfl,((hS.own 5 rfl).slr rfl (fun x _=>Xk x)),((hS.own 6 rfl).slr rfl (fun _ _=>rfl)),((hS.own 7 rfl).slr rfl (fun _ _=>rfl)),((hS.own 8 rfl).slr rfl (fun _ _=>rfl)),((hS.own 9 rfl).slr rfl (fun _ _=>rfl)),(hS.deepSl 10 rfl),((hS.own 11 rfl).slr rfl (fun x _=>Kz x))⟩ : Hg _ [.int .i64 aG.1.Id,.int .i64 aG.1.Frame,.int .i64 aG.1.Epoch,dP,dQ,dR,dS,dT,dU,dV] aG.1) iR) rfl (by kernel_rfl) (fun v w hv=>.inl (ChgF.of_ext (by obtain⟨_,_,hE0⟩:=hv;exact hE0.x))) ?_
    clear H;intro oN oO hv;clear a;intro a H;obtain⟨_,rfl,e9⟩:=hv
    replace hS:=hS.new e9;simp only [List.cons_append,List.nil_append] at hS
    replace hW:=Nat.le_trans hW e9.x.size
    obtain⟨oP,oQ,iS,mE,mF⟩:=SlR.formV ((hS.own 0 rfl).slr rfl (fun _ _=>rfl))
    refine Qq 6 H rfl rfl rfl (Qc Tryz.underlying25 rfl iS) rfl (by kernel_rfl) (by kernel_rfl) (by kernel_rfl) (by kernel_rfl) (fun _ _ _ h=>h) ?_;clear H a;intro a H
    refine Qq 7 H rfl rfl rfl (Zel (i:=f5.length) (j:=0) rfl rfl) rfl (by kernel_rfl) (by kernel_rfl) (by kernel_rfl) (by kernel_rfl) (fun _ _ _ h=>h) ?_;clear H a;intro a H
    refine Zg 8 H rfl (Zt rfl rfl) rfl (by kernel_rfl) (by kernel_rfl) (by kernel_rfl) (by kernel_rfl) (fun _ _ _ h=>h) ?_;clear H a;intro a H
    refine Zg 9 H rfl (Zd rfl) rfl (by kernel_rfl) (by kernel_rfl) (by kernel_rfl) (by kernel_rfl) (fun _ _ _ h=>h) ?_;clear H a;intro a H
    rcases Bool.eq_false_or_eq_true (!decide (f5.length=0)) with dX|dX
    · replace H:=H.know 34 rfl dX
      replace hm:=Zu hm dX
      refine Jg 10 H rfl rfl rfl (by decide) rfl (by kernel_rfl) (by kernel_rfl) (by kernel_rfl) (by kernel_rfl) (fun _ _ _ h=>h) ?_;clear H a;intro a H
      refine Jg 11 H rfl rfl rfl (by decide) rfl (by kernel_rfl) (by kernel_rfl) (by kernel_rfl) (by kernel_rfl) (fun _ _ _ h=>h) ?_;clear H a;intro a H
      refine Jg 12 H rfl rfl rfl (by decide) rfl (by kernel_rfl) (by kernel_rfl) (by kernel_rfl) (by kernel_rfl) (fun _ _ _ h=>h) ?_;clear H a;intro a H
      refine Jg 13 H rfl rfl rfl (by decide) rfl (by kernel_rfl) (by kernel_rfl) (by kernel_rfl) (by kernel_rfl) (fun _ _ _ h=>h) ?_;clear H a;intro a H
      refine Jg 14 H rfl rfl rfl (by decide) rfl (by kernel_rfl) (by kernel_rfl) (by kernel_rfl) (by kernel_rfl) (fun _ _ _ h=>h) ?_;clear H a;intro a H
      refine Zg 15 H rfl (Zx rfl rfl) rfl (by kernel_rfl) (by kernel_rfl) (by kernel_rfl) (by kernel_rfl) (fun _ _ _ h=>h) ?_;clear H a;intro a H
      refine Xc (by kernel_rfl) ?_
      refine Za ?_
      obtain rfl:=Option.some.inj hm;replace hm:=fK;try dsimp only at hm
      replace hS:=hS.pick 12 rfl;dsimp only [List.eraseIdx] at hS
      replace hS:=hS.pick 12 rfl;dsimp only [List.eraseIdx] at hS
      replace hS:=hS.pick 12 rfl;dsimp only [List.eraseIdx] at hS
      replace hS:=hS.pick 12 rfl;dsimp only [List.eraseIdx] at hS
      replace hS:=hS.pick 12 rfl;dsimp only [List.eraseIdx] at hS
      replace hS:=hS.pick 12 rfl;dsimp only [List.eraseIdx] at hS
      replace hS:=hS.pick 12 rfl;dsimp only [List.eraseIdx] at hS
      replace hS:=hS.pick 12 rfl;dsimp only [List.eraseIdx] at hS
      replace hS:=hS.pick 18 rfl;dsimp only [List.eraseIdx] at hS
      replace hS:=hS.tk9
      exact Uy true H ⟨rfl,rfl,rfl,rfl,trivial⟩ ⟨hm,hS⟩
    replace H:=H.know 34 rfl dX
    replace hm:=Zv hm dX
    refine Qq 10 H rfl rfl rfl (Zc rfl Zi8) rfl (by kernel_rfl) (by kernel_rfl) (by kernel_rfl) (by kernel_rfl) (fun _ _ _ h=>h) ?_;clear H a;intro a H
    refine Wm 11 H rfl rfl rfl (Zf rfl (LdC.old ((fM.blk 0 rfl).ld Zil rfl) (Ext.trans' e8.x e9.x) (Nat.le_refl _) (by simp))) rfl (by kernel_rfl) (by kernel_rfl) (by kernel_rfl) (by kernel_rfl) (fun _ _ _ h=>h) ?_;clear H a;intro a H
    refine Zjs 12 H rfl rfl rfl Tryz.underlying25 sz3 ze3 rfl rfl rfl (cs:=[.int .i64 0]) (by kernel_rfl) rfl (by kernel_rfl) ?_
    clear H;intro kH oR hN fN hs;clear a;intro a H
    have kI : eH.heap.size ≤ kH:=hs ▸ hW
    replace hS:=hS.newBlk hN fN hs;clear hN hs
    replace hW:=Nat.le_trans hW fN.size
    replace hS:=hS.blkOwnL (e:=eI) (k:=1) [0] rfl rfl (by simp [maxLen])
    replace hm:=Zj hm;obtain⟨kJ,iT,hm⟩:=hm
    refine Zb4 13 H rfl rfl rfl rfl en65 (Zgu (A:=A) ((hS.own 8 rfl).slr rfl (fun _ _=>rfl)) ((hS.own 0 rfl).slr rfl (fun _ _=>rfl)) iT) rfl (by kernel_rfl) (fun v w hv=>.inl (ChgF.of_ext (by obtain⟨_,hE0⟩:=hv;exact hE0))) ?_
    clear H;intro oS oT hv;clear a;intro a H;obtain⟨rfl,fO⟩:=hv
    replace hS:=hS.ext fO
    replace hW:=Nat.le_trans hW fO.size
    refine Qq 14 H rfl rfl rfl (Zb1 rfl) rfl (by kernel_rfl) (by kernel_rfl) (by kernel_rfl) (by kernel_rfl) (fun _ _ _ h=>h) ?_;clear H a;intro a H
    refine Zg 15 H rfl (Zt rfl rfl) rfl (by kernel_rfl) (by kernel_rfl) (by kernel_rfl) (by kernel_rfl) (fun _ _ _ h=>h) ?_;clear H a;intro a H
    refine Xc (by kernel_rfl) ?_
    refine Za ?_
    obtain rfl:=Option.some.inj hm;replace hm:=fK;try dsimp only at hm
    replace hS:=hS.pick 13 rfl;dsimp only [List.eraseIdx] at hS
    replace hS:=hS.pick 13 rfl;dsimp only [List.eraseIdx] at hS
    replace hS:=hS.pick 13 rfl;dsimp only [List.eraseIdx] at hS
    replace hS:=hS.pick 13 rfl;dsimp only [List.eraseIdx] at hS
    replace hS:=hS.pick 13 rfl;dsimp only [List.eraseIdx] at hS
    replace hS:=hS.pick 13 rfl;dsimp only [List.eraseIdx] at hS
    replace hS:=hS.pick 13 rfl;dsimp only [List.eraseIdx] at hS
    replace hS:=hS.pick 13 rfl;dsimp only [List.eraseIdx] at hS
    replace hS:=hS.pick 19 rfl;dsimp only [List.eraseIdx] at hS
    replace hS:=hS.tk9
    exact Uy (!kJ) H ⟨rfl,rfl,rfl,rfl,trivial⟩ ⟨hm,hS⟩
  clear H hS hm a;intro cT a oU H hR
  simp only [ent,List.map_cons,List.map_nil] at H;(try dsimp only at hR);obtain⟨hm,hS⟩:=hR;try dsimp only [Jc] at hm
  refine Zn H rfl (fun fA=>?_) (fun fA=>?_)
  · replace hm:=Zu hm fA
    refine wp_seq (wp_region_lit (n_q H (Zb rfl) rfl ?_));clear H a;intro a H
    refine Ze (Za (wp_ret (Zh ?_)))
    obtain rfl:=Option.some.inj hm
    replace hS:=hS.tk0
    refine Qx H (.inr rfl) rfl rfl ?_
    exact⟨rfl,hS.x⟩
  replace hm:=Zv hm fA
  refine wp_skip (Za (wp_seq (wp_seq (wp_region_lit (n_q H (Zf rfl ((hS.blk 0 rfl).ldAll Zda Zav)) rfl ?_)))));clear H a;intro a H
  replace hm:=Zj hm;obtain⟨aH,iU,hm⟩:=hm
  refine Zk H rfl Zrt (Kd (A:=A) (⟨_,_,_,_,rfl,(bB.ext (Zi.mono _) hS.x),(aW.ext (Zi.mono _) hS.x),(bC.ext (Zi.mono _) hS.x),(bD.ext (Zi.mono _) hS.x)⟩ : Xa _ [.int .i64 a0.Id,.bool a0.Mobile,aQ,aP,aR,.int .i64 a0.Events,aS] a0) iU) rfl ?_
  clear H;intro oV oW hv;clear a;intro a H;obtain⟨cN,cO,cP,cQ,rfl,iV⟩:=hv
  replace hS:=hS.new iV;simp only [List.cons_append,List.nil_append] at hS
  replace hm:=Zj hm;obtain⟨cJ,iW,hm⟩:=hm
  refine Zk H rfl en57 (Hy (A:=A) (hG.ext hS.x) (⟨_,_,_,_,rfl,((hS.own 0 rfl).slr rfl (fun _ _=>rfl)),((hS.own 1 rfl).slr rfl (fun _ _=>rfl)),((hS.own 2 rfl).slr rfl (fun _ _=>rfl)),((hS.own 3 rfl).slr rfl (fun _ _=>rfl))⟩ : Xa _ [.int .i64 aH.Id,.bool aH.Mobile,cN,cO,cP,.int .i64 aH.Events,cQ] aH) iW) rfl ?_
  clear H;intro cL f6 hv;clear a;intro a H;obtain⟨_,rfl,iX⟩:=hv
  replace hS:=hS.new iX;simp only [List.cons_append,List.nil_append] at hS
  refine n_q H (Xi (Vr Tryz.underlying39 rfl rfl (hS.any 0 rfl : IsE A f6 cL cJ).form) (show _=Value.bool (!decide (cJ=.nil)) by rw [Xu.isNil (hS.any 0 rfl : IsE A f6 cL cJ)])) rfl ?_;clear H a;intro a H
  refine Ze (Za (Zn H rfl (fun fB=>?_) (fun fB=>?_)))
  · replace hm:=Zu hm fB
    refine wp_seq (wp_region_lit (n_q H (Zf rfl ((hS.blk 5 rfl).ldAll Zda Zav)) rfl ?_));clear H a;intro a H
    replace hm:=Zj hm;obtain⟨fC,iY,hm⟩:=hm
    refine Zk H rfl Zrt (Kd (A:=A) (⟨_,_,_,_,rfl,(bB.ext (Zi.mono _) hS.x),(aW.ext (Zi.mono _) hS.x),(bC.ext (Zi.mono _) hS.x),(bD.ext (Zi.mono _) hS.x)⟩ : Xa _ [.int .i64 a0.Id,.bool a0.Mobile,aQ,aP,aR,.int .i64 a0.Events,aS] a0) iY) rfl ?_
    clear H;intro oX oY hv;clear a;intro a H;obtain⟨kK,kL,kM,kN,rfl,iZ⟩:=hv
    replace hS:=hS.new iZ;simp only [List.cons_append,List.nil_append] at hS
    replace hm:=Zj hm;obtain⟨eJ,i0,hm⟩:=hm
    refine Zk H rfl en53 (Zcy (A:=A) (hG.ext hS.x) (⟨_,_,_,_,rfl,((hS.own 0 rfl).slr rfl (fun _ _=>rfl)),((hS.own 1 rfl).slr rfl (fun _ _=>rfl)),((hS.own 2 rfl).slr rfl (fun _ _=>rfl)),((hS.own 3 rfl).slr rfl (fun _ _=>rfl))⟩ : Xa _ [.int .i64 fC.Id,.bool fC.Mobile,kK,kL,kM,.int .i64 fC.Events,kN] fC) i0) rfl ?_
    clear H;intro oZ o1 hv;clear a;intro a H;obtain⟨kO,kP,kQ,kR,kS,kT,kU,kV,rfl,i9⟩:=hv
    replace hS:=hS.new i9;simp only [List.cons_append,List.nil_append] at hS
    refine n_q H (Zd rfl) rfl (W_q (Zm rfl rfl) rfl (W_q (Zm rfl rfl) rfl ?_));clear H a;intro a H
    refine Jb H Zbp rfl ?_
    clear H;intro o2 o3 hN jA hs;clear a;intro a H
    replace hS:=hS.newBlk hN jA hs;clear hN hs
    refine Qi H rfl rfl (vs:=[.int .i64 eJ.1.Id,.int .i64 eJ.1.Frame,.int .i64 eJ.1.Epoch,kO,kP,kQ,kR,kS,kT,kU]) rfl Zbz (hS.blk 0 rfl) rfl (by simp [(((hS.own 1 rfl).slr rfl (fun x _=>Xk x))).one,(((hS.own 2 rfl).slr rfl (fun _ _=>rfl))).one,(((hS.own 3 rfl).slr rfl (fun _ _=>rfl))).one,(((hS.own 4 rfl).slr rfl (fun _ _=>rfl))).one,(((hS.own 5 rfl).slr rfl (fun _ _=>rfl))).one,((hS.deepSl 6 rfl)).one,(((hS.own 7 rfl).slr rfl (fun x _=>Kz x))).one]) ?_
    clear H;intro o4 hN jB hz;clear a;intro a H;replace hS:=hS.setBlk hN jB;clear hN hz
    refine n_q H (Zb rfl) rfl ?_;clear H a;intro a H
    refine Ze (Za (wp_seq (wp_region_lit (n_q H (Zf rfl ((hS.blk 18 rfl).ldAll Zda Zav)) rfl ?_))));clear H a;intro a H
    replace hm:=Zj hm;obtain⟨fD,jC,hm⟩:=hm
    refine Zk H rfl Zrt (Kd (A:=A) (⟨_,_,_,_,rfl,(bB.ext (Zi.mono _) hS.x),(aW.ext (Zi.mono _) hS.x),(bC.ext (Zi.mono _) hS.x),(bD.ext (Zi.mono _) hS.x)⟩ : Xa _ [.int .i64 a0.Id,.bool a0.Mobile,aQ,aP,aR,.int .i64 a0.Events,aS] a0) jC) rfl ?_
    clear H;intro o5 o6 hv;clear a;intro a H;obtain⟨kW,kX,kY,kZ,rfl,jD⟩:=hv
    replace hS:=hS.new jD;simp only [List.cons_append,List.nil_append] at hS
    replace hm:=Zj hm;obtain⟨f7,jE,hm⟩:=hm
    refine Zk H rfl en47 (Zai (A:=A) (hG.ext hS.x) (⟨_,_,_,_,rfl,((hS.own 0 rfl).slr rfl (fun _ _=>rfl)),((hS.own 1 rfl).slr rfl (fun _ _=>rfl)),((hS.own 2 rfl).slr rfl (fun _ _=>rfl)),((hS.own 3 rfl).slr rfl (fun _ _=>rfl))⟩ : Xa _ [.int .i64 fD.Id,.bool fD.Mobile,kW,kX,kY,.int .i64 fD.Events,kZ] fD) jE) rfl ?_
    clear H;intro o7 o8 hv;clear a;intro a H;obtain⟨o9,lA,rfl,jF⟩:=hv
    replace hS:=hS.new jF;simp only [List.cons_append,List.nil_append] at hS
    refine n_q H (Zd rfl) rfl (W_q (Zm rfl rfl) rfl (W_q (Zm rfl rfl) rfl (W_q (Zb rfl) rfl (W_q (Zb rfl) rfl ?_))));clear H a;intro a H
    refine Ze (Za (wp_seq (wp_region_lit (n_q H (Zf rfl ((hS.blk 24 rfl).ldAll Zda Zav)) rfl ?_))));clear H a;intro a H
    replace hm:=Zj hm;obtain⟨fE,jG,hm⟩:=hm
    refine Zk H rfl Zrt (Kd (A:=A) (⟨_,_,_,_,rfl,(bB.ext (Zi.mono _) hS.x),(aW.ext (Zi.mono _) hS.x),(bC.ext (Zi.mono _) hS.x),(bD.ext (Zi.mono _) hS.x)⟩ : Xa _ [.int .i64 a0.Id,.bool a0.Mobile,aQ,aP,aR,.int .i64 a0.Events,aS] a0) jG) rfl ?_
    clear H;intro pA pB hv;clear a;intro a H;obtain⟨lB,lC,lD,lE,rfl,jH⟩:=hv
    replace hS:=hS.new jH;simp only [List.cons_append,List.nil_append] at hS
    replace hm:=Zj hm;obtain⟨f8,jI,hm⟩:=hm
    refine Zk H rfl en67 (Zer (A:=A) (hG.ext hS.x) (⟨_,_,_,_,rfl,((hS.own 0 rfl).slr rfl (fun _ _=>rfl)),((hS.own 1 rfl).slr rfl (fun _ _=>rfl)),((hS.own 2 rfl).slr rfl (fun _ _=>rfl)),((hS.own 3 rfl).slr rfl (fun _ _=>rfl))⟩ : Xa _ [.int .i64 fE.Id,.bool fE.Mobile,lB,lC,lD,.int .i64 fE.Events,lE] fE) jI) rfl ?_
    clear H;intro pC lF hv;clear a;intro a H;obtain⟨lG,rfl,jJ⟩:=hv
    replace hS:=hS.new jJ;simp only [List.cons_append,List.nil_append] at hS
    refine n_q H (Zd rfl) rfl (W_q (Zm rfl rfl) rfl (W_q (Zm rfl rfl) rfl (W_q (Zb rfl) rfl (W_q (Zb rfl) rfl ?_))));clear H a;intro a H
    refine Ze (Za ?_)
    replace hm:=Zj hm;obtain⟨pD,hm,d7⟩:=hm
    refine Gm (σ:=Bool) H (fun d8=>[(4,.bool d8)]) (fun d8 wl=>Wb d8=some r ∧ St NB w wl []) ?_ ?_
    · skip
      refine wp_region_lit (n_q H (Zd rfl) rfl ?_);clear H a;intro a H
      refine Zk H rfl en56 (Zpl (hG.ext hS.x) (hS.any 19 rfl : IsE A lF kV eJ.2)) rfl ?_
      clear H;intro mG jK hv;clear a;intro a H;obtain⟨rfl,f9⟩:=hv;replace hS:=hS.ext f9
      refine n_q H (Jy rfl rfl) rfl (W_q (Zd rfl) rfl ?_);clear H a;intro a H
      rcases Bool.eq_false_or_eq_true (decide ((ErrM.code eJ.2)=8)) with cU|cU
      · replace H:=H.know 66 rfl cU
        replace hm:=Zu hm cU
        refine Kq H rfl rfl (n_q H (Zd rfl) rfl (Zy rfl rfl ?_));clear H a;intro a H
        refine Zk H rfl en56 (Zpl (hG.ext hS.x) (hS.any 6 rfl : IsE A jK lA f7.2)) rfl ?_
        clear H;intro mH jL hv;clear a;intro a H;obtain⟨rfl,gA⟩:=hv;replace hS:=hS.ext gA
        refine Kq H rfl rfl (n_q H (Jy rfl rfl) rfl (W_q (Zx rfl rfl) rfl (W_q (Zd rfl) rfl ?_)));clear H a;intro a H
        rcases Bool.eq_false_or_eq_true (decide ((ErrM.code f7.2)=8)) with cV|cV
        · replace H:=H.know 71 rfl cV
          replace hm:=Zu hm cV
          refine Kq H rfl rfl (n_q H (Zd rfl) rfl (Zy rfl rfl ?_));clear H a;intro a H
          refine Zk H rfl en56 (Zpl (hG.ext hS.x) (hS.any 0 rfl : IsE A jL lG f8.2)) rfl ?_
          clear H;intro mI mJ hv;clear a;intro a H;obtain⟨rfl,gB⟩:=hv;replace hS:=hS.ext gB
          refine Kq H rfl rfl (n_q H (Jy rfl rfl) rfl (W_q (Zx rfl rfl) rfl (W_q (Zd rfl) rfl ?_)));clear H a;intro a H
          rcases Bool.eq_false_or_eq_true (decide ((ErrM.code f8.2)=8)) with cW|cW
          · replace H:=H.know 76 rfl cW
            replace hm:=Zu hm cW
            refine Kq H rfl rfl (n_q H (Zd rfl) rfl (Zy rfl rfl ?_));clear H a;intro a H
            replace hm:=Zj hm;obtain⟨jM,gC,hm⟩:=hm
            refine Zk H rfl en68 (Zcq (A:=A) (hG.ext hS.x) (h1.ext (Zi.mono _) hS.x) gC) rfl ?_
            clear H;intro mK mL hv;clear a;intro a H;obtain⟨rfl,gD⟩:=hv
            replace hS:=hS.ext gD
            refine n_q H (Zx rfl rfl) rfl (W_q (Zb rfl) rfl ?_);clear H a;intro a H
            refine Ze (Za ?_)
            obtain rfl:=Option.some.inj hm;replace hm:=d7;try dsimp only at hm
            replace hS:=hS.tk0
            exact Uy jM H ⟨rfl,trivial⟩ ⟨hm,hS⟩
          replace H:=H.know 76 rfl cW
          replace hm:=Zv hm cW
          refine Tp H rfl rfl (by decide) rfl (Zz rfl rfl (by decide) rfl (W_q (Zt rfl rfl) rfl (W_q (Zb rfl) rfl ?_)));clear H a;intro a H
          refine Ze (Za ?_)
          obtain rfl:=Option.some.inj hm;replace hm:=d7;try dsimp only at hm
          replace hS:=hS.tk0
          exact Uy false H ⟨rfl,trivial⟩ ⟨hm,hS⟩
        replace H:=H.know 71 rfl cV
        replace hm:=Zv hm cV
        refine Tp H rfl rfl (by decide) rfl (Zz rfl rfl (by decide) rfl (Zz rfl rfl (by decide) rfl (W_q (Zt rfl rfl) rfl (W_q (Zd rfl) rfl (Zz rfl rfl (by decide) rfl (Zz rfl rfl (by decide) rfl (W_q (Zt rfl rfl) rfl (W_q (Zb rfl) rfl ?_))))))));clear H a;intro a H
        refine Ze (Za ?_)
        obtain rfl:=Option.some.inj hm;replace hm:=d7;try dsimp only at hm
        replace hS:=hS.tk0
        exact Uy false H ⟨rfl,trivial⟩ ⟨hm,hS⟩
      replace H:=H.know 66 rfl cU
      replace hm:=Zv hm cU
      refine Tp H rfl rfl (by decide) rfl (Zz rfl rfl (by decide) rfl (Zz rfl rfl (by decide) rfl (W_q (Zt rfl rfl) rfl (W_q (Zd rfl) rfl (Zz rfl rfl (by decide) rfl (Zz rfl rfl (by decide) rfl (Zz rfl rfl (by decide) rfl (W_q (Zt rfl rfl) rfl (W_q (Zd rfl) rfl (Zz rfl rfl (by decide) rfl (Zz rfl rfl (by decide) rfl ?_)))))))))));clear H a;intro a H
      refine n_q H (Zt rfl rfl) rfl (W_q (Zb rfl) rfl ?_);clear H a;intro a H
      refine Ze (Za ?_)
      obtain rfl:=Option.some.inj hm;replace hm:=d7;try dsimp only at hm
      replace hS:=hS.tk0
      exact Uy false H ⟨rfl,trivial⟩ ⟨hm,hS⟩
    clear H hS hm a;intro d8 a mM H hR
    simp only [ent,List.map_cons,List.map_nil] at H;(try dsimp only at hR);obtain⟨hm,hS⟩:=hR;try dsimp only [Wb] at hm
    refine wp_ret (Zh ?_)
    obtain rfl:=Option.some.inj hm
    refine Qx H (.inr rfl) rfl rfl ?_
    exact⟨rfl,hS.x⟩
  replace hm:=Zv hm fB
  refine wp_skip (Za (wp_seq (wp_region_lit (n_q H (Zf rfl ((hS.blk 5 rfl).ldAll Zda Zav)) rfl ?_))));clear H a;intro a H
  replace hm:=Zj hm;obtain⟨aD,gE,hm⟩:=hm
  refine Zk H rfl Zrt (Kd (A:=A) (⟨_,_,_,_,rfl,(bB.ext (Zi.mono _) hS.x),(aW.ext (Zi.mono _) hS.x),(bC.ext (Zi.mono _) hS.x),(bD.ext (Zi.mono _) hS.x)⟩ : Xa _ [.int .i64 a0.Id,.bool a0.Mobile,aQ,aP,aR,.int .i64 a0.Events,aS] a0) gE) rfl ?_
  clear H;intro mN mO hv;clear a;intro a H;obtain⟨bI,bJ,bK,bL,rfl,gF⟩:=hv
  replace hS:=hS.new gF;simp only [List.cons_append,List.nil_append] at hS
  replace hm:=Zj hm;obtain⟨aA,gG,hm⟩:=hm
  refine Zk H rfl en53 (Zcy (A:=A) (hG.ext hS.x) (⟨_,_,_,_,rfl,((hS.own 0 rfl).slr rfl (fun _ _=>rfl)),((hS.own 1 rfl).slr rfl (fun _ _=>rfl)),((hS.own 2 rfl).slr rfl (fun _ _=>rfl)),((hS.own 3 rfl).slr rfl (fun _ _=>rfl))⟩ : Xa _ [.int .i64 aD.Id,.bool aD.Mobile,bI,bJ,bK,.int .i64 aD.Events,bL] aD) gG) rfl ?_
  clear H;intro mP mQ hv;clear a;intro a H;obtain⟨aI,aJ,aK,aL,aM,aN,aO,aT,rfl,gH⟩:=hv
  replace hS:=hS.new gH;simp only [List.cons_append,List.nil_append] at hS
  refine n_q H (Zd rfl) rfl (W_q (Zm rfl rfl) rfl (W_q (Zm rfl rfl) rfl ?_));clear H a;intro a H
  replace hS:=hS.pick 18 rfl;dsimp only [List.eraseIdx] at hS
  refine Qi H rfl rfl (vs:=[.int .i64 aA.1.Id,.int .i64 aA.1.Frame,.int .i64 aA.1.Epoch,aI,aJ,aK,aL,aM,aN,aO]) rfl Zbz (hS.blk 0 rfl) rfl (by simp [(((hS.own 1 rfl).slr rfl (fun x _=>Xk x))).one,(((hS.own 2 rfl).slr rfl (fun _ _=>rfl))).one,(((hS.own 3 rfl).slr rfl (fun _ _=>rfl))).one,(((hS.own 4 rfl).slr rfl (fun _ _=>rfl))).one,(((hS.own 5 rfl).slr rfl (fun _ _=>rfl))).one,((hS.deepSl 6 rfl)).one,(((hS.own 7 rfl).slr rfl (fun x _=>Kz x))).one]) ?_
  clear H;intro fP hN gI hz;clear a;intro a H;replace hS:=hS.setBlk hN gI;clear hN hz
  refine n_q H (Zb rfl) rfl ?_;clear H a;intro a H
  refine Ze (Za (wp_seq ?_))
  replace hm:=Zj hm;obtain⟨mR,hm,eK⟩:=hm
  refine Gm (σ:=Bool) H (fun d9=>[(1,v1),(2,.pointer (some ⟨cH,0,none⟩)),(5,.pointer (some ⟨cI,0,none⟩)),(139,.bool d9)]) (fun d9 wl=>(Vf a0 a1 aA) d9=some r ∧ St NB w wl [blkR cH [.int .i64 a0.Id,.bool a0.Mobile,aQ,aP,aR,.int .i64 a0.Events,aS] 27,blkR cI [.int .i64 aA.1.Id,.int .i64 aA.1.Frame,.int .i64 aA.1.Epoch,aI,aJ,aK,aL,aM,aN,aO] 34,ownR 144 21 aI aA.1.Procs.length (aA.1.Procs.flatMap Xf),ownR 3 1 aJ aA.1.Ready.length (aA.1.Ready.flatMap eI),ownR 163 2 aK aA.1.Timers.length (aA.1.Timers.flatMap Jq),ownR 4 1 aL aA.1.Up.length (aA.1.Up.flatMap eF),ownR 3 1 aM aA.1.Sems.length (aA.1.Sems.flatMap eI),deepR 154 2 Qe aN aA.1.Ports,ownR 82 66 aO aA.1.Pages.length (aA.1.Pages.flatMap Jr)]) ?_ ?_
  · skip
    refine Tm [] 54 (by kernel_rfl) ?_
    obtain⟨cM,eL⟩ : ∃ x,x=fP.drew:=⟨_,rfl⟩;rw [← eL];have gJ : Ext fP cM:=by rw [eL];exact Ext.drew' _
    clear eL
    replace hS:=hS.ext gJ
    have aY:=hS
    have hW:=Nat.le_refl cM.heap.size
    refine Zg 0 H rfl (Zd rfl) rfl (by as_aux_lemma=>kernel_rfl) (by as_aux_lemma=>kernel_rfl) (by as_aux_lemma=>kernel_rfl) (by as_aux_lemma=>kernel_rfl) (fun _ _ _ h=>h) ?_;clear H a;intro a H
    refine Zg 1 H rfl (Xi (Vr Tryz.underlying39 rfl rfl (hS.any 8 rfl : IsE A cM aT aA.2).form) (show _=Value.bool (!decide (aA.2=.nil)) by rw [Xu.isNil (hS.any 8 rfl : IsE A cM aT aA.2)])) rfl (by as_aux_lemma=>kernel_rfl) (by as_aux_lemma=>kernel_rfl) (by as_aux_lemma=>kernel_rfl) (by as_aux_lemma=>kernel_rfl) (fun _ _ _ h=>h) ?_;clear H a;intro a H
    refine Zg 2 H rfl (Zd rfl) rfl (by as_aux_lemma=>kernel_rfl) (by as_aux_lemma=>kernel_rfl) (by as_aux_lemma=>kernel_rfl) (by as_aux_lemma=>kernel_rfl) (fun _ _ _ h=>h) ?_;clear H a;intro a H
    rcases Bool.eq_false_or_eq_true (!decide (aA.2=.nil)) with cX|cX
    · replace H:=H.know 88 rfl cX
      replace hm:=Zu hm cX
      refine Jg 3 H rfl rfl rfl (by decide) rfl (by as_aux_lemma=>kernel_rfl) (by as_aux_lemma=>kernel_rfl) (by as_aux_lemma=>kernel_rfl) (by as_aux_lemma=>kernel_rfl) (fun _ _ _ h=>h) ?_;clear H a;intro a H
      refine Jg 5 H rfl rfl rfl (by decide) rfl (by as_aux_lemma=>kernel_rfl) (by as_aux_lemma=>kernel_rfl) (by as_aux_lemma=>kernel_rfl) (by as_aux_lemma=>kernel_rfl) (fun _ _ _ h=>h) ?_;clear H a;intro a H
      refine Jg 4 H rfl rfl rfl (by decide) rfl (by as_aux_lemma=>kernel_rfl) (by as_aux_lemma=>kernel_rfl) (by as_aux_lemma=>kernel_rfl) (by as_aux_lemma=>kernel_rfl) (fun _ _ _ h=>h) ?_;clear H a;intro a H
      refine Jg 6 H rfl rfl rfl (by decide) rfl (by as_aux_lemma=>kernel_rfl) (by as_aux_lemma=>kernel_rfl) (by as_aux_lemma=>kernel_rfl) (by as_aux_lemma=>kernel_rfl) (fun _ _ _ h=>h) ?_;clear H a;intro a H
      refine Jg 7 H rfl rfl rfl (by decide) rfl (by as_aux_lemma=>kernel_rfl) (by as_aux_lemma=>kernel_rfl) (by as_aux_lemma=>kernel_rfl) (by as_aux_lemma=>kernel_rfl) (fun _ _ _ h=>h) ?_;clear H a;intro a H
      refine Jg 8 H rfl rfl rfl (by decide) rfl (by as_aux_lemma=>kernel_rfl) (by as_aux_lemma=>kernel_rfl) (by as_aux_lemma=>kernel_rfl) (by as_aux_lemma=>kernel_rfl) (fun _ _ _ h=>h) ?_;clear H a;intro a H
      refine Jg 9 H rfl rfl rfl (by decide) rfl (by as_aux_lemma=>kernel_rfl) (by as_aux_lemma=>kernel_rfl) (by as_aux_lemma=>kernel_rfl) (by as_aux_lemma=>kernel_rfl) (fun _ _ _ h=>h) ?_;clear H a;intro a H
      refine Zg 10 H rfl (Zx rfl rfl) rfl (by as_aux_lemma=>kernel_rfl) (by as_aux_lemma=>kernel_rfl) (by as_aux_lemma=>kernel_rfl) (by as_aux_lemma=>kernel_rfl) (fun _ _ _ h=>h) ?_;clear H a;intro a H
      refine Zg 11 H rfl (Zd rfl) rfl (by as_aux_lemma=>kernel_rfl) (by as_aux_lemma=>kernel_rfl) (by as_aux_lemma=>kernel_rfl) (by as_aux_lemma=>kernel_rfl) (fun _ _ _ h=>h) ?_;clear H a;intro a H
      refine Jg 12 H rfl rfl rfl (by decide) rfl (by as_aux_lemma=>kernel_rfl) (by as_aux_lemma=>kernel_rfl) (by as_aux_lemma=>kernel_rfl) (by as_aux_lemma=>kernel_rfl) (fun _ _ _ h=>h) ?_;clear H a;intro a H
      refine Jg 14 H rfl rfl rfl (by decide) rfl (by as_aux_lemma=>kernel_rfl) (by as_aux_lemma=>kernel_rfl) (by as_aux_lemma=>kernel_rfl) (by as_aux_lemma=>kernel_rfl) (fun _ _ _ h=>h) ?_;clear H a;intro a H
      refine Jg 13 H rfl rfl rfl (by decide) rfl (by as_aux_lemma=>kernel_rfl) (by as_aux_lemma=>kernel_rfl) (by as_aux_lemma=>kernel_rfl) (by as_aux_lemma=>kernel_rfl) (fun _ _ _ h=>h) ?_;clear H a;intro a H
      refine Jg 15 H rfl rfl rfl (by decide) rfl (by as_aux_lemma=>kernel_rfl) (by as_aux_lemma=>kernel_rfl) (by as_aux_lemma=>kernel_rfl) (by as_aux_lemma=>kernel_rfl) (fun _ _ _ h=>h) ?_;clear H a;intro a H
      refine Jg 16 H rfl rfl rfl (by decide) rfl (by as_aux_lemma=>kernel_rfl) (by as_aux_lemma=>kernel_rfl) (by as_aux_lemma=>kernel_rfl) (by as_aux_lemma=>kernel_rfl) (fun _ _ _ h=>h) ?_;clear H a;intro a H
      refine Jg 17 H rfl rfl rfl (by decide) rfl (by as_aux_lemma=>kernel_rfl) (by as_aux_lemma=>kernel_rfl) (by as_aux_lemma=>kernel_rfl) (by as_aux_lemma=>kernel_rfl) (fun _ _ _ h=>h) ?_;clear H a;intro a H
      refine Zg 18 H rfl (Zx rfl rfl) rfl (by as_aux_lemma=>kernel_rfl) (by as_aux_lemma=>kernel_rfl) (by as_aux_lemma=>kernel_rfl) (by as_aux_lemma=>kernel_rfl) (fun _ _ _ h=>h) ?_;clear H a;intro a H
      refine Zg 19 H rfl (Zd rfl) rfl (by as_aux_lemma=>kernel_rfl) (by as_aux_lemma=>kernel_rfl) (by as_aux_lemma=>kernel_rfl) (by as_aux_lemma=>kernel_rfl) (fun _ _ _ h=>h) ?_;clear H a;intro a H
      refine Jg 20 H rfl rfl rfl (by decide) rfl (by as_aux_lemma=>kernel_rfl) (by as_aux_lemma=>kernel_rfl) (by as_aux_lemma=>kernel_rfl) (by as_aux_lemma=>kernel_rfl) (fun _ _ _ h=>h) ?_;clear H a;intro a H
      refine Jg 21 H rfl rfl rfl (by decide) rfl (by as_aux_lemma=>kernel_rfl) (by as_aux_lemma=>kernel_rfl) (by as_aux_lemma=>kernel_rfl) (by as_aux_lemma=>kernel_rfl) (fun _ _ _ h=>h) ?_;clear H a;intro a H
      refine Jg 22 H rfl rfl rfl (by decide) rfl (by as_aux_lemma=>kernel_rfl) (by as_aux_lemma=>kernel_rfl) (by as_aux_lemma=>kernel_rfl) (by as_aux_lemma=>kernel_rfl) (fun _ _ _ h=>h) ?_;clear H a;intro a H
      refine Jg 23 H rfl rfl rfl (by decide) rfl (by as_aux_lemma=>kernel_rfl) (by as_aux_lemma=>kernel_rfl) (by as_aux_lemma=>kernel_rfl) (by as_aux_lemma=>kernel_rfl) (fun _ _ _ h=>h) ?_;clear H a;intro a H
      refine Jg 24 H rfl rfl rfl (by decide) rfl (by as_aux_lemma=>kernel_rfl) (by as_aux_lemma=>kernel_rfl) (by as_aux_lemma=>kernel_rfl) (by as_aux_lemma=>kernel_rfl) (fun _ _ _ h=>h) ?_;clear H a;intro a H
      refine Zg 25 H rfl (Zx rfl rfl) rfl (by as_aux_lemma=>kernel_rfl) (by as_aux_lemma=>kernel_rfl) (by as_aux_lemma=>kernel_rfl) (by as_aux_lemma=>kernel_rfl) (fun _ _ _ h=>h) ?_;clear H a;intro a H
      refine Zg 26 H rfl (Zd rfl) rfl (by as_aux_lemma=>kernel_rfl) (by as_aux_lemma=>kernel_rfl) (by as_aux_lemma=>kernel_rfl) (by as_aux_lemma=>kernel_rfl) (fun _ _ _ h=>h) ?_;clear H a;intro a H
      refine Jg 27 H rfl rfl rfl (by decide) rfl (by as_aux_lemma=>kernel_rfl) (by as_aux_lemma=>kernel_rfl) (by as_aux_lemma=>kernel_rfl) (by as_aux_lemma=>kernel_rfl) (fun _ _ _ h=>h) ?_;clear H a;intro a H
      refine Jg 28 H rfl rfl rfl (by decide) rfl (by as_aux_lemma=>kernel_rfl) (by as_aux_lemma=>kernel_rfl) (by as_aux_lemma=>kernel_rfl) (by as_aux_lemma=>kernel_rfl) (fun _ _ _ h=>h) ?_;clear H a;intro a H
      refine Jg 29 H rfl rfl rfl (by decide) rfl (by as_aux_lemma=>kernel_rfl) (by as_aux_lemma=>kernel_rfl) (by as_aux_lemma=>kernel_rfl) (by as_aux_lemma=>kernel_rfl) (fun _ _ _ h=>h) ?_;clear H a;intro a H
      refine Zg 30 H rfl (Zx rfl rfl) rfl (by as_aux_lemma=>kernel_rfl) (by as_aux_lemma=>kernel_rfl) (by as_aux_lemma=>kernel_rfl) (by as_aux_lemma=>kernel_rfl) (fun _ _ _ h=>h) ?_;clear H a;intro a H
      refine Zg 31 H rfl (Zd rfl) rfl (by as_aux_lemma=>kernel_rfl) (by as_aux_lemma=>kernel_rfl) (by as_aux_lemma=>kernel_rfl) (by as_aux_lemma=>kernel_rfl) (fun _ _ _ h=>h) ?_;clear H a;intro a H
      refine Jg 32 H rfl rfl rfl (by decide) rfl (by as_aux_lemma=>kernel_rfl) (by as_aux_lemma=>kernel_rfl) (by as_aux_lemma=>kernel_rfl) (by as_aux_lemma=>kernel_rfl) (fun _ _ _ h=>h) ?_;clear H a;intro a H
      refine Jg 33 H rfl rfl rfl (by decide) rfl (by as_aux_lemma=>kernel_rfl) (by as_aux_lemma=>kernel_rfl) (by as_aux_lemma=>kernel_rfl) (by as_aux_lemma=>kernel_rfl) (fun _ _ _ h=>h) ?_;clear H a;intro a H
      refine Jg 34 H rfl rfl rfl (by decide) rfl (by as_aux_lemma=>kernel_rfl) (by as_aux_lemma=>kernel_rfl) (by as_aux_lemma=>kernel_rfl) (by as_aux_lemma=>kernel_rfl) (fun _ _ _ h=>h) ?_;clear H a;intro a H
      refine Zg 35 H rfl (Zx rfl rfl) rfl (by as_aux_lemma=>kernel_rfl) (by as_aux_lemma=>kernel_rfl) (by as_aux_lemma=>kernel_rfl) (by as_aux_lemma=>kernel_rfl) (fun _ _ _ h=>h) ?_;clear H a;intro a H
      refine Zg 36 H rfl (Zd rfl) rfl (by as_aux_lemma=>kernel_rfl) (by as_aux_lemma=>kernel_rfl) (by as_aux_lemma=>kernel_rfl) (by as_aux_lemma=>kernel_rfl) (fun _ _ _ h=>h) ?_;clear H a;intro a H
      refine Jg 37 H rfl rfl rfl (by decide) rfl (by as_aux_lemma=>kernel_rfl) (by as_aux_lemma=>kernel_rfl) (by as_aux_lemma=>kernel_rfl) (by as_aux_lemma=>kernel_rfl) (fun _ _ _ h=>h) ?_;clear H a;intro a H
      refine Jg 38 H rfl rfl rfl (by decide) rfl (by as_aux_lemma=>kernel_rfl) (by as_aux_lemma=>kernel_rfl) (by as_aux_lemma=>kernel_rfl) (by as_aux_lemma=>kernel_rfl) (fun _ _ _ h=>h) ?_;clear H a;intro a H
      refine Jg 39 H rfl rfl rfl (by decide) rfl (by as_aux_lemma=>kernel_rfl) (by as_aux_lemma=>kernel_rfl) (by as_aux_lemma=>kernel_rfl) (by as_aux_lemma=>kernel_rfl) (fun _ _ _ h=>h) ?_;clear H a;intro a H
      refine Jg 40 H rfl rfl rfl (by decide) rfl (by as_aux_lemma=>kernel_rfl) (by as_aux_lemma=>kernel_rfl) (by as_aux_lemma=>kernel_rfl) (by as_aux_lemma=>kernel_rfl) (fun _ _ _ h=>h) ?_;clear H a;intro a H
      refine Jg 41 H rfl rfl rfl (by decide) rfl (by as_aux_lemma=>kernel_rfl) (by as_aux_lemma=>kernel_rfl) (by as_aux_lemma=>kernel_rfl) (by as_aux_lemma=>kernel_rfl) (fun _ _ _ h=>h) ?_;clear H a;intro a H
      refine Jg 42 H rfl rfl rfl (by decide) rfl (by as_aux_lemma=>kernel_rfl) (by as_aux_lemma=>kernel_rfl) (by as_aux_lemma=>kernel_rfl) (by as_aux_lemma=>kernel_rfl) (fun _ _ _ h=>h) ?_;clear H a;intro a H
      refine Jg 43 H rfl rfl rfl (by decide) rfl (by as_aux_lemma=>kernel_rfl) (by as_aux_lemma=>kernel_rfl) (by as_aux_lemma=>kernel_rfl) (by as_aux_lemma=>kernel_rfl) (fun _ _ _ h=>h) ?_;clear H a;intro a H
      refine Zg 44 H rfl (Zx rfl rfl) rfl (by as_aux_lemma=>kernel_rfl) (by as_aux_lemma=>kernel_rfl) (by as_aux_lemma=>kernel_rfl) (by as_aux_lemma=>kernel_rfl) (fun _ _ _ h=>h) ?_;clear H a;intro a H
      refine Zg 45 H rfl (Zd rfl) rfl (by as_aux_lemma=>kernel_rfl) (by as_aux_lemma=>kernel_rfl) (by as_aux_lemma=>kernel_rfl) (by as_aux_lemma=>kernel_rfl) (fun _ _ _ h=>h) ?_;clear H a;intro a H
      refine Jg 46 H rfl rfl rfl (by decide) rfl (by as_aux_lemma=>kernel_rfl) (by as_aux_lemma=>kernel_rfl) (by as_aux_lemma=>kernel_rfl) (by as_aux_lemma=>kernel_rfl) (fun _ _ _ h=>h) ?_;clear H a;intro a H
      refine Jg 47 H rfl rfl rfl (by decide) rfl (by as_aux_lemma=>kernel_rfl) (by as_aux_lemma=>kernel_rfl) (by as_aux_lemma=>kernel_rfl) (by as_aux_lemma=>kernel_rfl) (fun _ _ _ h=>h) ?_;clear H a;intro a H
      refine Jg 48 H rfl rfl rfl (by decide) rfl (by as_aux_lemma=>kernel_rfl) (by as_aux_lemma=>kernel_rfl) (by as_aux_lemma=>kernel_rfl) (by as_aux_lemma=>kernel_rfl) (fun _ _ _ h=>h) ?_;clear H a;intro a H
      refine Jg 49 H rfl rfl rfl (by decide) rfl (by as_aux_lemma=>kernel_rfl) (by as_aux_lemma=>kernel_rfl) (by as_aux_lemma=>kernel_rfl) (by as_aux_lemma=>kernel_rfl) (fun _ _ _ h=>h) ?_;clear H a;intro a H
      refine Jg 50 H rfl rfl rfl (by decide) rfl (by as_aux_lemma=>kernel_rfl) (by as_aux_lemma=>kernel_rfl) (by as_aux_lemma=>kernel_rfl) (by as_aux_lemma=>kernel_rfl) (fun _ _ _ h=>h) ?_;clear H a;intro a H
      refine Jg 51 H rfl rfl rfl (by decide) rfl (by as_aux_lemma=>kernel_rfl) (by as_aux_lemma=>kernel_rfl) (by as_aux_lemma=>kernel_rfl) (by as_aux_lemma=>kernel_rfl) (fun _ _ _ h=>h) ?_;clear H a;intro a H
      refine Jg 52 H rfl rfl rfl (by decide) rfl (by as_aux_lemma=>kernel_rfl) (by as_aux_lemma=>kernel_rfl) (by as_aux_lemma=>kernel_rfl) (by as_aux_lemma=>kernel_rfl) (fun _ _ _ h=>h) ?_;clear H a;intro a H
      refine Zg 53 H rfl (Zx rfl rfl) rfl (by as_aux_lemma=>kernel_rfl) (by as_aux_lemma=>kernel_rfl) (by as_aux_lemma=>kernel_rfl) (by as_aux_lemma=>kernel_rfl) (fun _ _ _ h=>h) ?_;clear H a;intro a H
      refine Xc (by as_aux_lemma=>kernel_rfl) ?_
      refine Za ?_
      obtain rfl:=Option.some.inj hm;replace hm:=eK;try dsimp only at hm
      replace hS:=hS.pk7
      replace hS:=hS.pk7
      replace hS:=hS.pk7
      replace hS:=hS.pk7
      replace hS:=hS.pk7
      replace hS:=hS.pk7
      replace hS:=hS.pk7
      replace hS:=hS.pk7
      replace hS:=hS.pick 18 rfl;dsimp only [List.eraseIdx] at hS
      replace hS:=hS.tk9
      exact Uy true H ⟨rfl,rfl,rfl,rfl,trivial⟩ ⟨hm,hS⟩
    replace H:=H.know 88 rfl cX
    replace hm:=Zv hm cX
    refine Wm 3 H rfl rfl rfl (Zf rfl (LdC.old ((aY.blk 18 rfl).ldAll Zda Zav) Ext.rfl' (Nat.le_refl _) (by simp))) rfl (by as_aux_lemma=>kernel_rfl) (by as_aux_lemma=>kernel_rfl) (by as_aux_lemma=>kernel_rfl) (by as_aux_lemma=>kernel_rfl) (fun _ _ _ h=>h) ?_;clear H a;intro a H
    refine Wm 5 H rfl rfl rfl (Zf rfl (LdC.old ((aY.blk 0 rfl).ldAll Zo1 Zbz) Ext.rfl' (Nat.le_refl _) (by simp))) rfl (by as_aux_lemma=>kernel_rfl) (by as_aux_lemma=>kernel_rfl) (by as_aux_lemma=>kernel_rfl) (by as_aux_lemma=>kernel_rfl) (fun _ _ _ h=>h) ?_;clear H a;intro a H
    replace hm:=Zj hm;obtain⟨aE,gK,hm⟩:=hm
    refine Zb4 4 H rfl rfl rfl rfl Zrt (Kd (A:=A) (⟨_,_,_,_,rfl,(bB.ext (Zi.mono _) hS.x),(aW.ext (Zi.mono _) hS.x),(bC.ext (Zi.mono _) hS.x),(bD.ext (Zi.mono _) hS.x)⟩ : Xa _ [.int .i64 a0.Id,.bool a0.Mobile,aQ,aP,aR,.int .i64 a0.Events,aS] a0) gK) rfl (by as_aux_lemma=>kernel_rfl) (fun v w hv=>.inl (ChgF.of_ext (by obtain⟨_,_,_,_,_,hE0⟩:=hv;exact hE0.x))) ?_
    clear H;intro mS mT hv;clear a;intro a H;obtain⟨bM,bN,bO,bP,rfl,aZ⟩:=hv
    replace hS:=hS.new aZ;simp only [List.cons_append,List.nil_append] at hS
    replace hW:=Nat.le_trans hW aZ.x.size
    replace hm:=Zj hm;obtain⟨aB,gL,hm⟩:=hm
    refine Zb4 6 H rfl rfl rfl rfl en69 (Zcr (A:=A) (⟨_,_,_,_,_,_,_,rfl,((hS.own 5 rfl).slr rfl (fun x _=>Xk x)),((hS.own 6 rfl).slr rfl (fun _ _=>rfl)),((hS.own 7 rfl).slr rfl (fun _ _=>rfl)),((hS.own 8 rfl).slr rfl (fun _ _=>rfl)),((hS.own 9 rfl).slr rfl (fun _ _=>rfl)),(hS.deepSl 10 rfl),((hS.own 11 rfl).slr rfl (fun x _=>Kz x))⟩ : Hg _ [.int .i64 aA.1.Id,.int .i64 aA.1.Frame,.int .i64 aA.1.Epoch,aI,aJ,aK,aL,aM,aN,aO] aA.1) gL) rfl (by as_aux_lemma=>kernel_rfl) (fun v w hv=>.inl (ChgF.of_ext (by obtain⟨_,_,_,_,_,_,_,_,hE0⟩:=hv;exact hE0.x))) ?_
    clear H;intro mU mV hv;clear a;intro a H;obtain⟨bQ,bR,bS,bT,bU,bV,bW,rfl,a9⟩:=hv
    replace hS:=hS.new a9;simp only [List.cons_append,List.nil_append] at hS
    replace hW:=Nat.le_trans hW a9.x.size
    replace hm:=Zj hm;obtain⟨aU,gM,hm⟩:=hm
    refine Zb4 7 H rfl rfl rfl rfl en64 (Za0 (A:=A) (hG.ext hS.x) (⟨_,_,_,_,rfl,((hS.own 7 rfl).slr rfl (fun _ _=>rfl)),((hS.own 8 rfl).slr rfl (fun _ _=>rfl)),((hS.own 9 rfl).slr rfl (fun _ _=>rfl)),((hS.own 10 rfl).slr rfl (fun _ _=>rfl))⟩ : Xa _ [.int .i64 aE.Id,.bool aE.Mobile,bM,bN,bO,.int .i64 aE.Events,bP] aE) (⟨_,_,_,_,_,_,_,rfl,((hS.own 0 rfl).slr rfl (fun x _=>Xk x)),((hS.own 1 rfl).slr rfl (fun _ _=>rfl)),((hS.own 2 rfl).slr rfl (fun _ _=>rfl)),((hS.own 3 rfl).slr rfl (fun _ _=>rfl)),((hS.own 4 rfl).slr rfl (fun _ _=>rfl)),(hS.deepSl 5 rfl),((hS.own 6 rfl).slr rfl (fun x _=>Kz x))⟩ : Hg _ [.int .i64 aB.Id,.int .i64 aB.Frame,.int .i64 aB.Epoch,bQ,bR,bS,bT,bU,bV,bW] aB) gM) rfl (by as_aux_lemma=>kernel_rfl) (fun v w hv=>.inl (ChgF.of_ext (by obtain⟨_,_,hE0⟩:=hv;exact hE0.x))) ?_
    clear H;intro cK mW hv;clear a;intro a H;obtain⟨_,rfl,bA⟩:=hv
    replace hS:=hS.new bA;simp only [List.cons_append,List.nil_append] at hS
    replace hW:=Nat.le_trans hW bA.x.size
    obtain⟨mX,mY,gN,lQ,lR⟩:=SlR.formV ((hS.own 0 rfl).slr rfl (fun _ _=>rfl))
    refine Qq 8 H rfl rfl rfl (Qc Tryz.underlying25 rfl gN) rfl (by as_aux_lemma=>kernel_rfl) (by as_aux_lemma=>kernel_rfl) (by as_aux_lemma=>kernel_rfl) (by as_aux_lemma=>kernel_rfl) (fun _ _ _ h=>h) ?_;clear H a;intro a H
    refine Qq 9 H rfl rfl rfl (Zel (i:=aU.length) (j:=0) rfl rfl) rfl (by as_aux_lemma=>kernel_rfl) (by as_aux_lemma=>kernel_rfl) (by as_aux_lemma=>kernel_rfl) (by as_aux_lemma=>kernel_rfl) (fun _ _ _ h=>h) ?_;clear H a;intro a H
    refine Zg 10 H rfl (Zt rfl rfl) rfl (by as_aux_lemma=>kernel_rfl) (by as_aux_lemma=>kernel_rfl) (by as_aux_lemma=>kernel_rfl) (by as_aux_lemma=>kernel_rfl) (fun _ _ _ h=>h) ?_;clear H a;intro a H
    refine Zg 11 H rfl (Zd rfl) rfl (by as_aux_lemma=>kernel_rfl) (by as_aux_lemma=>kernel_rfl) (by as_aux_lemma=>kernel_rfl) (by as_aux_lemma=>kernel_rfl) (fun _ _ _ h=>h) ?_;clear H a;intro a H
    rcases Bool.eq_false_or_eq_true (!decide (aU.length=0)) with cY|cY
    · replace H:=H.know 97 rfl cY
      replace hm:=Zu hm cY
      refine Jg 12 H rfl rfl rfl (by decide) rfl (by as_aux_lemma=>kernel_rfl) (by as_aux_lemma=>kernel_rfl) (by as_aux_lemma=>kernel_rfl) (by as_aux_lemma=>kernel_rfl) (fun _ _ _ h=>h) ?_;clear H a;intro a H
      refine Jg 14 H rfl rfl rfl (by decide) rfl (by as_aux_lemma=>kernel_rfl) (by as_aux_lemma=>kernel_rfl) (by as_aux_lemma=>kernel_rfl) (by as_aux_lemma=>kernel_rfl) (fun _ _ _ h=>h) ?_;clear H a;intro a H
      refine Jg 13 H rfl rfl rfl (by decide) rfl (by as_aux_lemma=>kernel_rfl) (by as_aux_lemma=>kernel_rfl) (by as_aux_lemma=>kernel_rfl) (by as_aux_lemma=>kernel_rfl) (fun _ _ _ h=>h) ?_;clear H a;intro a H
      refine Jg 15 H rfl rfl rfl (by decide) rfl (by as_aux_lemma=>kernel_rfl) (by as_aux_lemma=>kernel_rfl) (by as_aux_lemma=>kernel_rfl) (by as_aux_lemma=>kernel_rfl) (fun _ _ _ h=>h) ?_;clear H a;intro a H
      refine Jg 16 H rfl rfl rfl (by decide) rfl (by as_aux_lemma=>kernel_rfl) (by as_aux_lemma=>kernel_rfl) (by as_aux_lemma=>kernel_rfl) (by as_aux_lemma=>kernel_rfl) (fun _ _ _ h=>h) ?_;clear H a;intro a H
      refine Jg 17 H rfl rfl rfl (by decide) rfl (by as_aux_lemma=>kernel_rfl) (by as_aux_lemma=>kernel_rfl) (by as_aux_lemma=>kernel_rfl) (by as_aux_lemma=>kernel_rfl) (fun _ _ _ h=>h) ?_;clear H a;intro a H
      refine Zg 18 H rfl (Zx rfl rfl) rfl (by as_aux_lemma=>kernel_rfl) (by as_aux_lemma=>kernel_rfl) (by as_aux_lemma=>kernel_rfl) (by as_aux_lemma=>kernel_rfl) (fun _ _ _ h=>h) ?_;clear H a;intro a H
      refine Zg 19 H rfl (Zd rfl) rfl (by as_aux_lemma=>kernel_rfl) (by as_aux_lemma=>kernel_rfl) (by as_aux_lemma=>kernel_rfl) (by as_aux_lemma=>kernel_rfl) (fun _ _ _ h=>h) ?_;clear H a;intro a H
      refine Jg 20 H rfl rfl rfl (by decide) rfl (by as_aux_lemma=>kernel_rfl) (by as_aux_lemma=>kernel_rfl) (by as_aux_lemma=>kernel_rfl) (by as_aux_lemma=>kernel_rfl) (fun _ _ _ h=>h) ?_;clear H a;intro a H
      refine Jg 21 H rfl rfl rfl (by decide) rfl (by as_aux_lemma=>kernel_rfl) (by as_aux_lemma=>kernel_rfl) (by as_aux_lemma=>kernel_rfl) (by as_aux_lemma=>kernel_rfl) (fun _ _ _ h=>h) ?_;clear H a;intro a H
      refine Jg 22 H rfl rfl rfl (by decide) rfl (by as_aux_lemma=>kernel_rfl) (by as_aux_lemma=>kernel_rfl) (by as_aux_lemma=>kernel_rfl) (by as_aux_lemma=>kernel_rfl) (fun _ _ _ h=>h) ?_;clear H a;intro a H
      refine Jg 23 H rfl rfl rfl (by decide) rfl (by as_aux_lemma=>kernel_rfl) (by as_aux_lemma=>kernel_rfl) (by as_aux_lemma=>kernel_rfl) (by as_aux_lemma=>kernel_rfl) (fun _ _ _ h=>h) ?_;clear H a;intro a H
      refine Jg 24 H rfl rfl rfl (by decide) rfl (by as_aux_lemma=>kernel_rfl) (by as_aux_lemma=>kernel_rfl) (by as_aux_lemma=>kernel_rfl) (by as_aux_lemma=>kernel_rfl) (fun _ _ _ h=>h) ?_;clear H a;intro a H
      refine Zg 25 H rfl (Zx rfl rfl) rfl (by as_aux_lemma=>kernel_rfl) (by as_aux_lemma=>kernel_rfl) (by as_aux_lemma=>kernel_rfl) (by as_aux_lemma=>kernel_rfl) (fun _ _ _ h=>h) ?_;clear H a;intro a H
      refine Zg 26 H rfl (Zd rfl) rfl (by as_aux_lemma=>kernel_rfl) (by as_aux_lemma=>kernel_rfl) (by as_aux_lemma=>kernel_rfl) (by as_aux_lemma=>kernel_rfl) (fun _ _ _ h=>h) ?_;clear H a;intro a H
      refine Jg 27 H rfl rfl rfl (by decide) rfl (by as_aux_lemma=>kernel_rfl) (by as_aux_lemma=>kernel_rfl) (by as_aux_lemma=>kernel_rfl) (by as_aux_lemma=>kernel_rfl) (fun _ _ _ h=>h) ?_;clear H a;intro a H
      refine Jg 28 H rfl rfl rfl (by decide) rfl (by as_aux_lemma=>kernel_rfl) (by as_aux_lemma=>kernel_rfl) (by as_aux_lemma=>kernel_rfl) (by as_aux_lemma=>kernel_rfl) (fun _ _ _ h=>h) ?_;clear H a;intro a H
      refine Jg 29 H rfl rfl rfl (by decide) rfl (by as_aux_lemma=>kernel_rfl) (by as_aux_lemma=>kernel_rfl) (by as_aux_lemma=>kernel_rfl) (by as_aux_lemma=>kernel_rfl) (fun _ _ _ h=>h) ?_;clear H a;intro a H
      refine Zg 30 H rfl (Zx rfl rfl) rfl (by as_aux_lemma=>kernel_rfl) (by as_aux_lemma=>kernel_rfl) (by as_aux_lemma=>kernel_rfl) (by as_aux_lemma=>kernel_rfl) (fun _ _ _ h=>h) ?_;clear H a;intro a H
      refine Zg 31 H rfl (Zd rfl) rfl (by as_aux_lemma=>kernel_rfl) (by as_aux_lemma=>kernel_rfl) (by as_aux_lemma=>kernel_rfl) (by as_aux_lemma=>kernel_rfl) (fun _ _ _ h=>h) ?_;clear H a;intro a H
      refine Jg 32 H rfl rfl rfl (by decide) rfl (by as_aux_lemma=>kernel_rfl) (by as_aux_lemma=>kernel_rfl) (by as_aux_lemma=>kernel_rfl) (by as_aux_lemma=>kernel_rfl) (fun _ _ _ h=>h) ?_;clear H a;intro a H
      refine Jg 33 H rfl rfl rfl (by decide) rfl (by as_aux_lemma=>kernel_rfl) (by as_aux_lemma=>kernel_rfl) (by as_aux_lemma=>kernel_rfl) (by as_aux_lemma=>kernel_rfl) (fun _ _ _ h=>h) ?_;clear H a;intro a H
      refine Jg 34 H rfl rfl rfl (by decide) rfl (by as_aux_lemma=>kernel_rfl) (by as_aux_lemma=>kernel_rfl) (by as_aux_lemma=>kernel_rfl) (by as_aux_lemma=>kernel_rfl) (fun _ _ _ h=>h) ?_;clear H a;intro a H
      refine Zg 35 H rfl (Zx rfl rfl) rfl (by as_aux_lemma=>kernel_rfl) (by as_aux_lemma=>kernel_rfl) (by as_aux_lemma=>kernel_rfl) (by as_aux_lemma=>kernel_rfl) (fun _ _ _ h=>h) ?_;clear H a;intro a H
      refine Zg 36 H rfl (Zd rfl) rfl (by as_aux_lemma=>kernel_rfl) (by as_aux_lemma=>kernel_rfl) (by as_aux_lemma=>kernel_rfl) (by as_aux_lemma=>kernel_rfl) (fun _ _ _ h=>h) ?_;clear H a;intro a H
      refine Jg 37 H rfl rfl rfl (by decide) rfl (by as_aux_lemma=>kernel_rfl) (by as_aux_lemma=>kernel_rfl) (by as_aux_lemma=>kernel_rfl) (by as_aux_lemma=>kernel_rfl) (fun _ _ _ h=>h) ?_;clear H a;intro a H
      refine Jg 38 H rfl rfl rfl (by decide) rfl (by as_aux_lemma=>kernel_rfl) (by as_aux_lemma=>kernel_rfl) (by as_aux_lemma=>kernel_rfl) (by as_aux_lemma=>kernel_rfl) (fun _ _ _ h=>h) ?_;clear H a;intro a H
      refine Jg 39 H rfl rfl rfl (by decide) rfl (by as_aux_lemma=>kernel_rfl) (by as_aux_lemma=>kernel_rfl) (by as_aux_lemma=>kernel_rfl) (by as_aux_lemma=>kernel_rfl) (fun _ _ _ h=>h) ?_;clear H a;intro a H
      refine Jg 40 H rfl rfl rfl (by decide) rfl (by as_aux_lemma=>kernel_rfl) (by as_aux_lemma=>kernel_rfl) (by as_aux_lemma=>kernel_rfl) (by as_aux_lemma=>kernel_rfl) (fun _ _ _ h=>h) ?_;clear H a;intro a H
      refine Jg 41 H rfl rfl rfl (by decide) rfl (by as_aux_lemma=>kernel_rfl) (by as_aux_lemma=>kernel_rfl) (by as_aux_lemma=>kernel_rfl) (by as_aux_lemma=>kernel_rfl) (fun _ _ _ h=>h) ?_;clear H a;intro a H
      refine Jg 42 H rfl rfl rfl (by decide) rfl (by as_aux_lemma=>kernel_rfl) (by as_aux_lemma=>kernel_rfl) (by as_aux_lemma=>kernel_rfl) (by as_aux_lemma=>kernel_rfl) (fun _ _ _ h=>h) ?_;clear H a;intro a H
      refine Jg 43 H rfl rfl rfl (by decide) rfl (by as_aux_lemma=>kernel_rfl) (by as_aux_lemma=>kernel_rfl) (by as_aux_lemma=>kernel_rfl) (by as_aux_lemma=>kernel_rfl) (fun _ _ _ h=>h) ?_;clear H a;intro a H
      refine Zg 44 H rfl (Zx rfl rfl) rfl (by as_aux_lemma=>kernel_rfl) (by as_aux_lemma=>kernel_rfl) (by as_aux_lemma=>kernel_rfl) (by as_aux_lemma=>kernel_rfl) (fun _ _ _ h=>h) ?_;clear H a;intro a H
      refine Zg 45 H rfl (Zd rfl) rfl (by as_aux_lemma=>kernel_rfl) (by as_aux_lemma=>kernel_rfl) (by as_aux_lemma=>kernel_rfl) (by as_aux_lemma=>kernel_rfl) (fun _ _ _ h=>h) ?_;clear H a;intro a H
      refine Jg 46 H rfl rfl rfl (by decide) rfl (by as_aux_lemma=>kernel_rfl) (by as_aux_lemma=>kernel_rfl) (by as_aux_lemma=>kernel_rfl) (by as_aux_lemma=>kernel_rfl) (fun _ _ _ h=>h) ?_;clear H a;intro a H
      refine Jg 47 H rfl rfl rfl (by decide) rfl (by as_aux_lemma=>kernel_rfl) (by as_aux_lemma=>kernel_rfl) (by as_aux_lemma=>kernel_rfl) (by as_aux_lemma=>kernel_rfl) (fun _ _ _ h=>h) ?_;clear H a;intro a H
      refine Jg 48 H rfl rfl rfl (by decide) rfl (by as_aux_lemma=>kernel_rfl) (by as_aux_lemma=>kernel_rfl) (by as_aux_lemma=>kernel_rfl) (by as_aux_lemma=>kernel_rfl) (fun _ _ _ h=>h) ?_;clear H a;intro a H
      refine Jg 49 H rfl rfl rfl (by decide) rfl (by as_aux_lemma=>kernel_rfl) (by as_aux_lemma=>kernel_rfl) (by as_aux_lemma=>kernel_rfl) (by as_aux_lemma=>kernel_rfl) (fun _ _ _ h=>h) ?_;clear H a;intro a H
      refine Jg 50 H rfl rfl rfl (by decide) rfl (by as_aux_lemma=>kernel_rfl) (by as_aux_lemma=>kernel_rfl) (by as_aux_lemma=>kernel_rfl) (by as_aux_lemma=>kernel_rfl) (fun _ _ _ h=>h) ?_;clear H a;intro a H
      refine Jg 51 H rfl rfl rfl (by decide) rfl (by as_aux_lemma=>kernel_rfl) (by as_aux_lemma=>kernel_rfl) (by as_aux_lemma=>kernel_rfl) (by as_aux_lemma=>kernel_rfl) (fun _ _ _ h=>h) ?_;clear H a;intro a H
      refine Jg 52 H rfl rfl rfl (by decide) rfl (by as_aux_lemma=>kernel_rfl) (by as_aux_lemma=>kernel_rfl) (by as_aux_lemma=>kernel_rfl) (by as_aux_lemma=>kernel_rfl) (fun _ _ _ h=>h) ?_;clear H a;intro a H
      refine Zg 53 H rfl (Zx rfl rfl) rfl (by as_aux_lemma=>kernel_rfl) (by as_aux_lemma=>kernel_rfl) (by as_aux_lemma=>kernel_rfl) (by as_aux_lemma=>kernel_rfl) (fun _ _ _ h=>h) ?_;clear H a;intro a H
      refine Xc (by as_aux_lemma=>kernel_rfl) ?_
      refine Za ?_
      obtain rfl:=Option.some.inj hm;replace hm:=eK;try dsimp only at hm
      replace hS:=hS.pick 19 rfl;dsimp only [List.eraseIdx] at hS
      replace hS:=hS.pick 19 rfl;dsimp only [List.eraseIdx] at hS
      replace hS:=hS.pick 19 rfl;dsimp only [List.eraseIdx] at hS
      replace hS:=hS.pick 19 rfl;dsimp only [List.eraseIdx] at hS
      replace hS:=hS.pick 19 rfl;dsimp only [List.eraseIdx] at hS
      replace hS:=hS.pick 19 rfl;dsimp only [List.eraseIdx] at hS
      replace hS:=hS.pick 19 rfl;dsimp only [List.eraseIdx] at hS
      replace hS:=hS.pick 19 rfl;dsimp only [List.eraseIdx] at hS
      replace hS:=hS.pick 30 rfl;dsimp only [List.eraseIdx] at hS
      replace hS:=hS.tk9
      exact Uy true H ⟨rfl,rfl,rfl,rfl,trivial⟩ ⟨hm,hS⟩
    replace H:=H.know 97 rfl cY
    replace hm:=Zv hm cY
    refine Wm 12 H rfl rfl rfl (Zf rfl (LdC.old ((aY.blk 18 rfl).ldAll Zda Zav) (Ext.trans' (Ext.trans' aZ.x a9.x) bA.x) (Nat.le_refl _) (by simp))) rfl (by as_aux_lemma=>kernel_rfl) (by as_aux_lemma=>kernel_rfl) (by as_aux_lemma=>kernel_rfl) (by as_aux_lemma=>kernel_rfl) (fun _ _ _ h=>h) ?_;clear H a;intro a H
    refine Wm 14 H rfl rfl rfl (Zf rfl (LdC.old ((aY.blk 0 rfl).ldAll Zo1 Zbz) (Ext.trans' (Ext.trans' aZ.x a9.x) bA.x) (Nat.le_refl _) (by simp))) rfl (by as_aux_lemma=>kernel_rfl) (by as_aux_lemma=>kernel_rfl) (by as_aux_lemma=>kernel_rfl) (by as_aux_lemma=>kernel_rfl) (fun _ _ _ h=>h) ?_;clear H a;intro a H
    replace hm:=Zj hm;obtain⟨aF,gO,hm⟩:=hm
    refine Zb4 13 H rfl rfl rfl rfl Zrt (Kd (A:=A) (⟨_,_,_,_,rfl,(bB.ext (Zi.mono _) hS.x),(aW.ext (Zi.mono _) hS.x),(bC.ext (Zi.mono _) hS.x),(bD.ext (Zi.mono _) hS.x)⟩ : Xa _ [.int .i64 a0.Id,.bool a0.Mobile,aQ,aP,aR,.int .i64 a0.Events,aS] a0) gO) rfl (by as_aux_lemma=>kernel_rfl) (fun v w hv=>.inl (ChgF.of_ext (by obtain⟨_,_,_,_,_,hE0⟩:=hv;exact hE0.x))) ?_
    clear H;intro mZ m3 hv;clear a;intro a H;obtain⟨bX,bY,bZ,b6,rfl,bE⟩:=hv
    replace hS:=hS.new bE;simp only [List.cons_append,List.nil_append] at hS
    replace hW:=Nat.le_trans hW bE.x.size
    replace hm:=Zj hm;obtain⟨aC,gP,hm⟩:=hm
    refine Zb4 15 H rfl rfl rfl rfl en69 (Zcr (A:=A) (⟨_,_,_,_,_,_,_,rfl,((hS.own 17 rfl).slr rfl (fun x _=>Xk x)),((hS.own 18 rfl).slr rfl (fun _ _=>rfl)),((hS.own 19 rfl).slr rfl (fun _ _=>rfl)),((hS.own 20 rfl).slr rfl (fun _ _=>rfl)),((hS.own 21 rfl).slr rfl (fun _ _=>rfl)),(hS.deepSl 22 rfl),((hS.own 23 rfl).slr rfl (fun x _=>Kz x))⟩ : Hg _ [.int .i64 aA.1.Id,.int .i64 aA.1.Frame,.int .i64 aA.1.Epoch,aI,aJ,aK,aL,aM,aN,aO] aA.1) gP) rfl (by as_aux_lemma=>kernel_rfl) (fun v w hv=>.inl (ChgF.of_ext (by obtain⟨_,_,_,_,_,_,_,_,hE0⟩:=hv;exact hE0.x))) ?_
    clear H;intro m4 m5 hv;clear a;intro a H;obtain⟨b7,b8,b9,cA,cB,cC,cD,rfl,bF⟩:=hv
    replace hS:=hS.new bF;simp only [List.cons_append,List.nil_append] at hS
    replace hW:=Nat.le_trans hW bF.x.size
    replace hm:=Zj hm;obtain⟨aV,gQ,hm⟩:=hm
    refine Zb4 16 H rfl rfl rfl rfl en70 (Zio (A:=A) (hG.ext hS.x) (⟨_,_,_,_,rfl,((hS.own 7 rfl).slr rfl (fun _ _=>rfl)),((hS.own 8 rfl).slr rfl (fun _ _=>rfl)),((hS.own 9 rfl).slr rfl (fun _ _=>rfl)),((hS.own 10 rfl).slr rfl (fun _ _=>rfl))⟩ : Xa _ [.int .i64 aF.Id,.bool aF.Mobile,bX,bY,bZ,.int .i64 aF.Events,b6] aF) (⟨_,_,_,_,_,_,_,rfl,((hS.own 0 rfl).slr rfl (fun x _=>Xk x)),((hS.own 1 rfl).slr rfl (fun _ _=>rfl)),((hS.own 2 rfl).slr rfl (fun _ _=>rfl)),((hS.own 3 rfl).slr rfl (fun _ _=>rfl)),((hS.own 4 rfl).slr rfl (fun _ _=>rfl)),(hS.deepSl 5 rfl),((hS.own 6 rfl).slr rfl (fun x _=>Kz x))⟩ : Hg _ [.int .i64 aC.Id,.int .i64 aC.Frame,.int .i64 aC.Epoch,b7,b8,b9,cA,cB,cC,cD] aC) gQ) rfl (by as_aux_lemma=>kernel_rfl) (fun v w hv=>.inl (ChgF.of_ext (by obtain⟨_,_,hE0⟩:=hv;exact hE0.x))) ?_
    clear H;intro bH fF hv;clear a;intro a H;obtain⟨_,rfl,bG⟩:=hv
    replace hS:=hS.new bG;simp only [List.cons_append,List.nil_append] at hS
    replace hW:=Nat.le_trans hW bG.x.size
    refine Qq 17 H rfl rfl rfl (Xi (Vr Tryz.underlying39 rfl rfl (hS.any 0 rfl : IsE A fF bH aV).form) (show _=Value.bool (!decide (aV=.nil)) by rw [Xu.isNil (hS.any 0 rfl : IsE A fF bH aV)])) rfl (by as_aux_lemma=>kernel_rfl) (by as_aux_lemma=>kernel_rfl) (by as_aux_lemma=>kernel_rfl) (by as_aux_lemma=>kernel_rfl) (fun _ _ _ h=>h) ?_;clear H a;intro a H
    refine Zg 18 H rfl (Zt rfl rfl) rfl (by as_aux_lemma=>kernel_rfl) (by as_aux_lemma=>kernel_rfl) (by as_aux_lemma=>kernel_rfl) (by as_aux_lemma=>kernel_rfl) (fun _ _ _ h=>h) ?_;clear H a;intro a H
    refine Zg 19 H rfl (Zd rfl) rfl (by as_aux_lemma=>kernel_rfl) (by as_aux_lemma=>kernel_rfl) (by as_aux_lemma=>kernel_rfl) (by as_aux_lemma=>kernel_rfl) (fun _ _ _ h=>h) ?_;clear H a;intro a H
    replace hm:=Zj hm;obtain⟨dL,hm,gR⟩:=hm
    refine k_mid6 H 28 20 21 22 23 24 25 [(1,v1),(2,.pointer (some ⟨cH,0,none⟩)),(5,.pointer (some ⟨cI,0,none⟩)),(6,aT),(40,.bool cT),(41,.agg #[.int .i64 a0.Id,.bool a0.Mobile,aQ,aP,aR,.int .i64 a0.Events,aS]),(42,.agg #[.int .i64 aH.Id,.bool aH.Mobile,cN,cO,cP,.int .i64 aH.Events,cQ]),(43,cL),(44,.bool (!decide (cJ=.nil))),(80,.tuple #[.agg #[.int .i64 aA.1.Id,.int .i64 aA.1.Frame,.int .i64 aA.1.Epoch,aI,aJ,aK,aL,aM,aN,aO],aT]),(81,.agg #[.int .i64 a0.Id,.bool a0.Mobile,aQ,aP,aR,.int .i64 a0.Events,aS]),(82,.agg #[.int .i64 aD.Id,.bool aD.Mobile,bI,bJ,bK,.int .i64 aD.Events,bL]),(83,.tuple #[.agg #[.int .i64 aA.1.Id,.int .i64 aA.1.Frame,.int .i64 aA.1.Epoch,aI,aJ,aK,aL,aM,aN,aO],aT]),(84,.agg #[.int .i64 aA.1.Id,.int .i64 aA.1.Frame,.int .i64 aA.1.Epoch,aI,aJ,aK,aL,aM,aN,aO]),(85,aT),(86,aT),(87,.bool (!decide (aA.2=.nil))),(88,.bool false),(89,.agg #[.int .i64 a0.Id,.bool a0.Mobile,aQ,aP,aR,.int .i64 a0.Events,aS]),(90,.agg #[.int .i64 aE.Id,.bool aE.Mobile,bM,bN,bO,.int .i64 aE.Events,bP]),(91,.agg #[.int .i64 aA.1.Id,.int .i64 aA.1.Frame,.int .i64 aA.1.Epoch,aI,aJ,aK,aL,aM,aN,aO]),(92,.agg #[.int .i64 aB.Id,.int .i64 aB.Frame,.int .i64 aB.Epoch,bQ,bR,bS,bT,bU,bV,bW]),(93,cK),(94,.int .i64 ((aU.length : Nat) : Int)),(95,.bool (!decide (aU.length=0))),(96,.bool (!decide (aU.length=0))),(97,.bool false),(98,.agg #[.int .i64 a0.Id,.bool a0.Mobile,aQ,aP,aR,.int .i64 a0.Events,aS]),(99,.agg #[.int .i64 aF.Id,.bool aF.Mobile,bX,bY,bZ,.int .i64 aF.Events,b6]),(100,.agg #[.int .i64 aA.1.Id,.int .i64 aA.1.Frame,.int .i64 aA.1.Epoch,aI,aJ,aK,aL,aM,aN,aO]),(101,.agg #[.int .i64 aC.Id,.int .i64 aC.Frame,.int .i64 aC.Epoch,b7,b8,b9,cA,cB,cC,cD]),(102,bH),(103,.bool (!decide (aV=.nil))),(104,.bool (!decide (aV=.nil))),(111,.bool dL)] (fun wl=>St NB w wl [erQ A bH aV,ownR 144 21 b7 aC.Procs.length (aC.Procs.flatMap Xf),ownR 3 1 b8 aC.Ready.length (aC.Ready.flatMap eI),ownR 163 2 b9 aC.Timers.length (aC.Timers.flatMap Jq),ownR 4 1 cA aC.Up.length (aC.Up.flatMap eF),ownR 3 1 cB aC.Sems.length (aC.Sems.flatMap eI),deepR 154 2 Qe cC aC.Ports,ownR 82 66 cD aC.Pages.length (aC.Pages.flatMap Jr),ownR 114 2 bX aF.Pages.length (aF.Pages.flatMap Zw),ownR 116 3 bY aF.Procs.length (aF.Procs.flatMap Zs),ownR 118 4 bZ aF.Ports.length (aF.Ports.flatMap Zp),ownR 3 1 b6 aF.Sems.length (aF.Sems.flatMap eI),ownR 3 1 cK aU.length (aU.flatMap eI),ownR 144 21 bQ aB.Procs.length (aB.Procs.flatMap Xf),ownR 3 1 bR aB.Ready.length (aB.Ready.flatMap eI),ownR 163 2 bS aB.Timers.length (aB.Timers.flatMap Jq),ownR 4 1 bT aB.Up.length (aB.Up.flatMap eF),ownR 3 1 bU aB.Sems.length (aB.Sems.flatMap eI),deepR 154 2 Qe bV aB.Ports,ownR 82 66 bW aB.Pages.length (aB.Pages.flatMap Jr),ownR 114 2 bM aE.Pages.length (aE.Pages.flatMap Zw),ownR 116 3 bN aE.Procs.length (aE.Procs.flatMap Zs),ownR 118 4 bO aE.Ports.length (aE.Ports.flatMap Zp),ownR 3 1 bP aE.Sems.length (aE.Sems.flatMap eI),blkR cI [.int .i64 aA.1.Id,.int .i64 aA.1.Frame,.int .i64 aA.1.Epoch,aI,aJ,aK,aL,aM,aN,aO] 34,ownR 144 21 aI aA.1.Procs.length (aA.1.Procs.flatMap Xf),ownR 3 1 aJ aA.1.Ready.length (aA.1.Ready.flatMap eI),ownR 163 2 aK aA.1.Timers.length (aA.1.Timers.flatMap Jq),ownR 4 1 aL aA.1.Up.length (aA.1.Up.flatMap eF),ownR 3 1 aM aA.1.Sems.length (aA.1.Sems.flatMap eI),deepR 154 2 Qe aN aA.1.Ports,ownR 82 66 aO aA.1.Pages.length (aA.1.Pages.flatMap Jr),erQ A aT aA.2,ownR 114 2 bI aD.Pages.length (aD.Pages.flatMap Zw),ownR 116 3 bJ aD.Procs.length (aD.Procs.flatMap Zs),ownR 118 4 bK aD.Ports.length (aD.Ports.flatMap Zp),ownR 3 1 bL aD.Sems.length (aD.Sems.flatMap eI),erQ A cL cJ,ownR 114 2 cN aH.Pages.length (aH.Pages.flatMap Zw),ownR 116 3 cO aH.Procs.length (aH.Procs.flatMap Zs),ownR 118 4 cP aH.Ports.length (aH.Ports.flatMap Zp),ownR 3 1 cQ aH.Sems.length (aH.Sems.flatMap eI),blkR cH [.int .i64 a0.Id,.bool a0.Mobile,aQ,aP,aR,.int .i64 a0.Events,aS] 27,ownR 144 21 dP aG.1.Procs.length (aG.1.Procs.flatMap Xf),ownR 3 1 dQ aG.1.Ready.length (aG.1.Ready.flatMap eI),ownR 163 2 dR aG.1.Timers.length (aG.1.Timers.flatMap Jq),ownR 4 1 dS aG.1.Up.length (aG.1.Up.flatMap eF),ownR 3 1 dT aG.1.Sems.length (aG.1.Sems.flatMap eI),deepR 154 2 Qe dU aG.1.Ports,ownR 82 66 dV aG.1.Pages.length (aG.1.Pages.flatMap Jr)] ∧ cM.heap.size ≤ wl.heap.size ∧ Ext fF wl) (fun jn=>?_) ?_
    · rcases Bool.eq_false_or_eq_true (!decide (aV=.nil)) with cZ | cZ
      · replace H:=H.know 105 rfl cZ
        replace hm:=Zu hm cZ
        refine Jg 20 H rfl rfl rfl (by decide) rfl (by as_aux_lemma=>kernel_rfl) (by as_aux_lemma=>kernel_rfl) (by as_aux_lemma=>kernel_rfl) (by as_aux_lemma=>kernel_rfl) (fun _ _ _ h=>h) ?_;clear H a;intro a H
        refine Jg 21 H rfl rfl rfl (by decide) rfl (by as_aux_lemma=>kernel_rfl) (by as_aux_lemma=>kernel_rfl) (by as_aux_lemma=>kernel_rfl) (by as_aux_lemma=>kernel_rfl) (fun _ _ _ h=>h) ?_;clear H a;intro a H
        refine Jg 22 H rfl rfl rfl (by decide) rfl (by as_aux_lemma=>kernel_rfl) (by as_aux_lemma=>kernel_rfl) (by as_aux_lemma=>kernel_rfl) (by as_aux_lemma=>kernel_rfl) (fun _ _ _ h=>h) ?_;clear H a;intro a H
        refine Jg 23 H rfl rfl rfl (by decide) rfl (by as_aux_lemma=>kernel_rfl) (by as_aux_lemma=>kernel_rfl) (by as_aux_lemma=>kernel_rfl) (by as_aux_lemma=>kernel_rfl) (fun _ _ _ h=>h) ?_;clear H a;intro a H
        refine Jg 24 H rfl rfl rfl (by decide) rfl (by as_aux_lemma=>kernel_rfl) (by as_aux_lemma=>kernel_rfl) (by as_aux_lemma=>kernel_rfl) (by as_aux_lemma=>kernel_rfl) (fun _ _ _ h=>h) ?_;clear H a;intro a H
        refine Zg 25 H rfl (Zx rfl rfl) rfl (by as_aux_lemma=>kernel_rfl) (by as_aux_lemma=>kernel_rfl) (by as_aux_lemma=>kernel_rfl) (by as_aux_lemma=>kernel_rfl) (fun _ _ _ h=>h) ?_;clear H a;intro a H
        obtain rfl:=Option.some.inj hm
        exact jn _ _ _ H ⟨rfl,rfl,rfl,rfl,rfl,rfl,rfl,rfl,rfl,rfl,rfl,rfl,rfl,rfl,rfl,rfl,rfl,rfl,rfl,rfl,rfl,rfl,rfl,rfl,rfl,rfl,rfl,rfl,rfl,rfl,rfl,rfl,rfl,rfl,rfl,trivial⟩ ⟨hS,hW,Ext.rfl'⟩
      replace H:=H.know 105 rfl cZ
      replace hm:=Zv hm cZ
      refine Qq 20 H rfl rfl rfl (Zc rfl Zs2) rfl (by as_aux_lemma=>kernel_rfl) (by as_aux_lemma=>kernel_rfl) (by as_aux_lemma=>kernel_rfl) (by as_aux_lemma=>kernel_rfl) (fun _ _ _ h=>h) ?_;clear H a;intro a H
      refine Wm 21 H rfl rfl rfl (Zf rfl (LdC.old ((aY.blk 0 rfl).ld ag3 rfl) (Ext.trans' (Ext.trans' (Ext.trans' (Ext.trans' (Ext.trans' aZ.x a9.x) bA.x) bE.x) bF.x) bG.x) (Nat.le_refl _) (by simp))) rfl (by as_aux_lemma=>kernel_rfl) (by as_aux_lemma=>kernel_rfl) (by as_aux_lemma=>kernel_rfl) (by as_aux_lemma=>kernel_rfl) (fun _ _ _ h=>h) ?_;clear H a;intro a H
      refine Qq 22 H rfl rfl rfl (Zc rfl Zfg) rfl (by as_aux_lemma=>kernel_rfl) (by as_aux_lemma=>kernel_rfl) (by as_aux_lemma=>kernel_rfl) (by as_aux_lemma=>kernel_rfl) (fun _ _ _ h=>h) ?_;clear H a;intro a H
      refine Wm 23 H rfl rfl rfl (Zf rfl (LdC.old ((aY.blk 18 rfl).ld ag3 rfl) (Ext.trans' (Ext.trans' (Ext.trans' (Ext.trans' (Ext.trans' aZ.x a9.x) bA.x) bE.x) bF.x) bG.x) (Nat.le_refl _) (by simp))) rfl (by as_aux_lemma=>kernel_rfl) (by as_aux_lemma=>kernel_rfl) (by as_aux_lemma=>kernel_rfl) (by as_aux_lemma=>kernel_rfl) (fun _ _ _ h=>h) ?_;clear H a;intro a H
      refine Qq 24 H rfl rfl rfl (Th rfl rfl) rfl (by as_aux_lemma=>kernel_rfl) (by as_aux_lemma=>kernel_rfl) (by as_aux_lemma=>kernel_rfl) (by as_aux_lemma=>kernel_rfl) (fun _ _ _ h=>h) ?_;clear H a;intro a H
      refine Zg 25 H rfl (Zt rfl rfl) rfl (by as_aux_lemma=>kernel_rfl) (by as_aux_lemma=>kernel_rfl) (by as_aux_lemma=>kernel_rfl) (by as_aux_lemma=>kernel_rfl) (fun _ _ _ h=>h) ?_;clear H a;intro a H
      obtain rfl:=Option.some.inj hm
      exact jn _ _ _ H ⟨rfl,rfl,rfl,rfl,rfl,rfl,rfl,rfl,rfl,rfl,rfl,rfl,rfl,rfl,rfl,rfl,rfl,rfl,rfl,rfl,rfl,rfl,rfl,rfl,rfl,rfl,rfl,rfl,rfl,rfl,rfl,rfl,rfl,rfl,rfl,trivial⟩ ⟨hS,hW,Ext.rfl'⟩
    clear H hS hm hW a;intro a jN H hR;simp only [ent,List.map_cons,List.map_nil] at H;obtain⟨hS,hW,cR⟩:=hR;have hm:=gR
    refine Zg 26 H rfl (Zd rfl) rfl (by as_aux_lemma=>kernel_rfl) (by as_aux_lemma=>kernel_rfl) (by as_aux_lemma=>kernel_rfl) (by as_aux_lemma=>kernel_rfl) (fun _ _ _ h=>h) ?_;clear H a;intro a H
    replace hm:=Zj hm;obtain⟨dY,hm,gS⟩:=hm
    refine Zpu H 23 27 28 29 30 [(1,v1),(2,.pointer (some ⟨cH,0,none⟩)),(5,.pointer (some ⟨cI,0,none⟩)),(6,aT),(40,.bool cT),(41,.agg #[.int .i64 a0.Id,.bool a0.Mobile,aQ,aP,aR,.int .i64 a0.Events,aS]),(42,.agg #[.int .i64 aH.Id,.bool aH.Mobile,cN,cO,cP,.int .i64 aH.Events,cQ]),(43,cL),(44,.bool (!decide (cJ=.nil))),(80,.tuple #[.agg #[.int .i64 aA.1.Id,.int .i64 aA.1.Frame,.int .i64 aA.1.Epoch,aI,aJ,aK,aL,aM,aN,aO],aT]),(81,.agg #[.int .i64 a0.Id,.bool a0.Mobile,aQ,aP,aR,.int .i64 a0.Events,aS]),(82,.agg #[.int .i64 aD.Id,.bool aD.Mobile,bI,bJ,bK,.int .i64 aD.Events,bL]),(83,.tuple #[.agg #[.int .i64 aA.1.Id,.int .i64 aA.1.Frame,.int .i64 aA.1.Epoch,aI,aJ,aK,aL,aM,aN,aO],aT]),(84,.agg #[.int .i64 aA.1.Id,.int .i64 aA.1.Frame,.int .i64 aA.1.Epoch,aI,aJ,aK,aL,aM,aN,aO]),(85,aT),(86,aT),(87,.bool (!decide (aA.2=.nil))),(88,.bool false),(89,.agg #[.int .i64 a0.Id,.bool a0.Mobile,aQ,aP,aR,.int .i64 a0.Events,aS]),(90,.agg #[.int .i64 aE.Id,.bool aE.Mobile,bM,bN,bO,.int .i64 aE.Events,bP]),(91,.agg #[.int .i64 aA.1.Id,.int .i64 aA.1.Frame,.int .i64 aA.1.Epoch,aI,aJ,aK,aL,aM,aN,aO]),(92,.agg #[.int .i64 aB.Id,.int .i64 aB.Frame,.int .i64 aB.Epoch,bQ,bR,bS,bT,bU,bV,bW]),(93,cK),(94,.int .i64 ((aU.length : Nat) : Int)),(95,.bool (!decide (aU.length=0))),(96,.bool (!decide (aU.length=0))),(97,.bool false),(98,.agg #[.int .i64 a0.Id,.bool a0.Mobile,aQ,aP,aR,.int .i64 a0.Events,aS]),(99,.agg #[.int .i64 aF.Id,.bool aF.Mobile,bX,bY,bZ,.int .i64 aF.Events,b6]),(100,.agg #[.int .i64 aA.1.Id,.int .i64 aA.1.Frame,.int .i64 aA.1.Epoch,aI,aJ,aK,aL,aM,aN,aO]),(101,.agg #[.int .i64 aC.Id,.int .i64 aC.Frame,.int .i64 aC.Epoch,b7,b8,b9,cA,cB,cC,cD]),(102,bH),(103,.bool (!decide (aV=.nil))),(104,.bool (!decide (aV=.nil))),(111,.bool dL),(116,.bool dY)] (fun wl=>St NB w wl [erQ A bH aV,ownR 144 21 b7 aC.Procs.length (aC.Procs.flatMap Xf),ownR 3 1 b8 aC.Ready.length (aC.Ready.flatMap eI),ownR 163 2 b9 aC.Timers.length (aC.Timers.flatMap Jq),ownR 4 1 cA aC.Up.length (aC.Up.flatMap eF),ownR 3 1 cB aC.Sems.length (aC.Sems.flatMap eI),deepR 154 2 Qe cC aC.Ports,ownR 82 66 cD aC.Pages.length (aC.Pages.flatMap Jr),ownR 114 2 bX aF.Pages.length (aF.Pages.flatMap Zw),ownR 116 3 bY aF.Procs.length (aF.Procs.flatMap Zs),ownR 118 4 bZ aF.Ports.length (aF.Ports.flatMap Zp),ownR 3 1 b6 aF.Sems.length (aF.Sems.flatMap eI),ownR 3 1 cK aU.length (aU.flatMap eI),ownR 144 21 bQ aB.Procs.length (aB.Procs.flatMap Xf),ownR 3 1 bR aB.Ready.length (aB.Ready.flatMap eI),ownR 163 2 bS aB.Timers.length (aB.Timers.flatMap Jq),ownR 4 1 bT aB.Up.length (aB.Up.flatMap eF),ownR 3 1 bU aB.Sems.length (aB.Sems.flatMap eI),deepR 154 2 Qe bV aB.Ports,ownR 82 66 bW aB.Pages.length (aB.Pages.flatMap Jr),ownR 114 2 bM aE.Pages.length (aE.Pages.flatMap Zw),ownR 116 3 bN aE.Procs.length (aE.Procs.flatMap Zs),ownR 118 4 bO aE.Ports.length (aE.Ports.flatMap Zp),ownR 3 1 bP aE.Sems.length (aE.Sems.flatMap eI),blkR cI [.int .i64 aA.1.Id,.int .i64 aA.1.Frame,.int .i64 aA.1.Epoch,aI,aJ,aK,aL,aM,aN,aO] 34,ownR 144 21 aI aA.1.Procs.length (aA.1.Procs.flatMap Xf),ownR 3 1 aJ aA.1.Ready.length (aA.1.Ready.flatMap eI),ownR 163 2 aK aA.1.Timers.length (aA.1.Timers.flatMap Jq),ownR 4 1 aL aA.1.Up.length (aA.1.Up.flatMap eF),ownR 3 1 aM aA.1.Sems.length (aA.1.Sems.flatMap eI),deepR 154 2 Qe aN aA.1.Ports,ownR 82 66 aO aA.1.Pages.length (aA.1.Pages.flatMap Jr),erQ A aT aA.2,ownR 114 2 bI aD.Pages.length (aD.Pages.flatMap Zw),ownR 116 3 bJ aD.Procs.length (aD.Procs.flatMap Zs),ownR 118 4 bK aD.Ports.length (aD.Ports.flatMap Zp),ownR 3 1 bL aD.Sems.length (aD.Sems.flatMap eI),erQ A cL cJ,ownR 114 2 cN aH.Pages.length (aH.Pages.flatMap Zw),ownR 116 3 cO aH.Procs.length (aH.Procs.flatMap Zs),ownR 118 4 cP aH.Ports.length (aH.Ports.flatMap Zp),ownR 3 1 cQ aH.Sems.length (aH.Sems.flatMap eI),blkR cH [.int .i64 a0.Id,.bool a0.Mobile,aQ,aP,aR,.int .i64 a0.Events,aS] 27,ownR 144 21 dP aG.1.Procs.length (aG.1.Procs.flatMap Xf),ownR 3 1 dQ aG.1.Ready.length (aG.1.Ready.flatMap eI),ownR 163 2 dR aG.1.Timers.length (aG.1.Timers.flatMap Jq),ownR 4 1 dS aG.1.Up.length (aG.1.Up.flatMap eF),ownR 3 1 dT aG.1.Sems.length (aG.1.Sems.flatMap eI),deepR 154 2 Qe dU aG.1.Ports,ownR 82 66 dV aG.1.Pages.length (aG.1.Pages.flatMap Jr)] ∧ cM.heap.size ≤ wl.heap.size ∧ Ext jN wl) (fun jn=>?_) ?_
    · rcases Bool.eq_false_or_eq_true dL with c7 | c7
      · replace H:=H.know 112 rfl c7
        replace hm:=Zu hm c7
        refine Jg 27 H rfl rfl rfl (by decide) rfl (by as_aux_lemma=>kernel_rfl) (by as_aux_lemma=>kernel_rfl) (by as_aux_lemma=>kernel_rfl) (by as_aux_lemma=>kernel_rfl) (fun _ _ _ h=>h) ?_;clear H a;intro a H
        refine Jg 28 H rfl rfl rfl (by decide) rfl (by as_aux_lemma=>kernel_rfl) (by as_aux_lemma=>kernel_rfl) (by as_aux_lemma=>kernel_rfl) (by as_aux_lemma=>kernel_rfl) (fun _ _ _ h=>h) ?_;clear H a;intro a H
        refine Jg 29 H rfl rfl rfl (by decide) rfl (by as_aux_lemma=>kernel_rfl) (by as_aux_lemma=>kernel_rfl) (by as_aux_lemma=>kernel_rfl) (by as_aux_lemma=>kernel_rfl) (fun _ _ _ h=>h) ?_;clear H a;intro a H
        refine Zg 30 H rfl (Zx rfl rfl) rfl (by as_aux_lemma=>kernel_rfl) (by as_aux_lemma=>kernel_rfl) (by as_aux_lemma=>kernel_rfl) (by as_aux_lemma=>kernel_rfl) (fun _ _ _ h=>h) ?_;clear H a;intro a H
        obtain rfl:=Option.some.inj hm
        exact jn _ _ _ H ⟨rfl,rfl,rfl,rfl,rfl,rfl,rfl,rfl,rfl,rfl,rfl,rfl,rfl,rfl,rfl,rfl,rfl,rfl,rfl,rfl,rfl,rfl,rfl,rfl,rfl,rfl,rfl,rfl,rfl,rfl,rfl,rfl,rfl,rfl,rfl,rfl,trivial⟩ ⟨hS,hW,Ext.rfl'⟩
      replace H:=H.know 112 rfl c7
      replace hm:=Zv hm c7
      refine Qq 27 H rfl rfl rfl (Zc rfl Zs3) rfl (by as_aux_lemma=>kernel_rfl) (by as_aux_lemma=>kernel_rfl) (by as_aux_lemma=>kernel_rfl) (by as_aux_lemma=>kernel_rfl) (fun _ _ _ h=>h) ?_;clear H a;intro a H
      refine Wm 28 H rfl rfl rfl (Zf rfl (LdC.old ((aY.blk 0 rfl).ld ag3 rfl) (Ext.trans' (Ext.trans' (Ext.trans' (Ext.trans' (Ext.trans' (Ext.trans' aZ.x a9.x) bA.x) bE.x) bF.x) bG.x) cR) (Nat.le_refl _) (by simp))) rfl (by as_aux_lemma=>kernel_rfl) (by as_aux_lemma=>kernel_rfl) (by as_aux_lemma=>kernel_rfl) (by as_aux_lemma=>kernel_rfl) (fun _ _ _ h=>h) ?_;clear H a;intro a H
      refine Qq 29 H rfl rfl rfl (Th rfl rfl) rfl (by as_aux_lemma=>kernel_rfl) (by as_aux_lemma=>kernel_rfl) (by as_aux_lemma=>kernel_rfl) (by as_aux_lemma=>kernel_rfl) (fun _ _ _ h=>h) ?_;clear H a;intro a H
      refine Zg 30 H rfl (Zt rfl rfl) rfl (by as_aux_lemma=>kernel_rfl) (by as_aux_lemma=>kernel_rfl) (by as_aux_lemma=>kernel_rfl) (by as_aux_lemma=>kernel_rfl) (fun _ _ _ h=>h) ?_;clear H a;intro a H
      obtain rfl:=Option.some.inj hm
      exact jn _ _ _ H ⟨rfl,rfl,rfl,rfl,rfl,rfl,rfl,rfl,rfl,rfl,rfl,rfl,rfl,rfl,rfl,rfl,rfl,rfl,rfl,rfl,rfl,rfl,rfl,rfl,rfl,rfl,rfl,rfl,rfl,rfl,rfl,rfl,rfl,rfl,rfl,rfl,trivial⟩ ⟨hS,hW,Ext.rfl'⟩
    clear H hS hm hW a;intro a jO H hR;simp only [ent,List.map_cons,List.map_nil] at H;obtain⟨hS,hW,c9⟩:=hR;have hm:=gS
    refine Zg 31 H rfl (Zd rfl) rfl (by as_aux_lemma=>kernel_rfl) (by as_aux_lemma=>kernel_rfl) (by as_aux_lemma=>kernel_rfl) (by as_aux_lemma=>kernel_rfl) (fun _ _ _ h=>h) ?_;clear H a;intro a H
    replace hm:=Zj hm;obtain⟨eA,hm,gT⟩:=hm
    refine Zpu H 18 32 33 34 35 [(1,v1),(2,.pointer (some ⟨cH,0,none⟩)),(5,.pointer (some ⟨cI,0,none⟩)),(6,aT),(40,.bool cT),(41,.agg #[.int .i64 a0.Id,.bool a0.Mobile,aQ,aP,aR,.int .i64 a0.Events,aS]),(42,.agg #[.int .i64 aH.Id,.bool aH.Mobile,cN,cO,cP,.int .i64 aH.Events,cQ]),(43,cL),(44,.bool (!decide (cJ=.nil))),(80,.tuple #[.agg #[.int .i64 aA.1.Id,.int .i64 aA.1.Frame,.int .i64 aA.1.Epoch,aI,aJ,aK,aL,aM,aN,aO],aT]),(81,.agg #[.int .i64 a0.Id,.bool a0.Mobile,aQ,aP,aR,.int .i64 a0.Events,aS]),(82,.agg #[.int .i64 aD.Id,.bool aD.Mobile,bI,bJ,bK,.int .i64 aD.Events,bL]),(83,.tuple #[.agg #[.int .i64 aA.1.Id,.int .i64 aA.1.Frame,.int .i64 aA.1.Epoch,aI,aJ,aK,aL,aM,aN,aO],aT]),(84,.agg #[.int .i64 aA.1.Id,.int .i64 aA.1.Frame,.int .i64 aA.1.Epoch,aI,aJ,aK,aL,aM,aN,aO]),(85,aT),(86,aT),(87,.bool (!decide (aA.2=.nil))),(88,.bool false),(89,.agg #[.int .i64 a0.Id,.bool a0.Mobile,aQ,aP,aR,.int .i64 a0.Events,aS]),(90,.agg #[.int .i64 aE.Id,.bool aE.Mobile,bM,bN,bO,.int .i64 aE.Events,bP]),(91,.agg #[.int .i64 aA.1.Id,.int .i64 aA.1.Frame,.int .i64 aA.1.Epoch,aI,aJ,aK,aL,aM,aN,aO]),(92,.agg #[.int .i64 aB.Id,.int .i64 aB.Frame,.int .i64 aB.Epoch,bQ,bR,bS,bT,bU,bV,bW]),(93,cK),(94,.int .i64 ((aU.length : Nat) : Int)),(95,.bool (!decide (aU.length=0))),(96,.bool (!decide (aU.length=0))),(97,.bool false),(98,.agg #[.int .i64 a0.Id,.bool a0.Mobile,aQ,aP,aR,.int .i64 a0.Events,aS]),(99,.agg #[.int .i64 aF.Id,.bool aF.Mobile,bX,bY,bZ,.int .i64 aF.Events,b6]),(100,.agg #[.int .i64 aA.1.Id,.int .i64 aA.1.Frame,.int .i64 aA.1.Epoch,aI,aJ,aK,aL,aM,aN,aO]),(101,.agg #[.int .i64 aC.Id,.int .i64 aC.Frame,.int .i64 aC.Epoch,b7,b8,b9,cA,cB,cC,cD]),(102,bH),(103,.bool (!decide (aV=.nil))),(104,.bool (!decide (aV=.nil))),(111,.bool dL),(116,.bool dY),(121,.bool eA)] (fun wl=>St NB w wl [erQ A bH aV,ownR 144 21 b7 aC.Procs.length (aC.Procs.flatMap Xf),ownR 3 1 b8 aC.Ready.length (aC.Ready.flatMap eI),ownR 163 2 b9 aC.Timers.length (aC.Timers.flatMap Jq),ownR 4 1 cA aC.Up.length (aC.Up.flatMap eF),ownR 3 1 cB aC.Sems.length (aC.Sems.flatMap eI),deepR 154 2 Qe cC aC.Ports,ownR 82 66 cD aC.Pages.length (aC.Pages.flatMap Jr),ownR 114 2 bX aF.Pages.length (aF.Pages.flatMap Zw),ownR 116 3 bY aF.Procs.length (aF.Procs.flatMap Zs),ownR 118 4 bZ aF.Ports.length (aF.Ports.flatMap Zp),ownR 3 1 b6 aF.Sems.length (aF.Sems.flatMap eI),ownR 3 1 cK aU.length (aU.flatMap eI),ownR 144 21 bQ aB.Procs.length (aB.Procs.flatMap Xf),ownR 3 1 bR aB.Ready.length (aB.Ready.flatMap eI),ownR 163 2 bS aB.Timers.length (aB.Timers.flatMap Jq),ownR 4 1 bT aB.Up.length (aB.Up.flatMap eF),ownR 3 1 bU aB.Sems.length (aB.Sems.flatMap eI),deepR 154 2 Qe bV aB.Ports,ownR 82 66 bW aB.Pages.length (aB.Pages.flatMap Jr),ownR 114 2 bM aE.Pages.length (aE.Pages.flatMap Zw),ownR 116 3 bN aE.Procs.length (aE.Procs.flatMap Zs),ownR 118 4 bO aE.Ports.length (aE.Ports.flatMap Zp),ownR 3 1 bP aE.Sems.length (aE.Sems.flatMap eI),blkR cI [.int .i64 aA.1.Id,.int .i64 aA.1.Frame,.int .i64 aA.1.Epoch,aI,aJ,aK,aL,aM,aN,aO] 34,ownR 144 21 aI aA.1.Procs.length (aA.1.Procs.flatMap Xf),ownR 3 1 aJ aA.1.Ready.length (aA.1.Ready.flatMap eI),ownR 163 2 aK aA.1.Timers.length (aA.1.Timers.flatMap Jq),ownR 4 1 aL aA.1.Up.length (aA.1.Up.flatMap eF),ownR 3 1 aM aA.1.Sems.length (aA.1.Sems.flatMap eI),deepR 154 2 Qe aN aA.1.Ports,ownR 82 66 aO aA.1.Pages.length (aA.1.Pages.flatMap Jr),erQ A aT aA.2,ownR 114 2 bI aD.Pages.length (aD.Pages.flatMap Zw),ownR 116 3 bJ aD.Procs.length (aD.Procs.flatMap Zs),ownR 118 4 bK aD.Ports.length (aD.Ports.flatMap Zp),ownR 3 1 bL aD.Sems.length (aD.Sems.flatMap eI),erQ A cL cJ,ownR 114 2 cN aH.Pages.length (aH.Pages.flatMap Zw),ownR 116 3 cO aH.Procs.length (aH.Procs.flatMap Zs),ownR 118 4 cP aH.Ports.length (aH.Ports.flatMap Zp),ownR 3 1 cQ aH.Sems.length (aH.Sems.flatMap eI),blkR cH [.int .i64 a0.Id,.bool a0.Mobile,aQ,aP,aR,.int .i64 a0.Events,aS] 27,ownR 144 21 dP aG.1.Procs.length (aG.1.Procs.flatMap Xf),ownR 3 1 dQ aG.1.Ready.length (aG.1.Ready.flatMap eI),ownR 163 2 dR aG.1.Timers.length (aG.1.Timers.flatMap Jq),ownR 4 1 dS aG.1.Up.length (aG.1.Up.flatMap eF),ownR 3 1 dT aG.1.Sems.length (aG.1.Sems.flatMap eI),deepR 154 2 Qe dU aG.1.Ports,ownR 82 66 dV aG.1.Pages.length (aG.1.Pages.flatMap Jr)] ∧ cM.heap.size ≤ wl.heap.size ∧ Ext jO wl) (fun jn=>?_) ?_
    · rcases Bool.eq_false_or_eq_true dY with dA | dA
      · replace H:=H.know 117 rfl dA
        replace hm:=Zu hm dA
        refine Jg 32 H rfl rfl rfl (by decide) rfl (by as_aux_lemma=>kernel_rfl) (by as_aux_lemma=>kernel_rfl) (by as_aux_lemma=>kernel_rfl) (by as_aux_lemma=>kernel_rfl) (fun _ _ _ h=>h) ?_;clear H a;intro a H
        refine Jg 33 H rfl rfl rfl (by decide) rfl (by as_aux_lemma=>kernel_rfl) (by as_aux_lemma=>kernel_rfl) (by as_aux_lemma=>kernel_rfl) (by as_aux_lemma=>kernel_rfl) (fun _ _ _ h=>h) ?_;clear H a;intro a H
        refine Jg 34 H rfl rfl rfl (by decide) rfl (by as_aux_lemma=>kernel_rfl) (by as_aux_lemma=>kernel_rfl) (by as_aux_lemma=>kernel_rfl) (by as_aux_lemma=>kernel_rfl) (fun _ _ _ h=>h) ?_;clear H a;intro a H
        refine Zg 35 H rfl (Zx rfl rfl) rfl (by as_aux_lemma=>kernel_rfl) (by as_aux_lemma=>kernel_rfl) (by as_aux_lemma=>kernel_rfl) (by as_aux_lemma=>kernel_rfl) (fun _ _ _ h=>h) ?_;clear H a;intro a H
        obtain rfl:=Option.some.inj hm
        exact jn _ _ _ H ⟨rfl,rfl,rfl,rfl,rfl,rfl,rfl,rfl,rfl,rfl,rfl,rfl,rfl,rfl,rfl,rfl,rfl,rfl,rfl,rfl,rfl,rfl,rfl,rfl,rfl,rfl,rfl,rfl,rfl,rfl,rfl,rfl,rfl,rfl,rfl,rfl,rfl,trivial⟩ ⟨hS,hW,Ext.rfl'⟩
      replace H:=H.know 117 rfl dA
      replace hm:=Zv hm dA
      refine Qq 32 H rfl rfl rfl (Zc rfl Zs4) rfl (by as_aux_lemma=>kernel_rfl) (by as_aux_lemma=>kernel_rfl) (by as_aux_lemma=>kernel_rfl) (by as_aux_lemma=>kernel_rfl) (fun _ _ _ h=>h) ?_;clear H a;intro a H
      refine Wm 33 H rfl rfl rfl (Zf rfl (LdC.old ((aY.blk 0 rfl).ld ag3 rfl) (Ext.trans' (Ext.trans' (Ext.trans' (Ext.trans' (Ext.trans' (Ext.trans' (Ext.trans' aZ.x a9.x) bA.x) bE.x) bF.x) bG.x) cR) c9) (Nat.le_refl _) (by simp))) rfl (by as_aux_lemma=>kernel_rfl) (by as_aux_lemma=>kernel_rfl) (by as_aux_lemma=>kernel_rfl) (by as_aux_lemma=>kernel_rfl) (fun _ _ _ h=>h) ?_;clear H a;intro a H
      refine Qq 34 H rfl rfl rfl (Th rfl rfl) rfl (by as_aux_lemma=>kernel_rfl) (by as_aux_lemma=>kernel_rfl) (by as_aux_lemma=>kernel_rfl) (by as_aux_lemma=>kernel_rfl) (fun _ _ _ h=>h) ?_;clear H a;intro a H
      refine Zg 35 H rfl (Zt rfl rfl) rfl (by as_aux_lemma=>kernel_rfl) (by as_aux_lemma=>kernel_rfl) (by as_aux_lemma=>kernel_rfl) (by as_aux_lemma=>kernel_rfl) (fun _ _ _ h=>h) ?_;clear H a;intro a H
      obtain rfl:=Option.some.inj hm
      exact jn _ _ _ H ⟨rfl,rfl,rfl,rfl,rfl,rfl,rfl,rfl,rfl,rfl,rfl,rfl,rfl,rfl,rfl,rfl,rfl,rfl,rfl,rfl,rfl,rfl,rfl,rfl,rfl,rfl,rfl,rfl,rfl,rfl,rfl,rfl,rfl,rfl,rfl,rfl,rfl,trivial⟩ ⟨hS,hW,Ext.rfl'⟩
    clear H hS hm hW a;intro a jP H hR;simp only [ent,List.map_cons,List.map_nil] at H;obtain⟨hS,hW,dZ⟩:=hR;have hm:=gT
    refine Zg 36 H rfl (Zd rfl) rfl (by as_aux_lemma=>kernel_rfl) (by as_aux_lemma=>kernel_rfl) (by as_aux_lemma=>kernel_rfl) (by as_aux_lemma=>kernel_rfl) (fun _ _ _ h=>h) ?_;clear H a;intro a H
    replace hm:=Zj hm;obtain⟨fG,hm,gU⟩:=hm
    refine Zkw H 9 37 38 39 40 41 42 43 44 [(1,v1),(2,.pointer (some ⟨cH,0,none⟩)),(5,.pointer (some ⟨cI,0,none⟩)),(6,aT),(40,.bool cT),(41,.agg #[.int .i64 a0.Id,.bool a0.Mobile,aQ,aP,aR,.int .i64 a0.Events,aS]),(42,.agg #[.int .i64 aH.Id,.bool aH.Mobile,cN,cO,cP,.int .i64 aH.Events,cQ]),(43,cL),(44,.bool (!decide (cJ=.nil))),(80,.tuple #[.agg #[.int .i64 aA.1.Id,.int .i64 aA.1.Frame,.int .i64 aA.1.Epoch,aI,aJ,aK,aL,aM,aN,aO],aT]),(81,.agg #[.int .i64 a0.Id,.bool a0.Mobile,aQ,aP,aR,.int .i64 a0.Events,aS]),(82,.agg #[.int .i64 aD.Id,.bool aD.Mobile,bI,bJ,bK,.int .i64 aD.Events,bL]),(83,.tuple #[.agg #[.int .i64 aA.1.Id,.int .i64 aA.1.Frame,.int .i64 aA.1.Epoch,aI,aJ,aK,aL,aM,aN,aO],aT]),(84,.agg #[.int .i64 aA.1.Id,.int .i64 aA.1.Frame,.int .i64 aA.1.Epoch,aI,aJ,aK,aL,aM,aN,aO]),(85,aT),(86,aT),(87,.bool (!decide (aA.2=.nil))),(88,.bool false),(89,.agg #[.int .i64 a0.Id,.bool a0.Mobile,aQ,aP,aR,.int .i64 a0.Events,aS]),(90,.agg #[.int .i64 aE.Id,.bool aE.Mobile,bM,bN,bO,.int .i64 aE.Events,bP]),(91,.agg #[.int .i64 aA.1.Id,.int .i64 aA.1.Frame,.int .i64 aA.1.Epoch,aI,aJ,aK,aL,aM,aN,aO]),(92,.agg #[.int .i64 aB.Id,.int .i64 aB.Frame,.int .i64 aB.Epoch,bQ,bR,bS,bT,bU,bV,bW]),(93,cK),(94,.int .i64 ((aU.length : Nat) : Int)),(95,.bool (!decide (aU.length=0))),(96,.bool (!decide (aU.length=0))),(97,.bool false),(98,.agg #[.int .i64 a0.Id,.bool a0.Mobile,aQ,aP,aR,.int .i64 a0.Events,aS]),(99,.agg #[.int .i64 aF.Id,.bool aF.Mobile,bX,bY,bZ,.int .i64 aF.Events,b6]),(100,.agg #[.int .i64 aA.1.Id,.int .i64 aA.1.Frame,.int .i64 aA.1.Epoch,aI,aJ,aK,aL,aM,aN,aO]),(101,.agg #[.int .i64 aC.Id,.int .i64 aC.Frame,.int .i64 aC.Epoch,b7,b8,b9,cA,cB,cC,cD]),(102,bH),(103,.bool (!decide (aV=.nil))),(104,.bool (!decide (aV=.nil))),(111,.bool dL),(116,.bool dY),(121,.bool eA),(130,.bool fG)] (fun wl=>St NB w wl [erQ A bH aV,ownR 144 21 b7 aC.Procs.length (aC.Procs.flatMap Xf),ownR 3 1 b8 aC.Ready.length (aC.Ready.flatMap eI),ownR 163 2 b9 aC.Timers.length (aC.Timers.flatMap Jq),ownR 4 1 cA aC.Up.length (aC.Up.flatMap eF),ownR 3 1 cB aC.Sems.length (aC.Sems.flatMap eI),deepR 154 2 Qe cC aC.Ports,ownR 82 66 cD aC.Pages.length (aC.Pages.flatMap Jr),ownR 114 2 bX aF.Pages.length (aF.Pages.flatMap Zw),ownR 116 3 bY aF.Procs.length (aF.Procs.flatMap Zs),ownR 118 4 bZ aF.Ports.length (aF.Ports.flatMap Zp),ownR 3 1 b6 aF.Sems.length (aF.Sems.flatMap eI),ownR 3 1 cK aU.length (aU.flatMap eI),ownR 144 21 bQ aB.Procs.length (aB.Procs.flatMap Xf),ownR 3 1 bR aB.Ready.length (aB.Ready.flatMap eI),ownR 163 2 bS aB.Timers.length (aB.Timers.flatMap Jq),ownR 4 1 bT aB.Up.length (aB.Up.flatMap eF),ownR 3 1 bU aB.Sems.length (aB.Sems.flatMap eI),deepR 154 2 Qe bV aB.Ports,ownR 82 66 bW aB.Pages.length (aB.Pages.flatMap Jr),ownR 114 2 bM aE.Pages.length (aE.Pages.flatMap Zw),ownR 116 3 bN aE.Procs.length (aE.Procs.flatMap Zs),ownR 118 4 bO aE.Ports.length (aE.Ports.flatMap Zp),ownR 3 1 bP aE.Sems.length (aE.Sems.flatMap eI),blkR cI [.int .i64 aA.1.Id,.int .i64 aA.1.Frame,.int .i64 aA.1.Epoch,aI,aJ,aK,aL,aM,aN,aO] 34,ownR 144 21 aI aA.1.Procs.length (aA.1.Procs.flatMap Xf),ownR 3 1 aJ aA.1.Ready.length (aA.1.Ready.flatMap eI),ownR 163 2 aK aA.1.Timers.length (aA.1.Timers.flatMap Jq),ownR 4 1 aL aA.1.Up.length (aA.1.Up.flatMap eF),ownR 3 1 aM aA.1.Sems.length (aA.1.Sems.flatMap eI),deepR 154 2 Qe aN aA.1.Ports,ownR 82 66 aO aA.1.Pages.length (aA.1.Pages.flatMap Jr),erQ A aT aA.2,ownR 114 2 bI aD.Pages.length (aD.Pages.flatMap Zw),ownR 116 3 bJ aD.Procs.length (aD.Procs.flatMap Zs),ownR 118 4 bK aD.Ports.length (aD.Ports.flatMap Zp),ownR 3 1 bL aD.Sems.length (aD.Sems.flatMap eI),erQ A cL cJ,ownR 114 2 cN aH.Pages.length (aH.Pages.flatMap Zw),ownR 116 3 cO aH.Procs.length (aH.Procs.flatMap Zs),ownR 118 4 cP aH.Ports.length (aH.Ports.flatMap Zp),ownR 3 1 cQ aH.Sems.length (aH.Sems.flatMap eI),blkR cH [.int .i64 a0.Id,.bool a0.Mobile,aQ,aP,aR,.int .i64 a0.Events,aS] 27,ownR 144 21 dP aG.1.Procs.length (aG.1.Procs.flatMap Xf),ownR 3 1 dQ aG.1.Ready.length (aG.1.Ready.flatMap eI),ownR 163 2 dR aG.1.Timers.length (aG.1.Timers.flatMap Jq),ownR 4 1 dS aG.1.Up.length (aG.1.Up.flatMap eF),ownR 3 1 dT aG.1.Sems.length (aG.1.Sems.flatMap eI),deepR 154 2 Qe dU aG.1.Ports,ownR 82 66 dV aG.1.Pages.length (aG.1.Pages.flatMap Jr)] ∧ cM.heap.size ≤ wl.heap.size ∧ Ext jP wl) (fun jn=>?_) ?_
    · rcases Bool.eq_false_or_eq_true eA with dB | dB
      · replace H:=H.know 122 rfl dB
        replace hm:=Zu hm dB
        refine Jg 37 H rfl rfl rfl (by decide) rfl (by as_aux_lemma=>kernel_rfl) (by as_aux_lemma=>kernel_rfl) (by as_aux_lemma=>kernel_rfl) (by as_aux_lemma=>kernel_rfl) (fun _ _ _ h=>h) ?_;clear H a;intro a H
        refine Jg 38 H rfl rfl rfl (by decide) rfl (by as_aux_lemma=>kernel_rfl) (by as_aux_lemma=>kernel_rfl) (by as_aux_lemma=>kernel_rfl) (by as_aux_lemma=>kernel_rfl) (fun _ _ _ h=>h) ?_;clear H a;intro a H
        refine Jg 39 H rfl rfl rfl (by decide) rfl (by as_aux_lemma=>kernel_rfl) (by as_aux_lemma=>kernel_rfl) (by as_aux_lemma=>kernel_rfl) (by as_aux_lemma=>kernel_rfl) (fun _ _ _ h=>h) ?_;clear H a;intro a H
        refine Jg 40 H rfl rfl rfl (by decide) rfl (by as_aux_lemma=>kernel_rfl) (by as_aux_lemma=>kernel_rfl) (by as_aux_lemma=>kernel_rfl) (by as_aux_lemma=>kernel_rfl) (fun _ _ _ h=>h) ?_;clear H a;intro a H
        refine Jg 41 H rfl rfl rfl (by decide) rfl (by as_aux_lemma=>kernel_rfl) (by as_aux_lemma=>kernel_rfl) (by as_aux_lemma=>kernel_rfl) (by as_aux_lemma=>kernel_rfl) (fun _ _ _ h=>h) ?_;clear H a;intro a H
        refine Jg 42 H rfl rfl rfl (by decide) rfl (by as_aux_lemma=>kernel_rfl) (by as_aux_lemma=>kernel_rfl) (by as_aux_lemma=>kernel_rfl) (by as_aux_lemma=>kernel_rfl) (fun _ _ _ h=>h) ?_;clear H a;intro a H
        refine Jg 43 H rfl rfl rfl (by decide) rfl (by as_aux_lemma=>kernel_rfl) (by as_aux_lemma=>kernel_rfl) (by as_aux_lemma=>kernel_rfl) (by as_aux_lemma=>kernel_rfl) (fun _ _ _ h=>h) ?_;clear H a;intro a H
        refine Zg 44 H rfl (Zx rfl rfl) rfl (by as_aux_lemma=>kernel_rfl) (by as_aux_lemma=>kernel_rfl) (by as_aux_lemma=>kernel_rfl) (by as_aux_lemma=>kernel_rfl) (fun _ _ _ h=>h) ?_;clear H a;intro a H
        obtain rfl:=Option.some.inj hm
        exact jn _ _ _ H ⟨rfl,rfl,rfl,rfl,rfl,rfl,rfl,rfl,rfl,rfl,rfl,rfl,rfl,rfl,rfl,rfl,rfl,rfl,rfl,rfl,rfl,rfl,rfl,rfl,rfl,rfl,rfl,rfl,rfl,rfl,rfl,rfl,rfl,rfl,rfl,rfl,rfl,rfl,trivial⟩ ⟨hS,hW,Ext.rfl'⟩
      replace H:=H.know 122 rfl dB
      replace hm:=Zv hm dB
      refine Qq 37 H rfl rfl rfl (Zc rfl Zaq) rfl (by as_aux_lemma=>kernel_rfl) (by as_aux_lemma=>kernel_rfl) (by as_aux_lemma=>kernel_rfl) (by as_aux_lemma=>kernel_rfl) (fun _ _ _ h=>h) ?_;clear H a;intro a H
      refine Wm 38 H rfl rfl rfl (Zf rfl (LdC.old ((aY.blk 0 rfl).ld Zmt rfl) (Ext.trans' (Ext.trans' (Ext.trans' (Ext.trans' (Ext.trans' (Ext.trans' (Ext.trans' (Ext.trans' aZ.x a9.x) bA.x) bE.x) bF.x) bG.x) cR) c9) dZ) (Nat.le_refl _) (by simp))) rfl (by as_aux_lemma=>kernel_rfl) (by as_aux_lemma=>kernel_rfl) (by as_aux_lemma=>kernel_rfl) (by as_aux_lemma=>kernel_rfl) (fun _ _ _ h=>h) ?_;clear H a;intro a H
      obtain⟨m6,m7,gV,lS,lT⟩:=SlR.formV ((hS.own 25 rfl).slr rfl (fun x _=>Xk x))
      refine Qq 39 H rfl rfl rfl (Qc Tryz.underlying28 rfl gV) rfl (by as_aux_lemma=>kernel_rfl) (by as_aux_lemma=>kernel_rfl) (by as_aux_lemma=>kernel_rfl) (by as_aux_lemma=>kernel_rfl) (fun _ _ _ h=>h) ?_;clear H a;intro a H
      refine Qq 40 H rfl rfl rfl (Zc rfl Zbn) rfl (by as_aux_lemma=>kernel_rfl) (by as_aux_lemma=>kernel_rfl) (by as_aux_lemma=>kernel_rfl) (by as_aux_lemma=>kernel_rfl) (fun _ _ _ h=>h) ?_;clear H a;intro a H
      refine Wm 41 H rfl rfl rfl (Zf rfl (LdC.old ((aY.blk 18 rfl).ld Zom rfl) (Ext.trans' (Ext.trans' (Ext.trans' (Ext.trans' (Ext.trans' (Ext.trans' (Ext.trans' (Ext.trans' aZ.x a9.x) bA.x) bE.x) bF.x) bG.x) cR) c9) dZ) (Nat.le_refl _) (by simp))) rfl (by as_aux_lemma=>kernel_rfl) (by as_aux_lemma=>kernel_rfl) (by as_aux_lemma=>kernel_rfl) (by as_aux_lemma=>kernel_rfl) (fun _ _ _ h=>h) ?_;clear H a;intro a H
      obtain⟨m8,m9,gW,lU,lV⟩:=SlR.formV (aW.ext (Zi.mono _) hS.x)
      refine Qq 42 H rfl rfl rfl (Qc Tryz.underlying23 rfl gW) rfl (by as_aux_lemma=>kernel_rfl) (by as_aux_lemma=>kernel_rfl) (by as_aux_lemma=>kernel_rfl) (by as_aux_lemma=>kernel_rfl) (fun _ _ _ h=>h) ?_;clear H a;intro a H
      refine Qq 43 H rfl rfl rfl (Zel (i:=aA.1.Procs.length) (j:=a0.Procs.length) rfl rfl) rfl (by as_aux_lemma=>kernel_rfl) (by as_aux_lemma=>kernel_rfl) (by as_aux_lemma=>kernel_rfl) (by as_aux_lemma=>kernel_rfl) (fun _ _ _ h=>h) ?_;clear H a;intro a H
      refine Zg 44 H rfl (Zt rfl rfl) rfl (by as_aux_lemma=>kernel_rfl) (by as_aux_lemma=>kernel_rfl) (by as_aux_lemma=>kernel_rfl) (by as_aux_lemma=>kernel_rfl) (fun _ _ _ h=>h) ?_;clear H a;intro a H
      obtain rfl:=Option.some.inj hm
      exact jn _ _ _ H ⟨rfl,rfl,rfl,rfl,rfl,rfl,rfl,rfl,rfl,rfl,rfl,rfl,rfl,rfl,rfl,rfl,rfl,rfl,rfl,rfl,rfl,rfl,rfl,rfl,rfl,rfl,rfl,rfl,rfl,rfl,rfl,rfl,rfl,rfl,rfl,rfl,rfl,rfl,trivial⟩ ⟨hS,hW,Ext.rfl'⟩
    clear H hS hm hW a;intro a jQ H hR;simp only [ent,List.map_cons,List.map_nil] at H;obtain⟨hS,hW,fI⟩:=hR;have hm:=gU
    refine Zg 45 H rfl (Zd rfl) rfl (by as_aux_lemma=>kernel_rfl) (by as_aux_lemma=>kernel_rfl) (by as_aux_lemma=>kernel_rfl) (by as_aux_lemma=>kernel_rfl) (fun _ _ _ h=>h) ?_;clear H a;intro a H
    replace hm:=Zj hm;obtain⟨fQ,hm,gX⟩:=hm
    refine Zkw H 0 46 47 48 49 50 51 52 53 [(1,v1),(2,.pointer (some ⟨cH,0,none⟩)),(5,.pointer (some ⟨cI,0,none⟩)),(6,aT),(40,.bool cT),(41,.agg #[.int .i64 a0.Id,.bool a0.Mobile,aQ,aP,aR,.int .i64 a0.Events,aS]),(42,.agg #[.int .i64 aH.Id,.bool aH.Mobile,cN,cO,cP,.int .i64 aH.Events,cQ]),(43,cL),(44,.bool (!decide (cJ=.nil))),(80,.tuple #[.agg #[.int .i64 aA.1.Id,.int .i64 aA.1.Frame,.int .i64 aA.1.Epoch,aI,aJ,aK,aL,aM,aN,aO],aT]),(81,.agg #[.int .i64 a0.Id,.bool a0.Mobile,aQ,aP,aR,.int .i64 a0.Events,aS]),(82,.agg #[.int .i64 aD.Id,.bool aD.Mobile,bI,bJ,bK,.int .i64 aD.Events,bL]),(83,.tuple #[.agg #[.int .i64 aA.1.Id,.int .i64 aA.1.Frame,.int .i64 aA.1.Epoch,aI,aJ,aK,aL,aM,aN,aO],aT]),(84,.agg #[.int .i64 aA.1.Id,.int .i64 aA.1.Frame,.int .i64 aA.1.Epoch,aI,aJ,aK,aL,aM,aN,aO]),(85,aT),(86,aT),(87,.bool (!decide (aA.2=.nil))),(88,.bool false),(89,.agg #[.int .i64 a0.Id,.bool a0.Mobile,aQ,aP,aR,.int .i64 a0.Events,aS]),(90,.agg #[.int .i64 aE.Id,.bool aE.Mobile,bM,bN,bO,.int .i64 aE.Events,bP]),(91,.agg #[.int .i64 aA.1.Id,.int .i64 aA.1.Frame,.int .i64 aA.1.Epoch,aI,aJ,aK,aL,aM,aN,aO]),(92,.agg #[.int .i64 aB.Id,.int .i64 aB.Frame,.int .i64 aB.Epoch,bQ,bR,bS,bT,bU,bV,bW]),(93,cK),(94,.int .i64 ((aU.length : Nat) : Int)),(95,.bool (!decide (aU.length=0))),(96,.bool (!decide (aU.length=0))),(97,.bool false),(98,.agg #[.int .i64 a0.Id,.bool a0.Mobile,aQ,aP,aR,.int .i64 a0.Events,aS]),(99,.agg #[.int .i64 aF.Id,.bool aF.Mobile,bX,bY,bZ,.int .i64 aF.Events,b6]),(100,.agg #[.int .i64 aA.1.Id,.int .i64 aA.1.Frame,.int .i64 aA.1.Epoch,aI,aJ,aK,aL,aM,aN,aO]),(101,.agg #[.int .i64 aC.Id,.int .i64 aC.Frame,.int .i64 aC.Epoch,b7,b8,b9,cA,cB,cC,cD]),(102,bH),(103,.bool (!decide (aV=.nil))),(104,.bool (!decide (aV=.nil))),(111,.bool dL),(116,.bool dY),(121,.bool eA),(130,.bool fG),(139,.bool fQ)] (fun wl=>St NB w wl [erQ A bH aV,ownR 144 21 b7 aC.Procs.length (aC.Procs.flatMap Xf),ownR 3 1 b8 aC.Ready.length (aC.Ready.flatMap eI),ownR 163 2 b9 aC.Timers.length (aC.Timers.flatMap Jq),ownR 4 1 cA aC.Up.length (aC.Up.flatMap eF),ownR 3 1 cB aC.Sems.length (aC.Sems.flatMap eI),deepR 154 2 Qe cC aC.Ports,ownR 82 66 cD aC.Pages.length (aC.Pages.flatMap Jr),ownR 114 2 bX aF.Pages.length (aF.Pages.flatMap Zw),ownR 116 3 bY aF.Procs.length (aF.Procs.flatMap Zs),ownR 118 4 bZ aF.Ports.length (aF.Ports.flatMap Zp),ownR 3 1 b6 aF.Sems.length (aF.Sems.flatMap eI),ownR 3 1 cK aU.length (aU.flatMap eI),ownR 144 21 bQ aB.Procs.length (aB.Procs.flatMap Xf),ownR 3 1 bR aB.Ready.length (aB.Ready.flatMap eI),ownR 163 2 bS aB.Timers.length (aB.Timers.flatMap Jq),ownR 4 1 bT aB.Up.length (aB.Up.flatMap eF),ownR 3 1 bU aB.Sems.length (aB.Sems.flatMap eI),deepR 154 2 Qe bV aB.Ports,ownR 82 66 bW aB.Pages.length (aB.Pages.flatMap Jr),ownR 114 2 bM aE.Pages.length (aE.Pages.flatMap Zw),ownR 116 3 bN aE.Procs.length (aE.Procs.flatMap Zs),ownR 118 4 bO aE.Ports.length (aE.Ports.flatMap Zp),ownR 3 1 bP aE.Sems.length (aE.Sems.flatMap eI),blkR cI [.int .i64 aA.1.Id,.int .i64 aA.1.Frame,.int .i64 aA.1.Epoch,aI,aJ,aK,aL,aM,aN,aO] 34,ownR 144 21 aI aA.1.Procs.length (aA.1.Procs.flatMap Xf),ownR 3 1 aJ aA.1.Ready.length (aA.1.Ready.flatMap eI),ownR 163 2 aK aA.1.Timers.length (aA.1.Timers.flatMap Jq),ownR 4 1 aL aA.1.Up.length (aA.1.Up.flatMap eF),ownR 3 1 aM aA.1.Sems.length (aA.1.Sems.flatMap eI),deepR 154 2 Qe aN aA.1.Ports,ownR 82 66 aO aA.1.Pages.length (aA.1.Pages.flatMap Jr),erQ A aT aA.2,ownR 114 2 bI aD.Pages.length (aD.Pages.flatMap Zw),ownR 116 3 bJ aD.Procs.length (aD.Procs.flatMap Zs),ownR 118 4 bK aD.Ports.length (aD.Ports.flatMap Zp),ownR 3 1 bL aD.Sems.length (aD.Sems.flatMap eI),erQ A cL cJ,ownR 114 2 cN aH.Pages.length (aH.Pages.flatMap Zw),ownR 116 3 cO aH.Procs.length (aH.Procs.flatMap Zs),ownR 118 4 cP aH.Ports.length (aH.Ports.flatMap Zp),ownR 3 1 cQ aH.Sems.length (aH.Sems.flatMap eI),blkR cH [.int .i64 a0.Id,.bool a0.Mobile,aQ,aP,aR,.int .i64 a0.Events,aS] 27,ownR 144 21 dP aG.1.Procs.length (aG.1.Procs.flatMap Xf),ownR 3 1 dQ aG.1.Ready.length (aG.1.Ready.flatMap eI),ownR 163 2 dR aG.1.Timers.length (aG.1.Timers.flatMap Jq),ownR 4 1 dS aG.1.Up.length (aG.1.Up.flatMap eF),ownR 3 1 dT aG.1.Sems.length (aG.1.Sems.flatMap eI),deepR 154 2 Qe dU aG.1.Ports,ownR 82 66 dV aG.1.Pages.length (aG.1.Pages.flatMap Jr)] ∧ cM.heap.size ≤ wl.heap.size ∧ Ext jQ wl) (fun jn=>?_) ?_
    · rcases Bool.eq_false_or_eq_true fG with dC | dC
      · replace H:=H.know 131 rfl dC
        replace hm:=Zu hm dC
        refine Jg 46 H rfl rfl rfl (by decide) rfl (by as_aux_lemma=>kernel_rfl) (by as_aux_lemma=>kernel_rfl) (by as_aux_lemma=>kernel_rfl) (by as_aux_lemma=>kernel_rfl) (fun _ _ _ h=>h) ?_;clear H a;intro a H
        refine Jg 47 H rfl rfl rfl (by decide) rfl (by as_aux_lemma=>kernel_rfl) (by as_aux_lemma=>kernel_rfl) (by as_aux_lemma=>kernel_rfl) (by as_aux_lemma=>kernel_rfl) (fun _ _ _ h=>h) ?_;clear H a;intro a H
        refine Jg 48 H rfl rfl rfl (by decide) rfl (by as_aux_lemma=>kernel_rfl) (by as_aux_lemma=>kernel_rfl) (by as_aux_lemma=>kernel_rfl) (by as_aux_lemma=>kernel_rfl) (fun _ _ _ h=>h) ?_;clear H a;intro a H
        refine Jg 49 H rfl rfl rfl (by decide) rfl (by as_aux_lemma=>kernel_rfl) (by as_aux_lemma=>kernel_rfl) (by as_aux_lemma=>kernel_rfl) (by as_aux_lemma=>kernel_rfl) (fun _ _ _ h=>h) ?_;clear H a;intro a H
        refine Jg 50 H rfl rfl rfl (by decide) rfl (by as_aux_lemma=>kernel_rfl) (by as_aux_lemma=>kernel_rfl) (by as_aux_lemma=>kernel_rfl) (by as_aux_lemma=>kernel_rfl) (fun _ _ _ h=>h) ?_;clear H a;intro a H
        refine Jg 51 H rfl rfl rfl (by decide) rfl (by as_aux_lemma=>kernel_rfl) (by as_aux_lemma=>kernel_rfl) (by as_aux_lemma=>kernel_rfl) (by as_aux_lemma=>kernel_rfl) (fun _ _ _ h=>h) ?_;clear H a;intro a H
        refine Jg 52 H rfl rfl rfl (by decide) rfl (by as_aux_lemma=>kernel_rfl) (by as_aux_lemma=>kernel_rfl) (by as_aux_lemma=>kernel_rfl) (by as_aux_lemma=>kernel_rfl) (fun _ _ _ h=>h) ?_;clear H a;intro a H
        refine Zg 53 H rfl (Zx rfl rfl) rfl (by as_aux_lemma=>kernel_rfl) (by as_aux_lemma=>kernel_rfl) (by as_aux_lemma=>kernel_rfl) (by as_aux_lemma=>kernel_rfl) (fun _ _ _ h=>h) ?_;clear H a;intro a H
        obtain rfl:=Option.some.inj hm
        exact jn _ _ _ H ⟨rfl,rfl,rfl,rfl,rfl,rfl,rfl,rfl,rfl,rfl,rfl,rfl,rfl,rfl,rfl,rfl,rfl,rfl,rfl,rfl,rfl,rfl,rfl,rfl,rfl,rfl,rfl,rfl,rfl,rfl,rfl,rfl,rfl,rfl,rfl,rfl,rfl,rfl,rfl,trivial⟩ ⟨hS,hW,Ext.rfl'⟩
      replace H:=H.know 131 rfl dC
      replace hm:=Zv hm dC
      refine Qq 46 H rfl rfl rfl (Zc rfl Zgj) rfl (by as_aux_lemma=>kernel_rfl) (by as_aux_lemma=>kernel_rfl) (by as_aux_lemma=>kernel_rfl) (by as_aux_lemma=>kernel_rfl) (fun _ _ _ h=>h) ?_;clear H a;intro a H
      refine Wm 47 H rfl rfl rfl (Zf rfl (LdC.old ((aY.blk 0 rfl).ld ag32 rfl) (Ext.trans' (Ext.trans' (Ext.trans' (Ext.trans' (Ext.trans' (Ext.trans' (Ext.trans' (Ext.trans' (Ext.trans' aZ.x a9.x) bA.x) bE.x) bF.x) bG.x) cR) c9) dZ) fI) (Nat.le_refl _) (by simp))) rfl (by as_aux_lemma=>kernel_rfl) (by as_aux_lemma=>kernel_rfl) (by as_aux_lemma=>kernel_rfl) (by as_aux_lemma=>kernel_rfl) (fun _ _ _ h=>h) ?_;clear H a;intro a H
      obtain⟨nA,nB,gY,lW,lX⟩:=SlR.formV ((hS.own 31 rfl).slr rfl (fun x _=>Kz x))
      refine Qq 48 H rfl rfl rfl (Qc Tryz.underlying32 rfl gY) rfl (by as_aux_lemma=>kernel_rfl) (by as_aux_lemma=>kernel_rfl) (by as_aux_lemma=>kernel_rfl) (by as_aux_lemma=>kernel_rfl) (fun _ _ _ h=>h) ?_;clear H a;intro a H
      refine Qq 49 H rfl rfl rfl (Zc rfl Zap) rfl (by as_aux_lemma=>kernel_rfl) (by as_aux_lemma=>kernel_rfl) (by as_aux_lemma=>kernel_rfl) (by as_aux_lemma=>kernel_rfl) (fun _ _ _ h=>h) ?_;clear H a;intro a H
      refine Wm 50 H rfl rfl rfl (Zf rfl (LdC.old ((aY.blk 18 rfl).ld Zmo rfl) (Ext.trans' (Ext.trans' (Ext.trans' (Ext.trans' (Ext.trans' (Ext.trans' (Ext.trans' (Ext.trans' (Ext.trans' aZ.x a9.x) bA.x) bE.x) bF.x) bG.x) cR) c9) dZ) fI) (Nat.le_refl _) (by simp))) rfl (by as_aux_lemma=>kernel_rfl) (by as_aux_lemma=>kernel_rfl) (by as_aux_lemma=>kernel_rfl) (by as_aux_lemma=>kernel_rfl) (fun _ _ _ h=>h) ?_;clear H a;intro a H
      obtain⟨nC,nD,gZ,lY,lZ⟩:=SlR.formV (bB.ext (Zi.mono _) hS.x)
      refine Qq 51 H rfl rfl rfl (Qc Tryz.underlying22 rfl gZ) rfl (by as_aux_lemma=>kernel_rfl) (by as_aux_lemma=>kernel_rfl) (by as_aux_lemma=>kernel_rfl) (by as_aux_lemma=>kernel_rfl) (fun _ _ _ h=>h) ?_;clear H a;intro a H
      refine Qq 52 H rfl rfl rfl (Zel (i:=aA.1.Pages.length) (j:=a0.Pages.length) rfl rfl) rfl (by as_aux_lemma=>kernel_rfl) (by as_aux_lemma=>kernel_rfl) (by as_aux_lemma=>kernel_rfl) (by as_aux_lemma=>kernel_rfl) (fun _ _ _ h=>h) ?_;clear H a;intro a H
      refine Zg 53 H rfl (Zt rfl rfl) rfl (by as_aux_lemma=>kernel_rfl) (by as_aux_lemma=>kernel_rfl) (by as_aux_lemma=>kernel_rfl) (by as_aux_lemma=>kernel_rfl) (fun _ _ _ h=>h) ?_;clear H a;intro a H
      obtain rfl:=Option.some.inj hm
      exact jn _ _ _ H ⟨rfl,rfl,rfl,rfl,rfl,rfl,rfl,rfl,rfl,rfl,rfl,rfl,rfl,rfl,rfl,rfl,rfl,rfl,rfl,rfl,rfl,rfl,rfl,rfl,rfl,rfl,rfl,rfl,rfl,rfl,rfl,rfl,rfl,rfl,rfl,rfl,rfl,rfl,rfl,trivial⟩ ⟨hS,hW,Ext.rfl'⟩
    clear H hS hm hW a;intro a nE H hR;simp only [ent,List.map_cons,List.map_nil] at H;obtain⟨hS,hW,l9⟩:=hR;have hm:=gX
    refine Xc (by as_aux_lemma=>kernel_rfl) ?_
    refine Za ?_
    obtain rfl:=Option.some.inj hm;replace hm:=eK;try dsimp only at hm
    replace hS:=hS.pick 31 rfl;dsimp only [List.eraseIdx] at hS
    replace hS:=hS.pick 31 rfl;dsimp only [List.eraseIdx] at hS
    replace hS:=hS.pick 31 rfl;dsimp only [List.eraseIdx] at hS
    replace hS:=hS.pick 31 rfl;dsimp only [List.eraseIdx] at hS
    replace hS:=hS.pick 31 rfl;dsimp only [List.eraseIdx] at hS
    replace hS:=hS.pick 31 rfl;dsimp only [List.eraseIdx] at hS
    replace hS:=hS.pick 31 rfl;dsimp only [List.eraseIdx] at hS
    replace hS:=hS.pick 31 rfl;dsimp only [List.eraseIdx] at hS
    replace hS:=hS.pick 42 rfl;dsimp only [List.eraseIdx] at hS
    replace hS:=hS.tk9
    exact Uy fQ H ⟨rfl,rfl,rfl,rfl,trivial⟩ ⟨hm,hS⟩
  clear H hS hm a;intro d9 a nF H hR
  simp only [ent,List.map_cons,List.map_nil] at H;(try dsimp only at hR);obtain⟨hm,hS⟩:=hR;try dsimp only [Vf] at hm
  refine Zn H rfl (fun eM=>?_) (fun eM=>?_)
  · replace hm:=Zu hm eM
    refine wp_seq (wp_region_lit (n_q H (Zb rfl) rfl ?_));clear H a;intro a H
    refine Ze (Za (wp_ret (Zh ?_)))
    obtain rfl:=Option.some.inj hm
    replace hS:=hS.tk0
    refine Qx H (.inr rfl) rfl rfl ?_
    exact⟨rfl,hS.x⟩
  replace hm:=Zv hm eM
  refine wp_skip (Za (wp_seq (wp_seq (wp_region_lit (n_q H (Zc rfl Zbn) rfl (W_q (Zf rfl ((hS.blk 0 rfl).ld Zom rfl)) rfl ?_))))));clear H a;intro a H
  obtain⟨nG,nH,d5,mA,mB⟩:=SlR.formV (aW.ext (Zi.mono _) hS.x)
  refine n_q H (Qc Tryz.underlying23 rfl d5) rfl (W_q (Zd rfl) rfl ?_);clear H a;intro a H
  refine Ze (Za (wp_block ?_))
  replace hm:=Zj hm;obtain⟨fH,hm,fJ⟩:=hm;replace hm:=Ql hm;obtain⟨jR,hm⟩:=hm
  refine Kr (σ:=Nat × Nat) (fun (m,aX)=>[(1,v1),(2,.pointer (some ⟨cH,0,none⟩)),(5,.pointer (some ⟨cI,0,none⟩)),(141,aP),(142,.int .i64 ((a0.Procs.length : Nat) : Int)),(143,.int .i64 ((aX : Nat) : Int))]) (fun (m,aX) wl=>Ye (Xm a0 aA) m aX=some fH ∧ St NB w wl [blkR cH [.int .i64 a0.Id,.bool a0.Mobile,aQ,aP,aR,.int .i64 a0.Events,aS] 27,blkR cI [.int .i64 aA.1.Id,.int .i64 aA.1.Frame,.int .i64 aA.1.Epoch,aI,aJ,aK,aL,aM,aN,aO] 34,ownR 144 21 aI aA.1.Procs.length (aA.1.Procs.flatMap Xf),ownR 3 1 aJ aA.1.Ready.length (aA.1.Ready.flatMap eI),ownR 163 2 aK aA.1.Timers.length (aA.1.Timers.flatMap Jq),ownR 4 1 aL aA.1.Up.length (aA.1.Up.flatMap eF),ownR 3 1 aM aA.1.Sems.length (aA.1.Sems.flatMap eI),deepR 154 2 Qe aN aA.1.Ports,ownR 82 66 aO aA.1.Pages.length (aA.1.Pages.flatMap Jr)]) (fun (m,aX)=>m) (jR,0) H ⟨rfl,rfl,rfl,rfl,rfl,rfl,trivial⟩ ⟨hm,hS⟩ ?_
  clear H hS hm a;intro xx a nI H hR;obtain⟨m,aX⟩:=xx;simp only [ent,List.map_cons,List.map_nil] at H;(try dsimp only at hR);obtain⟨hm,hS⟩:=hR
  replace hm:=Qh hm;obtain⟨jS,jT,rfl,hm,eN⟩:=hm;try dsimp only [Xm] at hm
  refine wp_seq (wp_region_lit (n_q H (Yc (i:=aX) (j:=a0.Procs.length) rfl rfl) rfl ?_));clear H a;intro a H
  refine Ze (Za (wp_seq (Zn H rfl (fun d6=>?_) (fun d6=>?_))))
  · replace hm:=Zu hm d6
    have lH : aX < a0.Procs.length:=of_decide_eq_true d6
    refine wp_skip (Za (wp_seq (wp_block (wp_seq (wp_region_lit (n_q H (Zd rfl) rfl ?_))))));clear H a;intro a H
    replace hm:=Zj hm;obtain⟨dM,eO,hm⟩:=hm
    obtain⟨lI,eV⟩:=SlR.adV (aW.ext (Zi.mono _) hS.x) d5 eO
    refine n_q H (Ug (i:=aX) Tryz.underlying23 Zay rfl d5 eV rfl (Zb5 eO)) rfl (W_q (Zf rfl (SlR.ldAggV (aW.ext (Zi.mono _) hS.x) d5 eV Zk1 Zay eO)) rfl ?_);clear H a;intro a H
    refine Jb H Zhs rfl ?_
    clear H;intro nJ nK hN g6 hs;clear a;intro a H
    replace hS:=hS.newBlk hN g6 hs;clear hN hs
    refine n_q H (Zb rfl) rfl ?_;clear H a;intro a H
    refine Qi H rfl rfl (vs:=[.int .i64 dM.Entry,.int .i64 dM.Prio,.bool dM.Auto]) rfl Zay (hS.blk 0 rfl) rfl (by simp) ?_
    clear H;intro nL hN g7 hz;clear a;intro a H;replace hS:=hS.setBlk hN g7;clear hN hz
    refine Ze (Za ?_)
    replace hm:=Zj hm;obtain⟨nM,hm,eP⟩:=hm
    refine Gm (σ:=Bool) H (fun eC=>[(1,v1),(2,.pointer (some ⟨cH,0,none⟩)),(5,.pointer (some ⟨cI,0,none⟩)),(141,aP),(142,.int .i64 ((a0.Procs.length : Nat) : Int)),(143,.int .i64 ((aX : Nat) : Int)),(180,.bool eC)]) (fun eC wl=>(Wc aX) eC=some jT ∧ St NB w wl [blkR cH [.int .i64 a0.Id,.bool a0.Mobile,aQ,aP,aR,.int .i64 a0.Events,aS] 27,blkR cI [.int .i64 aA.1.Id,.int .i64 aA.1.Frame,.int .i64 aA.1.Epoch,aI,aJ,aK,aL,aM,aN,aO] 34,ownR 144 21 aI aA.1.Procs.length (aA.1.Procs.flatMap Xf),ownR 3 1 aJ aA.1.Ready.length (aA.1.Ready.flatMap eI),ownR 163 2 aK aA.1.Timers.length (aA.1.Timers.flatMap Jq),ownR 4 1 aL aA.1.Up.length (aA.1.Up.flatMap eF),ownR 3 1 aM aA.1.Sems.length (aA.1.Sems.flatMap eI),deepR 154 2 Qe aN aA.1.Ports,ownR 82 66 aO aA.1.Pages.length (aA.1.Pages.flatMap Jr)]) ?_ ?_
    · skip
      refine Gw (by kernel_rfl) (by kernel_rfl) ?_
      refine Xn H (Zc rfl Zaq) rfl ?_;clear H a;intro a H
      refine Xn H (Zf rfl ((hS.blk 2 rfl).ld Zmt rfl)) rfl ?_;clear H a;intro a H
      refine Xn H (Zd rfl) rfl ?_;clear H a;intro a H
      obtain⟨nN,nO,cF,mC,mD⟩:=SlR.formV ((hS.own 3 rfl).slr rfl (fun x _=>Xk x))
      replace hm:=Zj hm;obtain⟨fR,eQ,hm⟩:=hm
      obtain⟨lJ,eW⟩:=SlR.adV ((hS.own 3 rfl).slr rfl (fun x _=>Xk x)) cF eQ
      refine Xn H (Ug (i:=aX) Tryz.underlying28 Zcx rfl cF eW rfl (Zb5 eQ)) rfl ?_;clear H a;intro a H
      refine Xn H (Vg rfl Ze2) rfl ?_;clear H a;intro a H
      refine Xn H (Zf rfl (SlR.ldCellV (j:=17) (u:=Value.int .i64 fR.State) ((hS.own 3 rfl).slr rfl (fun x _=>Xk x)) cF eW ag3 eQ (by simp [Xf]))) rfl ?_;clear H a;intro a H
      refine Xn H (Jy rfl rfl) rfl ?_;clear H a;intro a H
      refine Xn H (Zc rfl Zmq) rfl ?_;clear H a;intro a H
      refine Xn H (Zf rfl ((hS.blk 0 rfl).ld ag4 rfl)) rfl ?_;clear H a;intro a H
      refine Xn H (q_neqB Tryz.underlying4 rfl rfl) rfl ?_;clear H a;intro a H
      refine Xn H (Zd rfl) rfl ?_;clear H a;intro a H
      rcases Bool.eq_false_or_eq_true (!(decide (fR.State=1) == dM.Auto)) with dD|dD
      · replace H:=H.know 158 rfl dD
        replace hm:=Zu hm dD
        refine Ty H rfl rfl (by decide) rfl ?_;clear H a;intro a H
        refine Ty H rfl rfl (by decide) rfl ?_;clear H a;intro a H
        refine Ty H rfl rfl (by decide) rfl ?_;clear H a;intro a H
        refine Ty H rfl rfl (by decide) rfl ?_;clear H a;intro a H
        refine Ty H rfl rfl (by decide) rfl ?_;clear H a;intro a H
        refine Ty H rfl rfl (by decide) rfl ?_;clear H a;intro a H
        refine Ty H rfl rfl (by decide) rfl ?_;clear H a;intro a H
        refine Ty H rfl rfl (by decide) rfl ?_;clear H a;intro a H
        refine Ty H rfl rfl (by decide) rfl ?_;clear H a;intro a H
        refine Ty H rfl rfl (by decide) rfl ?_;clear H a;intro a H
        refine Xn H (Zx rfl rfl) rfl ?_;clear H a;intro a H
        refine Xn H (Zd rfl) rfl ?_;clear H a;intro a H
        refine Ty H rfl rfl (by decide) rfl ?_;clear H a;intro a H
        refine Ty H rfl rfl (by decide) rfl ?_;clear H a;intro a H
        refine Ty H rfl rfl (by decide) rfl ?_;clear H a;intro a H
        refine Ty H rfl rfl (by decide) rfl ?_;clear H a;intro a H
        refine Ty H rfl rfl (by decide) rfl ?_;clear H a;intro a H
        refine Ty H rfl rfl (by decide) rfl ?_;clear H a;intro a H
        refine Ty H rfl rfl (by decide) rfl ?_;clear H a;intro a H
        refine Ty H rfl rfl (by decide) rfl ?_;clear H a;intro a H
        refine Ty H rfl rfl (by decide) rfl ?_;clear H a;intro a H
        refine Xn H (Zx rfl rfl) rfl ?_;clear H a;intro a H
        refine Tg ?_;intro nP g8
        replace hS:=hS.ext g8
        refine Za ?_
        obtain rfl:=Option.some.inj hm;replace hm:=eP;try dsimp only at hm
        replace hS:=hS.pk9
        replace hS:=hS.pk9
        replace hS:=hS.pk9
        replace hS:=hS.pk9
        replace hS:=hS.pk9
        replace hS:=hS.pk9
        replace hS:=hS.pk9
        replace hS:=hS.pk9
        replace hS:=hS.pk9
        replace hS:=hS.tk9
        exact Uy true H ⟨rfl,rfl,rfl,rfl,rfl,rfl,rfl,trivial⟩ ⟨hm,hS⟩
      replace H:=H.know 158 rfl dD
      replace hm:=Zv hm dD
      refine Tq H rfl rfl ?_
      refine Xn H (Zc rfl Zaq) rfl ?_;clear H a;intro a H
      refine Tq H rfl rfl ?_
      refine Xn H (Zf rfl ((hS.blk 2 rfl).ld Zmt rfl)) rfl ?_;clear H a;intro a H
      refine Tq H rfl rfl ?_
      refine Xn H (Zd rfl) rfl ?_;clear H a;intro a H
      refine Tq H rfl rfl ?_
      replace hm:=Zj hm;obtain⟨fS,eR,hm⟩:=hm
      obtain⟨lK,eX⟩:=SlR.adV ((hS.own 3 rfl).slr rfl (fun x _=>Xk x)) cF eR
      refine Xn H (Ug (i:=aX) Tryz.underlying28 Zcx rfl cF eX rfl (Zb5 eR)) rfl ?_;clear H a;intro a H
      refine Tq H rfl rfl ?_
      refine Xn H (Vg rfl Zt7) rfl ?_;clear H a;intro a H
      refine Tq H rfl rfl ?_
      refine Xn H (Zf rfl (SlR.ldCellV (j:=16) (u:=Value.int .u32 fS.Pc) ((hS.own 3 rfl).slr rfl (fun x _=>Xk x)) cF eX Zto eR (by simp [Xf]))) rfl ?_;clear H a;intro a H
      refine Tq H rfl rfl ?_
      refine Xn H (Hz Tryz.underlying101 Tryz.underlying3 ⟨_,rfl⟩ rfl) rfl ?_;clear H a;intro a H
      refine Tq H rfl rfl ?_
      refine Xn H (Zc rfl Zf4) rfl ?_;clear H a;intro a H
      refine Tq H rfl rfl ?_
      refine Xn H (Zf rfl ((hS.blk 0 rfl).ld ag3 rfl)) rfl ?_;clear H a;intro a H
      refine Tq H rfl rfl ?_
      refine Xn H (Th rfl rfl) rfl ?_;clear H a;intro a H
      refine Xn H (Zt rfl rfl) rfl ?_;clear H a;intro a H
      refine Xn H (Zd rfl) rfl ?_;clear H a;intro a H
      rcases Bool.eq_false_or_eq_true (!decide ((IntKind.i64.wrap fS.Pc)=dM.Entry)) with dE|dE
      · replace H:=H.know 170 rfl dE
        replace hm:=Zu hm dE
        refine Ty H rfl rfl (by decide) rfl ?_;clear H a;intro a H
        refine Ty H rfl rfl (by decide) rfl ?_;clear H a;intro a H
        refine Ty H rfl rfl (by decide) rfl ?_;clear H a;intro a H
        refine Ty H rfl rfl (by decide) rfl ?_;clear H a;intro a H
        refine Ty H rfl rfl (by decide) rfl ?_;clear H a;intro a H
        refine Ty H rfl rfl (by decide) rfl ?_;clear H a;intro a H
        refine Ty H rfl rfl (by decide) rfl ?_;clear H a;intro a H
        refine Ty H rfl rfl (by decide) rfl ?_;clear H a;intro a H
        refine Ty H rfl rfl (by decide) rfl ?_;clear H a;intro a H
        refine Xn H (Zx rfl rfl) rfl ?_;clear H a;intro a H
        refine Tg ?_;intro nQ g9
        replace hS:=hS.ext g9
        refine Za ?_
        obtain rfl:=Option.some.inj hm;replace hm:=eP;try dsimp only at hm
        replace hS:=hS.pk9
        replace hS:=hS.pk9
        replace hS:=hS.pk9
        replace hS:=hS.pk9
        replace hS:=hS.pk9
        replace hS:=hS.pk9
        replace hS:=hS.pk9
        replace hS:=hS.pk9
        replace hS:=hS.pk9
        replace hS:=hS.tk9
        exact Uy true H ⟨rfl,rfl,rfl,rfl,rfl,rfl,rfl,trivial⟩ ⟨hm,hS⟩
      replace H:=H.know 170 rfl dE
      replace hm:=Zv hm dE
      refine Tq H rfl rfl ?_
      refine Xn H (Zc rfl Zaq) rfl ?_;clear H a;intro a H
      refine Tq H rfl rfl ?_
      refine Xn H (Zf rfl ((hS.blk 2 rfl).ld Zmt rfl)) rfl ?_;clear H a;intro a H
      refine Tq H rfl rfl ?_
      refine Xn H (Zd rfl) rfl ?_;clear H a;intro a H
      refine Tq H rfl rfl ?_
      replace hm:=Zj hm;obtain⟨fT,eT,hm⟩:=hm
      obtain⟨lL,eY⟩:=SlR.adV ((hS.own 3 rfl).slr rfl (fun x _=>Xk x)) cF eT
      refine Xn H (Ug (i:=aX) Tryz.underlying28 Zcx rfl cF eY rfl (Zb5 eT)) rfl ?_;clear H a;intro a H
      refine Tq H rfl rfl ?_
      refine Xn H (Vg rfl Zp7) rfl ?_;clear H a;intro a H
      refine Tq H rfl rfl ?_
      refine Xn H (Zf rfl (SlR.ldCellV (j:=18) (u:=Value.int .i64 fT.Prio) ((hS.own 3 rfl).slr rfl (fun x _=>Xk x)) cF eY ag3 eT (by simp [Xf]))) rfl ?_;clear H a;intro a H
      refine Tq H rfl rfl ?_
      refine Xn H (Zc rfl Zhp) rfl ?_;clear H a;intro a H
      refine Tq H rfl rfl ?_
      refine Xn H (Zf rfl ((hS.blk 0 rfl).ld ag3 rfl)) rfl ?_;clear H a;intro a H
      refine Tq H rfl rfl ?_
      refine Xn H (Th rfl rfl) rfl ?_;clear H a;intro a H
      refine Xn H (Zt rfl rfl) rfl ?_;clear H a;intro a H
      refine Tg ?_;intro nR hH
      replace hS:=hS.ext hH
      refine Za ?_
      obtain rfl:=Option.some.inj hm;replace hm:=eP;try dsimp only at hm
      replace hS:=hS.pk9
      replace hS:=hS.pk9
      replace hS:=hS.pk9
      replace hS:=hS.pk9
      replace hS:=hS.pk9
      replace hS:=hS.pk9
      replace hS:=hS.pk9
      replace hS:=hS.pk9
      replace hS:=hS.pk9
      replace hS:=hS.tk9
      exact Uy (!decide (fT.Prio=dM.Prio)) H ⟨rfl,rfl,rfl,rfl,rfl,rfl,rfl,trivial⟩ ⟨hm,hS⟩
    clear H hS hm a;intro eC a nS H hR
    simp only [ent,List.map_cons,List.map_nil] at H;(try dsimp only at hR);obtain⟨hm,hS⟩:=hR;try dsimp only [Wc] at hm
    refine Zn H rfl (fun eU=>?_) (fun eU=>?_)
    · replace hm:=Zu hm eU
      refine wp_seq (wp_region_lit (n_q H (Zb rfl) rfl ?_));clear H a;intro a H
      refine Ze (Za (wp_ret (Zl (Zh (Zh (Zl (Zh ?_)))))))
      obtain rfl:=Option.some.inj hm;have hz : _=fH:=eN;subst hz;replace hm:=fJ;try dsimp only at hm
      obtain rfl:=Option.some.inj hm
      replace hS:=hS.tk0
      refine Qx H (.inr rfl) rfl rfl ?_
      exact⟨rfl,hS.x⟩
    replace hm:=Zv hm eU
    refine wp_skip (Zo (Za (wp_region_lit (n_q H (Yt (i:=aX) (j:=1) rfl rfl (by omega)) rfl (W_q (Zd rfl) rfl ?_)))));clear H a;intro a H
    refine Ze (Za ?_)
    obtain rfl:=Option.some.inj hm
    exact Uz (jS,aX + 1) H ⟨rfl,rfl,rfl,rfl,rfl,rfl,trivial⟩ ⟨eN,hS⟩ (Nat.lt_succ_self _)
  replace hm:=Zv hm d6
  refine wp_exit (Zr (Zr (Qf ?_)))
  obtain rfl:=Option.some.inj hm;have hz : _=fH:=eN;subst hz;replace hm:=fJ;try dsimp only at hm
  refine Za (wp_seq (wp_region_lit (n_q H (Zf rfl ((hS.blk 0 rfl).ldAll Zda Zav)) rfl ?_)));clear H a;intro a H
  replace hm:=Zj hm;obtain⟨eD,hJ,hm⟩:=hm
  refine Zk H rfl Zrt (Kd (A:=A) (⟨_,_,_,_,rfl,(bB.ext (Zi.mono _) hS.x),(aW.ext (Zi.mono _) hS.x),(bC.ext (Zi.mono _) hS.x),(bD.ext (Zi.mono _) hS.x)⟩ : Xa _ [.int .i64 a0.Id,.bool a0.Mobile,aQ,aP,aR,.int .i64 a0.Events,aS] a0) hJ) rfl ?_
  clear H;intro nT nU hv;clear a;intro a H;obtain⟨jU,jV,jW,jX,rfl,hU⟩:=hv
  replace hS:=hS.new hU;simp only [List.cons_append,List.nil_append] at hS
  replace hm:=Zj hm;obtain⟨eE,hY,hm⟩:=hm
  refine Zk H rfl en47 (Zai (A:=A) (hG.ext hS.x) (⟨_,_,_,_,rfl,((hS.own 0 rfl).slr rfl (fun _ _=>rfl)),((hS.own 1 rfl).slr rfl (fun _ _=>rfl)),((hS.own 2 rfl).slr rfl (fun _ _=>rfl)),((hS.own 3 rfl).slr rfl (fun _ _=>rfl))⟩ : Xa _ [.int .i64 eD.Id,.bool eD.Mobile,jU,jV,jW,.int .i64 eD.Events,jX] eD) hY) rfl ?_
  clear H;intro nV nW hv;clear a;intro a H;obtain⟨nX,fU,rfl,hZ⟩:=hv
  replace hS:=hS.new hZ;simp only [List.cons_append,List.nil_append] at hS
  refine n_q H (Zd rfl) rfl (W_q (Zm rfl rfl) rfl (W_q (Zm rfl rfl) rfl (W_q (Zb rfl) rfl (W_q (Zb rfl) rfl ?_))));clear H a;intro a H
  refine Ze (Za (wp_seq (wp_region_lit (Qb H Tryz.underlying100 sz5 ze5 rfl rfl rfl (cs:=[]) rfl rfl ?_))))
  clear H;intro nY nZ hN iA hs;clear a;intro a H
  replace hS:=hS.newBlk hN iA hs;clear hN hs
  replace hS:=hS.blkOwnL (e:=eB) (k:=1) ([] : List UInt8) rfl rfl (by simp [maxLen])
  refine n_q H (Zd rfl) rfl ?_;clear H a;intro a H
  replace hm:=Za6 hm;obtain⟨iB,hm⟩:=hm
  refine Zbv (e:=eB) H rfl rfl Tryz.underlying100 Tryz.underlying100 (by simp) el5 (hS.own 0 rfl) (((hS.own 1 rfl).slr rfl (fun _ _=>rfl)).src (fun _ _=>rfl)) Zi1 iB (by simp only [maxLen];omega) rfl ?_
  clear H;intro n6 n7 hN iC hb;clear a;intro a H;replace hS:=hS.setOwn hN iC hb;clear hN hb
  replace hm:=Zj hm;obtain⟨cG,iD,hm⟩:=hm
  refine Zk H rfl en49 (Zfn (A:=A) (hG.ext hS.x) ((hS.own 0 rfl).slr rfl (fun _ _=>rfl)) iD) rfl ?_
  clear H;intro n8 n9 hv;clear a;intro a H;obtain⟨fV,fW,fX,fY,fZ,rfl,iE⟩:=hv
  replace hS:=hS.new iE;simp only [List.cons_append,List.nil_append] at hS
  refine n_q H (Zd rfl) rfl (W_q (Zm rfl rfl) rfl (W_q (Zm rfl rfl) rfl ?_));clear H a;intro a H
  refine Jb H Zms rfl ?_
  clear H;intro oA oB hN iF hs;clear a;intro a H
  replace hS:=hS.newBlk hN iF hs;clear hN hs
  refine Qi H rfl rfl (vs:=[.int .i64 cG.1.Id,.bool cG.1.Mobile,fV,fW,fX,.int .i64 cG.1.Events,fY]) rfl Zav (hS.blk 0 rfl) rfl (by simp [(((hS.own 1 rfl).slr rfl (fun _ _=>rfl))).one,(((hS.own 2 rfl).slr rfl (fun _ _=>rfl))).one,(((hS.own 3 rfl).slr rfl (fun _ _=>rfl))).one,(((hS.own 4 rfl).slr rfl (fun _ _=>rfl))).one]) ?_
  clear H;intro oC hN iG hz;clear a;intro a H;replace hS:=hS.setBlk hN iG;clear hN hz
  refine n_q H (Zb rfl) rfl ?_;clear H a;intro a H
  refine Ze (Za (wp_seq (wp_region_lit (n_q H (Zf rfl ((hS.blk 13 rfl).ldAll Zda Zav)) rfl ?_))));clear H a;intro a H
  replace hm:=Zj hm;obtain⟨eG,iH,hm⟩:=hm
  refine Zk H rfl Zrt (Kd (A:=A) (⟨_,_,_,_,rfl,(bB.ext (Zi.mono _) hS.x),(aW.ext (Zi.mono _) hS.x),(bC.ext (Zi.mono _) hS.x),(bD.ext (Zi.mono _) hS.x)⟩ : Xa _ [.int .i64 a0.Id,.bool a0.Mobile,aQ,aP,aR,.int .i64 a0.Events,aS] a0) iH) rfl ?_
  clear H;intro oD oE hv;clear a;intro a H;obtain⟨jY,jZ,j0,j1,rfl,iI⟩:=hv
  replace hS:=hS.new iI;simp only [List.cons_append,List.nil_append] at hS
  replace hm:=Zj hm;obtain⟨dN,iJ,hm⟩:=hm
  refine Zk H rfl en67 (Zer (A:=A) (hG.ext hS.x) (⟨_,_,_,_,rfl,((hS.own 0 rfl).slr rfl (fun _ _=>rfl)),((hS.own 1 rfl).slr rfl (fun _ _=>rfl)),((hS.own 2 rfl).slr rfl (fun _ _=>rfl)),((hS.own 3 rfl).slr rfl (fun _ _=>rfl))⟩ : Xa _ [.int .i64 eG.Id,.bool eG.Mobile,jY,jZ,j0,.int .i64 eG.Events,j1] eG) iJ) rfl ?_
  clear H;intro oF dO hv;clear a;intro a H;obtain⟨f3,rfl,iK⟩:=hv
  replace hS:=hS.new iK;simp only [List.cons_append,List.nil_append] at hS
  refine n_q H (Zd rfl) rfl (W_q (Zm rfl rfl) rfl (W_q (Zm rfl rfl) rfl (W_q (Zb rfl) rfl (W_q (Zb rfl) rfl ?_))));clear H a;intro a H
  refine Ze (Za (wp_seq (wp_region_lit (n_q H (Zd rfl) rfl (W_q (Xi (Zc9 Tryz.underlying39 rfl rfl (hS.any 13 rfl : IsE A dO fU eE.2).form) (show _=Value.bool (decide (eE.2=.nil)) by rw [Xu.isNil (hS.any 13 rfl : IsE A dO fU eE.2)])) rfl (W_q (Zd rfl) rfl ?_))))));clear H a;intro a H
  rcases Bool.eq_false_or_eq_true (decide (eE.2=.nil)) with dF|dF
  · replace H:=H.know 203 rfl dF
    replace hm:=Zu hm dF
    refine Kq H rfl rfl (n_q H (Zd rfl) rfl (Zy rfl rfl (W_q (Xi (Zc9 Tryz.underlying39 rfl rfl (hS.any 10 rfl : IsE A dO fZ cG.2).form) (show _=Value.bool (decide (cG.2=.nil)) by rw [Xu.isNil (hS.any 10 rfl : IsE A dO fZ cG.2)])) rfl (W_q (Zx rfl rfl) rfl (W_q (Zd rfl) rfl ?_)))));clear H a;intro a H
    rcases Bool.eq_false_or_eq_true (decide (cG.2=.nil)) with dG|dG
    · replace H:=H.know 207 rfl dG
      replace hm:=Zu hm dG
      refine Kq H rfl rfl (n_q H (Zd rfl) rfl (Zy rfl rfl (W_q (Xi (Zc9 Tryz.underlying39 rfl rfl (hS.any 0 rfl : IsE A dO f3 dN.2).form) (show _=Value.bool (decide (dN.2=.nil)) by rw [Xu.isNil (hS.any 0 rfl : IsE A dO f3 dN.2)])) rfl (W_q (Zx rfl rfl) rfl (W_q (Zd rfl) rfl ?_)))));clear H a;intro a H
      rcases Bool.eq_false_or_eq_true (decide (dN.2=.nil)) with dH|dH
      · replace H:=H.know 211 rfl dH
        replace hm:=Zu hm dH
        refine Kq H rfl rfl (n_q H (Zf rfl ((hS.blk 5 rfl).ldAll Zda Zav)) rfl (Zy rfl rfl (W_q (Zf rfl ((hS.blk 18 rfl).ldAll Zda Zav)) rfl (Zy rfl rfl ?_))));clear H a;intro a H
        replace hm:=Zj hm;obtain⟨j2,iL,hm⟩:=hm
        refine Zk H rfl en58 (Zj7 (A:=A) (⟨_,_,_,_,rfl,((hS.own 6 rfl).slr rfl (fun _ _=>rfl)),((hS.own 7 rfl).slr rfl (fun _ _=>rfl)),((hS.own 8 rfl).slr rfl (fun _ _=>rfl)),((hS.own 9 rfl).slr rfl (fun _ _=>rfl))⟩ : Xa _ [.int .i64 cG.1.Id,.bool cG.1.Mobile,fV,fW,fX,.int .i64 cG.1.Events,fY] cG.1) (⟨_,_,_,_,rfl,(bB.ext (Zi.mono _) hS.x),(aW.ext (Zi.mono _) hS.x),(bC.ext (Zi.mono _) hS.x),(bD.ext (Zi.mono _) hS.x)⟩ : Xa _ [.int .i64 a0.Id,.bool a0.Mobile,aQ,aP,aR,.int .i64 a0.Events,aS] a0) iL) rfl ?_
        clear H;intro oG oH hv;clear a;intro a H;obtain⟨rfl,iM⟩:=hv
        replace hS:=hS.ext iM
        refine n_q H (Zx rfl rfl) rfl (W_q (Zd rfl) rfl ?_);clear H a;intro a H
        rcases Bool.eq_false_or_eq_true j2 with dI|dI
        · replace H:=H.know 216 rfl dI
          replace hm:=Zu hm dI
          refine Kq H rfl rfl (n_q H (Zd rfl) rfl (Zy rfl rfl (W_q (Zq5 rfl rfl) rfl (W_q (Zx rfl rfl) rfl (W_q (Zd rfl) rfl ?_)))));clear H a;intro a H
          rcases Bool.eq_false_or_eq_true (decide (dN.1 ≤ 4096)) with dJ|dJ
          · replace H:=H.know 220 rfl dJ
            replace hm:=Zu hm dJ
            refine Kq H rfl rfl (n_q H (Zd rfl) rfl (Zy rfl rfl (W_q (Zcd rfl rfl) rfl (W_q (Zx rfl rfl) rfl (W_q (Zd rfl) rfl ?_)))));clear H a;intro a H
            rcases Bool.eq_false_or_eq_true (decide (0 < dN.1)) with dK|dK
            · replace H:=H.know 224 rfl dK
              replace hm:=Zu hm dK
              refine Kq H rfl rfl (n_q H (Zd rfl) rfl (Zy rfl rfl ?_));clear H a;intro a H
              replace hm:=Zj hm;obtain⟨oI,iN,hm⟩:=hm
              refine Zk H rfl en68 (Zcq (A:=A) (hG.ext hS.x) (h1.ext (Zi.mono _) hS.x) iN) rfl ?_
              clear H;intro oJ oK hv;clear a;intro a H;obtain⟨rfl,iO⟩:=hv
              replace hS:=hS.ext iO
              refine n_q H (Zx rfl rfl) rfl (W_q (Zb rfl) rfl ?_);clear H a;intro a H
              refine Ze (Za (wp_ret ?_))
              obtain rfl:=Option.some.inj hm
              replace hS:=hS.tk0
              refine Qx H (.inr rfl) rfl rfl ?_
              exact⟨rfl,hS.x⟩
            replace H:=H.know 224 rfl dK
            replace hm:=Zv hm dK
            refine Tp H rfl rfl (by decide) rfl (Zz rfl rfl (by decide) rfl (W_q (Zt rfl rfl) rfl (W_q (Zb rfl) rfl ?_)));clear H a;intro a H
            refine Ze (Za (wp_ret ?_))
            obtain rfl:=Option.some.inj hm
            replace hS:=hS.tk0
            refine Qx H (.inr rfl) rfl rfl ?_
            exact⟨rfl,hS.x⟩
          replace H:=H.know 220 rfl dJ
          replace hm:=Zv hm dJ
          refine Tp H rfl rfl (by decide) rfl (Zz rfl rfl (by decide) rfl (W_q (Zt rfl rfl) rfl (W_q (Zd rfl) rfl (Zz rfl rfl (by decide) rfl (Zz rfl rfl (by decide) rfl (W_q (Zt rfl rfl) rfl (W_q (Zb rfl) rfl ?_)))))));clear H a;intro a H
          refine Ze (Za (wp_ret ?_))
          obtain rfl:=Option.some.inj hm
          replace hS:=hS.tk0
          refine Qx H (.inr rfl) rfl rfl ?_
          exact⟨rfl,hS.x⟩
        replace H:=H.know 216 rfl dI
        replace hm:=Zv hm dI
        refine Tp H rfl rfl (by decide) rfl (Zz rfl rfl (by decide) rfl (W_q (Zt rfl rfl) rfl (W_q (Zd rfl) rfl (Zz rfl rfl (by decide) rfl (Zz rfl rfl (by decide) rfl (W_q (Zt rfl rfl) rfl (W_q (Zd rfl) rfl (Zz rfl rfl (by decide) rfl (Zz rfl rfl (by decide) rfl (W_q (Zt rfl rfl) rfl (W_q (Zb rfl) rfl ?_)))))))))));clear H a;intro a H
        refine Ze (Za (wp_ret ?_))
        obtain rfl:=Option.some.inj hm
        replace hS:=hS.tk0
        refine Qx H (.inr rfl) rfl rfl ?_
        exact⟨rfl,hS.x⟩
      replace H:=H.know 211 rfl dH
      replace hm:=Zv hm dH
      refine Tp H rfl rfl (by decide) rfl (Zz rfl rfl (by decide) rfl (Zz rfl rfl (by decide) rfl (W_q (Zt rfl rfl) rfl (W_q (Zd rfl) rfl (Zz rfl rfl (by decide) rfl (Zz rfl rfl (by decide) rfl (W_q (Zt rfl rfl) rfl (W_q (Zd rfl) rfl (Zz rfl rfl (by decide) rfl (Zz rfl rfl (by decide) rfl (W_q (Zt rfl rfl) rfl ?_)))))))))));clear H a;intro a H
      refine n_q H (Zd rfl) rfl (Zz rfl rfl (by decide) rfl (Zz rfl rfl (by decide) rfl (W_q (Zt rfl rfl) rfl (W_q (Zb rfl) rfl ?_))));clear H a;intro a H
      refine Ze (Za (wp_ret ?_))
      obtain rfl:=Option.some.inj hm
      replace hS:=hS.tk0
      refine Qx H (.inr rfl) rfl rfl ?_
      exact⟨rfl,hS.x⟩
    replace H:=H.know 207 rfl dG
    replace hm:=Zv hm dG
    refine Tp H rfl rfl (by decide) rfl (Zz rfl rfl (by decide) rfl (W_q (Zt rfl rfl) rfl (W_q (Zd rfl) rfl (Zz rfl rfl (by decide) rfl (Zz rfl rfl (by decide) rfl (Zz rfl rfl (by decide) rfl (W_q (Zt rfl rfl) rfl (W_q (Zd rfl) rfl (Zz rfl rfl (by decide) rfl (Zz rfl rfl (by decide) rfl (W_q (Zt rfl rfl) rfl ?_)))))))))));clear H a;intro a H
    refine n_q H (Zd rfl) rfl (Zz rfl rfl (by decide) rfl (Zz rfl rfl (by decide) rfl (W_q (Zt rfl rfl) rfl (W_q (Zd rfl) rfl (Zz rfl rfl (by decide) rfl (Zz rfl rfl (by decide) rfl (W_q (Zt rfl rfl) rfl (W_q (Zb rfl) rfl ?_))))))));clear H a;intro a H
    refine Ze (Za (wp_ret ?_))
    obtain rfl:=Option.some.inj hm
    replace hS:=hS.tk0
    refine Qx H (.inr rfl) rfl rfl ?_
    exact⟨rfl,hS.x⟩
  replace H:=H.know 203 rfl dF
  replace hm:=Zv hm dF
  refine Tp H rfl rfl (by decide) rfl (Zz rfl rfl (by decide) rfl (W_q (Zt rfl rfl) rfl (W_q (Zd rfl) rfl (Zz rfl rfl (by decide) rfl (Zz rfl rfl (by decide) rfl (W_q (Zt rfl rfl) rfl (W_q (Zd rfl) rfl (Zz rfl rfl (by decide) rfl (Zz rfl rfl (by decide) rfl (Zz rfl rfl (by decide) rfl (W_q (Zt rfl rfl) rfl ?_)))))))))));clear H a;intro a H
  refine n_q H (Zd rfl) rfl (Zz rfl rfl (by decide) rfl (Zz rfl rfl (by decide) rfl (W_q (Zt rfl rfl) rfl (W_q (Zd rfl) rfl (Zz rfl rfl (by decide) rfl (Zz rfl rfl (by decide) rfl (W_q (Zt rfl rfl) rfl (W_q (Zd rfl) rfl (Zz rfl rfl (by decide) rfl (Zz rfl rfl (by decide) rfl (W_q (Zt rfl rfl) rfl ?_)))))))))));clear H a;intro a H
  refine n_q H (Zb rfl) rfl ?_;clear H a;intro a H
  refine Ze (Za (wp_ret ?_))
  obtain rfl:=Option.some.inj hm
  replace hS:=hS.tk0
  refine Qx H (.inr rfl) rfl rfl ?_
  exact⟨rfl,hS.x⟩
end Go.Proofs.YtfemfiiagjnhdaaGreatDoor
