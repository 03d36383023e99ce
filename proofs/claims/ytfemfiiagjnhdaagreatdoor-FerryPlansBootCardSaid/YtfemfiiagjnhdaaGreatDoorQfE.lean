/- Part of a claim, shortened by a program from its texts: PtA. -/
import Derived.Test.YtfemfiiagjnhdaaGreatDoorQfD
set_option linter.unusedVariables false
set_option linter.unusedSimpArgs false
set_option maxRecDepth 10000
namespace Go.Proofs.YtfemfiiagjnhdaaGreatDoor
open Go Go.RowKit
theorem Zol : Za4 Tryz.prog 100=some false:=by kernel_rfl
theorem Zto : Za4 Tryz.prog 101=some false:=by kernel_rfl
theorem Zk0 : Za4 Tryz.prog 114=some true:=by kernel_rfl
theorem Zk1 : Za4 Tryz.prog 116=some true:=by kernel_rfl
theorem Zdp : Za4 Tryz.prog 118=some true:=by kernel_rfl
theorem Ztp : Za4 Tryz.prog 130=some false:=by kernel_rfl
theorem Zmo : Za4 Tryz.prog 22=some false:=by kernel_rfl
theorem Zom : Za4 Tryz.prog 23=some false:=by kernel_rfl
theorem Zk2 : Za4 Tryz.prog 24=some false:=by kernel_rfl
theorem Zil : Za4 Tryz.prog 25=some false:=by kernel_rfl
theorem Zda : Za4 Tryz.prog 27=some true:=by kernel_rfl
theorem ag5 : Za4 Tryz.prog 5=some false:=by kernel_rfl
theorem Zro : bdB Tryz.prog 114=true:=by kernel_rfl
theorem Zrp : Tl Tryz.prog 114=some #[(0,1),(1,1)]:=by kernel_rfl
theorem bd116 : bdB Tryz.prog 116=true:=by kernel_rfl
theorem pl116 : Tl Tryz.prog 116=some #[(0,1),(1,1),(2,1)]:=by kernel_rfl
theorem bd118 : bdB Tryz.prog 118=true:=by kernel_rfl
theorem pl118 : Tl Tryz.prog 118=some #[(0,1),(1,1),(2,1),(3,1)]:=by kernel_rfl
theorem Ztq : bdB Tryz.prog 214=true:=by kernel_rfl
theorem Ztr : Tl Tryz.prog 214=some #[(0,1),(1,1)]:=by kernel_rfl
theorem bd244 : bdB Tryz.prog 244=true:=by kernel_rfl
theorem pl244 : Tl Tryz.prog 244=some #[(0,1),(1,1)]:=by kernel_rfl
theorem Zts : bdB Tryz.prog 27=true:=by kernel_rfl
theorem Ztt : Tl Tryz.prog 27=some #[(0,1),(1,1),(2,1),(3,1),(4,1),(5,1),(6,1)]:=by kernel_rfl
theorem el3 : ElemOk Tryz.prog 3 1 8 [.int .i64 0]:=⟨by kernel_rfl,by kernel_rfl,by kernel_rfl,rfl,by decide⟩
theorem el5 : ElemOk Tryz.prog 5 1 1 [.int .u8 0]:=⟨by kernel_rfl,by kernel_rfl,by kernel_rfl,rfl,by decide⟩
theorem en128 : Zq Tryz.prog 128=true:=by kernel_rfl
theorem en129 : Zq Tryz.prog 129=true:=by kernel_rfl
theorem en130 : Zq Tryz.prog 130=true:=by kernel_rfl
theorem en137 : Zq Tryz.prog 137=true:=by kernel_rfl
theorem en140 : Zq Tryz.prog 140=true:=by kernel_rfl
theorem Zp0 : Zq Tryz.prog 161=true:=by kernel_rfl
theorem en162 : Zq Tryz.prog 162=true:=by kernel_rfl
theorem Zk3 : Zq Tryz.prog 163=true:=by kernel_rfl
theorem en164 : Zq Tryz.prog 164=true:=by kernel_rfl
theorem en165 : Zq Tryz.prog 165=true:=by kernel_rfl
theorem en166 : Zq Tryz.prog 166=true:=by kernel_rfl
theorem en167 : Zq Tryz.prog 167=true:=by kernel_rfl
theorem Ztu : Zq Tryz.prog 168=true:=by kernel_rfl
theorem Zp1 : Zq Tryz.prog 169=true:=by kernel_rfl
theorem Zp2 : Zq Tryz.prog 170=true:=by kernel_rfl
theorem en171 : Zq Tryz.prog 171=true:=by kernel_rfl
theorem en172 : Zq Tryz.prog 172=true:=by kernel_rfl
theorem Zk4 : Zq Tryz.prog 174=true:=by kernel_rfl
theorem Zrq : Zq Tryz.prog 176=true:=by kernel_rfl
theorem Zp3 : Zq Tryz.prog 198=true:=by kernel_rfl
theorem en199 : Zq Tryz.prog 199=true:=by kernel_rfl
theorem en205 : Zq Tryz.prog 205=true:=by kernel_rfl
theorem en228 : Zq Tryz.prog 228=true:=by kernel_rfl
theorem en236 : Zq Tryz.prog 236=true:=by kernel_rfl
theorem Ztv : Zq Tryz.prog 237=true:=by kernel_rfl
theorem en240 : Zq Tryz.prog 240=true:=by kernel_rfl
theorem en241 : Zq Tryz.prog 241=true:=by kernel_rfl
theorem en242 : Zq Tryz.prog 242=true:=by kernel_rfl
theorem en245 : Zq Tryz.prog 245=true:=by kernel_rfl
theorem en255 : Zq Tryz.prog 255=true:=by kernel_rfl
theorem en264 : Zq Tryz.prog 264=true:=by kernel_rfl
theorem en57 : Zq Tryz.prog 57=true:=by kernel_rfl
theorem en91 : Zq Tryz.prog 91=true:=by kernel_rfl
theorem en92 : Zq Tryz.prog 92=true:=by kernel_rfl
theorem en93 : Zq Tryz.prog 93=true:=by kernel_rfl
theorem en94 : Zq Tryz.prog 94=true:=by kernel_rfl
theorem en95 : Zq Tryz.prog 95=true:=by kernel_rfl
theorem en96 : Zq Tryz.prog 96=true:=by kernel_rfl
theorem en97 : Zq Tryz.prog 97=true:=by kernel_rfl
theorem en98 : Zq Tryz.prog 98=true:=by kernel_rfl
theorem Zho : Zaw Tryz.prog 114 0=some 0:=by kernel_rfl
theorem Zmp : Zaw Tryz.prog 114 1=some 1:=by kernel_rfl
theorem Zf4 : Zaw Tryz.prog 116 0=some 0:=by kernel_rfl
theorem Zhp : Zaw Tryz.prog 116 1=some 1:=by kernel_rfl
theorem Zmq : Zaw Tryz.prog 116 2=some 2:=by kernel_rfl
theorem Tt : Zaw Tryz.prog 118 0=some 0:=by kernel_rfl
theorem Zhq : Zaw Tryz.prog 118 1=some 1:=by kernel_rfl
theorem Zf5 : Zaw Tryz.prog 118 2=some 2:=by kernel_rfl
theorem Zmr : Zaw Tryz.prog 118 3=some 3:=by kernel_rfl
theorem Zjy : Zaw Tryz.prog 244 0=some 0:=by kernel_rfl
theorem Zhr : Zaw Tryz.prog 244 1=some 1:=by kernel_rfl
theorem Zfg : Zaw Tryz.prog 27 0=some 0:=by kernel_rfl
theorem Zn0 : Zaw Tryz.prog 27 1=some 1:=by kernel_rfl
theorem Zap : Zaw Tryz.prog 27 2=some 2:=by kernel_rfl
theorem Zbn : Zaw Tryz.prog 27 3=some 3:=by kernel_rfl
theorem Tu : Zaw Tryz.prog 27 4=some 4:=by kernel_rfl
theorem Zdq : Zaw Tryz.prog 27 5=some 5:=by kernel_rfl
theorem Zbx : Zaw Tryz.prog 27 6=some 6:=by kernel_rfl
theorem sz100 : Jd Tryz.prog 100=some 1:=by kernel_rfl
theorem Zp4 : Jd Tryz.prog 101=some 1:=by kernel_rfl
theorem Zax : Jd Tryz.prog 114=some 2:=by kernel_rfl
theorem Zay : Jd Tryz.prog 116=some 3:=by kernel_rfl
theorem Gp : Jd Tryz.prog 118=some 4:=by kernel_rfl
theorem Zrr : Jd Tryz.prog 130=some 1:=by kernel_rfl
theorem Zav : Jd Tryz.prog 27=some 7:=by kernel_rfl
theorem sz3 : Jd Tryz.prog 3=some 1:=by kernel_rfl
theorem sz5 : Jd Tryz.prog 5=some 1:=by kernel_rfl
theorem Zgo : Hb Tryz.prog 114=some [.int .i64 0,.string ⟨#[]⟩]:=by kernel_rfl
theorem Zhs : Hb Tryz.prog 116=some [.int .i64 0,.int .i64 0,.bool false]:=by kernel_rfl
theorem Zgp : Hb Tryz.prog 118=some [.int .i64 0,.int .i64 0,.int .i64 0,.int .i64 0]:=by kernel_rfl
theorem ze130 : Hb Tryz.prog 130=some [.nilFunc]:=by kernel_rfl
theorem Ztw : Hb Tryz.prog 214=some [.int .i64 0,.nilIface]:=by kernel_rfl
theorem ze244 : Hb Tryz.prog 244=some [.slice none 0 0,.nilIface]:=by kernel_rfl
theorem Zms : Hb Tryz.prog 27=some [.int .i64 0,.bool false,.slice none 0 0,.slice none 0 0,.slice none 0 0,.int .i64 0,.slice none 0 0]:=by kernel_rfl
theorem ze3 : Hb Tryz.prog 3=some [.int .i64 0]:=by kernel_rfl
theorem ze337 : Hb Tryz.prog 337=some [.int .u32 0,.int .u32 0,.int .u32 0,.int .u32 0,.int .u32 0,.int .u32 0,.int .u32 0,.int .u32 0,.int .u32 0,.int .u32 0,.int .u32 0,.int .u32 0,.int .u32 0,.int .u32 0,.int .u32 0,.int .u32 0,.int .u32 0,.int .u32 0,.int .u32 0,.int .u32 0,.int .u32 0,.int .u32 0,.int .u32 0,.int .u32 0,.int .u32 0,.int .u32 0,.int .u32 0,.int .u32 0,.int .u32 0,.int .u32 0,.int .u32 0,.int .u32 0,.int .u32 0,.int .u32 0,.int .u32 0,.int .u32 0,.int .u32 0,.int .u32 0,.int .u32 0,.int .u32 0,.int .u32 0,.int .u32 0,.int .u32 0,.int .u32 0,.int .u32 0,.int .u32 0,.int .u32 0,.int .u32 0,.int .u32 0,.int .u32 0,.int .u32 0,.int .u32 0,.int .u32 0,.int .u32 0,.int .u32 0,.int .u32 0,.int .u32 0,.int .u32 0,.int .u32 0,.int .u32 0,.int .u32 0,.int .u32 0,.int .u32 0,.int .u32 0,.int .u32 0,.int .u32 0,.int .u32 0,.int .u32 0,.int .u32 0,.int .u32 0,.int .u32 0,.int .u32 0,.int .u32 0,.int .u32 0,.int .u32 0,.int .u32 0,.int .u32 0,.int .u32 0,.int .u32 0,.int .u32 0,.int .u32 0,.int .u32 0,.int .u32 0,.int .u32 0,.int .u32 0,.int .u32 0,.int .u32 0,.int .u32 0,.int .u32 0,.int .u32 0,.int .u32 0,.int .u32 0,.int .u32 0,.int .u32 0,.int .u32 0,.int .u32 0,.int .u32 0,.int .u32 0,.int .u32 0,.int .u32 0,.int .u32 0,.int .u32 0,.int .u32 0,.int .u32 0,.int .u32 0,.int .u32 0,.int .u32 0,.int .u32 0,.int .u32 0,.int .u32 0,.int .u32 0,.int .u32 0,.int .u32 0,.int .u32 0,.int .u32 0,.int .u32 0,.int .u32 0,.int .u32 0,.int .u32 0,.int .u32 0,.int .u32 0,.int .u32 0,.int .u32 0,.int .u32 0,.int .u32 0,.int .u32 0,.int .u32 0,.int .u32 0,.int .u32 0,.int .u32 0,.int .u32 0,.int .u32 0,.int .u32 0,.int .u32 0,.int .u32 0,.int .u32 0,.int .u32 0,.int .u32 0,.int .u32 0,.int .u32 0,.int .u32 0,.int .u32 0,.int .u32 0,.int .u32 0,.int .u32 0,.int .u32 0,.int .u32 0,.int .u32 0,.int .u32 0,.int .u32 0,.int .u32 0,.int .u32 0,.int .u32 0,.int .u32 0,.int .u32 0,.int .u32 0,.int .u32 0,.int .u32 0,.int .u32 0,.int .u32 0,.int .u32 0,.int .u32 0,.int .u32 0,.int .u32 0,.int .u32 0,.int .u32 0,.int .u32 0,.int .u32 0,.int .u32 0,.int .u32 0,.int .u32 0,.int .u32 0,.int .u32 0,.int .u32 0,.int .u32 0,.int .u32 0,.int .u32 0,.int .u32 0,.int .u32 0,.int .u32 0,.int .u32 0,.int .u32 0,.int .u32 0,.int .u32 0,.int .u32 0,.int .u32 0,.int .u32 0,.int .u32 0,.int .u32 0,.int .u32 0,.int .u32 0,.int .u32 0,.int .u32 0,.int .u32 0,.int .u32 0,.int .u32 0,.int .u32 0,.int .u32 0,.int .u32 0,.int .u32 0,.int .u32 0,.int .u32 0,.int .u32 0,.int .u32 0,.int .u32 0,.int .u32 0,.int .u32 0,.int .u32 0,.int .u32 0,.int .u32 0,.int .u32 0,.int .u32 0,.int .u32 0,.int .u32 0,.int .u32 0,.int .u32 0,.int .u32 0,.int .u32 0,.int .u32 0,.int .u32 0,.int .u32 0,.int .u32 0,.int .u32 0,.int .u32 0,.int .u32 0,.int .u32 0,.int .u32 0,.int .u32 0,.int .u32 0,.int .u32 0,.int .u32 0,.int .u32 0,.int .u32 0,.int .u32 0,.int .u32 0,.int .u32 0,.int .u32 0,.int .u32 0,.int .u32 0,.int .u32 0,.int .u32 0,.int .u32 0,.int .u32 0,.int .u32 0,.int .u32 0,.int .u32 0,.int .u32 0,.int .u32 0,.int .u32 0,.int .u32 0,.int .u32 0,.int .u32 0,.int .u32 0,.int .u32 0,.int .u32 0,.int .u32 0]:=by kernel_rfl
theorem ze5 : Hb Tryz.prog 5=some [.int .u8 0]:=by kernel_rfl
theorem Zbo {w : World} {A : Nat → Addr} {a0 : Int} {v1 : Value} {a1 : ErrM} (h1 : IsE A w v1 a1) {r : ErrM} (hm : Zam a0 a1=some r) :
    Calls Tryz.prog 198 [.int .i64 a0,v1].toArray w (Ret fun u w'=>∃ h_0,u=h_0 ∧ St NB w w' [erQ A h_0 r]):=by
  have hS:=St.begin NB w
  unfold Zam at hm
  refine enter Tryz.func198 rfl rfl rfl ?_;intro a H;dsimp only [Qn,Nat.zero_add,Nat.reduceAdd] at H
  refine wp_seq (wp_region_lit (n_q H (Zb rfl) rfl ?_));clear H a;intro a H
  refine Ze (Za (wp_seq (wp_region_lit (n_q H (Zd rfl) rfl (W_q (Zd rfl) rfl (W_q (Qt (cs:=[.int .i64 a0,v1]) Ztw Ztq Ztr rfl ((Qk rfl rfl (by simp)).trans ((Qk (Xu.ext h1 hS.x).one rfl (by simp)).trans rfl))) rfl ?_))))));clear H a;intro a H
  refine Yy H rfl (cs:=[.int .i64 a0,v1]) rfl rfl ?_
  clear H;intro aD aE hN aB hs;clear a;intro a H
  replace hS:=hS.newBlk hN aB hs;clear hN hs
  replace hm:=Zj hm;obtain⟨aF,aC,hm⟩:=hm
  have aA:=(Xu.ext h1 hS.x)
  refine n_q H (Zbi Tryz.underlying210 (by simp) rfl) rfl ?_;clear H a;intro a H
  replace hS:=hS.dAtE aA aC
  refine n_q H (Zb rfl) rfl ?_;clear H a;intro a H
  refine Ze (Za (wp_ret ?_))
  obtain rfl:=Option.some.inj hm
  refine Qx H (.inr rfl) rfl rfl ?_
  exact⟨_,rfl,hS⟩
theorem Zez {w : World} {A : Nat → Addr} {cs0 : List Value} {a0 : GPlan} (hG : EV A w) (h0 : Xa w cs0 a0) {r : ErrM} (hm : Us a0=some r) :
    Calls Tryz.prog 128 [.agg cs0.toArray].toArray w (Ret fun u w'=>∃ h_0,u=h_0 ∧ St NB w w' [erQ A h_0 r]):=by
  obtain⟨aK,aO,aP,aQ,rfl,aC,aZ,a9,bA⟩:=h0
  have hS:=St.begin NB w
  unfold Us at hm
  refine enter Tryz.func128 rfl rfl rfl ?_;intro a H;dsimp only [Qn,Nat.zero_add,Nat.reduceAdd] at H
  refine wp_seq (wp_region_lit (Yy H rfl (cs:=[.int .i64 a0.Id,.bool a0.Mobile,aK,aO,aP,.int .i64 a0.Events,aQ]) rfl rfl ?_))
  clear H;intro bH bI hN aS hs;clear a;intro a H
  replace hS:=hS.newBlk hN aS hs;clear hN hs
  refine n_q H (Zb rfl) rfl ?_;clear H a;intro a H
  refine Ze (Za (wp_seq (wp_seq (wp_region_lit (n_c H (fun HC=>?_))))));clear H
  refine Zfx HC (Zc rfl Zap) rfl (by kernel_rfl) (V_q (Zf rfl ((hS.blk 0 rfl).ld Zmo rfl)) rfl (by kernel_rfl) ?_);clear HC a;intro a HC
  obtain⟨bJ,bK,aB,bF,bG⟩:=SlR.formV (aC.ext (Zi.mono _) hS.x)
  refine Zfx HC (Qc Tryz.underlying22 rfl aB) rfl (by kernel_rfl) (V_q (Yc (i:=a0.Pages.length) (j:=1) rfl rfl) rfl (by kernel_rfl) (V_q (Zd rfl) rfl (by kernel_rfl) (V_g (Zc rfl Zap) (by kernel_rfl) (by kernel_rfl) (by kernel_rfl) (V_g (Zf rfl ((hS.blk 0 rfl).ld Zmo rfl)) (by kernel_rfl) (by kernel_rfl) (by kernel_rfl) (V_g (Qc Tryz.underlying22 rfl aB) (by kernel_rfl) (by kernel_rfl) (by kernel_rfl) (V_g (Zgf (i:=a0.Pages.length) (j:=32) rfl rfl) (by kernel_rfl) (by kernel_rfl) (by kernel_rfl) (Zml (j:=4) rfl rfl rfl (by kernel_rfl) (by kernel_rfl) ?_)))))));clear HC a;intro a HC
  have H:=HC.has;clear HC
  refine Ze (Za (Zn H rfl (fun aF=>?_) (fun aF=>?_)))
  · replace hm:=Zu hm aF
    refine wp_seq (wp_region_lit (n_q H (Zf rfl ((hG.ext hS.x).ld Za7 (by decide) Hv)) rfl (W_q (Zb rfl) rfl ?_)));clear H a;intro a H
    refine Ze (Za (wp_ret (Zh ?_)))
    obtain rfl:=Option.some.inj hm
    replace hS:=hS.dVar (A:=A) (g:=Za7) (by decide)
    replace hS:=hS.tk1
    refine Qx H (.inr rfl) rfl rfl ?_
    exact⟨_,rfl,hS⟩
  replace hm:=Zv hm aF
  refine wp_skip (Za (wp_seq (wp_seq (wp_region_lit (n_q H (Zc rfl Zap) rfl (W_q (Zf rfl ((hS.blk 0 rfl).ld Zmo rfl)) rfl (W_q (Qc Tryz.underlying22 rfl aB) rfl (W_q (Zd rfl) rfl ?_))))))));clear H a;intro a H
  refine Ze (Za (wp_block ?_))
  replace hS:=hS.tk0
  replace hm:=Zj hm;obtain⟨aL,hm,aG⟩:=hm;replace hm:=Ql hm;obtain⟨bB,hm⟩:=hm
  refine Kr (σ:=Nat × Nat) (fun (m,aA)=>[(17,aK),(18,.int .i64 ((a0.Pages.length : Nat) : Int)),(19,.int .i64 ((aA : Nat) : Int))]) (fun (m,aA) wl=>Ye (Kx a0) m aA=some aL ∧ St NB w wl []) (fun (m,aA)=>m) (bB,0) H ⟨rfl,rfl,rfl,trivial⟩ ⟨hm,hS⟩ ?_
  clear H hS hm a;intro xx a bL H hR;obtain⟨m,aA⟩:=xx;simp only [ent,List.map_cons,List.map_nil] at H;(try dsimp only at hR);obtain⟨hm,hS⟩:=hR
  replace hm:=Qh hm;obtain⟨bC,bM,rfl,hm,aD⟩:=hm;try dsimp only [Kx] at hm
  refine wp_seq (wp_region_lit (n_q H (Yc (i:=aA) (j:=a0.Pages.length) rfl rfl) rfl ?_));clear H a;intro a H
  refine Ze (Za (wp_seq (Zn H rfl (fun aE=>?_) (fun aE=>?_))))
  · replace hm:=Zu hm aE
    have bD : aA < a0.Pages.length:=of_decide_eq_true aE
    refine wp_skip (Za (wp_seq (wp_block (wp_seq (wp_region_lit (n_q H (Zd rfl) rfl ?_))))));clear H a;intro a H
    replace hm:=Zj hm;obtain⟨aN,aH,hm⟩:=hm
    obtain⟨bE,aM⟩:=SlR.adV (aC.ext (Zi.mono _) hS.x) aB aH
    refine n_q H (Ug (i:=aA) Tryz.underlying22 Zax rfl aB aM rfl (Zb5 aH)) rfl (W_q (Zf rfl (SlR.ldAggV (aC.ext (Zi.mono _) hS.x) aB aM Zk0 Zax aH)) rfl ?_);clear H a;intro a H
    refine Jb H Zgo rfl ?_
    clear H;intro bN bO hN aT hs;clear a;intro a H
    replace hS:=hS.newBlk hN aT hs;clear hN hs
    refine n_q H (Zb rfl) rfl ?_;clear H a;intro a H
    refine Qi H rfl rfl (vs:=[.int .i64 aN.Rights,.string aN.Init]) rfl Zax (hS.blk 0 rfl) rfl (by simp) ?_
    clear H;intro aR hN aU hz;clear a;intro a H;replace hS:=hS.setBlk hN aU;clear hN hz
    refine Ze (Za (wp_seq (wp_seq (wp_region_lit (n_c H (fun HC=>?_))))));clear H
    refine Zfx HC (Zc rfl Zho) rfl (by kernel_rfl) (V_q (Zf rfl ((hS.blk 0 rfl).ld ag3 rfl)) rfl (by kernel_rfl) (V_q (Za5 rfl rfl) rfl (by kernel_rfl) (V_q (Zd rfl) rfl (by kernel_rfl) (V_g (Zc rfl Zho) (by kernel_rfl) (by kernel_rfl) (by kernel_rfl) (V_g (Zf rfl ((hS.blk 0 rfl).ld ag3 rfl)) (by kernel_rfl) (by kernel_rfl) (by kernel_rfl) (V_g (Zcd rfl rfl) (by kernel_rfl) (by kernel_rfl) (by kernel_rfl) (Zml (j:=3) rfl rfl rfl (by kernel_rfl) (by kernel_rfl) ?_)))))));clear HC a;intro a HC
    have H:=HC.has;clear HC
    refine Ze (Za (Zn H rfl (fun aI=>?_) (fun aI=>?_)))
    · replace hm:=Zu hm aI
      refine wp_seq (wp_region_lit (n_q H (Zd rfl) rfl (W_q (Zf rfl ((hG.ext hS.x).ld Vn (by decide) Hv)) rfl ?_)));clear H a;intro a H
      replace hm:=Zj hm;obtain⟨bP,aV,hm⟩:=hm
      refine Zk H rfl Zp3 (Zbo (A:=A) (Xu.var (by decide) : IsE A aR _ (.v Vn)) aV) rfl ?_
      clear H;intro bQ bR hv;clear a;intro a H;obtain⟨_,rfl,aW⟩:=hv
      replace hS:=hS.new aW;simp only [List.cons_append,List.nil_append] at hS
      refine n_q H (Zb rfl) rfl ?_;clear H a;intro a H
      refine Ze (Za (wp_ret (Zh (Zl (Zh (Zh (Zl (Zh ?_))))))))
      obtain rfl:=Option.some.inj hm;have hz : _=aL:=aD;subst hz;replace hm:=aG;try dsimp only at hm
      obtain rfl:=Option.some.inj hm
      replace hS:=hS.tk1
      refine Qx H (.inr rfl) rfl rfl ?_
      exact⟨_,rfl,hS⟩
    replace hm:=Zv hm aI
    refine wp_skip (Za (wp_seq (wp_region_lit (n_q H (Zc rfl Zmp) rfl (W_q (Zf rfl ((hS.blk 0 rfl).ld ag9 rfl)) rfl (W_q (Zsx Tryz.underlying9 rfl) rfl (W_q (Zgf (i:=aN.Init.size) (j:=64) rfl rfl) rfl ?_)))))));clear H a;intro a H
    refine Ze (Za (Zn H rfl (fun aJ=>?_) (fun aJ=>?_)))
    · replace hm:=Zu hm aJ
      refine wp_seq (wp_region_lit (n_q H (Zd rfl) rfl (W_q (Zf rfl ((hG.ext hS.x).ld Ur (by decide) Hv)) rfl ?_)));clear H a;intro a H
      replace hm:=Zj hm;obtain⟨bS,aX,hm⟩:=hm
      refine Zk H rfl Zp3 (Zbo (A:=A) (Xu.var (by decide) : IsE A aR _ (.v Ur)) aX) rfl ?_
      clear H;intro bT bU hv;clear a;intro a H;obtain⟨_,rfl,aY⟩:=hv
      replace hS:=hS.new aY;simp only [List.cons_append,List.nil_append] at hS
      refine n_q H (Zb rfl) rfl ?_;clear H a;intro a H
      refine Ze (Za (wp_ret (Zl (Zh (Zh (Zl (Zh ?_)))))))
      obtain rfl:=Option.some.inj hm;have hz : _=aL:=aD;subst hz;replace hm:=aG;try dsimp only at hm
      obtain rfl:=Option.some.inj hm
      replace hS:=hS.tk1
      refine Qx H (.inr rfl) rfl rfl ?_
      exact⟨_,rfl,hS⟩
    replace hm:=Zv hm aJ
    refine wp_skip (Zo (Za (wp_region_lit (n_q H (Yt (i:=aA) (j:=1) rfl rfl (by omega)) rfl (W_q (Zd rfl) rfl ?_)))));clear H a;intro a H
    refine Ze (Za ?_)
    obtain rfl:=Option.some.inj hm
    replace hS:=hS.tk0
    exact Uz (bC,aA + 1) H ⟨rfl,rfl,rfl,trivial⟩ ⟨aD,hS⟩ (Nat.lt_succ_self _)
  replace hm:=Zv hm aE
  refine wp_exit (Zr (Zr (Qf ?_)))
  obtain rfl:=Option.some.inj hm;have hz : _=aL:=aD;subst hz;replace hm:=aG;try dsimp only at hm
  refine Za (wp_seq (wp_region_lit (n_q H (Zb rfl) rfl ?_)));clear H a;intro a H
  refine Ze (Za (wp_ret ?_))
  obtain rfl:=Option.some.inj hm
  replace hS:=hS.dNil (A:=A)
  refine Qx H (.inr rfl) rfl rfl ?_
  exact⟨_,rfl,hS⟩
theorem Ze0 {w : World} {A : Nat → Addr} {cs0 : List Value} {a0 : GPlan} (hG : EV A w) (h0 : Xa w cs0 a0) {r : ErrM} (hm : Ut a0=some r) :
    Calls Tryz.prog 129 [.agg cs0.toArray].toArray w (Ret fun u w'=>∃ h_0,u=h_0 ∧ St NB w w' [erQ A h_0 r]):=by
  obtain⟨aK,aB,aL,aM,rfl,aV,aI,bE,bF⟩:=h0
  have hS:=St.begin NB w
  unfold Ut at hm
  refine enter Tryz.func129 rfl rfl rfl ?_;intro a H;dsimp only [Qn,Nat.zero_add,Nat.reduceAdd] at H
  refine wp_seq (wp_region_lit (Yy H rfl (cs:=[.int .i64 a0.Id,.bool a0.Mobile,aK,aB,aL,.int .i64 a0.Events,aM]) rfl rfl ?_))
  clear H;intro aT bU hN bA hs;clear a;intro a H
  replace hS:=hS.newBlk hN bA hs;clear hN hs
  refine n_q H (Zb rfl) rfl ?_;clear H a;intro a H
  refine Ze (Za (wp_seq (wp_seq (wp_region_lit (n_c H (fun HC=>?_))))));clear H
  refine Zfx HC (Zc rfl Zbn) rfl (by kernel_rfl) (V_q (Zf rfl ((hS.blk 0 rfl).ld Zom rfl)) rfl (by kernel_rfl) ?_);clear HC a;intro a HC
  obtain⟨bV,bW,aG,bN,bO⟩:=SlR.formV (aI.ext (Zi.mono _) hS.x)
  refine Zfx HC (Qc Tryz.underlying23 rfl aG) rfl (by kernel_rfl) (V_q (Yc (i:=a0.Procs.length) (j:=1) rfl rfl) rfl (by kernel_rfl) (V_q (Zd rfl) rfl (by kernel_rfl) (V_g (Zc rfl Zbn) (by kernel_rfl) (by kernel_rfl) (by kernel_rfl) (V_g (Zf rfl ((hS.blk 0 rfl).ld Zom rfl)) (by kernel_rfl) (by kernel_rfl) (by kernel_rfl) (V_g (Qc Tryz.underlying23 rfl aG) (by kernel_rfl) (by kernel_rfl) (by kernel_rfl) (V_g (Zgf (i:=a0.Procs.length) (j:=8) rfl rfl) (by kernel_rfl) (by kernel_rfl) (by kernel_rfl) (Zml (j:=4) rfl rfl rfl (by kernel_rfl) (by kernel_rfl) ?_)))))));clear HC a;intro a HC
  have H:=HC.has;clear HC
  refine Ze (Za (Zn H rfl (fun aQ=>?_) (fun aQ=>?_)))
  · replace hm:=Zu hm aQ
    refine wp_seq (wp_region_lit (n_q H (Zf rfl ((hG.ext hS.x).ld Za7 (by decide) Hv)) rfl (W_q (Zb rfl) rfl ?_)));clear H a;intro a H
    refine Ze (Za (wp_ret (Zh ?_)))
    obtain rfl:=Option.some.inj hm
    replace hS:=hS.dVar (A:=A) (g:=Za7) (by decide)
    replace hS:=hS.tk1
    refine Qx H (.inr rfl) rfl rfl ?_
    exact⟨_,rfl,hS⟩
  replace hm:=Zv hm aQ
  refine wp_skip (Za (wp_seq (wp_seq (wp_region_lit (n_q H (Zc rfl Zbn) rfl (W_q (Zf rfl ((hS.blk 0 rfl).ld Zom rfl)) rfl (W_q (Qc Tryz.underlying23 rfl aG) rfl (W_q (Zd rfl) rfl ?_))))))));clear H a;intro a H
  refine Ze (Za (wp_block ?_))
  replace hm:=Zj hm;obtain⟨aW,hm,aX⟩:=hm;replace hm:=Ql hm;obtain⟨bG,hm⟩:=hm
  refine Kr (σ:=Nat × Nat) (fun (m,aA)=>[(1,.pointer (some ⟨aT,0,none⟩)),(17,aB),(18,.int .i64 ((a0.Procs.length : Nat) : Int)),(19,.int .i64 ((aA : Nat) : Int))]) (fun (m,aA) wl=>Ye (Ky a0) m aA=some aW ∧ St NB w wl [blkR aT [.int .i64 a0.Id,.bool a0.Mobile,aK,aB,aL,.int .i64 a0.Events,aM] 27]) (fun (m,aA)=>m) (bG,0) H ⟨rfl,rfl,rfl,rfl,trivial⟩ ⟨hm,hS⟩ ?_
  clear H hS hm a;intro xx a bX H hR;obtain⟨m,aA⟩:=xx;simp only [ent,List.map_cons,List.map_nil] at H;(try dsimp only at hR);obtain⟨hm,hS⟩:=hR
  replace hm:=Qh hm;obtain⟨bH,bI,rfl,hm,aR⟩:=hm;try dsimp only [Ky] at hm
  refine wp_seq (wp_region_lit (n_q H (Yc (i:=aA) (j:=a0.Procs.length) rfl rfl) rfl ?_));clear H a;intro a H
  refine Ze (Za (wp_seq (Zn H rfl (fun aN=>?_) (fun aN=>?_))))
  · replace hm:=Zu hm aN
    have bJ : aA < a0.Procs.length:=of_decide_eq_true aN
    refine wp_skip (Za (wp_seq (wp_block (wp_seq (wp_region_lit (n_q H (Zd rfl) rfl ?_))))));clear H a;intro a H
    replace hm:=Zj hm;obtain⟨aH,aS,hm⟩:=hm
    obtain⟨bK,aU⟩:=SlR.adV (aI.ext (Zi.mono _) hS.x) aG aS
    refine n_q H (Ug (i:=aA) Tryz.underlying23 Zay rfl aG aU rfl (Zb5 aS)) rfl (W_q (Zf rfl (SlR.ldAggV (aI.ext (Zi.mono _) hS.x) aG aU Zk1 Zay aS)) rfl ?_);clear H a;intro a H
    refine Jb H Zhs rfl ?_
    clear H;intro bY bZ hN bB hs;clear a;intro a H
    replace hS:=hS.newBlk hN bB hs;clear hN hs
    refine n_q H (Zb rfl) rfl ?_;clear H a;intro a H
    refine Qi H rfl rfl (vs:=[.int .i64 aH.Entry,.int .i64 aH.Prio,.bool aH.Auto]) rfl Zay (hS.blk 0 rfl) rfl (by simp) ?_
    clear H;intro b6 hN bC hz;clear a;intro a H;replace hS:=hS.setBlk hN bC;clear hN hz
    refine Ze (Za ?_)
    replace hm:=Zj hm;obtain⟨b7,hm,aJ⟩:=hm
    refine Gm (σ:=Bool) H (fun aO=>[(1,.pointer (some ⟨aT,0,none⟩)),(3,.int .i64 ((aA : Nat) : Int)),(17,aB),(18,.int .i64 ((a0.Procs.length : Nat) : Int)),(19,.int .i64 ((aA : Nat) : Int)),(51,.bool aO)]) (fun aO wl=>(Ul aA) aO=some bI ∧ St NB w wl [blkR aT [.int .i64 a0.Id,.bool a0.Mobile,aK,aB,aL,.int .i64 a0.Events,aM] 27]) ?_ ?_
    · skip
      refine wp_region_lit (n_q H (Zc rfl Zf4) rfl (W_q (Zf rfl ((hS.blk 0 rfl).ld ag3 rfl)) rfl (W_q (Za5 rfl rfl) rfl (W_q (Zd rfl) rfl ?_))));clear H a;intro a H
      rcases Bool.eq_false_or_eq_true (decide (aH.Entry < 0)) with aC|aC
      · replace H:=H.know 27 rfl aC
        replace hm:=Zu hm aC
        refine Tp H rfl rfl (by decide) rfl (Zz rfl rfl (by decide) rfl (Zz rfl rfl (by decide) rfl (Zz rfl rfl (by decide) rfl (Zz rfl rfl (by decide) rfl (Zz rfl rfl (by decide) rfl (Zz rfl rfl (by decide) rfl (W_q (Zx rfl rfl) rfl (W_q (Zd rfl) rfl (Zz rfl rfl (by decide) rfl (Zz rfl rfl (by decide) rfl (Zz rfl rfl (by decide) rfl ?_)))))))))));clear H a;intro a H
        refine Tp H rfl rfl (by decide) rfl (W_q (Zx rfl rfl) rfl (W_q (Zd rfl) rfl (Zz rfl rfl (by decide) rfl (Zz rfl rfl (by decide) rfl (Zz rfl rfl (by decide) rfl (W_q (Zx rfl rfl) rfl (W_q (Zd rfl) rfl (Zz rfl rfl (by decide) rfl (Zz rfl rfl (by decide) rfl (Zz rfl rfl (by decide) rfl (W_q (Zx rfl rfl) rfl ?_)))))))))));clear H a;intro a H
        refine Ze (Za ?_)
        obtain rfl:=Option.some.inj hm;replace hm:=aJ;try dsimp only at hm
        replace hS:=hS.pk1
        replace hS:=hS.tk1
        exact Uy true H ⟨rfl,rfl,rfl,rfl,rfl,rfl,trivial⟩ ⟨hm,hS⟩
      replace H:=H.know 27 rfl aC
      replace hm:=Zv hm aC
      refine Kq H rfl rfl (n_q H (Zc rfl Zf4) rfl (Zy rfl rfl (W_q (Zf rfl ((hS.blk 0 rfl).ld ag3 rfl)) rfl (Zy rfl rfl (W_q (Zc rfl Zap) rfl (Zy rfl rfl (W_q (Zf rfl ((hS.blk 1 rfl).ld Zmo rfl)) rfl (Zy rfl rfl ?_))))))));clear H a;intro a H
      obtain⟨bP,bQ,aY,bL,bM⟩:=SlR.formV (aV.ext (Zi.mono _) hS.x)
      refine n_q H (Qc Tryz.underlying22 rfl aY) rfl (Zy rfl rfl (W_q (Zha rfl rfl) rfl (Zy rfl rfl (W_q (Zob rfl rfl) rfl (W_q (Zt rfl rfl) rfl (W_q (Zd rfl) rfl ?_))))));clear H a;intro a H
      rcases Bool.eq_false_or_eq_true (decide ((IntKind.i64.wrap (64 * ((a0.Pages.length : Nat) : Int))) ≤ aH.Entry)) with aD|aD
      · replace H:=H.know 36 rfl aD
        replace hm:=Zu hm aD
        refine Tp H rfl rfl (by decide) rfl (Zz rfl rfl (by decide) rfl (Zz rfl rfl (by decide) rfl (Zz rfl rfl (by decide) rfl (W_q (Zx rfl rfl) rfl (W_q (Zd rfl) rfl (Zz rfl rfl (by decide) rfl (Zz rfl rfl (by decide) rfl (Zz rfl rfl (by decide) rfl (W_q (Zx rfl rfl) rfl (W_q (Zd rfl) rfl (Zz rfl rfl (by decide) rfl ?_)))))))))));clear H a;intro a H
        refine Tp H rfl rfl (by decide) rfl (Zz rfl rfl (by decide) rfl (W_q (Zx rfl rfl) rfl ?_));clear H a;intro a H
        refine Ze (Za ?_)
        obtain rfl:=Option.some.inj hm;replace hm:=aJ;try dsimp only at hm
        replace hS:=hS.pk1
        replace hS:=hS.tk1
        exact Uy true H ⟨rfl,rfl,rfl,rfl,rfl,rfl,trivial⟩ ⟨hm,hS⟩
      replace H:=H.know 36 rfl aD
      replace hm:=Zv hm aD
      refine Kq H rfl rfl (n_q H (Zc rfl Zf4) rfl (Zy rfl rfl (W_q (Zf rfl ((hS.blk 0 rfl).ld ag3 rfl)) rfl (Zy rfl rfl (W_q (Zss rfl rfl (by decide)) rfl (Zy rfl rfl (W_q (Th rfl rfl) rfl (W_q (Zt rfl rfl) rfl (W_q (Zd rfl) rfl ?_)))))))));clear H a;intro a H
      rcases Bool.eq_false_or_eq_true (!decide ((Int.tmod aH.Entry 4)=0)) with aE|aE
      · replace H:=H.know 42 rfl aE
        replace hm:=Zu hm aE
        refine Tp H rfl rfl (by decide) rfl (Zz rfl rfl (by decide) rfl (Zz rfl rfl (by decide) rfl (W_q (Zx rfl rfl) rfl (W_q (Zd rfl) rfl (Zz rfl rfl (by decide) rfl (Zz rfl rfl (by decide) rfl (Zz rfl rfl (by decide) rfl (W_q (Zx rfl rfl) rfl ?_))))))));clear H a;intro a H
        refine Ze (Za ?_)
        obtain rfl:=Option.some.inj hm;replace hm:=aJ;try dsimp only at hm
        replace hS:=hS.pk1
        replace hS:=hS.tk1
        exact Uy true H ⟨rfl,rfl,rfl,rfl,rfl,rfl,trivial⟩ ⟨hm,hS⟩
      replace H:=H.know 42 rfl aE
      replace hm:=Zv hm aE
      refine Kq H rfl rfl (n_q H (Zc rfl Zhp) rfl (Zy rfl rfl (W_q (Zf rfl ((hS.blk 0 rfl).ld ag3 rfl)) rfl (Zy rfl rfl (W_q (Za5 rfl rfl) rfl (W_q (Zt rfl rfl) rfl (W_q (Zd rfl) rfl ?_)))))));clear H a;intro a H
      rcases Bool.eq_false_or_eq_true (decide (aH.Prio < 0)) with aF|aF
      · replace H:=H.know 47 rfl aF
        replace hm:=Zu hm aF
        refine Tp H rfl rfl (by decide) rfl (Zz rfl rfl (by decide) rfl (Zz rfl rfl (by decide) rfl (W_q (Zx rfl rfl) rfl ?_)));clear H a;intro a H
        refine Ze (Za ?_)
        obtain rfl:=Option.some.inj hm;replace hm:=aJ;try dsimp only at hm
        replace hS:=hS.pk1
        replace hS:=hS.tk1
        exact Uy true H ⟨rfl,rfl,rfl,rfl,rfl,rfl,trivial⟩ ⟨hm,hS⟩
      replace H:=H.know 47 rfl aF
      replace hm:=Zv hm aF
      refine Kq H rfl rfl (n_q H (Zc rfl Zhp) rfl (Zy rfl rfl (W_q (Zf rfl ((hS.blk 0 rfl).ld ag3 rfl)) rfl (Zy rfl rfl (W_q (Zcd rfl rfl) rfl (W_q (Zt rfl rfl) rfl ?_))))));clear H a;intro a H
      refine Ze (Za ?_)
      obtain rfl:=Option.some.inj hm;replace hm:=aJ;try dsimp only at hm
      replace hS:=hS.pk1
      replace hS:=hS.tk1
      exact Uy (decide (255 < aH.Prio)) H ⟨rfl,rfl,rfl,rfl,rfl,rfl,trivial⟩ ⟨hm,hS⟩
    clear H hS hm a;intro aO a bD H hR
    simp only [ent,List.map_cons,List.map_nil] at H;(try dsimp only at hR);obtain⟨hm,hS⟩:=hR;try dsimp only [Ul] at hm
    refine Zn H rfl (fun aP=>?_) (fun aP=>?_)
    · replace hm:=Zu hm aP
      refine wp_seq (wp_region_lit (n_q H (Zd rfl) rfl (W_q (Zf rfl ((hG.ext hS.x).ld Vn (by decide) Hv)) rfl ?_)));clear H a;intro a H
      replace hm:=Zj hm;obtain⟨bR,aZ,hm⟩:=hm
      refine Zk H rfl Zp3 (Zbo (A:=A) (Xu.var (by decide) : IsE A bD _ (.v Vn)) aZ) rfl ?_
      clear H;intro bS bT hv;clear a;intro a H;obtain⟨_,rfl,a9⟩:=hv
      replace hS:=hS.new a9;simp only [List.cons_append,List.nil_append] at hS
      refine n_q H (Zb rfl) rfl ?_;clear H a;intro a H
      refine Ze (Za (wp_ret (Zl (Zh (Zh (Zl (Zh ?_)))))))
      obtain rfl:=Option.some.inj hm;have hz : _=aW:=aR;subst hz;replace hm:=aX;try dsimp only at hm
      obtain rfl:=Option.some.inj hm
      replace hS:=hS.tk1
      refine Qx H (.inr rfl) rfl rfl ?_
      exact⟨_,rfl,hS⟩
    replace hm:=Zv hm aP
    refine wp_skip (Zo (Za (wp_region_lit (n_q H (Yt (i:=aA) (j:=1) rfl rfl (by omega)) rfl (W_q (Zd rfl) rfl ?_)))));clear H a;intro a H
    refine Ze (Za ?_)
    obtain rfl:=Option.some.inj hm
    exact Uz (bH,aA + 1) H ⟨rfl,rfl,rfl,rfl,trivial⟩ ⟨aR,hS⟩ (Nat.lt_succ_self _)
  replace hm:=Zv hm aN
  refine wp_exit (Zr (Zr (Qf ?_)))
  obtain rfl:=Option.some.inj hm;have hz : _=aW:=aR;subst hz;replace hm:=aX;try dsimp only at hm
  refine Za (wp_seq (wp_region_lit (n_q H (Zb rfl) rfl ?_)));clear H a;intro a H
  refine Ze (Za (wp_ret ?_))
  obtain rfl:=Option.some.inj hm
  replace hS:=hS.dNil (A:=A)
  replace hS:=hS.tk1
  refine Qx H (.inr rfl) rfl rfl ?_
  exact⟨_,rfl,hS⟩
theorem Zgq {w : World} {A : Nat → Addr} {a0 : GPortPlan} {r : Bool} (hm : Zaf a0=some r) :
    Calls Tryz.prog 240 [.agg (Zp a0).toArray].toArray w (Ret fun u w'=>u=.bool r ∧ Ext w w'):=by
  have hS:=St.begin NB w
  unfold Zaf at hm
  refine enter Tryz.func240 rfl rfl rfl ?_;intro a H;dsimp only [Qn,Nat.zero_add,Nat.reduceAdd] at H
  refine wp_seq (wp_region_lit (Yy H rfl (cs:=[.int .i64 a0.Kind,.int .i64 a0.Size,.int .i64 a0.Depth,.int .i64 a0.Refresh]) rfl rfl ?_))
  clear H;intro aB aC hN aA hs;clear a;intro a H
  replace hS:=hS.newBlk hN aA hs;clear hN hs
  refine n_q H (Zb rfl) rfl ?_;clear H a;intro a H
  refine Ze (Za (wp_seq (wp_region_lit (n_c H (fun HC=>?_)))));clear H
  refine Zfx HC (Zc rfl Tt) rfl (by kernel_rfl) (V_q (Zf rfl ((hS.blk 0 rfl).ld ag3 rfl)) rfl (by kernel_rfl) (V_q (Jy rfl rfl) rfl (by kernel_rfl) (V_q (Zd rfl) rfl (by kernel_rfl) (V_g (Zc rfl Tt) (by kernel_rfl) (by kernel_rfl) (by kernel_rfl) (V_g (Zf rfl ((hS.blk 0 rfl).ld ag3 rfl)) (by kernel_rfl) (by kernel_rfl) (by kernel_rfl) (V_g (Jy rfl rfl) (by kernel_rfl) (by kernel_rfl) (by kernel_rfl) (Zml (j:=3) rfl rfl rfl (by kernel_rfl) (by kernel_rfl) (V_q (Zb rfl) rfl (by kernel_rfl) ?_))))))));clear HC a;intro a HC
  have H:=HC.has;clear HC
  refine Ze (Za (wp_ret ?_))
  obtain rfl:=Option.some.inj hm
  replace hS:=hS.tk0
  refine Qx H (.inr rfl) rfl rfl ?_
  exact⟨rfl,hS.x⟩
theorem Zjz {w : World} {A : Nat → Addr} {a0 : GPortPlan} {r : Bool} (hm : Zcw a0=some r) :
    Calls Tryz.prog 241 [.agg (Zp a0).toArray].toArray w (Ret fun u w'=>u=.bool r ∧ Ext w w'):=by
  have hS:=St.begin NB w
  unfold Zcw at hm
  refine enter Tryz.func241 rfl rfl rfl ?_;intro a H;dsimp only [Qn,Nat.zero_add,Nat.reduceAdd] at H
  refine wp_seq (wp_region_lit (Yy H rfl (cs:=[.int .i64 a0.Kind,.int .i64 a0.Size,.int .i64 a0.Depth,.int .i64 a0.Refresh]) rfl rfl ?_))
  clear H;intro aB aC hN aA hs;clear a;intro a H
  replace hS:=hS.newBlk hN aA hs;clear hN hs
  refine n_q H (Zb rfl) rfl ?_;clear H a;intro a H
  refine Ze (Za (wp_seq (wp_region_lit (n_c H (fun HC=>?_)))));clear H
  refine Zfx HC (Zc rfl Tt) rfl (by kernel_rfl) (V_q (Zf rfl ((hS.blk 0 rfl).ld ag3 rfl)) rfl (by kernel_rfl) (V_q (Jy rfl rfl) rfl (by kernel_rfl) (V_q (Zd rfl) rfl (by kernel_rfl) (V_g (Zc rfl Tt) (by kernel_rfl) (by kernel_rfl) (by kernel_rfl) (V_g (Zf rfl ((hS.blk 0 rfl).ld ag3 rfl)) (by kernel_rfl) (by kernel_rfl) (by kernel_rfl) (V_g (Jy rfl rfl) (by kernel_rfl) (by kernel_rfl) (by kernel_rfl) (Zml (j:=3) rfl rfl rfl (by kernel_rfl) (by kernel_rfl) (V_q (Zb rfl) rfl (by kernel_rfl) ?_))))))));clear HC a;intro a HC
  have H:=HC.has;clear HC
  refine Ze (Za (wp_ret ?_))
  obtain rfl:=Option.some.inj hm
  replace hS:=hS.tk0
  refine Qx H (.inr rfl) rfl rfl ?_
  exact⟨rfl,hS.x⟩
theorem Zep {w : World} {A : Nat → Addr} {a0 : GPortPlan} {r : Bool} (hm : Ti a0=some r) :
    Calls Tryz.prog 242 [.agg (Zp a0).toArray].toArray w (Ret fun u w'=>u=.bool r ∧ Ext w w'):=by
  have hS:=St.begin NB w
  unfold Ti at hm
  refine enter Tryz.func242 rfl rfl rfl ?_;intro a H;dsimp only [Qn,Nat.zero_add,Nat.reduceAdd] at H
  refine wp_seq (wp_region_lit (Yy H rfl (cs:=[.int .i64 a0.Kind,.int .i64 a0.Size,.int .i64 a0.Depth,.int .i64 a0.Refresh]) rfl rfl ?_))
  clear H;intro aB aC hN aA hs;clear a;intro a H
  replace hS:=hS.newBlk hN aA hs;clear hN hs
  refine n_q H (Zb rfl) rfl ?_;clear H a;intro a H
  refine Ze (Za (wp_seq (wp_region_lit (n_c H (fun HC=>?_)))));clear H
  refine Zfx HC (Zc rfl Tt) rfl (by kernel_rfl) (V_q (Zf rfl ((hS.blk 0 rfl).ld ag3 rfl)) rfl (by kernel_rfl) (V_q (Jy rfl rfl) rfl (by kernel_rfl) (V_q (Zd rfl) rfl (by kernel_rfl) (V_g (Zc rfl Tt) (by kernel_rfl) (by kernel_rfl) (by kernel_rfl) (V_g (Zf rfl ((hS.blk 0 rfl).ld ag3 rfl)) (by kernel_rfl) (by kernel_rfl) (by kernel_rfl) (V_g (Jy rfl rfl) (by kernel_rfl) (by kernel_rfl) (by kernel_rfl) (Zml (j:=3) rfl rfl rfl (by kernel_rfl) (by kernel_rfl) (V_q (Zb rfl) rfl (by kernel_rfl) ?_))))))));clear HC a;intro a HC
  have H:=HC.has;clear HC
  refine Ze (Za (wp_ret ?_))
  obtain rfl:=Option.some.inj hm
  replace hS:=hS.tk0
  refine Qx H (.inr rfl) rfl rfl ?_
  exact⟨rfl,hS.x⟩
theorem Zby {w : World} {A : Nat → Addr} {a0 : GPortPlan} (hG : EV A w) {r : ErrM} (hm : Ua a0=some r) :
    Calls Tryz.prog 199 [.agg (Zp a0).toArray].toArray w (Ret fun u w'=>∃ h_0,u=h_0 ∧ St NB w w' [erQ A h_0 r]):=by
  have hS:=St.begin NB w
  unfold Ua at hm
  refine enter Tryz.func199 rfl rfl rfl ?_;intro a H;dsimp only [Qn,Nat.zero_add,Nat.reduceAdd] at H
  refine wp_seq (wp_region_lit (Yy H rfl (cs:=[.int .i64 a0.Kind,.int .i64 a0.Size,.int .i64 a0.Depth,.int .i64 a0.Refresh]) rfl rfl ?_))
  clear H;intro aI bH hN aV hs;clear a;intro a H
  replace hS:=hS.newBlk hN aV hs;clear hN hs
  refine n_q H (Zb rfl) rfl ?_;clear H a;intro a H
  refine Ze (Za (wp_seq (wp_region_lit (n_q H (Zb rfl) rfl (W_q (Zb rfl) rfl ?_)))));clear H a;intro a H
  refine Ze (Za ?_)
  replace hm:=Zj hm;obtain⟨bI,hm,aM⟩:=hm
  refine Gm (σ:=Nat) H (fun aA=>[(1,.pointer (some ⟨aI,0,none⟩)),(3,.int .i64 ((aA : Nat) : Int)),(4,.int .i64 0)]) (fun aA wl=>(Gd a0) aA=some r ∧ St NB w wl [blkR aI [.int .i64 a0.Kind,.int .i64 a0.Size,.int .i64 a0.Depth,.int .i64 a0.Refresh] 118]) ?_ ?_
  · skip
    refine wp_seq (wp_region_lit (n_q H (Zf rfl ((hS.blk 0 rfl).ldAll Zdp Gp)) rfl ?_));clear H a;intro a H
    replace hm:=Zj hm;obtain⟨bC,aR,hm⟩:=hm
    refine Zk H rfl en240 (Zgq (A:=A) aR) rfl ?_
    clear H;intro bD bE hv;clear a;intro a H;obtain⟨rfl,aS⟩:=hv
    replace hS:=hS.ext aS
    refine Ze (Za (Zn H rfl (fun aJ=>?_) (fun aJ=>?_)))
    · replace hm:=Zu hm aJ
      refine wp_region_lit (n_q H (Zb rfl) rfl ?_);clear H a;intro a H
      refine Ze (Za ?_)
      obtain rfl:=Option.some.inj hm;replace hm:=aM;try dsimp only at hm
      exact Uy 8 H ⟨rfl,rfl,rfl,trivial⟩ ⟨hm,hS⟩
    replace hm:=Zv hm aJ
    refine wp_skip (Za ?_)
    obtain rfl:=Option.some.inj hm;replace hm:=aM;try dsimp only at hm
    exact Uy 1 H ⟨rfl,rfl,rfl,trivial⟩ ⟨hm,hS⟩
  clear H hS hm a;intro aA a bF H hR
  simp only [ent,List.map_cons,List.map_nil] at H;(try dsimp only at hR);obtain⟨hm,hS⟩:=hR;try dsimp only [Gd] at hm
  replace hm:=Zj hm;obtain⟨bG,hm,aL⟩:=hm
  refine Gm (σ:=Nat) H (fun aC=>[(1,.pointer (some ⟨aI,0,none⟩)),(3,.int .i64 ((aA : Nat) : Int)),(4,.int .i64 ((aC : Nat) : Int))]) (fun aC wl=>(Gc a0 aA) aC=some r ∧ St NB w wl [blkR aI [.int .i64 a0.Kind,.int .i64 a0.Size,.int .i64 a0.Depth,.int .i64 a0.Refresh] 118]) ?_ ?_
  · skip
    refine wp_seq (wp_region_lit (n_q H (Zc rfl Tt) rfl (W_q (Zf rfl ((hS.blk 0 rfl).ld ag3 rfl)) rfl (W_q (Jy rfl rfl) rfl ?_))));clear H a;intro a H
    refine Ze (Za (Zn H rfl (fun aE=>?_) (fun aE=>?_)))
    · replace hm:=Zu hm aE
      refine wp_region_lit (n_q H (Zb rfl) rfl ?_);clear H a;intro a H
      refine Ze (Za ?_)
      obtain rfl:=Option.some.inj hm;replace hm:=aL;try dsimp only at hm
      exact Uy 255 H ⟨rfl,rfl,rfl,trivial⟩ ⟨hm,hS⟩
    replace hm:=Zv hm aE
    refine wp_skip (Za ?_)
    obtain rfl:=Option.some.inj hm;replace hm:=aL;try dsimp only at hm
    exact Uy 0 H ⟨rfl,rfl,rfl,trivial⟩ ⟨hm,hS⟩
  clear H hS hm a;intro aC a aW H hR
  simp only [ent,List.map_cons,List.map_nil] at H;(try dsimp only at hR);obtain⟨hm,hS⟩:=hR;try dsimp only [Gc] at hm
  refine wp_seq (wp_block ?_)
  replace hm:=Zj hm;obtain⟨aX,hm,aK⟩:=hm
  refine Gm (σ:=Bool) H (fun aD=>[(1,.pointer (some ⟨aI,0,none⟩)),(3,.int .i64 ((aA : Nat) : Int)),(4,.int .i64 ((aC : Nat) : Int)),(10,.bool aD)]) (fun aD wl=>(Gb a0 aA aC) aD=some r ∧ St NB w wl [blkR aI [.int .i64 a0.Kind,.int .i64 a0.Size,.int .i64 a0.Depth,.int .i64 a0.Refresh] 118]) ?_ ?_
  · skip
    refine wp_region_lit (n_q H (Zf rfl ((hS.blk 0 rfl).ldAll Zdp Gp)) rfl ?_);clear H a;intro a H
    replace hm:=Zj hm;obtain⟨aT,aN,hm⟩:=hm
    refine Zk H rfl en241 (Zjz (A:=A) aN) rfl ?_
    clear H;intro aY aZ hv;clear a;intro a H;obtain⟨rfl,aO⟩:=hv
    replace hS:=hS.ext aO
    refine n_q H (Zb1 rfl) rfl (W_q (Zd rfl) rfl ?_);clear H a;intro a H
    rcases Bool.eq_false_or_eq_true (!aT) with aB|aB
    · replace H:=H.know 14 rfl aB
      replace hm:=Zu hm aB
      refine Kq H rfl rfl (n_q H (Zf rfl ((hS.blk 0 rfl).ldAll Zdp Gp)) rfl (Zy rfl rfl ?_));clear H a;intro a H
      replace hm:=Zj hm;obtain⟨aU,aP,hm⟩:=hm
      refine Zk H rfl en242 (Zep (A:=A) aP) rfl ?_
      clear H;intro a9 bA hv;clear a;intro a H;obtain⟨rfl,aQ⟩:=hv
      replace hS:=hS.ext aQ
      refine Kq H rfl rfl (n_q H (Zb1 rfl) rfl (W_q (Zx rfl rfl) rfl (W_q (Zb rfl) rfl ?_)));clear H a;intro a H
      refine Ze (Za ?_)
      obtain rfl:=Option.some.inj hm;replace hm:=aK;try dsimp only at hm
      exact Uy (!aU) H ⟨rfl,rfl,rfl,rfl,trivial⟩ ⟨hm,hS⟩
    replace H:=H.know 14 rfl aB
    replace hm:=Zv hm aB
    refine Tp H rfl rfl (by decide) rfl (Zz rfl rfl (by decide) rfl (Zz rfl rfl (by decide) rfl (W_q (Zt rfl rfl) rfl (W_q (Zb rfl) rfl ?_))));clear H a;intro a H
    refine Ze (Za ?_)
    obtain rfl:=Option.some.inj hm;replace hm:=aK;try dsimp only at hm
    exact Uy false H ⟨rfl,rfl,rfl,rfl,trivial⟩ ⟨hm,hS⟩
  clear H hS hm a;intro aD a bB H hR
  simp only [ent,List.map_cons,List.map_nil] at H;(try dsimp only at hR);obtain⟨hm,hS⟩:=hR;try dsimp only [Gb] at hm
  refine Zn H rfl (fun aF=>?_) (fun aF=>?_)
  · replace hm:=Zu hm aF
    refine wp_seq (wp_region_lit (n_q H (Zf rfl ((hG.ext hS.x).ld Zju (by decide) Hv)) rfl (W_q (Zb rfl) rfl ?_)));clear H a;intro a H
    refine Ze (Za (wp_ret (Zl (Zh ?_))))
    obtain rfl:=Option.some.inj hm
    replace hS:=hS.dVar (A:=A) (g:=Zju) (by decide)
    replace hS:=hS.tk1
    refine Qx H (.inr rfl) rfl rfl ?_
    exact⟨_,rfl,hS⟩
  replace hm:=Zv hm aF
  refine wp_seq (wp_region_lit (n_c H (fun HC=>?_)));clear H
  refine Zfx HC (Zc rfl Zhq) rfl (by kernel_rfl) (V_q (Zf rfl ((hS.blk 0 rfl).ld ag3 rfl)) rfl (by kernel_rfl) (V_q (Za5 rfl rfl) rfl (by kernel_rfl) (V_q (Zd rfl) rfl (by kernel_rfl) (V_g (Zc rfl Zhq) (by kernel_rfl) (by kernel_rfl) (by kernel_rfl) (V_g (Zf rfl ((hS.blk 0 rfl).ld ag3 rfl)) (by kernel_rfl) (by kernel_rfl) (by kernel_rfl) (V_g (Zcd rfl rfl) (by kernel_rfl) (by kernel_rfl) (by kernel_rfl) (Zml (j:=3) rfl rfl rfl (by kernel_rfl) (by kernel_rfl) (V_q (Zb rfl) rfl (by kernel_rfl) ?_))))))));clear HC a;intro a HC
  have H:=HC.has;clear HC
  refine Ze (Za (Zn H rfl (fun aG=>?_) (fun aG=>?_)))
  · replace hm:=Zu hm aG
    refine wp_seq (wp_region_lit (n_q H (Zf rfl ((hG.ext hS.x).ld Za7 (by decide) Hv)) rfl (W_q (Zb rfl) rfl ?_)));clear H a;intro a H
    refine Ze (Za (wp_ret (Zl (Zh ?_))))
    obtain rfl:=Option.some.inj hm
    replace hS:=hS.dVar (A:=A) (g:=Za7) (by decide)
    replace hS:=hS.tk1
    refine Qx H (.inr rfl) rfl rfl ?_
    exact⟨_,rfl,hS⟩
  replace hm:=Zv hm aG
  refine wp_seq (wp_region_lit (n_c H (fun HC=>?_)));clear H
  refine Zfx HC (Zc rfl Zf5) rfl (by kernel_rfl) (V_q (Zf rfl ((hS.blk 0 rfl).ld ag3 rfl)) rfl (by kernel_rfl) (V_q (Za5 rfl rfl) rfl (by kernel_rfl) (V_q (Zd rfl) rfl (by kernel_rfl) (V_g (Zc rfl Zf5) (by kernel_rfl) (by kernel_rfl) (by kernel_rfl) (V_g (Zf rfl ((hS.blk 0 rfl).ld ag3 rfl)) (by kernel_rfl) (by kernel_rfl) (by kernel_rfl) (V_g (Zd rfl) (by kernel_rfl) (by kernel_rfl) (by kernel_rfl) (V_g (Zcd rfl rfl) (by kernel_rfl) (by kernel_rfl) (by kernel_rfl) (Zml (j:=3) rfl rfl rfl (by kernel_rfl) (by kernel_rfl) (V_q (Zd rfl) rfl (by kernel_rfl) (V_g (Zc rfl Zmr) (by kernel_rfl) (by kernel_rfl) (by kernel_rfl) (V_g (Zf rfl ((hS.blk 0 rfl).ld ag3 rfl)) (by kernel_rfl) (by kernel_rfl) (by kernel_rfl) ?_)))))))))));clear HC a;intro a HC
  refine Zq3 HC (Za5 rfl rfl) (by kernel_rfl) (by kernel_rfl) (by kernel_rfl) (Zml (j:=9) rfl rfl rfl (by kernel_rfl) (by kernel_rfl) (V_q (Zd rfl) rfl (by kernel_rfl) (V_g (Zc rfl Zmr) (by kernel_rfl) (by kernel_rfl) (by kernel_rfl) (V_g (Zf rfl ((hS.blk 0 rfl).ld ag3 rfl)) (by kernel_rfl) (by kernel_rfl) (by kernel_rfl) (V_g (Zd rfl) (by kernel_rfl) (by kernel_rfl) (by kernel_rfl) (V_g (Zcd rfl rfl) (by kernel_rfl) (by kernel_rfl) (by kernel_rfl) (Zml (j:=14) rfl rfl rfl (by kernel_rfl) (by kernel_rfl) (V_q (Zb rfl) rfl (by kernel_rfl) ?_))))))));clear HC a;intro a HC
  have H:=HC.has;clear HC
  refine Ze (Za (Zn H rfl (fun aH=>?_) (fun aH=>?_)))
  · replace hm:=Zu hm aH
    refine wp_seq (wp_region_lit (n_q H (Zf rfl ((hG.ext hS.x).ld Vn (by decide) Hv)) rfl (W_q (Zb rfl) rfl ?_)));clear H a;intro a H
    refine Ze (Za (wp_ret (Zl (Zh ?_))))
    obtain rfl:=Option.some.inj hm
    replace hS:=hS.dVar (A:=A) (g:=Vn) (by decide)
    replace hS:=hS.tk1
    refine Qx H (.inr rfl) rfl rfl ?_
    exact⟨_,rfl,hS⟩
  replace hm:=Zv hm aH
  refine wp_skip (Zo (Za (wp_seq (wp_region_lit (n_q H (Zb rfl) rfl ?_)))));clear H a;intro a H
  refine Ze (Za (wp_ret ?_))
  obtain rfl:=Option.some.inj hm
  replace hS:=hS.dNil (A:=A)
  replace hS:=hS.tk1
  refine Qx H (.inr rfl) rfl rfl ?_
  exact⟨_,rfl,hS⟩
theorem Zj0 {w : World} {A : Nat → Addr} {a0 : GPortPlan} (hG : EV A w) {r : Int × ErrM} (hm : Zbj a0=some r) :
    Calls Tryz.prog 228 [.agg (Zp a0).toArray].toArray w (Ret fun u w'=>∃ h_0,u=.tuple #[.int .i64 r.1,h_0] ∧ St NB w w' [erQ A h_0 r.2]):=by
  have hS:=St.begin NB w
  unfold Zbj at hm
  refine enter Tryz.func228 rfl rfl rfl ?_;intro a H;dsimp only [Qn,Nat.zero_add,Nat.reduceAdd] at H
  refine wp_seq (wp_region_lit (Yy H rfl (cs:=[.int .i64 a0.Kind,.int .i64 a0.Size,.int .i64 a0.Depth,.int .i64 a0.Refresh]) rfl rfl ?_))
  clear H;intro aL aM hN aF hs;clear a;intro a H
  replace hS:=hS.newBlk hN aF hs;clear hN hs
  refine n_q H (Zb rfl) rfl (W_q (Zb rfl) rfl ?_);clear H a;intro a H
  refine Ze (Za (wp_seq (wp_seq (wp_region_lit (n_q H (Zf rfl ((hS.blk 0 rfl).ldAll Zdp Gp)) rfl ?_)))));clear H a;intro a H
  replace hm:=Zj hm;obtain⟨aC,aG,hm⟩:=hm
  refine Zk H rfl en199 (Zby (A:=A) (hG.ext hS.x) aG) rfl ?_
  clear H;intro aD aE hv;clear a;intro a H;obtain⟨_,rfl,aH⟩:=hv
  replace hS:=hS.new aH;simp only [List.cons_append,List.nil_append] at hS
  refine n_q H (Xi (Vr Tryz.underlying39 rfl rfl (hS.any 0 rfl : IsE A aE aD aC).form) (show _=Value.bool (!decide (aC=.nil)) by rw [Xu.isNil (hS.any 0 rfl : IsE A aE aD aC)])) rfl ?_;clear H a;intro a H
  refine Ze (Za (Zn H rfl (fun aA=>?_) (fun aA=>?_)))
  · replace hm:=Zu hm aA
    refine wp_seq (Gw (by kernel_rfl) (by kernel_rfl) ?_)
    refine Xn H (Zf rfl ((hG.ext hS.x).ld Hp (by decide) Hv)) rfl ?_;clear H a;intro a H
    refine Xn H (Zb rfl) rfl ?_;clear H a;intro a H
    refine Xn H (Zb rfl) rfl ?_;clear H a;intro a H
    refine Tg ?_;intro aN aI
    replace hS:=hS.ext aI
    refine Za (wp_ret (Zh ?_))
    obtain rfl:=Option.some.inj hm
    replace hS:=hS.dVar (A:=A) (g:=Hp) (by decide)
    replace hS:=hS.tk1
    refine Zgd H (.inr rfl) rfl rfl rfl ?_
    exact⟨_,rfl,hS⟩
  replace hm:=Zv hm aA
  refine wp_skip (Za (wp_seq (wp_seq (wp_region_lit (n_q H (Zf rfl ((hS.blk 1 rfl).ldAll Zdp Gp)) rfl ?_)))));clear H a;intro a H
  replace hm:=Zj hm;obtain⟨aO,aJ,hm⟩:=hm
  refine Zk H rfl en242 (Zep (A:=A) aJ) rfl ?_
  clear H;intro aP aQ hv;clear a;intro a H;obtain⟨rfl,aK⟩:=hv
  replace hS:=hS.ext aK
  refine Ze (Za (Zn H rfl (fun aB=>?_) (fun aB=>?_)))
  · replace hm:=Zu hm aB
    refine wp_seq (wp_region_lit (n_q H (Zb rfl) rfl (W_q (Zb rfl) rfl ?_)));clear H a;intro a H
    refine Ze (Za (wp_ret (Zh ?_)))
    obtain rfl:=Option.some.inj hm
    replace hS:=hS.dNil (A:=A)
    replace hS:=hS.tk1
    refine Zgd H (.inr rfl) rfl rfl rfl ?_
    exact⟨_,rfl,hS⟩
  replace hm:=Zv hm aB
  refine wp_skip (Za (wp_seq (wp_region_lit (n_q H (Zc rfl Zf5) rfl (W_q (Zf rfl ((hS.blk 1 rfl).ld ag3 rfl)) rfl (W_q (Zc rfl Zhq) rfl (W_q (Zf rfl ((hS.blk 1 rfl).ld ag3 rfl)) rfl (W_q (Uo rfl rfl) rfl (W_q (Zha rfl rfl) rfl (W_q (Uo rfl rfl) rfl (W_q (Zb rfl) rfl (W_q (Zb rfl) rfl ?_))))))))))));clear H a;intro a H
  refine Ze (Za (wp_ret ?_))
  obtain rfl:=Option.some.inj hm
  replace hS:=hS.dNil (A:=A)
  replace hS:=hS.tk1
  refine Zgd H (.inr rfl) rfl rfl rfl ?_
  exact⟨_,rfl,hS⟩
theorem Zeq {w : World} {A : Nat → Addr} {cs0 : List Value} {a0 : GPlan} (hG : EV A w) (h0 : Xa w cs0 a0) {r : Int} (hm : Tj a0=some r) :
    Calls Tryz.prog 140 [.agg cs0.toArray].toArray w (Ret fun u w'=>u=.int .i64 r ∧ Ext w w'):=by
  obtain⟨aN,aO,aG,aP,rfl,aJ,aK,aB,aL⟩:=h0
  have hS:=St.begin NB w
  unfold Tj at hm
  refine enter Tryz.func140 rfl rfl rfl ?_;intro a H;dsimp only [Qn,Nat.zero_add,Nat.reduceAdd] at H
  refine wp_seq (wp_region_lit (Yy H rfl (cs:=[.int .i64 a0.Id,.bool a0.Mobile,aN,aO,aG,.int .i64 a0.Events,aP]) rfl rfl ?_))
  clear H;intro bM bN hN aR hs;clear a;intro a H
  replace hS:=hS.newBlk hN aR hs;clear hN hs
  refine n_q H (Zb rfl) rfl ?_;clear H a;intro a H
  refine Ze (Za (wp_seq (wp_region_lit (n_q H (Zc rfl Zbn) rfl (W_q (Zf rfl ((hS.blk 0 rfl).ld Zom rfl)) rfl ?_)))));clear H a;intro a H
  obtain⟨bO,bP,aS,bE,bF⟩:=SlR.formV (aK.ext (Zi.mono _) hS.x)
  refine n_q H (Qc Tryz.underlying23 rfl aS) rfl (W_q (Zha rfl rfl) rfl (W_q (Uo rfl rfl) rfl (W_q (Zc rfl Zap) rfl (W_q (Zf rfl ((hS.blk 0 rfl).ld Zmo rfl)) rfl ?_))));clear H a;intro a H
  obtain⟨bQ,bR,aT,bG,bH⟩:=SlR.formV (aJ.ext (Zi.mono _) hS.x)
  refine n_q H (Qc Tryz.underlying22 rfl aT) rfl (W_q (Zha rfl rfl) rfl (W_q (Uo rfl rfl) rfl (W_q (Zc rfl Zdq) rfl (W_q (Zf rfl ((hS.blk 0 rfl).ld ag3 rfl)) rfl (W_q (Uo rfl rfl) rfl (W_q (Zc rfl Zbx) rfl (W_q (Zf rfl ((hS.blk 0 rfl).ld Zil rfl)) rfl ?_)))))));clear H a;intro a H
  obtain⟨bS,bT,aU,bI,bJ⟩:=SlR.formV (aL.ext (Zi.mono _) hS.x)
  refine n_q H (Qc Tryz.underlying25 rfl aU) rfl (W_q (Uo rfl rfl) rfl (W_q (Zb rfl) rfl ?_));clear H a;intro a H
  refine Ze (Za (wp_seq (wp_seq (wp_region_lit (n_q H (Zc rfl Tu) rfl (W_q (Zf rfl ((hS.blk 0 rfl).ld Zk2 rfl)) rfl ?_))))));clear H a;intro a H
  obtain⟨bU,bV,aD,bK,bL⟩:=SlR.formV (aB.ext (Zi.mono _) hS.x)
  refine n_q H (Qc Tryz.underlying24 rfl aD) rfl (W_q (Zd rfl) rfl ?_);clear H a;intro a H
  refine Ze (Za (wp_block ?_))
  replace hS:=hS.tk0
  replace hm:=Zj hm;obtain⟨aQ,hm,aV⟩:=hm;replace hm:=Ql hm;obtain⟨a9,hm⟩:=hm
  refine Kr (σ:=Nat × Int × Nat) (fun (m,aC,aA)=>[(3,.int .i64 aC),(26,aG),(27,.int .i64 ((a0.Ports.length : Nat) : Int)),(28,.int .i64 ((aA : Nat) : Int))]) (fun (m,aC,aA) wl=>Ye (Uu a0) m (aC,aA)=some aQ ∧ St NB w wl []) (fun (m,aC,aA)=>m) (a9,(IntKind.i64.wrap ((IntKind.i64.wrap ((IntKind.i64.wrap ((IntKind.i64.wrap (58 + (IntKind.i64.wrap (76 * ((a0.Procs.length : Nat) : Int))))) + (IntKind.i64.wrap (68 * ((a0.Pages.length : Nat) : Int))))) + a0.Events)) + ((a0.Sems.length : Nat) : Int))),0) H ⟨rfl,rfl,rfl,rfl,trivial⟩ ⟨hm,hS⟩ ?_
  clear H hS hm a;intro xx a bW H hR;obtain⟨m,aC,aA⟩:=xx;simp only [ent,List.map_cons,List.map_nil] at H;(try dsimp only at hR);obtain⟨hm,hS⟩:=hR
  replace hm:=Qh hm;obtain⟨bA,bX,rfl,hm,aM⟩:=hm;try dsimp only [Uu] at hm
  refine wp_seq (wp_region_lit (n_q H (Yc (i:=aA) (j:=a0.Ports.length) rfl rfl) rfl ?_));clear H a;intro a H
  refine Ze (Za (wp_seq (Zn H rfl (fun aE=>?_) (fun aE=>?_))))
  · replace hm:=Zu hm aE
    have bC : aA < a0.Ports.length:=of_decide_eq_true aE
    refine wp_skip (Za (wp_seq (wp_block (wp_seq (wp_region_lit ?_)))))
    replace hm:=Zj hm;obtain⟨aH,aF,hm⟩:=hm
    obtain⟨bD,aI⟩:=SlR.adV (aB.ext (Zi.mono _) hS.x) aD aF
    refine n_q H (Ug (i:=aA) Tryz.underlying24 Gp rfl aD aI rfl (Zb5 aF)) rfl (W_q (Zf rfl (SlR.ldAggV (aB.ext (Zi.mono _) hS.x) aD aI Zdp Gp aF)) rfl ?_);clear H a;intro a H
    refine Jb H Zgp rfl ?_
    clear H;intro bY bZ hN aW hs;clear a;intro a H
    replace hS:=hS.newBlk hN aW hs;clear hN hs
    refine Qi H rfl rfl (vs:=[.int .i64 aH.Kind,.int .i64 aH.Size,.int .i64 aH.Depth,.int .i64 aH.Refresh]) rfl Gp (hS.blk 0 rfl) rfl (by simp) ?_
    clear H;intro b6 hN aX hz;clear a;intro a H;replace hS:=hS.setBlk hN aX;clear hN hz
    refine Ze (Za (wp_seq (wp_region_lit (n_q H (Zf rfl ((hS.blk 0 rfl).ldAll Zdp Gp)) rfl ?_))));clear H a;intro a H
    replace hm:=Zj hm;obtain⟨bB,aY,hm⟩:=hm
    refine Zk H rfl en228 (Zj0 (A:=A) (hG.ext hS.x) aY) rfl ?_
    clear H;intro b7 b8 hv;clear a;intro a H;obtain⟨b9,rfl,aZ⟩:=hv
    replace hS:=hS.new aZ;simp only [List.cons_append,List.nil_append] at hS
    refine n_q H (Zd rfl) rfl (W_q (Zm rfl rfl) rfl (W_q (Zm rfl rfl) rfl (W_q (Zb rfl) rfl (W_q (Zb rfl) rfl ?_))));clear H a;intro a H
    refine Ze (Za (wp_region_lit (n_q H (Zd rfl) rfl (W_q (Zd rfl) rfl (W_q (Uo rfl rfl) rfl (W_q (Uo rfl rfl) rfl (W_q (Zb rfl) rfl ?_)))))));clear H a;intro a H
    refine Ze (Zo (Za (wp_region_lit (n_q H (Yt (i:=aA) (j:=1) rfl rfl (by omega)) rfl (W_q (Zd rfl) rfl ?_)))));clear H a;intro a H
    refine Ze (Za ?_)
    obtain rfl:=Option.some.inj hm
    replace hS:=hS.tk0
    exact Uz (bA,(IntKind.i64.wrap (aC + (IntKind.i64.wrap (3 + bB.1)))),aA + 1) H ⟨rfl,rfl,rfl,rfl,trivial⟩ ⟨aM,hS⟩ (Nat.lt_succ_self _)
  replace hm:=Zv hm aE
  refine wp_exit (Zr (Zr (Qf ?_)))
  obtain rfl:=Option.some.inj hm;have hz : _=aQ:=aM;subst hz;replace hm:=aV;try dsimp only at hm
  refine Za (wp_seq (wp_region_lit (n_q H (Zd rfl) rfl (W_q (Zb rfl) rfl ?_))));clear H a;intro a H
  refine Ze (Za (wp_ret ?_))
  obtain rfl:=Option.some.inj hm
  refine Qx H (.inr rfl) rfl rfl ?_
  exact⟨rfl,hS.x⟩
theorem Zfh {w : World} {A : Nat → Addr} {cs0 : List Value} {a0 : GPlan} (hG : EV A w) (h0 : Xa w cs0 a0) {r : ErrM} (hm : Gn a0=some r) :
    Calls Tryz.prog 130 [.agg cs0.toArray].toArray w (Ret fun u w'=>∃ h_0,u=h_0 ∧ St NB w w' [erQ A h_0 r]):=by
  obtain⟨aG,aH,aC,aD,rfl,bA,bB,aE,aF⟩:=h0
  have hS:=St.begin NB w
  unfold Gn at hm
  refine enter Tryz.func130 rfl rfl rfl ?_;intro a H;dsimp only [Qn,Nat.zero_add,Nat.reduceAdd] at H
  refine wp_seq (wp_region_lit (Yy H rfl (cs:=[.int .i64 a0.Id,.bool a0.Mobile,aG,aH,aC,.int .i64 a0.Events,aD]) rfl rfl ?_))
  clear H;intro aW cC hN bI hs;clear a;intro a H
  replace hS:=hS.newBlk hN bI hs;clear hN hs
  refine n_q H (Zb rfl) rfl ?_;clear H a;intro a H
  refine Ze (Za (wp_seq (wp_seq (wp_region_lit (n_q H (Zc rfl Tu) rfl (W_q (Zf rfl ((hS.blk 0 rfl).ld Zk2 rfl)) rfl ?_))))));clear H a;intro a H
  obtain⟨cD,cF,aI,b8,b9⟩:=SlR.formV (aE.ext (Zi.mono _) hS.x)
  refine n_q H (Qc Tryz.underlying24 rfl aI) rfl (W_q (Zgf (i:=a0.Ports.length) (j:=8) rfl rfl) rfl ?_);clear H a;intro a H
  refine Ze (Za (Zn H rfl (fun aM=>?_) (fun aM=>?_)))
  · replace hm:=Zu hm aM
    refine wp_seq (wp_region_lit (n_q H (Zf rfl ((hG.ext hS.x).ld Za7 (by decide) Hv)) rfl (W_q (Zb rfl) rfl ?_)));clear H a;intro a H
    refine Ze (Za (wp_ret (Zh ?_)))
    obtain rfl:=Option.some.inj hm
    replace hS:=hS.dVar (A:=A) (g:=Za7) (by decide)
    replace hS:=hS.tk1
    refine Qx H (.inr rfl) rfl rfl ?_
    exact⟨_,rfl,hS⟩
  replace hm:=Zv hm aM
  refine wp_skip (Za (wp_seq (wp_seq (wp_region_lit (n_q H (Zc rfl Tu) rfl (W_q (Zf rfl ((hS.blk 0 rfl).ld Zk2 rfl)) rfl (W_q (Qc Tryz.underlying24 rfl aI) rfl (W_q (Zd rfl) rfl ?_))))))));clear H a;intro a H
  refine Ze (Za (wp_block ?_))
  replace hm:=Zj hm;obtain⟨bC,hm,bD⟩:=hm;replace hm:=Ql hm;obtain⟨bT,hm⟩:=hm
  refine Kr (σ:=Nat × Nat) (fun (m,aA)=>[(1,.pointer (some ⟨aW,0,none⟩)),(14,aC),(15,.int .i64 ((a0.Ports.length : Nat) : Int)),(16,.int .i64 ((aA : Nat) : Int))]) (fun (m,aA) wl=>Ye (Yi a0) m aA=some bC ∧ St NB w wl [blkR aW [.int .i64 a0.Id,.bool a0.Mobile,aG,aH,aC,.int .i64 a0.Events,aD] 27]) (fun (m,aA)=>m) (bT,0) H ⟨rfl,rfl,rfl,rfl,trivial⟩ ⟨hm,hS⟩ ?_
  clear H hS hm a;intro xx a cG H hR;obtain⟨m,aA⟩:=xx;simp only [ent,List.map_cons,List.map_nil] at H;(try dsimp only at hR);obtain⟨hm,hS⟩:=hR
  replace hm:=Qh hm;obtain⟨bU,cH,rfl,hm,aN⟩:=hm;try dsimp only [Yi] at hm
  refine wp_seq (wp_region_lit (n_q H (Yc (i:=aA) (j:=a0.Ports.length) rfl rfl) rfl ?_));clear H a;intro a H
  refine Ze (Za (wp_seq (Zn H rfl (fun aK=>?_) (fun aK=>?_))))
  · replace hm:=Zu hm aK
    have bY : aA < a0.Ports.length:=of_decide_eq_true aK
    refine wp_skip (Za (wp_seq (wp_block (wp_seq (wp_region_lit (n_q H (Zd rfl) rfl ?_))))));clear H a;intro a H
    replace hm:=Zj hm;obtain⟨aX,aO,hm⟩:=hm
    obtain⟨bZ,aY⟩:=SlR.adV (aE.ext (Zi.mono _) hS.x) aI aO
    refine n_q H (Ug (i:=aA) Tryz.underlying24 Gp rfl aI aY rfl (Zb5 aO)) rfl (W_q (Zf rfl (SlR.ldAggV (aE.ext (Zi.mono _) hS.x) aI aY Zdp Gp aO)) rfl ?_);clear H a;intro a H
    refine Jb H Zgp rfl ?_
    clear H;intro cI cJ hN bJ hs;clear a;intro a H
    replace hS:=hS.newBlk hN bJ hs;clear hN hs
    refine n_q H (Zb rfl) rfl ?_;clear H a;intro a H
    refine Qi H rfl rfl (vs:=[.int .i64 aX.Kind,.int .i64 aX.Size,.int .i64 aX.Depth,.int .i64 aX.Refresh]) rfl Gp (hS.blk 0 rfl) rfl (by simp) ?_
    clear H;intro cK hN bK hz;clear a;intro a H;replace hS:=hS.setBlk hN bK;clear hN hz
    refine Ze (Za (wp_seq (wp_region_lit (n_q H (Zf rfl ((hS.blk 0 rfl).ldAll Zdp Gp)) rfl ?_))));clear H a;intro a H
    replace hm:=Zj hm;obtain⟨aZ,bL,hm⟩:=hm
    refine Zk H rfl en199 (Zby (A:=A) (hG.ext hS.x) bL) rfl ?_
    clear H;intro bE bF hv;clear a;intro a H;obtain⟨_,rfl,bM⟩:=hv
    replace hS:=hS.new bM;simp only [List.cons_append,List.nil_append] at hS
    refine n_q H (Zb rfl) rfl ?_;clear H a;intro a H
    refine Ze (Za (wp_seq (wp_region_lit (n_q H (Zd rfl) rfl (W_q (Xi (Vr Tryz.underlying39 rfl rfl (hS.any 0 rfl : IsE A bF bE aZ).form) (show _=Value.bool (!decide (aZ=.nil)) by rw [Xu.isNil (hS.any 0 rfl : IsE A bF bE aZ)])) rfl ?_)))));clear H a;intro a H
    refine Ze (Za (Zn H rfl (fun aP=>?_) (fun aP=>?_)))
    · replace hm:=Zu hm aP
      refine wp_seq (wp_region_lit (n_q H (Zd rfl) rfl (W_q (Zd rfl) rfl ?_)));clear H a;intro a H
      replace hm:=Zj hm;obtain⟨cL,bN,hm⟩:=hm
      refine Zk H rfl Zp3 (Zbo (A:=A) (hS.any 0 rfl : IsE A bF bE aZ) bN) rfl ?_
      clear H;intro cM cN hv;clear a;intro a H;obtain⟨_,rfl,bO⟩:=hv
      replace hS:=hS.new bO;simp only [List.cons_append,List.nil_append] at hS
      refine n_q H (Zb rfl) rfl ?_;clear H a;intro a H
      refine Ze (Za (wp_ret (Zl (Zh (Zh (Zl (Zh ?_)))))))
      obtain rfl:=Option.some.inj hm;have hz : _=bC:=aN;subst hz;replace hm:=bD;try dsimp only at hm
      obtain rfl:=Option.some.inj hm
      replace hS:=hS.tk1
      refine Qx H (.inr rfl) rfl rfl ?_
      exact⟨_,rfl,hS⟩
    replace hm:=Zv hm aP
    refine wp_skip (Zo (Za (wp_region_lit (n_q H (Yt (i:=aA) (j:=1) rfl rfl (by omega)) rfl (W_q (Zd rfl) rfl ?_)))));clear H a;intro a H
    refine Ze (Za ?_)
    obtain rfl:=Option.some.inj hm
    replace hS:=hS.pk2
    replace hS:=hS.tk1
    exact Uz (bU,aA + 1) H ⟨rfl,rfl,rfl,rfl,trivial⟩ ⟨aN,hS⟩ (Nat.lt_succ_self _)
  replace hm:=Zv hm aK
  refine wp_exit (Zr (Zr (Qf ?_)))
  obtain rfl:=Option.some.inj hm;have hz : _=bC:=aN;subst hz;replace hm:=bD;try dsimp only at hm
  refine Za (wp_seq (wp_seq (wp_region_lit (n_c H (fun HC=>?_)))));clear H
  refine Zfx HC (Zc rfl Zdq) rfl (by kernel_rfl) (V_q (Zf rfl ((hS.blk 0 rfl).ld ag3 rfl)) rfl (by kernel_rfl) (V_q (Za5 rfl rfl) rfl (by kernel_rfl) (V_q (Zd rfl) rfl (by kernel_rfl) (V_g (Zc rfl Zdq) (by kernel_rfl) (by kernel_rfl) (by kernel_rfl) (V_g (Zf rfl ((hS.blk 0 rfl).ld ag3 rfl)) (by kernel_rfl) (by kernel_rfl) (by kernel_rfl) (V_g (Zcd rfl rfl) (by kernel_rfl) (by kernel_rfl) (by kernel_rfl) (Zml (j:=3) rfl rfl rfl (by kernel_rfl) (by kernel_rfl) ?_)))))));clear HC a;intro a HC
  have H:=HC.has;clear HC
  refine Ze (Za (Zn H rfl (fun aQ=>?_) (fun aQ=>?_)))
  · replace hm:=Zu hm aQ
    refine wp_seq (wp_region_lit (n_q H (Zf rfl ((hG.ext hS.x).ld Vn (by decide) Hv)) rfl (W_q (Zb rfl) rfl ?_)));clear H a;intro a H
    refine Ze (Za (wp_ret (Zh ?_)))
    obtain rfl:=Option.some.inj hm
    replace hS:=hS.dVar (A:=A) (g:=Vn) (by decide)
    replace hS:=hS.tk1
    refine Qx H (.inr rfl) rfl rfl ?_
    exact⟨_,rfl,hS⟩
  replace hm:=Zv hm aQ
  refine wp_skip (Za (wp_seq (wp_seq (wp_region_lit (n_q H (Zc rfl Zbx) rfl (W_q (Zf rfl ((hS.blk 0 rfl).ld Zil rfl)) rfl ?_))))));clear H a;intro a H
  obtain⟨cO,cP,aJ,cA,cB⟩:=SlR.formV (aF.ext (Zi.mono _) hS.x)
  refine n_q H (Qc Tryz.underlying25 rfl aJ) rfl (W_q (Zgf (i:=a0.Sems.length) (j:=8) rfl rfl) rfl ?_);clear H a;intro a H
  refine Ze (Za (Zn H rfl (fun aR=>?_) (fun aR=>?_)))
  · replace hm:=Zu hm aR
    refine wp_seq (wp_region_lit (n_q H (Zf rfl ((hG.ext hS.x).ld Za7 (by decide) Hv)) rfl (W_q (Zb rfl) rfl ?_)));clear H a;intro a H
    refine Ze (Za (wp_ret (Zh ?_)))
    obtain rfl:=Option.some.inj hm
    replace hS:=hS.dVar (A:=A) (g:=Za7) (by decide)
    replace hS:=hS.tk1
    refine Qx H (.inr rfl) rfl rfl ?_
    exact⟨_,rfl,hS⟩
  replace hm:=Zv hm aR
  refine wp_skip (Za (wp_seq (wp_seq (wp_region_lit (n_q H (Zc rfl Zbx) rfl (W_q (Zf rfl ((hS.blk 0 rfl).ld Zil rfl)) rfl (W_q (Qc Tryz.underlying25 rfl aJ) rfl (W_q (Zd rfl) rfl ?_))))))));clear H a;intro a H
  refine Ze (Za (wp_block ?_))
  replace hm:=Zj hm;obtain⟨bG,hm,bH⟩:=hm;replace hm:=Ql hm;obtain⟨bV,hm⟩:=hm
  refine Kr (σ:=Nat × Nat) (fun (m,aB)=>[(1,.pointer (some ⟨aW,0,none⟩)),(44,aD),(45,.int .i64 ((a0.Sems.length : Nat) : Int)),(46,.int .i64 ((aB : Nat) : Int))]) (fun (m,aB) wl=>Ye (Yh a0) m aB=some bG ∧ St NB w wl [blkR aW [.int .i64 a0.Id,.bool a0.Mobile,aG,aH,aC,.int .i64 a0.Events,aD] 27]) (fun (m,aB)=>m) (bV,0) H ⟨rfl,rfl,rfl,rfl,trivial⟩ ⟨hm,hS⟩ ?_
  clear H hS hm a;intro xx a bW H hR;obtain⟨m,aB⟩:=xx;simp only [ent,List.map_cons,List.map_nil] at H;(try dsimp only at hR);obtain⟨hm,hS⟩:=hR
  replace hm:=Qh hm;obtain⟨bX,cQ,rfl,hm,aS⟩:=hm;try dsimp only [Yh] at hm
  refine wp_seq (wp_region_lit (n_q H (Yc (i:=aB) (j:=a0.Sems.length) rfl rfl) rfl ?_));clear H a;intro a H
  refine Ze (Za (wp_seq (Zn H rfl (fun aL=>?_) (fun aL=>?_))))
  · replace hm:=Zu hm aL
    have b6 : aB < a0.Sems.length:=of_decide_eq_true aL
    refine wp_skip (Za (wp_seq (wp_block (wp_seq (wp_region_lit (n_q H (Zd rfl) rfl ?_))))));clear H a;intro a H
    replace hm:=Zj hm;obtain⟨cR,aT,hm⟩:=hm
    obtain⟨b7,a9⟩:=SlR.adV (aF.ext (Zi.mono _) hS.x) aJ aT
    refine n_q H (Ug (i:=aB) Tryz.underlying25 sz3 rfl aJ a9 rfl (Zb5 aT)) rfl (W_q (Zf rfl (SlR.ldOneV (aF.ext (Zi.mono _) hS.x) aJ a9 ag3 aT rfl)) rfl (W_q (Zb rfl) rfl (W_q (Zb rfl) rfl ?_)));clear H a;intro a H
    refine Ze (Za (wp_seq (wp_region_lit (n_c H (fun HC=>?_)))));clear H
    refine Zfx HC (Zd rfl) rfl (by kernel_rfl) (V_q (Za5 rfl rfl) rfl (by kernel_rfl) (V_q (Zd rfl) rfl (by kernel_rfl) (V_g (Zd rfl) (by kernel_rfl) (by kernel_rfl) (by kernel_rfl) (V_g (Zcd rfl rfl) (by kernel_rfl) (by kernel_rfl) (by kernel_rfl) (Zml (j:=2) rfl rfl rfl (by kernel_rfl) (by kernel_rfl) ?_)))));clear HC a;intro a HC
    have H:=HC.has;clear HC
    refine Ze (Za (Zn H rfl (fun aU=>?_) (fun aU=>?_)))
    · replace hm:=Zu hm aU
      refine wp_seq (wp_region_lit (n_q H (Zd rfl) rfl (W_q (Zf rfl ((hG.ext hS.x).ld Vn (by decide) Hv)) rfl ?_)));clear H a;intro a H
      replace hm:=Zj hm;obtain⟨cT,bP,hm⟩:=hm
      refine Zk H rfl Zp3 (Zbo (A:=A) (Xu.var (by decide) : IsE A bW _ (.v Vn)) bP) rfl ?_
      clear H;intro u64 cU hv;clear a;intro a H;obtain⟨_,rfl,bQ⟩:=hv
      replace hS:=hS.new bQ;simp only [List.cons_append,List.nil_append] at hS
      refine n_q H (Zb rfl) rfl ?_;clear H a;intro a H
      refine Ze (Za (wp_ret (Zl (Zh (Zh (Zl (Zh ?_)))))))
      obtain rfl:=Option.some.inj hm;have hz : _=bG:=aS;subst hz;replace hm:=bH;try dsimp only at hm
      obtain rfl:=Option.some.inj hm
      replace hS:=hS.tk1
      refine Qx H (.inr rfl) rfl rfl ?_
      exact⟨_,rfl,hS⟩
    replace hm:=Zv hm aU
    refine wp_skip (Zo (Za (wp_region_lit (n_q H (Yt (i:=aB) (j:=1) rfl rfl (by omega)) rfl (W_q (Zd rfl) rfl ?_)))));clear H a;intro a H
    refine Ze (Za ?_)
    obtain rfl:=Option.some.inj hm
    exact Uz (bX,aB + 1) H ⟨rfl,rfl,rfl,rfl,trivial⟩ ⟨aS,hS⟩ (Nat.lt_succ_self _)
  replace hm:=Zv hm aL
  refine wp_exit (Zr (Zr (Qf ?_)))
  obtain rfl:=Option.some.inj hm;have hz : _=bG:=aS;subst hz;replace hm:=bH;try dsimp only at hm
  refine Za (wp_seq (wp_seq (wp_region_lit (n_q H (Zf rfl ((hS.blk 0 rfl).ldAll Zda Zav)) rfl ?_))));clear H a;intro a H
  replace hm:=Zj hm;obtain⟨cV,bR,hm⟩:=hm
  refine Zk H rfl en140 (Zeq (A:=A) (hG.ext hS.x) (⟨_,_,_,_,rfl,(bA.ext (Zi.mono _) hS.x),(bB.ext (Zi.mono _) hS.x),(aE.ext (Zi.mono _) hS.x),(aF.ext (Zi.mono _) hS.x)⟩ : Xa _ [.int .i64 a0.Id,.bool a0.Mobile,aG,aH,aC,.int .i64 a0.Events,aD] a0) bR) rfl ?_
  clear H;intro cW cX hv;clear a;intro a H;obtain⟨rfl,bS⟩:=hv
  replace hS:=hS.ext bS
  refine n_q H (Zcd rfl rfl) rfl ?_;clear H a;intro a H
  refine Ze (Za (Zn H rfl (fun aV=>?_) (fun aV=>?_)))
  · replace hm:=Zu hm aV
    refine wp_seq (wp_region_lit (n_q H (Zf rfl ((hG.ext hS.x).ld Za7 (by decide) Hv)) rfl (W_q (Zb rfl) rfl ?_)));clear H a;intro a H
    refine Ze (Za (wp_ret (Zh ?_)))
    obtain rfl:=Option.some.inj hm
    replace hS:=hS.dVar (A:=A) (g:=Za7) (by decide)
    replace hS:=hS.tk1
    refine Qx H (.inr rfl) rfl rfl ?_
    exact⟨_,rfl,hS⟩
  replace hm:=Zv hm aV
  refine wp_skip (Za (wp_seq (wp_region_lit (n_q H (Zb rfl) rfl ?_))));clear H a;intro a H
  refine Ze (Za (wp_ret ?_))
  obtain rfl:=Option.some.inj hm
  replace hS:=hS.dNil (A:=A)
  replace hS:=hS.tk1
  refine Qx H (.inr rfl) rfl rfl ?_
  exact⟨_,rfl,hS⟩
theorem Hy {w : World} {A : Nat → Addr} {cs0 : List Value} {a0 : GPlan} (hG : EV A w) (h0 : Xa w cs0 a0) {r : ErrM} (hm : Uc a0=some r) :
    Calls Tryz.prog 57 [.agg cs0.toArray].toArray w (Ret fun u w'=>∃ h_0,u=h_0 ∧ St NB w w' [erQ A h_0 r]):=by
  obtain⟨aA,aB,aC,aD,rfl,aE,aF,aG,aH⟩:=h0
  have hS:=St.begin NB w
  unfold Uc at hm
  refine enter Tryz.func57 rfl rfl rfl ?_;intro a H;dsimp only [Qn,Nat.zero_add,Nat.reduceAdd] at H
  refine wp_seq (wp_region_lit (Yy H rfl (cs:=[.int .i64 a0.Id,.bool a0.Mobile,aA,aB,aC,.int .i64 a0.Events,aD]) rfl rfl ?_))
  clear H;intro bD bE hN aW hs;clear a;intro a H
  replace hS:=hS.newBlk hN aW hs;clear hN hs
  refine n_q H (Zb rfl) rfl ?_;clear H a;intro a H
  refine Ze (Za (wp_seq (wp_seq (wp_region_lit (n_c H (fun HC=>?_))))));clear H
  refine Zfx HC (Zc rfl Zfg) rfl (by kernel_rfl) (V_q (Zf rfl ((hS.blk 0 rfl).ld ag3 rfl)) rfl (by kernel_rfl) (V_q (Za5 rfl rfl) rfl (by kernel_rfl) (V_q (Zd rfl) rfl (by kernel_rfl) (V_g (Zc rfl Zfg) (by kernel_rfl) (by kernel_rfl) (by kernel_rfl) (V_g (Zf rfl ((hS.blk 0 rfl).ld ag3 rfl)) (by kernel_rfl) (by kernel_rfl) (by kernel_rfl) (V_g (Zcd rfl rfl) (by kernel_rfl) (by kernel_rfl) (by kernel_rfl) (Zml (j:=3) rfl rfl rfl (by kernel_rfl) (by kernel_rfl) ?_)))))));clear HC a;intro a HC
  have H:=HC.has;clear HC
  refine Ze (Za (Zn H rfl (fun aI=>?_) (fun aI=>?_)))
  · replace hm:=Zu hm aI
    refine wp_seq (wp_region_lit (n_q H (Zf rfl ((hG.ext hS.x).ld Vn (by decide) Hv)) rfl (W_q (Zb rfl) rfl ?_)));clear H a;intro a H
    refine Ze (Za (wp_ret (Zh ?_)))
    obtain rfl:=Option.some.inj hm
    replace hS:=hS.dVar (A:=A) (g:=Vn) (by decide)
    replace hS:=hS.tk1
    refine Qx H (.inr rfl) rfl rfl ?_
    exact⟨_,rfl,hS⟩
  replace hm:=Zv hm aI
  refine wp_skip (Za (wp_seq (wp_seq (wp_region_lit (Qb H Tryz.underlying206 Zrr ze130 rfl rfl rfl (cs:=[.func (.func 128) [].toArray [].toArray,.func (.func 129) [].toArray [].toArray,.func (.func 130) [].toArray [].toArray]) (by kernel_rfl) rfl ?_)))))
  clear H;intro aM bF hN aX hs;clear a;intro a H
  replace hS:=hS.newBlk hN aX hs;clear hN hs
  refine n_q H (Zo8 Tryz.underlying206 rfl) rfl (W_q (Zd rfl) rfl ?_);clear H a;intro a H
  refine Ze (Za (wp_block (wp_loop_rounds 4 ?_)))
  refine Eq.mpr (rounds_succ (n:=3)) ?_
  refine wp_seq (wp_region_lit (n_q H (Xi (Za5 rfl rfl) (show _=Value.bool true from rfl)) rfl ?_));clear H a;intro a H
  refine Ze (Za (wp_seq (Zjp H rfl ?_)))
  refine wp_skip (Za (wp_seq (wp_block (wp_seq (wp_region_lit (n_q H (Xi (Zbh Tryz.underlying206 Zrr rfl rfl (by decide) (by decide)) (show _=Value.pointer (some ⟨aM,0,none⟩) by simp [Gl])) rfl (W_q (Zf rfl ((hS.blk 0 rfl).ld Ztp rfl)) rfl (W_q (Zb rfl) rfl ?_))))))));clear H a;intro a H
  refine Ze (Za (wp_seq (wp_region_lit (n_q H (Zd rfl) rfl (W_q (Zf rfl ((hS.blk 1 rfl).ldAll Zda Zav)) rfl ?_)))));clear H a;intro a H
  replace hm:=Zj hm;obtain⟨aN,aY,hm⟩:=hm
  refine Zeu H rfl rfl en128 (Zez (A:=A) (hG.ext hS.x) (⟨_,_,_,_,rfl,(aE.ext (Zi.mono _) hS.x),(aF.ext (Zi.mono _) hS.x),(aG.ext (Zi.mono _) hS.x),(aH.ext (Zi.mono _) hS.x)⟩ : Xa _ [.int .i64 a0.Id,.bool a0.Mobile,aA,aB,aC,.int .i64 a0.Events,aD] a0) aY) rfl ?_
  clear H;intro aQ aR hv;clear a;intro a H;obtain⟨_,rfl,aZ⟩:=hv
  replace hS:=hS.new aZ;simp only [List.cons_append,List.nil_append] at hS
  refine n_q H (Zb rfl) rfl ?_;clear H a;intro a H
  refine Ze (Za (wp_seq (wp_region_lit (n_q H (Zd rfl) rfl (W_q (Xi (Vr Tryz.underlying39 rfl rfl (hS.any 0 rfl : IsE A aR aQ aN).form) (show _=Value.bool (!decide (aN=.nil)) by rw [Xu.isNil (hS.any 0 rfl : IsE A aR aQ aN)])) rfl ?_)))));clear H a;intro a H
  refine Ze (Za (Zn H rfl (fun aJ=>?_) (fun aJ=>?_)))
  · replace hm:=Zu hm aJ
    refine wp_seq (wp_region_lit (n_q H (Zd rfl) rfl (W_q (Zb rfl) rfl ?_)));clear H a;intro a H
    refine Ze (Za (wp_ret (Zl (Zh (Zh (Zl (Zh ?_)))))))
    obtain rfl:=Option.some.inj hm
    replace hS:=hS.tk1
    refine Qx H (.inr rfl) rfl rfl ?_
    exact⟨_,rfl,hS⟩
  replace hm:=Zv hm aJ
  refine wp_skip (Zo (Za (wp_region_lit (n_q H (Xi (Uo rfl rfl) (show _=Value.int .i64 1 from rfl)) rfl (W_q (Zd rfl) rfl ?_)))));clear H a;intro a H
  refine Ze (Za (Eq.mpr (rounds_succ (n:=2)) ?_))
  refine wp_seq (wp_region_lit (n_q H (Xi (Za5 rfl rfl) (show _=Value.bool true from rfl)) rfl ?_));clear H a;intro a H
  refine Ze (Za (wp_seq (Zjp H rfl ?_)))
  refine wp_skip (Za (wp_seq (wp_block (wp_seq (wp_region_lit (n_q H (Xi (Zbh Tryz.underlying206 Zrr rfl rfl (by decide) (by decide)) (show _=Value.pointer (some ⟨aM,1,none⟩) by simp [Gl])) rfl (W_q (Zf rfl ((hS.blk 1 rfl).ld Ztp rfl)) rfl (W_q (Zb rfl) rfl ?_))))))));clear H a;intro a H
  refine Ze (Za (wp_seq (wp_region_lit (n_q H (Zd rfl) rfl (W_q (Zf rfl ((hS.blk 2 rfl).ldAll Zda Zav)) rfl ?_)))));clear H a;intro a H
  replace hm:=Zj hm;obtain⟨aO,a9,hm⟩:=hm
  refine Zeu H rfl rfl en129 (Ze0 (A:=A) (hG.ext hS.x) (⟨_,_,_,_,rfl,(aE.ext (Zi.mono _) hS.x),(aF.ext (Zi.mono _) hS.x),(aG.ext (Zi.mono _) hS.x),(aH.ext (Zi.mono _) hS.x)⟩ : Xa _ [.int .i64 a0.Id,.bool a0.Mobile,aA,aB,aC,.int .i64 a0.Events,aD] a0) a9) rfl ?_
  clear H;intro aS aT hv;clear a;intro a H;obtain⟨_,rfl,bA⟩:=hv
  replace hS:=hS.new bA;simp only [List.cons_append,List.nil_append] at hS
  refine n_q H (Zb rfl) rfl ?_;clear H a;intro a H
  refine Ze (Za (wp_seq (wp_region_lit (n_q H (Zd rfl) rfl (W_q (Xi (Vr Tryz.underlying39 rfl rfl (hS.any 0 rfl : IsE A aT aS aO).form) (show _=Value.bool (!decide (aO=.nil)) by rw [Xu.isNil (hS.any 0 rfl : IsE A aT aS aO)])) rfl ?_)))));clear H a;intro a H
  refine Ze (Za (Zn H rfl (fun aK=>?_) (fun aK=>?_)))
  · replace hm:=Zu hm aK
    refine wp_seq (wp_region_lit (n_q H (Zd rfl) rfl (W_q (Zb rfl) rfl ?_)));clear H a;intro a H
    refine Ze (Za (wp_ret (Zl (Zh (Zh (Zl (Zh ?_)))))))
    obtain rfl:=Option.some.inj hm
    replace hS:=hS.tk1
    refine Qx H (.inr rfl) rfl rfl ?_
    exact⟨_,rfl,hS⟩
  replace hm:=Zv hm aK
  refine wp_skip (Zo (Za (wp_region_lit (n_q H (Xi (Uo rfl rfl) (show _=Value.int .i64 2 from rfl)) rfl (W_q (Zd rfl) rfl ?_)))));clear H a;intro a H
  refine Ze (Za (Eq.mpr (rounds_succ (n:=1)) ?_))
  refine wp_seq (wp_region_lit (n_q H (Xi (Za5 rfl rfl) (show _=Value.bool true from rfl)) rfl ?_));clear H a;intro a H
  refine Ze (Za (wp_seq (Zjp H rfl ?_)))
  refine wp_skip (Za (wp_seq (wp_block (wp_seq (wp_region_lit (n_q H (Xi (Zbh Tryz.underlying206 Zrr rfl rfl (by decide) (by decide)) (show _=Value.pointer (some ⟨aM,2,none⟩) by simp [Gl])) rfl (W_q (Zf rfl ((hS.blk 2 rfl).ld Ztp rfl)) rfl (W_q (Zb rfl) rfl ?_))))))));clear H a;intro a H
  refine Ze (Za (wp_seq (wp_region_lit (n_q H (Zd rfl) rfl (W_q (Zf rfl ((hS.blk 3 rfl).ldAll Zda Zav)) rfl ?_)))));clear H a;intro a H
  replace hm:=Zj hm;obtain⟨aP,bB,hm⟩:=hm
  refine Zeu H rfl rfl en130 (Zfh (A:=A) (hG.ext hS.x) (⟨_,_,_,_,rfl,(aE.ext (Zi.mono _) hS.x),(aF.ext (Zi.mono _) hS.x),(aG.ext (Zi.mono _) hS.x),(aH.ext (Zi.mono _) hS.x)⟩ : Xa _ [.int .i64 a0.Id,.bool a0.Mobile,aA,aB,aC,.int .i64 a0.Events,aD] a0) bB) rfl ?_
  clear H;intro aU aV hv;clear a;intro a H;obtain⟨_,rfl,bC⟩:=hv
  replace hS:=hS.new bC;simp only [List.cons_append,List.nil_append] at hS
  refine n_q H (Zb rfl) rfl ?_;clear H a;intro a H
  refine Ze (Za (wp_seq (wp_region_lit (n_q H (Zd rfl) rfl (W_q (Xi (Vr Tryz.underlying39 rfl rfl (hS.any 0 rfl : IsE A aV aU aP).form) (show _=Value.bool (!decide (aP=.nil)) by rw [Xu.isNil (hS.any 0 rfl : IsE A aV aU aP)])) rfl ?_)))));clear H a;intro a H
  refine Ze (Za (Zn H rfl (fun aL=>?_) (fun aL=>?_)))
  · replace hm:=Zu hm aL
    refine wp_seq (wp_region_lit (n_q H (Zd rfl) rfl (W_q (Zb rfl) rfl ?_)));clear H a;intro a H
    refine Ze (Za (wp_ret (Zl (Zh (Zh (Zl (Zh ?_)))))))
    obtain rfl:=Option.some.inj hm
    replace hS:=hS.tk1
    refine Qx H (.inr rfl) rfl rfl ?_
    exact⟨_,rfl,hS⟩
  replace hm:=Zv hm aL
  refine wp_skip (Zo (Za (wp_region_lit (n_q H (Xi (Uo rfl rfl) (show _=Value.int .i64 3 from rfl)) rfl (W_q (Zd rfl) rfl ?_)))));clear H a;intro a H
  refine Ze (Za (Eq.mpr (rounds_succ (n:=0)) ?_))
  refine wp_seq (wp_region_lit (n_q H (Xi (Za5 rfl rfl) (show _=Value.bool false from rfl)) rfl ?_));clear H a;intro a H
  refine Ze (Za (wp_seq (Zrf H rfl ?_)))
  refine wp_exit (Zr (Zr (Qf (Za (wp_seq (wp_region_lit (n_q H (Zb rfl) rfl ?_)))))));clear H a;intro a H
  refine Ze (Za (wp_ret ?_))
  obtain rfl:=Option.some.inj hm
  replace hS:=hS.dNil (A:=A)
  replace hS:=hS.tk1
  refine Qx H (.inr rfl) rfl rfl ?_
  exact⟨_,rfl,hS⟩
theorem Tv {w : World} {A : Nat → Addr} {r : GWireWriter} (hm : Yd=some r) :
    Calls Tryz.prog 93 [].toArray w (Ret fun u w'=>∃ (h_0 : Nat) (h_1 : Value) (h_2 : Value),u=.pointer (some ⟨h_0,0,none⟩) ∧ St NB w w' [blkR h_0 [h_1,h_2] 244,ownR 5 1 h_1 r.buf_.length (r.buf_.flatMap eB),erQ A h_2 r.err_]):=by
  have hS:=St.begin NB w
  unfold Yd at hm
  refine enter Tryz.func93 rfl rfl rfl ?_;intro a H;dsimp only [Qn,Nat.zero_add,Nat.reduceAdd] at H
  refine wp_seq (wp_region_lit (n_q H (Zb rfl) rfl ?_));clear H a;intro a H
  refine Ze (Za (wp_seq (wp_region_lit (n_q H (Qt (cs:=[.slice none 0 0,.nilIface]) ze244 bd244 pl244 rfl (by kernel_rfl)) rfl ?_))));clear H a;intro a H
  refine Yy H rfl (cs:=[.slice none 0 0,.nilIface]) rfl rfl ?_
  clear H;intro aB aC hN aA hs;clear a;intro a H
  replace hS:=hS.newBlk hN aA hs;clear hN hs
  refine n_q H (Zb rfl) rfl ?_;clear H a;intro a H
  refine Ze (Za (wp_ret ?_))
  obtain rfl:=Option.some.inj hm
  replace hS:=hS.nilOwn 5 1
  replace hS:=hS.dNil (A:=A)
  replace hS:=hS.pk1
  replace hS:=hS.pk2
  refine Qx H (.inr rfl) rfl rfl ?_
  exact⟨_,_,_,rfl,hS⟩
theorem Hi {w : World} {A : Nat → Addr} {v0 : Value} {a0 : List UInt8} (h0 : SlR w 1 (Zi eB) v0 a0) {r : List UInt8} (hm : Xt a0=some r) :
    Calls Tryz.prog 168 [v0].toArray w (Ret fun u w'=>∃ h_0,u=h_0 ∧ St NB w w' [ownR 5 1 h_0 r.length (r.flatMap eB)]):=by
  have hS:=St.begin NB w
  unfold Xt at hm
  refine enter Tryz.func168 rfl rfl rfl ?_;intro a H;dsimp only [Qn,Nat.zero_add,Nat.reduceAdd] at H
  refine wp_seq (wp_region_lit (n_q H (Zb rfl) rfl ?_));clear H a;intro a H
  refine Ze (Za (wp_seq (wp_seq (wp_region_lit (n_q H (Zd rfl) rfl ?_)))));clear H a;intro a H
  obtain⟨aH,aI,aA,aF,aG⟩:=SlR.formV (h0.ext (Zi.mono _) hS.x)
  refine n_q H (Zps Tryz.underlying100 rfl aA rfl) rfl ?_;clear H a;intro a H
  refine Ze (Za (Zn H rfl (fun aB=>?_) (fun aB=>?_)))
  · obtain rfl:=SlR.nilV (h0.ext (Zi.mono _) hS.x) aA aB;replace hm:=Za6 hm;obtain⟨_,hm⟩:=hm
    refine wp_seq (wp_region_lit (n_q H (Zb rfl) rfl ?_));clear H a;intro a H
    refine Ze (Za (wp_ret (Zh ?_)))
    obtain rfl:=Option.some.inj hm
    replace hS:=hS.nilOwn 5 1
    refine Qx H (.inr rfl) rfl rfl ?_
    exact⟨_,rfl,hS⟩
  refine wp_skip (Za (wp_seq (wp_region_lit (Qb H Tryz.underlying100 sz5 ze5 rfl rfl rfl (cs:=[]) rfl rfl ?_))))
  clear H;intro aJ aK hN aC hs;clear a;intro a H
  replace hS:=hS.newBlk hN aC hs;clear hN hs
  replace hS:=hS.blkOwnL (e:=eB) (k:=1) ([] : List UInt8) rfl rfl (by simp [maxLen])
  refine n_q H (Zd rfl) rfl ?_;clear H a;intro a H
  replace hm:=Za6 hm;obtain⟨aD,hm⟩:=hm
  refine Zbv (e:=eB) H rfl rfl Tryz.underlying100 Tryz.underlying100 (by simp) el5 (hS.own 0 rfl) ((h0.ext (Zi.mono _) hS.x).src (fun _ _=>rfl)) Zi1 aD (by simp only [maxLen];omega) rfl ?_
  clear H;intro aL aM hN aE hb;clear a;intro a H;replace hS:=hS.setOwn hN aE hb;clear hN hb
  refine n_q H (Zb rfl) rfl ?_;clear H a;intro a H
  refine Ze (Za (wp_ret ?_))
  obtain rfl:=Option.some.inj hm
  refine Qx H (.inr rfl) rfl rfl ?_
  exact⟨_,rfl,hS⟩
theorem Ht {w : World} {A : Nat → Addr} {fp : Nat → Prop} {b0 : Nat} {v0_0 : Value} {v0_1 : Value} {a0 : GWireWriter} (hP : Sep w fp [blkR b0 [v0_0,v0_1] 244,ownR 5 1 v0_0 a0.buf_.length (a0.buf_.flatMap eB),erQ A v0_1 a0.err_]) {r : List UInt8 × ErrM × GWireWriter} (hm : Kt a0=some r) :
    Calls Tryz.prog 92 [.pointer (some ⟨b0,0,none⟩)].toArray w (Ret fun u w'=>∃ h_0 h_1 h_2 h_3,u=.tuple #[h_0,h_1] ∧ St fp w w' [blkR b0 [h_2,h_3] 244,ownR 5 1 h_2 r.2.2.buf_.length (r.2.2.buf_.flatMap eB),ownR 5 1 h_0 r.1.length (r.1.flatMap eB),erQ A h_1 r.2.1]):=by
  have hS:=St.init hP
  unfold Kt at hm
  refine enter Tryz.func92 rfl rfl rfl ?_;intro a H;dsimp only [Qn,Nat.zero_add,Nat.reduceAdd] at H
  refine wp_seq (wp_region_lit (n_q H (Zb rfl) rfl (W_q (Zb rfl) rfl ?_)));clear H a;intro a H
  refine Ze (Za (wp_seq (wp_seq (wp_region_lit (n_q H (Zd rfl) rfl (W_q (Qa rfl) rfl (W_q (Zc rfl Zhr) rfl (W_q (Zf rfl ((hS.blk 0 rfl).ld Hv rfl)) rfl (W_q (Xi (Vr Tryz.underlying39 rfl rfl (hS.any 2 rfl : IsE A w v0_1 a0.err_).form) (show _=Value.bool (!decide (a0.err_=.nil)) by rw [Xu.isNil (hS.any 2 rfl : IsE A w v0_1 a0.err_)])) rfl ?_)))))))));clear H a;intro a H
  refine Ze (Za (Zn H rfl (fun aA=>?_) (fun aA=>?_)))
  · replace hm:=Zu hm aA
    refine wp_seq (Gw (by kernel_rfl) (by kernel_rfl) ?_)
    refine Xn H (Zd rfl) rfl ?_;clear H a;intro a H
    refine Xn H (Qa rfl) rfl ?_;clear H a;intro a H
    refine Xn H (Zc rfl Zhr) rfl ?_;clear H a;intro a H
    refine Xn H (Zf rfl ((hS.blk 0 rfl).ld Hv rfl)) rfl ?_;clear H a;intro a H
    refine Xn H (Zb rfl) rfl ?_;clear H a;intro a H
    refine Xn H (Zb rfl) rfl ?_;clear H a;intro a H
    refine Tg ?_;intro aE aB
    replace hS:=hS.ext aB
    refine Za (wp_ret (Zh ?_))
    obtain rfl:=Option.some.inj hm
    replace hS:=hS.nilOwn 5 1
    replace hS:=hS.pk3
    replace hS:=hS.pk1
    replace hS:=hS.pk3
    replace hS:=hS.pk3
    refine Zgd H (.inr rfl) rfl rfl rfl ?_
    exact⟨_,_,_,_,rfl,hS⟩
  replace hm:=Zv hm aA
  refine wp_skip (Za (wp_seq (wp_region_lit (n_q H (Zd rfl) rfl (W_q (Qa rfl) rfl (W_q (Zc rfl Zjy) rfl (W_q (Zf rfl ((hS.blk 0 rfl).ld Zol rfl)) rfl ?_)))))));clear H a;intro a H
  replace hm:=Zj hm;obtain⟨aF,aC,hm⟩:=hm
  refine Zk H rfl Ztu (Hi (A:=A) ((hS.own 1 rfl).slr rfl (fun _ _=>rfl)) aC) rfl ?_
  clear H;intro aG aH hv;clear a;intro a H;obtain⟨_,rfl,aD⟩:=hv
  replace hS:=hS.new aD;simp only [List.cons_append,List.nil_append] at hS
  refine n_q H (Zb rfl) rfl (W_q (Zb rfl) rfl ?_);clear H a;intro a H
  refine Ze (Za (wp_ret ?_))
  obtain rfl:=Option.some.inj hm
  replace hS:=hS.dNil (A:=A)
  replace hS:=hS.pk1
  replace hS:=hS.pk3
  replace hS:=hS.pk3
  replace hS:=hS.tk4
  refine Zgd H (.inr rfl) rfl rfl rfl ?_
  exact⟨_,_,_,_,rfl,hS⟩
theorem Ws {w : World} {A : Nat → Addr} {fp : Nat → Prop} {b0 : Nat} {v0_0 : Value} {v0_1 : Value} {a0 : GWireWriter} {v1 : Value} {a1 : List UInt8} (hP : Sep w fp [blkR b0 [v0_0,v0_1] 244,ownR 5 1 v0_0 a0.buf_.length (a0.buf_.flatMap eB),erQ A v0_1 a0.err_]) (h1 : ∀ w',ChgP fp w w' → SlR w' 1 (Zi eB) v1 a1) {r : GWireWriter} (hm : Xw a0 a1=some r) :
    Calls Tryz.prog 169 [.pointer (some ⟨b0,0,none⟩),v1].toArray w (Ret fun u w'=>∃ h_0 h_1,u=.tuple #[] ∧ St fp w w' [blkR b0 [h_0,h_1] 244,ownR 5 1 h_0 r.buf_.length (r.buf_.flatMap eB),erQ A h_1 r.err_]):=by
  have hS:=St.init hP
  unfold Xw at hm
  refine enter Tryz.func169 rfl rfl rfl ?_;intro a H;dsimp only [Qn,Nat.zero_add,Nat.reduceAdd] at H
  refine wp_seq (wp_region_lit (n_q H (Zd rfl) rfl (W_q (Qa rfl) rfl (W_q (Zc rfl Zhr) rfl (W_q (Zf rfl ((hS.blk 0 rfl).ld Hv rfl)) rfl (W_q (Xi (Zc9 Tryz.underlying39 rfl rfl (hS.any 2 rfl : IsE A w v0_1 a0.err_).form) (show _=Value.bool (decide (a0.err_=.nil)) by rw [Xu.isNil (hS.any 2 rfl : IsE A w v0_1 a0.err_)])) rfl ?_))))));clear H a;intro a H
  refine Ze (Za (Zn H rfl (fun aA=>?_) (fun aA=>?_)))
  · replace hm:=Zu hm aA
    refine wp_region_lit (n_q H (Zd rfl) rfl (W_q (Zd rfl) rfl (W_q (Qa rfl) rfl (W_q (Zc rfl Zjy) rfl (W_q (Zf rfl ((hS.blk 0 rfl).ld Zol rfl)) rfl (W_q (Zd rfl) rfl ?_))))));clear H a;intro a H
    replace hS:=hS.pk1
    replace hm:=Za6 hm;obtain⟨aB,hm⟩:=hm
    refine Zbv (e:=eB) H rfl rfl Tryz.underlying100 Tryz.underlying100 (by simp) el5 (hS.own 0 rfl) ((h1 _ hS.chg).src (fun _ _=>rfl)) Zi1 aB (by simp only [maxLen];omega) rfl ?_
    clear H;intro aE aF hN aC hb;clear a;intro a H;replace hS:=hS.setOwn hN aC hb;clear hN hb
    refine n_q H (Qa rfl) rfl (W_q (Zc rfl Zjy) rfl ?_);clear H a;intro a H
    replace hS:=hS.pk1
    refine Kb H rfl rfl sz100 (hS.blk 0 rfl) (by simp) (((hS.own 1 rfl).slr rfl (fun _ _=>rfl))).one ?_
    clear H;intro aG hN aD hz;clear a;intro a H;replace hS:=hS.setBlk hN aD;clear hN hz
    try simp only [List.set_cons_succ,List.set_cons_zero] at hS
    refine Ze ?_
    obtain rfl:=Option.some.inj hm
    refine Zij H (.inl rfl) rfl ?_
    exact⟨_,_,rfl,hS⟩
  replace hm:=Zv hm aA
  refine wp_skip ?_
  obtain rfl:=Option.some.inj hm
  refine Zij H (.inl rfl) rfl ?_
  exact⟨_,_,rfl,hS⟩
theorem Za9 {w : World} {A : Nat → Addr} {a0 : Int} {r : Int} (hm : Yj a0=some r) :
    Calls Tryz.prog 176 [.int .i64 a0].toArray w (Ret fun u w'=>u=.int .i64 r ∧ Ext w w'):=by
  have hS:=St.begin NB w
  unfold Yj at hm
  refine enter Tryz.func176 rfl rfl rfl ?_;intro a H;dsimp only [Qn,Nat.zero_add,Nat.reduceAdd] at H
  refine wp_seq (wp_region_lit (n_q H (Zb rfl) rfl ?_));clear H a;intro a H
  refine Ze (Za (wp_seq (wp_region_lit (n_q H (Zd rfl) rfl (W_q (Zha rfl rfl) rfl ?_)))));clear H a;intro a H
  replace hm:=Za6 hm;obtain⟨aA,hm⟩:=hm
  refine n_q H (q_shl rfl rfl aA) rfl (W_q (Zg9 rfl rfl) rfl (W_q (Zb rfl) rfl ?_));clear H a;intro a H
  refine Ze (Za (wp_ret ?_))
  obtain rfl:=Option.some.inj hm
  refine Qx H (.inr rfl) rfl rfl ?_
  exact⟨rfl,hS.x⟩
theorem Hj {w : World} {A : Nat → Addr} {a0 : Int} {v1 : Value} {a1 : ErrM} (h1 : IsE A w v1 a1) {r : ErrM} (hm : Yu a0 a1=some r) :
    Calls Tryz.prog 174 [.int .i64 a0,v1].toArray w (Ret fun u w'=>∃ h_0,u=h_0 ∧ St NB w w' [erQ A h_0 r]):=by
  have hS:=St.begin NB w
  unfold Yu at hm
  refine enter Tryz.func174 rfl rfl rfl ?_;intro a H;dsimp only [Qn,Nat.zero_add,Nat.reduceAdd] at H
  refine wp_seq (wp_region_lit (n_q H (Zb rfl) rfl ?_));clear H a;intro a H
  refine Ze (Za (wp_seq (wp_region_lit (n_q H (Zd rfl) rfl (W_q (Zd rfl) rfl (W_q (Qt (cs:=[.int .i64 a0,v1]) Ztw Ztq Ztr rfl ((Qk rfl rfl (by simp)).trans ((Qk (Xu.ext h1 hS.x).one rfl (by simp)).trans rfl))) rfl ?_))))));clear H a;intro a H
  refine Yy H rfl (cs:=[.int .i64 a0,v1]) rfl rfl ?_
  clear H;intro aD aE hN aB hs;clear a;intro a H
  replace hS:=hS.newBlk hN aB hs;clear hN hs
  replace hm:=Zj hm;obtain⟨aF,aC,hm⟩:=hm
  have aA:=(Xu.ext h1 hS.x)
  refine n_q H (Zbi Tryz.underlying210 (by simp) rfl) rfl ?_;clear H a;intro a H
  replace hS:=hS.dAtE aA aC
  refine n_q H (Zb rfl) rfl ?_;clear H a;intro a H
  refine Ze (Za (wp_ret ?_))
  obtain rfl:=Option.some.inj hm
  refine Qx H (.inr rfl) rfl rfl ?_
  exact⟨_,rfl,hS⟩
theorem Hk {w : World} {A : Nat → Addr} {fp : Nat → Prop} {b0 : Nat} {v0_0 : Value} {v0_1 : Value} {a0 : GWireWriter} {v1 : Value} {a1 : ErrM} (hP : Sep w fp [blkR b0 [v0_0,v0_1] 244,ownR 5 1 v0_0 a0.buf_.length (a0.buf_.flatMap eB),erQ A v0_1 a0.err_]) (h1 : ∀ w',ChgP fp w w' → IsE A w' v1 a1) {r : GWireWriter} (hm : Wn a0 a1=some r) :
    Calls Tryz.prog 237 [.pointer (some ⟨b0,0,none⟩),v1].toArray w (Ret fun u w'=>∃ h_0 h_1,u=.tuple #[] ∧ St fp w w' [blkR b0 [h_0,h_1] 244,ownR 5 1 h_0 r.buf_.length (r.buf_.flatMap eB),erQ A h_1 r.err_]):=by
  have hS:=St.init hP
  unfold Wn at hm
  refine enter Tryz.func237 rfl rfl rfl ?_;intro a H;dsimp only [Qn,Nat.zero_add,Nat.reduceAdd] at H
  refine wp_seq (wp_region_lit (n_q H (Zd rfl) rfl (W_q (Qa rfl) rfl (W_q (Zc rfl Zhr) rfl (W_q (Zf rfl ((hS.blk 0 rfl).ld Hv rfl)) rfl (W_q (Xi (Zc9 Tryz.underlying39 rfl rfl (hS.any 2 rfl : IsE A w v0_1 a0.err_).form) (show _=Value.bool (decide (a0.err_=.nil)) by rw [Xu.isNil (hS.any 2 rfl : IsE A w v0_1 a0.err_)])) rfl ?_))))));clear H a;intro a H
  refine Ze (Za (Zn H rfl (fun aA=>?_) (fun aA=>?_)))
  · replace hm:=Zu hm aA
    refine wp_region_lit (n_q H (Zd rfl) rfl (W_q (Zd rfl) rfl (W_q (Qa rfl) rfl (W_q (Zc rfl Zjy) rfl (W_q (Zf rfl ((hS.blk 0 rfl).ld Zol rfl)) rfl ?_)))));clear H a;intro a H
    obtain⟨aK,aL,aB,aI,aJ⟩:=SlR.formV ((hS.own 1 rfl).slr rfl (fun _ _=>rfl))
    refine n_q H (Qc Tryz.underlying100 rfl aB) rfl (W_q (Zd rfl) rfl ?_);clear H a;intro a H
    replace hm:=Zj hm;obtain⟨aF,aC,hm⟩:=hm
    refine Zk H rfl Zk4 (Hj (A:=A) (h1 _ hS.chg) aC) rfl ?_
    clear H;intro aG aH hv;clear a;intro a H;obtain⟨_,rfl,aD⟩:=hv
    replace hS:=hS.new aD;simp only [List.cons_append,List.nil_append] at hS
    refine n_q H (Qa rfl) rfl (W_q (Zc rfl Zhr) rfl ?_);clear H a;intro a H
    replace hS:=hS.pk1
    refine Kb H rfl rfl sz39 (hS.blk 0 rfl) (by simp) (hS.any 1 rfl : IsE A aH aG aF).one ?_
    clear H;intro aM hN aE hz;clear a;intro a H;replace hS:=hS.setBlk hN aE;clear hN hz
    try simp only [List.set_cons_succ,List.set_cons_zero] at hS
    refine Ze ?_
    obtain rfl:=Option.some.inj hm
    replace hS:=hS.pk1
    replace hS:=hS.pk2
    replace hS:=hS.pk2
    replace hS:=hS.tk3
    refine Zij H (.inl rfl) rfl ?_
    exact⟨_,_,rfl,hS⟩
  replace hm:=Zv hm aA
  refine wp_skip ?_
  obtain rfl:=Option.some.inj hm
  refine Zij H (.inl rfl) rfl ?_
  exact⟨_,_,rfl,hS⟩
theorem Wt {w : World} {A : Nat → Addr} {fp : Nat → Prop} {b0 : Nat} {v0_0 : Value} {v0_1 : Value} {a0 : GWireWriter} {a1 : Int} {a2 : Int} (hG : ∀ w',ChgP fp w w' → EV A w') (hP : Sep w fp [blkR b0 [v0_0,v0_1] 244,ownR 5 1 v0_0 a0.buf_.length (a0.buf_.flatMap eB),erQ A v0_1 a0.err_]) {r : GWireWriter} (hm : Qs a0 a1 a2=some r) :
    Calls Tryz.prog 170 [.pointer (some ⟨b0,0,none⟩),.int .i64 a1,.int .i64 a2].toArray w (Ret fun u w'=>∃ h_0 h_1,u=.tuple #[] ∧ St fp w w' [blkR b0 [h_0,h_1] 244,ownR 5 1 h_0 r.buf_.length (r.buf_.flatMap eB),erQ A h_1 r.err_]):=by
  have hS:=St.init hP
  unfold Qs at hm
  refine enter Tryz.func170 rfl rfl rfl ?_;intro a H;dsimp only [Qn,Nat.zero_add,Nat.reduceAdd] at H
  refine wp_seq ?_
  replace hm:=Zj hm;obtain⟨bY,hm,aP⟩:=hm
  refine Gm (σ:=Bool) H (fun aG=>[(0,.pointer (some ⟨b0,0,none⟩)),(1,.int .i64 a1),(2,.int .i64 a2),(14,.bool aG)]) (fun aG wl=>(Um a0 a1 a2) aG=some r ∧ St fp w wl [blkR b0 [v0_0,v0_1] 244,ownR 5 1 v0_0 a0.buf_.length (a0.buf_.flatMap eB),erQ A v0_1 a0.err_]) ?_ ?_
  · skip
    refine wp_region_lit (n_q H (Zd rfl) rfl (W_q (Za5 rfl rfl) rfl (W_q (Zd rfl) rfl ?_)));clear H a;intro a H
    rcases Bool.eq_false_or_eq_true (decide (a1 < 0)) with aE|aE
    · replace H:=H.know 9 rfl aE
      replace hm:=Zu hm aE
      refine Tp H rfl rfl (by decide) rfl (Zz rfl rfl (by decide) rfl (Zz rfl rfl (by decide) rfl (Zz rfl rfl (by decide) rfl (W_q (Zx rfl rfl) rfl ?_))));clear H a;intro a H
      refine Ze (Za ?_)
      obtain rfl:=Option.some.inj hm;replace hm:=aP;try dsimp only at hm
      exact Uy true H ⟨rfl,rfl,rfl,rfl,trivial⟩ ⟨hm,hS⟩
    replace H:=H.know 9 rfl aE
    replace hm:=Zv hm aE
    refine Kq H rfl rfl (n_q H (Zd rfl) rfl (Zy rfl rfl (W_q (Zd rfl) rfl (Zy rfl rfl ?_))));clear H a;intro a H
    replace hm:=Zj hm;obtain⟨bD,aS,hm⟩:=hm
    refine Zk H rfl Zrq (Za9 (A:=A) aS) rfl ?_
    clear H;intro bK bL hv;clear a;intro a H;obtain⟨rfl,aT⟩:=hv
    replace hS:=hS.ext aT
    refine Kq H rfl rfl (n_q H (Zcd rfl rfl) rfl (W_q (Zt rfl rfl) rfl ?_));clear H a;intro a H
    refine Ze (Za ?_)
    obtain rfl:=Option.some.inj hm;replace hm:=aP;try dsimp only at hm
    exact Uy (decide (bD < a1)) H ⟨rfl,rfl,rfl,rfl,trivial⟩ ⟨hm,hS⟩
  clear H hS hm a;intro aG a bM H hR
  simp only [ent,List.map_cons,List.map_nil] at H;(try dsimp only at hR);obtain⟨hm,hS⟩:=hR;try dsimp only [Um] at hm
  refine Zn H rfl (fun aH=>?_) (fun aH=>?_)
  · replace hm:=Zu hm aH
    refine wp_seq (wp_region_lit (n_q H (Zd rfl) rfl (W_q (Zf rfl ((hG _ hS.chg).ld Vn (by decide) Hv)) rfl ?_)));clear H a;intro a H
    replace hS:=hS.pk2
    replace hS:=hS.pk2
    replace hS:=hS.pk2
    obtain⟨bI,aJ,aU,aV,aK⟩:=hS.frame (rs1:=[blkR b0 [v0_0,v0_1] 244,ownR 5 1 v0_0 a0.buf_.length (a0.buf_.flatMap eB),erQ A v0_1 a0.err_])
    replace hm:=Zj hm;obtain⟨bN,aW,hm⟩:=hm
    refine Zk H rfl Ztv (Hk (A:=A) aJ (fun w' hw=>(Xu.var (by decide) : IsE A w' _ (.v Vn))) aW) rfl ?_
    clear H;intro bO bP hv;clear a;intro a H;obtain⟨bQ,bR,rfl,aX⟩:=hv
    replace hS:=aK _ _ aX;simp only [List.cons_append,List.nil_append] at hS;clear aJ aU aV aK
    refine Ze (Za (wp_ret (Zh ?_)))
    obtain rfl:=Option.some.inj hm
    refine Zij H (.inr rfl) rfl ?_
    exact⟨_,_,rfl,hS⟩
  replace hm:=Zv hm aH
  refine wp_skip (Za (wp_seq (wp_region_lit (n_q H (Zd rfl) rfl (W_q (Zg9 rfl rfl) rfl (W_q (Zb rfl) rfl ?_))))));clear H a;intro a H
  refine Ze (Za (wp_block ?_))
  replace hm:=Zj hm;obtain⟨aQ,hm,aY⟩:=hm;replace hm:=Ql hm;obtain⟨bE,hm⟩:=hm
  refine Kr (σ:=Nat × Int × (List UInt8) × ErrM × Value × Value) (fun (m,aA,aB,aF,aC,aD)=>[(0,.pointer (some ⟨b0,0,none⟩)),(1,.int .i64 a1),(6,.int .i64 aA)]) (fun (m,aA,aB,aF,aC,aD) wl=>Ye (Jp a1) m (aA,aB,aF)=some aQ ∧ St fp w wl [blkR b0 [aC,aD] 244,ownR 5 1 aC aB.length (aB.flatMap eB),erQ A aD aF]) (fun (m,aA,aB,aF,aC,aD)=>m) (bE,(IntKind.i64.wrap (a2 - 1)),a0.buf_,a0.err_,v0_0,v0_1) H ⟨rfl,rfl,rfl,trivial⟩ ⟨hm,hS⟩ ?_
  clear H hS hm a;intro xx a bS H hR;obtain⟨m,aA,aB,aF,aC,aD⟩:=xx;simp only [ent,List.map_cons,List.map_nil] at H;(try dsimp only at hR);obtain⟨hm,hS⟩:=hR
  replace hm:=Qh hm;obtain⟨bF,bT,rfl,hm,aL⟩:=hm;try dsimp only [Jp] at hm
  refine wp_seq (wp_seq (wp_region_lit (n_q H (Zd rfl) rfl (W_q (Zob rfl rfl) rfl ?_))));clear H a;intro a H
  refine Ze (Za (Zn H rfl (fun aI=>?_) (fun aI=>?_)))
  · replace hm:=Zu hm aI
    refine wp_skip (Za (wp_seq (wp_block (wp_region_lit (n_q H (Zd rfl) rfl (W_q (Zd rfl) rfl (W_q (Zd rfl) rfl (W_q (Zha rfl rfl) rfl ?_))))))));clear H a;intro a H
    replace hm:=Za6 hm;obtain⟨aZ,hm⟩:=hm
    refine n_q H (Zmd rfl rfl aZ) rfl (W_q (Hz Tryz.underlying3 Tryz.underlying5 ⟨_,rfl⟩ rfl) rfl ?_);clear H a;intro a H
    refine Qb H Tryz.underlying100 sz5 ze5 rfl rfl rfl (cs:=[.int .u8 (IntKind.u8.wrap (shR .i64 a1 (IntKind.i64.wrap (8 * aA))))]) (by kernel_rfl) rfl ?_
    clear H;intro bU bV hN a9 hs;clear a;intro a H
    replace hS:=hS.newBlk hN a9 hs;clear hN hs
    replace hS:=hS.blkOwnL (e:=eB) (k:=1) [(Qz (shR .i64 a1 (IntKind.i64.wrap (8 * aA))))] (by simp [Zmj,Znv]) rfl (by simp [maxLen])
    replace hS:=hS.pk3
    replace hS:=hS.pk3
    replace hS:=hS.pk3
    obtain⟨bJ,aM,bA,aN,aO⟩:=hS.frame (rs1:=[blkR b0 [aC,aD] 244,ownR 5 1 aC aB.length (aB.flatMap eB),erQ A aD aF])
    replace hm:=Zj hm;obtain⟨aR,bB,hm⟩:=hm
    refine Zk H rfl Zp1 (Ws (A:=A) aM (fun w' hw=>(To (aN 0 _ rfl _ hw)).slr rfl (fun _ _=>rfl)) bB) rfl ?_
    clear H;intro bW bX hv;clear a;intro a H;obtain⟨bG,bH,rfl,bC⟩:=hv
    replace hS:=aO _ _ bC;simp only [List.cons_append,List.nil_append] at hS;clear aM bA aN aO
    refine Ze (Zo (Za (wp_region_lit (n_q H (Zd rfl) rfl (W_q (Zg9 rfl rfl) rfl (W_q (Zb rfl) rfl ?_))))));clear H a;intro a H
    refine Ze (Za ?_)
    obtain rfl:=Option.some.inj hm
    replace hS:=hS.tk3
    exact Uz (bF,(IntKind.i64.wrap (aA - 1)),aR.buf_,aR.err_,bG,bH) H ⟨rfl,rfl,rfl,trivial⟩ ⟨aL,hS⟩ (Nat.lt_succ_self _)
  replace hm:=Zv hm aI
  refine wp_exit (Zr (Zr (Qf ?_)))
  obtain rfl:=Option.some.inj hm;have hz : _=aQ:=aL;subst hz;replace hm:=aY;try dsimp only at hm
  obtain rfl:=Option.some.inj hm
  refine Zij H (.inl rfl) rfl ?_
  exact⟨_,_,rfl,hS⟩
theorem Zdb {w : World} {A : Nat → Addr} {fp : Nat → Prop} {b0 : Nat} {v0_0 : Value} {v0_1 : Value} {a0 : GWireWriter} {a1 : Int} {v2 : Value} {a2 : List UInt8} (hG : ∀ w',ChgP fp w w' → EV A w') (hP : Sep w fp [blkR b0 [v0_0,v0_1] 244,ownR 5 1 v0_0 a0.buf_.length (a0.buf_.flatMap eB),erQ A v0_1 a0.err_]) (h2 : ∀ w',ChgP fp w w' → SlR w' 1 (Zi eB) v2 a2) {r : GWireWriter} (hm : Vo a0 a1 a2=some r) :
    Calls Tryz.prog 236 [.pointer (some ⟨b0,0,none⟩),.int .i64 a1,v2].toArray w (Ret fun u w'=>∃ h_0 h_1,u=.tuple #[] ∧ St fp w w' [blkR b0 [h_0,h_1] 244,ownR 5 1 h_0 r.buf_.length (r.buf_.flatMap eB),erQ A h_1 r.err_]):=by
  have hS:=St.init hP
  unfold Vo at hm
  refine enter Tryz.func236 rfl rfl rfl ?_;intro a H;dsimp only [Qn,Nat.zero_add,Nat.reduceAdd] at H
  refine wp_block ?_
  replace hm:=Zj hm;obtain⟨cV,hm,aU⟩:=hm
  refine Gm (σ:=Bool) H (fun aB=>[(0,.pointer (some ⟨b0,0,none⟩)),(1,.int .i64 a1),(2,v2),(16,.bool aB)]) (fun aB wl=>(Vt a0 a1 a2) aB=some r ∧ St fp w wl [blkR b0 [v0_0,v0_1] 244,ownR 5 1 v0_0 a0.buf_.length (a0.buf_.flatMap eB),erQ A v0_1 a0.err_]) ?_ ?_
  · skip
    refine wp_region_lit (n_q H (Zd rfl) rfl (W_q (Za5 rfl rfl) rfl (W_q (Zd rfl) rfl ?_)));clear H a;intro a H
    rcases Bool.eq_false_or_eq_true (decide (a1 < 1)) with aA|aA
    · replace H:=H.know 19 rfl aA
      replace hm:=Zu hm aA
      refine Tp H rfl rfl (by decide) rfl (Zz rfl rfl (by decide) rfl (Zz rfl rfl (by decide) rfl (W_q (Zx rfl rfl) rfl (W_q (Zb rfl) rfl ?_))));clear H a;intro a H
      refine Ze (Za ?_)
      obtain rfl:=Option.some.inj hm;replace hm:=aU;try dsimp only at hm
      exact Uy true H ⟨rfl,rfl,rfl,rfl,trivial⟩ ⟨hm,hS⟩
    replace H:=H.know 19 rfl aA
    replace hm:=Zv hm aA
    refine Kq H rfl rfl (n_q H (Zd rfl) rfl (Zy rfl rfl ?_));clear H a;intro a H
    replace hm:=Zj hm;obtain⟨bR,aZ,hm⟩:=hm
    refine Zk H rfl Zrq (Za9 (A:=A) aZ) rfl ?_
    clear H;intro bZ b6 hv;clear a;intro a H;obtain⟨rfl,a9⟩:=hv
    replace hS:=hS.ext a9
    refine Kq H rfl rfl (n_q H (Zcd rfl rfl) rfl (W_q (Zt rfl rfl) rfl (W_q (Zb rfl) rfl ?_)));clear H a;intro a H
    refine Ze (Za ?_)
    obtain rfl:=Option.some.inj hm;replace hm:=aU;try dsimp only at hm
    exact Uy (decide (bR < a1)) H ⟨rfl,rfl,rfl,rfl,trivial⟩ ⟨hm,hS⟩
  clear H hS hm a;intro aB a b7 H hR
  simp only [ent,List.map_cons,List.map_nil] at H;(try dsimp only at hR);obtain⟨hm,hS⟩:=hR;try dsimp only [Vt] at hm
  refine Zn H rfl (fun aC=>?_) (fun aC=>?_)
  · replace hm:=Zu hm aC
    refine wp_region_lit (n_q H (Zd rfl) rfl (W_q (Zf rfl ((hG _ hS.chg).ld Zok (by decide) Hv)) rfl ?_));clear H a;intro a H
    replace hS:=hS.pk2
    replace hS:=hS.pk2
    replace hS:=hS.pk2
    obtain⟨bS,aG,bA,bB,aH⟩:=hS.frame (rs1:=[blkR b0 [v0_0,v0_1] 244,ownR 5 1 v0_0 a0.buf_.length (a0.buf_.flatMap eB),erQ A v0_1 a0.err_])
    replace hm:=Zj hm;obtain⟨b8,bC,hm⟩:=hm
    refine Zk H rfl Ztv (Hk (A:=A) aG (fun w' hw=>(Xu.var (by decide) : IsE A w' _ (.v Zok))) bC) rfl ?_
    clear H;intro b9 cA hv;clear a;intro a H;obtain⟨cB,cC,rfl,bD⟩:=hv
    replace hS:=aH _ _ bD;simp only [List.cons_append,List.nil_append] at hS;clear aG bA bB aH
    refine Ze (Zo ?_)
    obtain rfl:=Option.some.inj hm
    refine Zij H (.inl rfl) rfl ?_
    exact⟨_,_,rfl,hS⟩
  replace hm:=Zv hm aC
  refine wp_seq (wp_region_lit (n_q H (Zd rfl) rfl ?_));clear H a;intro a H
  obtain⟨cD,cF,aI,bT,bU⟩:=SlR.formV (h2 _ hS.chg)
  refine n_q H (Qc Tryz.underlying100 rfl aI) rfl (W_q (Zgf (i:=a2.length) (j:=65535) rfl rfl) rfl (W_q (Zb rfl) rfl ?_));clear H a;intro a H
  refine Ze (Za (Zn H rfl (fun aD=>?_) (fun aD=>?_)))
  · replace hm:=Zu hm aD
    refine wp_region_lit (n_q H (Zd rfl) rfl (W_q (Zf rfl ((hG _ hS.chg).ld Ur (by decide) Hv)) rfl ?_));clear H a;intro a H
    replace hS:=hS.pk2
    replace hS:=hS.pk2
    replace hS:=hS.pk2
    obtain⟨bV,aJ,bE,bF,aK⟩:=hS.frame (rs1:=[blkR b0 [v0_0,v0_1] 244,ownR 5 1 v0_0 a0.buf_.length (a0.buf_.flatMap eB),erQ A v0_1 a0.err_])
    replace hm:=Zj hm;obtain⟨cG,bG,hm⟩:=hm
    refine Zk H rfl Ztv (Hk (A:=A) aJ (fun w' hw=>(Xu.var (by decide) : IsE A w' _ (.v Ur))) bG) rfl ?_
    clear H;intro cH cI hv;clear a;intro a H;obtain⟨cJ,cK,rfl,bH⟩:=hv
    replace hS:=aK _ _ bH;simp only [List.cons_append,List.nil_append] at hS;clear aJ bE bF aK
    refine Ze (Zo ?_)
    obtain rfl:=Option.some.inj hm
    refine Zij H (.inl rfl) rfl ?_
    exact⟨_,_,rfl,hS⟩
  replace hm:=Zv hm aD
  refine wp_seq (wp_region_lit (n_q H (Zd rfl) rfl (W_q (Zd rfl) rfl ?_)));clear H a;intro a H
  replace hS:=hS.pk2
  replace hS:=hS.pk2
  replace hS:=hS.pk2
  obtain⟨bW,aL,aM,bI,aN⟩:=hS.frame (rs1:=[blkR b0 [v0_0,v0_1] 244,ownR 5 1 v0_0 a0.buf_.length (a0.buf_.flatMap eB),erQ A v0_1 a0.err_])
  replace hm:=Zj hm;obtain⟨aE,bJ,hm⟩:=hm
  refine Zk H rfl Zp2 (Wt (A:=A) (fun w' hw=>hG _ (aM _ hw)) aL bJ) rfl ?_
  clear H;intro cL cM hv;clear a;intro a H;obtain⟨aV,aW,rfl,bK⟩:=hv
  replace hS:=aN _ _ bK;simp only [List.cons_append,List.nil_append] at hS;clear aL aM bI aN
  refine Ze (Za (wp_seq (wp_region_lit (n_q H (Zd rfl) rfl (W_q (Zd rfl) rfl (W_q (Qc Tryz.underlying100 rfl aI) rfl ?_))))));clear H a;intro a H
  replace hS:=hS.pk2
  replace hS:=hS.pk2
  replace hS:=hS.pk2
  obtain⟨bX,aO,aP,bL,aQ⟩:=hS.frame (rs1:=[blkR b0 [aV,aW] 244,ownR 5 1 aV aE.buf_.length (aE.buf_.flatMap eB),erQ A aW aE.err_])
  replace hm:=Zj hm;obtain⟨aF,bM,hm⟩:=hm
  refine Zk H rfl Zp2 (Wt (A:=A) (fun w' hw=>hG _ (aP _ hw)) aO bM) rfl ?_
  clear H;intro cN cO hv;clear a;intro a H;obtain⟨aX,aY,rfl,bN⟩:=hv
  replace hS:=aQ _ _ bN;simp only [List.cons_append,List.nil_append] at hS;clear aO aP bL aQ
  refine Ze (Za (wp_region_lit (n_q H (Zd rfl) rfl (W_q (Zd rfl) rfl ?_))));clear H a;intro a H
  replace hS:=hS.pk2
  replace hS:=hS.pk2
  replace hS:=hS.pk2
  obtain⟨bY,aR,aS,bO,aT⟩:=hS.frame (rs1:=[blkR b0 [aX,aY] 244,ownR 5 1 aX aF.buf_.length (aF.buf_.flatMap eB),erQ A aY aF.err_])
  replace hm:=Zj hm;obtain⟨cP,bP,hm⟩:=hm
  refine Zk H rfl Zp1 (Ws (A:=A) aR (fun w' hw=>h2 _ (aS _ hw)) bP) rfl ?_
  clear H;intro cQ cR hv;clear a;intro a H;obtain⟨cT,cU,rfl,bQ⟩:=hv
  replace hS:=aT _ _ bQ;simp only [List.cons_append,List.nil_append] at hS;clear aR aS bO aT
  refine Ze (Zo ?_)
  obtain rfl:=Option.some.inj hm
  refine Zij H (.inl rfl) rfl ?_
  exact⟨_,_,rfl,hS⟩
theorem Hl {w : World} {A : Nat → Addr} {fp : Nat → Prop} {b0 : Nat} {v0_0 : Value} {v0_1 : Value} {a0 : GWireWriter} {a1 : Int} {g2 : Nat} {fs2 : List Value} {cp2 : List Value} {Gd2 : World → Prop} {a2 : GWireWriter → Option GWireWriter} (hG : ∀ w',ChgP fp w w' → EV A w') (hP : Sep w fp [blkR b0 [v0_0,v0_1] 244,ownR 5 1 v0_0 a0.buf_.length (a0.buf_.flatMap eB),erQ A v0_1 a0.err_]) (he2 : Zq Tryz.prog g2=true) (hd2 : ∀ w',ChgP fp w w' → Gd2 w') (hf2 : ∀ (w1 : World) (g : Nat → Prop) (b_0 : Nat) (v_0_0 : Value) (v_0_1 : Value) (x_0 : GWireWriter) (r : GWireWriter),(∀ w',ChgP g w1 w' → Gd2 w') → Sep w1 g [blkR b_0 [v_0_0,v_0_1] 244,ownR 5 1 v_0_0 x_0.buf_.length (x_0.buf_.flatMap eB),erQ A v_0_1 x_0.err_] → a2 x_0=some r → Calls Tryz.prog g2 (fs2 ++ [Value.pointer (some ⟨b_0,0,none⟩)] ++ cp2).toArray w1 (Ret fun u w'=>∃ h_0 h_1,u=.tuple #[] ∧ St g w1 w' [blkR b_0 [h_0,h_1] 244,ownR 5 1 h_0 r.buf_.length (r.buf_.flatMap eB),erQ A h_1 r.err_])) {r : GWireWriter} (hm : Vu a0 a1 a2=some r) :
    Calls Tryz.prog 161 [.pointer (some ⟨b0,0,none⟩),.int .i64 a1,.func (.func g2) fs2.toArray cp2.toArray].toArray w (Ret fun u w'=>∃ h_0 h_1,u=.tuple #[] ∧ St fp w w' [blkR b0 [h_0,h_1] 244,ownR 5 1 h_0 r.buf_.length (r.buf_.flatMap eB),erQ A h_1 r.err_]):=by
  have hS:=St.init hP
  unfold Vu at hm
  refine enter Tryz.func161 rfl rfl rfl ?_;intro a H;dsimp only [Qn,Nat.zero_add,Nat.reduceAdd] at H
  refine wp_seq (wp_region_lit ?_)
  replace hm:=Zj hm;obtain⟨aA,aP,hm⟩:=hm
  refine Zk H rfl en93 (Tv (A:=A) aP) rfl ?_
  clear H;intro bC bD hv;clear a;intro a H;obtain⟨aL,aM,aN,rfl,aQ⟩:=hv
  replace hS:=hS.new aQ;simp only [List.cons_append,List.nil_append] at hS
  refine n_q H (Zb rfl) rfl ?_;clear H a;intro a H
  refine Ze (Za (wp_seq (wp_region_lit (n_q H (Zd rfl) rfl (W_q (Zd rfl) rfl ?_)))));clear H a;intro a H
  replace hS:=hS.pk2
  replace hS:=hS.pk2
  replace hS:=hS.pk2
  obtain⟨a9,aB,aC,aR,aD⟩:=hS.frame (rs1:=[blkR aL [aM,aN] 244,ownR 5 1 aM aA.buf_.length (aA.buf_.flatMap eB),erQ A aN aA.err_])
  replace hm:=Zj hm;obtain⟨aE,aS,hm⟩:=hm
  refine Zeu H rfl rfl he2 (hf2 _ _ _ _ _ _ _ (fun w' hw=>hd2 _ (aC _ hw)) aB aS) rfl ?_
  clear H;intro bE bF hv;clear a;intro a H;obtain⟨aO,u32,rfl,aT⟩:=hv
  replace hS:=aD _ _ aT;simp only [List.cons_append,List.nil_append] at hS;clear aB aC aR aD
  refine Ze (Za (wp_seq (wp_region_lit (n_q H (Zd rfl) rfl ?_))));clear H a;intro a H
  replace hS:=hS.pk2
  replace hS:=hS.pk2
  replace hS:=hS.pk2
  obtain⟨bA,aF,aU,aV,aG⟩:=hS.frame (rs1:=[blkR aL [aO,u32] 244,ownR 5 1 aO aE.buf_.length (aE.buf_.flatMap eB),erQ A u32 aE.err_])
  replace hm:=Zj hm;obtain⟨bG,aW,hm⟩:=hm
  refine Zk H rfl en92 (Ht (A:=A) aF aW) rfl ?_
  clear H;intro bH bI hv;clear a;intro a H;obtain⟨bJ,bK,bL,bM,rfl,aX⟩:=hv
  replace hS:=aG _ _ aX;simp only [List.cons_append,List.nil_append] at hS;clear aF aU aV aG
  refine n_q H (Zd rfl) rfl (W_q (Zm rfl rfl) rfl (W_q (Zm rfl rfl) rfl (W_q (Zb rfl) rfl (W_q (Zb rfl) rfl ?_))));clear H a;intro a H
  refine Ze (Za (wp_region_lit (n_q H (Zd rfl) rfl (W_q (Zd rfl) rfl (W_q (Zd rfl) rfl ?_)))));clear H a;intro a H
  replace hS:=hS.pk6
  replace hS:=hS.pk6
  replace hS:=hS.pk6
  obtain⟨bB,aH,aI,aJ,aK⟩:=hS.frame (rs1:=[blkR b0 [v0_0,v0_1] 244,ownR 5 1 v0_0 a0.buf_.length (a0.buf_.flatMap eB),erQ A v0_1 a0.err_])
  replace hm:=Zj hm;obtain⟨bN,aY,hm⟩:=hm
  refine Zk H rfl en236 (Zdb (A:=A) (fun w' hw=>hG _ (aI _ hw)) aH (fun w' hw=>(To (aJ 2 _ rfl _ hw)).slr rfl (fun _ _=>rfl)) aY) rfl ?_
  clear H;intro bO bP hv;clear a;intro a H;obtain⟨bQ,bR,rfl,aZ⟩:=hv
  replace hS:=aK _ _ aZ;simp only [List.cons_append,List.nil_append] at hS;clear aH aI aJ aK
  refine Ze ?_
  obtain rfl:=Option.some.inj hm
  replace hS:=hS.tk3
  refine Zij H (.inl rfl) rfl ?_
  exact⟨_,_,rfl,hS⟩
theorem Tb {w : World} {A : Nat → Addr} {fp : Nat → Prop} {b0 : Nat} {v0_0 : Value} {v0_1 : Value} {a0 : GWireWriter} {v1 : Value} {a1 : List UInt8} (hP : Sep w fp [blkR b0 [v0_0,v0_1] 244,ownR 5 1 v0_0 a0.buf_.length (a0.buf_.flatMap eB),erQ A v0_1 a0.err_]) (h1 : ∀ w',ChgP fp w w' → SlR w' 1 (Zi eB) v1 a1) {r : GWireWriter} (hm : Yk a0 a1=some r) :
    Calls Tryz.prog 94 [.pointer (some ⟨b0,0,none⟩),v1].toArray w (Ret fun u w'=>∃ h_0 h_1,u=.tuple #[] ∧ St fp w w' [blkR b0 [h_0,h_1] 244,ownR 5 1 h_0 r.buf_.length (r.buf_.flatMap eB),erQ A h_1 r.err_]):=by
  have hS:=St.init hP
  unfold Yk at hm
  refine enter Tryz.func94 rfl rfl rfl ?_;intro a H;dsimp only [Qn,Nat.zero_add,Nat.reduceAdd] at H
  refine wp_region_lit (n_q H (Zd rfl) rfl (W_q (Zd rfl) rfl ?_));clear H a;intro a H
  replace hS:=hS.pk2
  replace hS:=hS.pk2
  replace hS:=hS.pk2
  obtain⟨aG,aA,aB,aD,aC⟩:=hS.frame (rs1:=[blkR b0 [v0_0,v0_1] 244,ownR 5 1 v0_0 a0.buf_.length (a0.buf_.flatMap eB),erQ A v0_1 a0.err_])
  replace hm:=Zj hm;obtain⟨aH,aE,hm⟩:=hm
  refine Zk H rfl Zp1 (Ws (A:=A) aA (fun w' hw=>h1 _ (aB _ hw)) aE) rfl ?_
  clear H;intro aI aJ hv;clear a;intro a H;obtain⟨aK,aL,rfl,aF⟩:=hv
  replace hS:=aC _ _ aF;simp only [List.cons_append,List.nil_append] at hS;clear aA aB aD aC
  refine Ze ?_
  obtain rfl:=Option.some.inj hm
  refine Zij H (.inl rfl) rfl ?_
  exact⟨_,_,rfl,hS⟩
theorem Jt {w : World} {A : Nat → Addr} {fp : Nat → Prop} {b0 : Nat} {v0_0 : Value} {v0_1 : Value} {a0 : GWireWriter} {a1 : Int} (hG : ∀ w',ChgP fp w w' → EV A w') (hP : Sep w fp [blkR b0 [v0_0,v0_1] 244,ownR 5 1 v0_0 a0.buf_.length (a0.buf_.flatMap eB),erQ A v0_1 a0.err_]) {r : GWireWriter} (hm : Xj a0 a1=some r) :
    Calls Tryz.prog 163 [.pointer (some ⟨b0,0,none⟩),.int .i64 a1].toArray w (Ret fun u w'=>∃ h_0 h_1,u=.tuple #[] ∧ St fp w w' [blkR b0 [h_0,h_1] 244,ownR 5 1 h_0 r.buf_.length (r.buf_.flatMap eB),erQ A h_1 r.err_]):=by
  have hS:=St.init hP
  unfold Xj at hm
  refine enter Tryz.func163 rfl rfl rfl ?_;intro a H;dsimp only [Qn,Nat.zero_add,Nat.reduceAdd] at H
  refine wp_region_lit (n_q H (Zd rfl) rfl (W_q (Zd rfl) rfl ?_));clear H a;intro a H
  replace hS:=hS.pk2
  replace hS:=hS.pk2
  replace hS:=hS.pk2
  obtain⟨aG,aA,aB,aD,aC⟩:=hS.frame (rs1:=[blkR b0 [v0_0,v0_1] 244,ownR 5 1 v0_0 a0.buf_.length (a0.buf_.flatMap eB),erQ A v0_1 a0.err_])
  replace hm:=Zj hm;obtain⟨aH,aE,hm⟩:=hm
  refine Zk H rfl Zp2 (Wt (A:=A) (fun w' hw=>hG _ (aB _ hw)) aA aE) rfl ?_
  clear H;intro aI aJ hv;clear a;intro a H;obtain⟨aK,aL,rfl,aF⟩:=hv
  replace hS:=aC _ _ aF;simp only [List.cons_append,List.nil_append] at hS;clear aA aB aD aC
  refine Ze ?_
  obtain rfl:=Option.some.inj hm
  refine Zij H (.inl rfl) rfl ?_
  exact⟨_,_,rfl,hS⟩
theorem Zfi {w : World} {A : Nat → Addr} {fp : Nat → Prop} {b0 : Nat} {v0_0 : Value} {v0_1 : Value} {a0 : GWireWriter} {b1 : Nat} {a1 : GPagePlan} (hG : ∀ w',ChgP fp w w' → EV A w') (hP : Sep w fp [blkR b0 [v0_0,v0_1] 244,ownR 5 1 v0_0 a0.buf_.length (a0.buf_.flatMap eB),erQ A v0_1 a0.err_]) (hc1_0 : ∀ w',ChgP fp w w' → Blk w' b1 [.int .i64 a1.Rights,.string a1.Init] 114) {r : GWireWriter} (hm : Vh a0 a1=some r) :
    Calls Tryz.prog 162 [.pointer (some ⟨b0,0,none⟩),.pointer (some ⟨b1,0,none⟩)].toArray w (Ret fun u w'=>∃ h_0 h_1,u=.tuple #[] ∧ St fp w w' [blkR b0 [h_0,h_1] 244,ownR 5 1 h_0 r.buf_.length (r.buf_.flatMap eB),erQ A h_1 r.err_]):=by
  have hS:=St.init hP
  unfold Vh at hm
  refine enter Tryz.func162 rfl rfl rfl ?_;intro a H;dsimp only [Qn,Nat.zero_add,Nat.reduceAdd] at H
  refine wp_seq (wp_region_lit (n_q H (Zd rfl) rfl (W_q (Zc rfl Zho) rfl (W_q (Zf rfl ((hc1_0 _ hS.chg).ld ag3 rfl)) rfl ?_))));clear H a;intro a H
  replace hS:=hS.pk2
  replace hS:=hS.pk2
  replace hS:=hS.pk2
  obtain⟨aR,aA,aB,aJ,aC⟩:=hS.frame (rs1:=[blkR b0 [v0_0,v0_1] 244,ownR 5 1 v0_0 a0.buf_.length (a0.buf_.flatMap eB),erQ A v0_1 a0.err_])
  replace hm:=Zj hm;obtain⟨aD,aK,hm⟩:=hm
  refine Zk H rfl Zk3 (Jt (A:=A) (fun w' hw=>hG _ (aB _ hw)) aA aK) rfl ?_
  clear H;intro aT aU hv;clear a;intro a H;obtain⟨aH,aI,rfl,aL⟩:=hv
  replace hS:=aC _ _ aL;simp only [List.cons_append,List.nil_append] at hS;clear aA aB aJ aC
  refine Ze (Za (wp_region_lit (n_q H (Zd rfl) rfl (W_q (Zc rfl Zmp) rfl (W_q (Zf rfl ((hc1_0 _ hS.chg).ld ag9 rfl)) rfl ?_)))));clear H a;intro a H
  replace hm:=Za6 hm;obtain⟨aM,hm⟩:=hm
  refine Zte H Tryz.underlying9 Tryz.underlying100 Tryz.underlying5 rfl (by simp only [maxLen];exact aM) rfl ?_
  clear H;intro aV aW hN aN hs;clear a;intro a H
  replace hS:=hS.newOwn hN aN (by rw [hs];intro c hc;rw [List.mem_singleton.1 hc];exact Nat.le_refl _);clear hN hs
  replace hS:=hS.pk3
  replace hS:=hS.pk3
  replace hS:=hS.pk3
  obtain⟨aS,aE,aO,aF,aG⟩:=hS.frame (rs1:=[blkR b0 [aH,aI] 244,ownR 5 1 aH aD.buf_.length (aD.buf_.flatMap eB),erQ A aI aD.err_])
  replace hm:=Zj hm;obtain⟨aX,aP,hm⟩:=hm
  refine Zk H rfl en94 (Tb (A:=A) aE (fun w' hw=>(To (aF 0 _ rfl _ hw)).slr rfl (fun _ _=>rfl)) aP) rfl ?_
  clear H;intro aY aZ hv;clear a;intro a H;obtain⟨a9,bA,rfl,aQ⟩:=hv
  replace hS:=aG _ _ aQ;simp only [List.cons_append,List.nil_append] at hS;clear aE aO aF aG
  refine Ze ?_
  obtain rfl:=Option.some.inj hm
  replace hS:=hS.tk3
  refine Zij H (.inl rfl) rfl ?_
  exact⟨_,_,rfl,hS⟩
theorem Tc {w : World} {A : Nat → Addr} {fp : Nat → Prop} {b0 : Nat} {v0_0 : Value} {v0_1 : Value} {a0 : GWireWriter} {a1 : Int} (hG : ∀ w',ChgP fp w w' → EV A w') (hP : Sep w fp [blkR b0 [v0_0,v0_1] 244,ownR 5 1 v0_0 a0.buf_.length (a0.buf_.flatMap eB),erQ A v0_1 a0.err_]) {r : GWireWriter} (hm : Yl a0 a1=some r) :
    Calls Tryz.prog 96 [.pointer (some ⟨b0,0,none⟩),.int .i64 a1].toArray w (Ret fun u w'=>∃ h_0 h_1,u=.tuple #[] ∧ St fp w w' [blkR b0 [h_0,h_1] 244,ownR 5 1 h_0 r.buf_.length (r.buf_.flatMap eB),erQ A h_1 r.err_]):=by
  have hS:=St.init hP
  unfold Yl at hm
  refine enter Tryz.func96 rfl rfl rfl ?_;intro a H;dsimp only [Qn,Nat.zero_add,Nat.reduceAdd] at H
  refine wp_region_lit (n_q H (Zd rfl) rfl (W_q (Zd rfl) rfl ?_));clear H a;intro a H
  replace hS:=hS.pk2
  replace hS:=hS.pk2
  replace hS:=hS.pk2
  obtain⟨aG,aA,aB,aD,aC⟩:=hS.frame (rs1:=[blkR b0 [v0_0,v0_1] 244,ownR 5 1 v0_0 a0.buf_.length (a0.buf_.flatMap eB),erQ A v0_1 a0.err_])
  replace hm:=Zj hm;obtain⟨aH,aE,hm⟩:=hm
  refine Zk H rfl Zp2 (Wt (A:=A) (fun w' hw=>hG _ (aB _ hw)) aA aE) rfl ?_
  clear H;intro aI aJ hv;clear a;intro a H;obtain⟨aK,aL,rfl,aF⟩:=hv
  replace hS:=aC _ _ aF;simp only [List.cons_append,List.nil_append] at hS;clear aA aB aD aC
  refine Ze ?_
  obtain rfl:=Option.some.inj hm
  refine Zij H (.inl rfl) rfl ?_
  exact⟨_,_,rfl,hS⟩
theorem Za2 {w : World} {A : Nat → Addr} {fp : Nat → Prop} {b0 : Nat} {v0_0 : Value} {v0_1 : Value} {a0 : GWireWriter} {a1 : Bool} (hP : Sep w fp [blkR b0 [v0_0,v0_1] 244,ownR 5 1 v0_0 a0.buf_.length (a0.buf_.flatMap eB),erQ A v0_1 a0.err_]) {r : GWireWriter} (hm : Va a0 a1=some r) :
    Calls Tryz.prog 97 [.pointer (some ⟨b0,0,none⟩),.bool a1].toArray w (Ret fun u w'=>∃ h_0 h_1,u=.tuple #[] ∧ St fp w w' [blkR b0 [h_0,h_1] 244,ownR 5 1 h_0 r.buf_.length (r.buf_.flatMap eB),erQ A h_1 r.err_]):=by
  have hS:=St.init hP
  unfold Va at hm
  refine enter Tryz.func97 rfl rfl rfl ?_;intro a H;dsimp only [Qn,Nat.zero_add,Nat.reduceAdd] at H
  refine wp_seq (wp_region_lit (n_q H (Zd rfl) rfl ?_));clear H a;intro a H
  refine Ze (Za (Zn H rfl (fun aA=>?_) (fun aA=>?_)))
  · replace hm:=Zu hm aA
    refine wp_region_lit (n_q H (Zd rfl) rfl ?_);clear H a;intro a H
    refine Qb H Tryz.underlying100 sz5 ze5 rfl rfl rfl (cs:=[.int .u8 1]) (by kernel_rfl) rfl ?_
    clear H;intro aR aS hN aH hs;clear a;intro a H
    replace hS:=hS.newBlk hN aH hs;clear hN hs
    replace hS:=hS.blkOwnL (e:=eB) (k:=1) [(Qz 1)] (by kernel_rfl) rfl (by simp [maxLen])
    replace hS:=hS.pk3
    replace hS:=hS.pk3
    replace hS:=hS.pk3
    obtain⟨aP,aB,aI,aC,aD⟩:=hS.frame (rs1:=[blkR b0 [v0_0,v0_1] 244,ownR 5 1 v0_0 a0.buf_.length (a0.buf_.flatMap eB),erQ A v0_1 a0.err_])
    replace hm:=Zj hm;obtain⟨aT,aJ,hm⟩:=hm
    refine Zk H rfl Zp1 (Ws (A:=A) aB (fun w' hw=>(To (aC 0 _ rfl _ hw)).slr rfl (fun _ _=>rfl)) aJ) rfl ?_
    clear H;intro aU aV hv;clear a;intro a H;obtain⟨aW,aX,rfl,aK⟩:=hv
    replace hS:=aD _ _ aK;simp only [List.cons_append,List.nil_append] at hS;clear aB aI aC aD
    refine Ze ?_
    obtain rfl:=Option.some.inj hm
    replace hS:=hS.tk3
    refine Zij H (.inl rfl) rfl ?_
    exact⟨_,_,rfl,hS⟩
  replace hm:=Zv hm aA
  refine wp_region_lit (n_q H (Zd rfl) rfl ?_);clear H a;intro a H
  refine Qb H Tryz.underlying100 sz5 ze5 rfl rfl rfl (cs:=[.int .u8 0]) (by kernel_rfl) rfl ?_
  clear H;intro aY aZ hN aL hs;clear a;intro a H
  replace hS:=hS.newBlk hN aL hs;clear hN hs
  replace hS:=hS.blkOwnL (e:=eB) (k:=1) [(Qz 0)] (by kernel_rfl) rfl (by simp [maxLen])
  replace hS:=hS.pk3
  replace hS:=hS.pk3
  replace hS:=hS.pk3
  obtain⟨aQ,aE,aM,aF,aG⟩:=hS.frame (rs1:=[blkR b0 [v0_0,v0_1] 244,ownR 5 1 v0_0 a0.buf_.length (a0.buf_.flatMap eB),erQ A v0_1 a0.err_])
  replace hm:=Zj hm;obtain⟨a9,aN,hm⟩:=hm
  refine Zk H rfl Zp1 (Ws (A:=A) aE (fun w' hw=>(To (aF 0 _ rfl _ hw)).slr rfl (fun _ _=>rfl)) aN) rfl ?_
  clear H;intro bA bB hv;clear a;intro a H;obtain⟨bC,bD,rfl,aO⟩:=hv
  replace hS:=aG _ _ aO;simp only [List.cons_append,List.nil_append] at hS;clear aE aM aF aG
  refine Ze ?_
  obtain rfl:=Option.some.inj hm
  replace hS:=hS.tk3
  refine Zij H (.inl rfl) rfl ?_
  exact⟨_,_,rfl,hS⟩
theorem Zfj {w : World} {A : Nat → Addr} {fp : Nat → Prop} {b0 : Nat} {v0_0 : Value} {v0_1 : Value} {a0 : GWireWriter} {b1 : Nat} {a1 : GProcPlan} (hG : ∀ w',ChgP fp w w' → EV A w') (hP : Sep w fp [blkR b0 [v0_0,v0_1] 244,ownR 5 1 v0_0 a0.buf_.length (a0.buf_.flatMap eB),erQ A v0_1 a0.err_]) (hc1_0 : ∀ w',ChgP fp w w' → Blk w' b1 [.int .i64 a1.Entry,.int .i64 a1.Prio,.bool a1.Auto] 116) {r : GWireWriter} (hm : Vi a0 a1=some r) :
    Calls Tryz.prog 164 [.pointer (some ⟨b0,0,none⟩),.pointer (some ⟨b1,0,none⟩)].toArray w (Ret fun u w'=>∃ h_0 h_1,u=.tuple #[] ∧ St fp w w' [blkR b0 [h_0,h_1] 244,ownR 5 1 h_0 r.buf_.length (r.buf_.flatMap eB),erQ A h_1 r.err_]):=by
  have hS:=St.init hP
  unfold Vi at hm
  refine enter Tryz.func164 rfl rfl rfl ?_;intro a H;dsimp only [Qn,Nat.zero_add,Nat.reduceAdd] at H
  refine wp_seq (wp_region_lit (n_q H (Zd rfl) rfl (W_q (Zc rfl Zf4) rfl (W_q (Zf rfl ((hc1_0 _ hS.chg).ld ag3 rfl)) rfl ?_))));clear H a;intro a H
  replace hS:=hS.pk2
  replace hS:=hS.pk2
  replace hS:=hS.pk2
  obtain⟨aX,aA,aB,aN,aC⟩:=hS.frame (rs1:=[blkR b0 [v0_0,v0_1] 244,ownR 5 1 v0_0 a0.buf_.length (a0.buf_.flatMap eB),erQ A v0_1 a0.err_])
  replace hm:=Zj hm;obtain⟨aD,aO,hm⟩:=hm
  refine Zk H rfl en96 (Tc (A:=A) (fun w' hw=>hG _ (aB _ hw)) aA aO) rfl ?_
  clear H;intro a9 bA hv;clear a;intro a H;obtain⟨aK,aL,rfl,aP⟩:=hv
  replace hS:=aC _ _ aP;simp only [List.cons_append,List.nil_append] at hS;clear aA aB aN aC
  refine Ze (Za (wp_seq (wp_region_lit (n_q H (Zd rfl) rfl (W_q (Zc rfl Zhp) rfl (W_q (Zf rfl ((hc1_0 _ hS.chg).ld ag3 rfl)) rfl ?_))))));clear H a;intro a H
  replace hS:=hS.pk2
  replace hS:=hS.pk2
  replace hS:=hS.pk2
  obtain⟨aY,aE,aF,aQ,aG⟩:=hS.frame (rs1:=[blkR b0 [aK,aL] 244,ownR 5 1 aK aD.buf_.length (aD.buf_.flatMap eB),erQ A aL aD.err_])
  replace hm:=Zj hm;obtain⟨aH,aR,hm⟩:=hm
  refine Zk H rfl Zk3 (Jt (A:=A) (fun w' hw=>hG _ (aF _ hw)) aE aR) rfl ?_
  clear H;intro bB bC hv;clear a;intro a H;obtain⟨aM,u32,rfl,aS⟩:=hv
  replace hS:=aG _ _ aS;simp only [List.cons_append,List.nil_append] at hS;clear aE aF aQ aG
  refine Ze (Za (wp_region_lit (n_q H (Zd rfl) rfl (W_q (Zc rfl Zmq) rfl (W_q (Zf rfl ((hc1_0 _ hS.chg).ld ag4 rfl)) rfl ?_)))));clear H a;intro a H
  replace hS:=hS.pk2
  replace hS:=hS.pk2
  replace hS:=hS.pk2
  obtain⟨aZ,aI,aT,aU,aJ⟩:=hS.frame (rs1:=[blkR b0 [aM,u32] 244,ownR 5 1 aM aH.buf_.length (aH.buf_.flatMap eB),erQ A u32 aH.err_])
  replace hm:=Zj hm;obtain⟨bD,aV,hm⟩:=hm
  refine Zk H rfl en97 (Za2 (A:=A) aI aV) rfl ?_
  clear H;intro bE bF hv;clear a;intro a H;obtain⟨bG,bH,rfl,aW⟩:=hv
  replace hS:=aJ _ _ aW;simp only [List.cons_append,List.nil_append] at hS;clear aI aT aU aJ
  refine Ze ?_
  obtain rfl:=Option.some.inj hm
  refine Zij H (.inl rfl) rfl ?_
  exact⟨_,_,rfl,hS⟩
theorem Zfk {w : World} {A : Nat → Addr} {fp : Nat → Prop} {b0 : Nat} {v0_0 : Value} {v0_1 : Value} {a0 : GWireWriter} {b1 : Nat} {a1 : GPortPlan} (hG : ∀ w',ChgP fp w w' → EV A w') (hP : Sep w fp [blkR b0 [v0_0,v0_1] 244,ownR 5 1 v0_0 a0.buf_.length (a0.buf_.flatMap eB),erQ A v0_1 a0.err_]) (hc1_0 : ∀ w',ChgP fp w w' → Blk w' b1 [.int .i64 a1.Kind,.int .i64 a1.Size,.int .i64 a1.Depth,.int .i64 a1.Refresh] 118) {r : GWireWriter} (hm : Vj a0 a1=some r) :
    Calls Tryz.prog 165 [.pointer (some ⟨b0,0,none⟩),.pointer (some ⟨b1,0,none⟩)].toArray w (Ret fun u w'=>∃ h_0 h_1,u=.tuple #[] ∧ St fp w w' [blkR b0 [h_0,h_1] 244,ownR 5 1 h_0 r.buf_.length (r.buf_.flatMap eB),erQ A h_1 r.err_]):=by
  have hS:=St.init hP
  unfold Vj at hm
  refine enter Tryz.func165 rfl rfl rfl ?_;intro a H;dsimp only [Qn,Nat.zero_add,Nat.reduceAdd] at H
  refine wp_seq (wp_region_lit (n_q H (Zd rfl) rfl (W_q (Zc rfl Tt) rfl (W_q (Zf rfl ((hc1_0 _ hS.chg).ld ag3 rfl)) rfl ?_))));clear H a;intro a H
  replace hS:=hS.pk2
  replace hS:=hS.pk2
  replace hS:=hS.pk2
  obtain⟨bF,aA,aB,aU,aC⟩:=hS.frame (rs1:=[blkR b0 [v0_0,v0_1] 244,ownR 5 1 v0_0 a0.buf_.length (a0.buf_.flatMap eB),erQ A v0_1 a0.err_])
  replace hm:=Zj hm;obtain⟨aD,aV,hm⟩:=hm
  refine Zk H rfl Zk3 (Jt (A:=A) (fun w' hw=>hG _ (aB _ hw)) aA aV) rfl ?_
  clear H;intro bJ bK hv;clear a;intro a H;obtain⟨aP,aQ,rfl,aW⟩:=hv
  replace hS:=aC _ _ aW;simp only [List.cons_append,List.nil_append] at hS;clear aA aB aU aC
  refine Ze (Za (wp_seq (wp_region_lit (n_q H (Zd rfl) rfl (W_q (Zc rfl Zhq) rfl (W_q (Zf rfl ((hc1_0 _ hS.chg).ld ag3 rfl)) rfl ?_))))));clear H a;intro a H
  replace hS:=hS.pk2
  replace hS:=hS.pk2
  replace hS:=hS.pk2
  obtain⟨bG,aE,aF,aX,aG⟩:=hS.frame (rs1:=[blkR b0 [aP,aQ] 244,ownR 5 1 aP aD.buf_.length (aD.buf_.flatMap eB),erQ A aQ aD.err_])
  replace hm:=Zj hm;obtain⟨aH,aY,hm⟩:=hm
  refine Zk H rfl Zk3 (Jt (A:=A) (fun w' hw=>hG _ (aF _ hw)) aE aY) rfl ?_
  clear H;intro bL bM hv;clear a;intro a H;obtain⟨aR,u32,rfl,aZ⟩:=hv
  replace hS:=aG _ _ aZ;simp only [List.cons_append,List.nil_append] at hS;clear aE aF aX aG
  refine Ze (Za (wp_seq (wp_region_lit (n_q H (Zd rfl) rfl (W_q (Zc rfl Zf5) rfl (W_q (Zf rfl ((hc1_0 _ hS.chg).ld ag3 rfl)) rfl ?_))))));clear H a;intro a H
  replace hS:=hS.pk2
  replace hS:=hS.pk2
  replace hS:=hS.pk2
  obtain⟨bH,aI,aJ,a9,aK⟩:=hS.frame (rs1:=[blkR b0 [aR,u32] 244,ownR 5 1 aR aH.buf_.length (aH.buf_.flatMap eB),erQ A u32 aH.err_])
  replace hm:=Zj hm;obtain⟨aL,bA,hm⟩:=hm
  refine Zk H rfl Zk3 (Jt (A:=A) (fun w' hw=>hG _ (aJ _ hw)) aI bA) rfl ?_
  clear H;intro bN bO hv;clear a;intro a H;obtain⟨aS,aT,rfl,bB⟩:=hv
  replace hS:=aK _ _ bB;simp only [List.cons_append,List.nil_append] at hS;clear aI aJ a9 aK
  refine Ze (Za (wp_region_lit (n_q H (Zd rfl) rfl (W_q (Zc rfl Zmr) rfl (W_q (Zf rfl ((hc1_0 _ hS.chg).ld ag3 rfl)) rfl ?_)))));clear H a;intro a H
  replace hS:=hS.pk2
  replace hS:=hS.pk2
  replace hS:=hS.pk2
  obtain⟨bI,aM,aN,bC,aO⟩:=hS.frame (rs1:=[blkR b0 [aS,aT] 244,ownR 5 1 aS aL.buf_.length (aL.buf_.flatMap eB),erQ A aT aL.err_])
  replace hm:=Zj hm;obtain⟨bP,bD,hm⟩:=hm
  refine Zk H rfl Zk3 (Jt (A:=A) (fun w' hw=>hG _ (aN _ hw)) aM bD) rfl ?_
  clear H;intro bQ bR hv;clear a;intro a H;obtain⟨bS,bT,rfl,bE⟩:=hv
  replace hS:=aO _ _ bE;simp only [List.cons_append,List.nil_append] at hS;clear aM aN bC aO
  refine Ze ?_
  obtain rfl:=Option.some.inj hm
  refine Zij H (.inl rfl) rfl ?_
  exact⟨_,_,rfl,hS⟩
theorem Zfl {w : World} {A : Nat → Addr} {fp : Nat → Prop} {b0 : Nat} {v0_0 : Value} {v0_1 : Value} {a0 : GWireWriter} {b1 : Nat} {v1_0 : Value} {v1_1 : Value} {v1_2 : Value} {v1_3 : Value} {a1 : GPlan} (hG : ∀ w',ChgP fp w w' → EV A w') (hP : Sep w fp [blkR b0 [v0_0,v0_1] 244,ownR 5 1 v0_0 a0.buf_.length (a0.buf_.flatMap eB),erQ A v0_1 a0.err_]) (hc1_0 : ∀ w',ChgP fp w w' → Blk w' b1 [.int .i64 a1.Id,.bool a1.Mobile,v1_0,v1_1,v1_2,.int .i64 a1.Events,v1_3] 27) (hc1_1 : ∀ w',ChgP fp w w' → SlR w' 2 (Zi Zw) v1_0 a1.Pages) (hc1_2 : ∀ w',ChgP fp w w' → SlR w' 3 (Zi Zs) v1_1 a1.Procs) (hc1_3 : ∀ w',ChgP fp w w' → SlR w' 4 (Zi Zp) v1_2 a1.Ports) (hc1_4 : ∀ w',ChgP fp w w' → SlR w' 1 (Zi eI) v1_3 a1.Sems) {r : GWireWriter} (hm : Vk a0 a1=some r) :
    Calls Tryz.prog 166 [.pointer (some ⟨b0,0,none⟩),.pointer (some ⟨b1,0,none⟩)].toArray w (Ret fun u w'=>∃ h_0 h_1,u=.tuple #[] ∧ St fp w w' [blkR b0 [h_0,h_1] 244,ownR 5 1 h_0 r.buf_.length (r.buf_.flatMap eB),erQ A h_1 r.err_]):=by
  have hS:=St.init hP
  unfold Vk at hm
  refine enter Tryz.func166 rfl rfl rfl ?_;intro a H;dsimp only [Qn,Nat.zero_add,Nat.reduceAdd] at H
  refine wp_region_lit (n_q H (Zd rfl) rfl (W_q (Zc rfl Zdq) rfl (W_q (Zf rfl ((hc1_0 _ hS.chg).ld ag3 rfl)) rfl ?_)));clear H a;intro a H
  replace hS:=hS.pk2
  replace hS:=hS.pk2
  replace hS:=hS.pk2
  obtain⟨aG,aA,aB,aD,aC⟩:=hS.frame (rs1:=[blkR b0 [v0_0,v0_1] 244,ownR 5 1 v0_0 a0.buf_.length (a0.buf_.flatMap eB),erQ A v0_1 a0.err_])
  replace hm:=Zj hm;obtain⟨aH,aE,hm⟩:=hm
  refine Zk H rfl Zk3 (Jt (A:=A) (fun w' hw=>hG _ (aB _ hw)) aA aE) rfl ?_
  clear H;intro aI aJ hv;clear a;intro a H;obtain⟨aK,aL,rfl,aF⟩:=hv
  replace hS:=aC _ _ aF;simp only [List.cons_append,List.nil_append] at hS;clear aA aB aD aC
  refine Ze ?_
  obtain rfl:=Option.some.inj hm
  refine Zij H (.inl rfl) rfl ?_
  exact⟨_,_,rfl,hS⟩
theorem Zfm {w : World} {A : Nat → Addr} {fp : Nat → Prop} {b0 : Nat} {v0_0 : Value} {v0_1 : Value} {a0 : GWireWriter} {b1 : Nat} {v1_0 : Value} {v1_1 : Value} {v1_2 : Value} {v1_3 : Value} {a1 : GPlan} (hG : ∀ w',ChgP fp w w' → EV A w') (hP : Sep w fp [blkR b0 [v0_0,v0_1] 244,ownR 5 1 v0_0 a0.buf_.length (a0.buf_.flatMap eB),erQ A v0_1 a0.err_]) (hc1_0 : ∀ w',ChgP fp w w' → Blk w' b1 [.int .i64 a1.Id,.bool a1.Mobile,v1_0,v1_1,v1_2,.int .i64 a1.Events,v1_3] 27) (hc1_1 : ∀ w',ChgP fp w w' → SlR w' 2 (Zi Zw) v1_0 a1.Pages) (hc1_2 : ∀ w',ChgP fp w w' → SlR w' 3 (Zi Zs) v1_1 a1.Procs) (hc1_3 : ∀ w',ChgP fp w w' → SlR w' 4 (Zi Zp) v1_2 a1.Ports) (hc1_4 : ∀ w',ChgP fp w w' → SlR w' 1 (Zi eI) v1_3 a1.Sems) {r : GWireWriter} (hm : Vl a0 a1=some r) :
    Calls Tryz.prog 167 [.pointer (some ⟨b0,0,none⟩),.pointer (some ⟨b1,0,none⟩)].toArray w (Ret fun u w'=>∃ h_0 h_1,u=.tuple #[] ∧ St fp w w' [blkR b0 [h_0,h_1] 244,ownR 5 1 h_0 r.buf_.length (r.buf_.flatMap eB),erQ A h_1 r.err_]):=by
  have hS:=St.init hP
  unfold Vl at hm
  refine enter Tryz.func167 rfl rfl rfl ?_;intro a H;dsimp only [Qn,Nat.zero_add,Nat.reduceAdd] at H
  refine wp_seq (wp_region_lit (n_q H (Zc rfl Zbx) rfl (W_q (Zf rfl ((hc1_0 _ hS.chg).ld Zil rfl)) rfl ?_)));clear H a;intro a H
  obtain⟨bB,bC,aF,aZ,a9⟩:=SlR.formV (hc1_4 _ hS.chg)
  refine n_q H (Qc Tryz.underlying25 rfl aF) rfl (W_q (Zd rfl) rfl ?_);clear H a;intro a H
  refine Ze (Za (wp_block ?_))
  replace hm:=Zj hm;obtain⟨aN,hm,aP⟩:=hm;replace hm:=Ql hm;obtain⟨aT,hm⟩:=hm
  refine Kr (σ:=Nat × Nat × (List UInt8) × ErrM × Value × Value) (fun (m,aA,aB,aE,aC,aD)=>[(0,.pointer (some ⟨b0,0,none⟩)),(6,v1_3),(7,.int .i64 ((a1.Sems.length : Nat) : Int)),(8,.int .i64 ((aA : Nat) : Int))]) (fun (m,aA,aB,aE,aC,aD) wl=>Ye (Ym a1) m (aA,aB,aE)=some aN ∧ St fp w wl [blkR b0 [aC,aD] 244,ownR 5 1 aC aB.length (aB.flatMap eB),erQ A aD aE]) (fun (m,aA,aB,aE,aC,aD)=>m) (aT,0,a0.buf_,a0.err_,v0_0,v0_1) H ⟨rfl,rfl,rfl,rfl,trivial⟩ ⟨hm,hS⟩ ?_
  clear H hS hm a;intro xx a bD H hR;obtain⟨m,aA,aB,aE,aC,aD⟩:=xx;simp only [ent,List.map_cons,List.map_nil] at H;(try dsimp only at hR);obtain⟨hm,hS⟩:=hR
  replace hm:=Qh hm;obtain⟨aU,bE,rfl,hm,aJ⟩:=hm;try dsimp only [Ym] at hm
  refine wp_seq (wp_region_lit (n_q H (Yc (i:=aA) (j:=a1.Sems.length) rfl rfl) rfl ?_));clear H a;intro a H
  refine Ze (Za (wp_seq (Zn H rfl (fun aG=>?_) (fun aG=>?_))))
  · replace hm:=Zu hm aG
    have aX : aA < a1.Sems.length:=of_decide_eq_true aG
    refine wp_skip (Za (wp_seq (wp_block (wp_seq (wp_region_lit ?_)))))
    replace hm:=Zj hm;obtain⟨bF,aH,hm⟩:=hm
    obtain⟨aY,aI⟩:=SlR.adV (hc1_4 _ hS.chg) aF aH
    refine n_q H (Ug (i:=aA) Tryz.underlying25 sz3 rfl aF aI rfl (Zb5 aH)) rfl (W_q (Zf rfl (SlR.ldOneV (hc1_4 _ hS.chg) aF aI ag3 aH rfl)) rfl (W_q (Zb rfl) rfl ?_));clear H a;intro a H
    refine Ze (Za (wp_region_lit (n_q H (Zd rfl) rfl (W_q (Zd rfl) rfl ?_))));clear H a;intro a H
    replace hS:=hS.pk2
    replace hS:=hS.pk2
    replace hS:=hS.pk2
    obtain⟨bA,aK,aL,aQ,aM⟩:=hS.frame (rs1:=[blkR b0 [aC,aD] 244,ownR 5 1 aC aB.length (aB.flatMap eB),erQ A aD aE])
    replace hm:=Zj hm;obtain⟨aO,aR,hm⟩:=hm
    refine Zk H rfl Zk3 (Jt (A:=A) (fun w' hw=>hG _ (aL _ hw)) aK aR) rfl ?_
    clear H;intro bG bH hv;clear a;intro a H;obtain⟨aV,aW,rfl,aS⟩:=hv
    replace hS:=aM _ _ aS;simp only [List.cons_append,List.nil_append] at hS;clear aK aL aQ aM
    refine Ze (Zo (Za (wp_region_lit (n_q H (Yt (i:=aA) (j:=1) rfl rfl (by omega)) rfl (W_q (Zd rfl) rfl ?_)))));clear H a;intro a H
    refine Ze (Za ?_)
    obtain rfl:=Option.some.inj hm
    exact Uz (aU,aA + 1,aO.buf_,aO.err_,aV,aW) H ⟨rfl,rfl,rfl,rfl,trivial⟩ ⟨aJ,hS⟩ (Nat.lt_succ_self _)
  replace hm:=Zv hm aG
  refine wp_exit (Zr (Zr (Qf ?_)))
  obtain rfl:=Option.some.inj hm;have hz : _=aN:=aJ;subst hz;replace hm:=aP;try dsimp only at hm
  obtain rfl:=Option.some.inj hm
  refine Zij H (.inl rfl) rfl ?_
  exact⟨_,_,rfl,hS⟩
theorem Zgr {w : World} {A : Nat → Addr} {cs0 : List Value} {a0 : GPlan} (hG : EV A w) (h0 : Xa w cs0 a0) {r : GWireWriter} (hm : Hx a0=some r) :
    Calls Tryz.prog 91 [.agg cs0.toArray].toArray w (Ret fun u w'=>∃ (h_0 : Nat) (h_1 : Value) (h_2 : Value),u=.pointer (some ⟨h_0,0,none⟩) ∧ St NB w w' [blkR h_0 [h_1,h_2] 244,ownR 5 1 h_1 r.buf_.length (r.buf_.flatMap eB),erQ A h_2 r.err_]):=by
  obtain⟨aA,aB,aC,aD,rfl,aH,aI,aJ,bI⟩:=h0
  have hS:=St.begin NB w
  unfold Hx at hm
  refine enter Tryz.func91 rfl rfl rfl ?_;intro a H;dsimp only [Qn,Nat.zero_add,Nat.reduceAdd] at H
  refine wp_seq (wp_region_lit (Yy H rfl (cs:=[.int .i64 a0.Id,.bool a0.Mobile,aA,aB,aC,.int .i64 a0.Events,aD]) rfl rfl ?_))
  clear H;intro aG fA hN dA hs;clear a;intro a H
  replace hS:=hS.newBlk hN dA hs;clear hN hs
  refine n_q H (Zb rfl) rfl ?_;clear H a;intro a H
  refine Ze (Za (wp_seq (wp_region_lit ?_)))
  replace hm:=Zj hm;obtain⟨cW,dB,hm⟩:=hm
  refine Zk H rfl en93 (Tv (A:=A) dB) rfl ?_
  clear H;intro fB fC hv;clear a;intro a H;obtain⟨aK,dR,dS,rfl,dC⟩:=hv
  replace hS:=hS.new dC;simp only [List.cons_append,List.nil_append] at hS
  refine n_q H (Zb rfl) rfl ?_;clear H a;intro a H
  refine Ze (Za (wp_seq (wp_seq (wp_region_lit (n_q H (Zc rfl Zap) rfl (W_q (Zf rfl ((hS.blk 3 rfl).ld Zmo rfl)) rfl ?_))))));clear H a;intro a H
  obtain⟨fD,fE,bB,eK,eL⟩:=SlR.formV (aH.ext (Zi.mono _) hS.x)
  refine n_q H (Qc Tryz.underlying22 rfl bB) rfl (W_q (Zd rfl) rfl ?_);clear H a;intro a H
  refine Ze (Za (wp_block ?_))
  replace hS:=hS.pk2
  replace hS:=hS.pk2
  replace hS:=hS.pk2
  replace hS:=hS.pk3
  replace hm:=Zj hm;obtain⟨cX,hm,dD⟩:=hm;replace hm:=Ql hm;obtain⟨dT,hm⟩:=hm
  refine Kr (σ:=Nat × Nat × (List UInt8) × ErrM × Value × Value) (fun (m,aL,aP,aY,aU,aV)=>[(1,.pointer (some ⟨aG,0,none⟩)),(3,.pointer (some ⟨aK,0,none⟩)),(12,aA),(13,.int .i64 ((a0.Pages.length : Nat) : Int)),(14,.int .i64 ((aL : Nat) : Int))]) (fun (m,aL,aP,aY,aU,aV) wl=>Ye (Wi a0) m (aL,aP,aY)=some cX ∧ St NB w wl [blkR aG [.int .i64 a0.Id,.bool a0.Mobile,aA,aB,aC,.int .i64 a0.Events,aD] 27,blkR aK [aU,aV] 244,ownR 5 1 aU aP.length (aP.flatMap eB),erQ A aV aY]) (fun (m,aL,aP,aY,aU,aV)=>m) (dT,0,cW.buf_,cW.err_,dR,dS) H ⟨rfl,rfl,rfl,rfl,rfl,trivial⟩ ⟨hm,hS⟩ ?_
  clear H hS hm a;intro xx a fF H hR;obtain⟨m,aL,aP,aY,aU,aV⟩:=xx;simp only [ent,List.map_cons,List.map_nil] at H;(try dsimp only at hR);obtain⟨hm,hS⟩:=hR
  replace hm:=Qh hm;obtain⟨dU,fG,rfl,hm,b8⟩:=hm;try dsimp only [Wi] at hm
  refine wp_seq (wp_region_lit (n_q H (Yc (i:=aL) (j:=a0.Pages.length) rfl rfl) rfl ?_));clear H a;intro a H
  refine Ze (Za (wp_seq (Zn H rfl (fun bC=>?_) (fun bC=>?_))))
  · replace hm:=Zu hm bC
    have d8 : aL < a0.Pages.length:=of_decide_eq_true bC
    refine wp_skip (Za (wp_seq (wp_block (wp_seq (wp_region_lit ?_)))))
    replace hm:=Zj hm;obtain⟨bJ,bK,hm⟩:=hm
    obtain⟨d9,bQ⟩:=SlR.adV (aH.ext (Zi.mono _) hS.x) bB bK
    refine n_q H (Ug (i:=aL) Tryz.underlying22 Zax rfl bB bQ rfl (Zb5 bK)) rfl (W_q (Zf rfl (SlR.ldAggV (aH.ext (Zi.mono _) hS.x) bB bQ Zk0 Zax bK)) rfl ?_);clear H a;intro a H
    refine Jb H Zgo rfl ?_
    clear H;intro b9 fH hN dE hs;clear a;intro a H
    replace hS:=hS.newBlk hN dE hs;clear hN hs
    refine Qi H rfl rfl (vs:=[.int .i64 bJ.Rights,.string bJ.Init]) rfl Zax (hS.blk 0 rfl) rfl (by simp) ?_
    clear H;intro fI hN dF hz;clear a;intro a H;replace hS:=hS.setBlk hN dF;clear hN hz
    refine Ze (Za (wp_region_lit (n_q H (Zd rfl) rfl (W_q (Gr (f:=[]) (c:=[.pointer (some ⟨b9,0,none⟩)]) rfl rfl) rfl ?_))));clear H a;intro a H
    replace hS:=hS.pk4
    replace hS:=hS.pk4
    replace hS:=hS.pk4
    obtain⟨eM,cA,bL,cB,cC⟩:=hS.frame (rs1:=[blkR aK [aU,aV] 244,ownR 5 1 aU aP.length (aP.flatMap eB),erQ A aV aY])
    replace hm:=Zj hm;obtain⟨cY,dG,hm⟩:=hm
    refine Zk H rfl Zp0 (Hl (A:=A) (fun w' hw=>hG.ext (bL _ hw).ext) cA (g2:=162) (fs2:=[]) (cp2:=[.pointer (some ⟨b9,0,none⟩)]) (Gd2:=(fun w'=>EV A w' ∧ Blk w' b9 [.int .i64 bJ.Rights,.string bJ.Init] 114)) (a2:=(fun x0=>Vh x0 bJ)) en162 (fun w' hw=>⟨hG.ext (bL _ hw).ext,Zhi (cB 0 _ rfl _ hw)⟩) (fun w1 g _ _ _ _ r hgd hp hr=>Zfi (A:=A) (fun w' hw=>(hgd w' hw).1) hp (fun w' hw=>(hgd w' hw).2) hr) dG) rfl ?_
    clear H;intro fJ fK hv;clear a;intro a H;obtain⟨dV,dW,rfl,dH⟩:=hv
    replace hS:=cC _ _ dH;simp only [List.cons_append,List.nil_append] at hS;clear cA bL cB cC
    refine Ze (Zo (Za (wp_region_lit (n_q H (Yt (i:=aL) (j:=1) rfl rfl (by omega)) rfl (W_q (Zd rfl) rfl ?_)))));clear H a;intro a H
    refine Ze (Za ?_)
    obtain rfl:=Option.some.inj hm
    replace hS:=hS.pk2
    replace hS:=hS.pk2
    replace hS:=hS.pk2
    replace hS:=hS.pk4
    replace hS:=hS.tk4
    exact Uz (dU,aL + 1,cY.buf_,cY.err_,dV,dW) H ⟨rfl,rfl,rfl,rfl,rfl,trivial⟩ ⟨b8,hS⟩ (Nat.lt_succ_self _)
  replace hm:=Zv hm bC
  refine wp_exit (Zr (Zr (Qf ?_)))
  obtain rfl:=Option.some.inj hm;have hz : _=cX:=b8;subst hz;replace hm:=dD;try dsimp only at hm
  refine Za (wp_seq (wp_seq (wp_region_lit (n_q H (Zc rfl Zbn) rfl (W_q (Zf rfl ((hS.blk 0 rfl).ld Zom rfl)) rfl ?_)))));clear H a;intro a H
  obtain⟨fL,fM,bD,eN,eO⟩:=SlR.formV (aI.ext (Zi.mono _) hS.x)
  refine n_q H (Qc Tryz.underlying23 rfl bD) rfl (W_q (Zd rfl) rfl ?_);clear H a;intro a H
  refine Ze (Za (wp_block ?_))
  replace hm:=Zj hm;obtain⟨cZ,hm,dI⟩:=hm;replace hm:=Ql hm;obtain⟨dX,hm⟩:=hm
  refine Kr (σ:=Nat × Nat × (List UInt8) × ErrM × Value × Value) (fun (m,aM,aQ,aZ,aW,aX)=>[(1,.pointer (some ⟨aG,0,none⟩)),(3,.pointer (some ⟨aK,0,none⟩)),(23,aB),(24,.int .i64 ((a0.Procs.length : Nat) : Int)),(25,.int .i64 ((aM : Nat) : Int))]) (fun (m,aM,aQ,aZ,aW,aX) wl=>Ye (Wh a0) m (aM,aQ,aZ)=some cZ ∧ St NB w wl [blkR aG [.int .i64 a0.Id,.bool a0.Mobile,aA,aB,aC,.int .i64 a0.Events,aD] 27,blkR aK [aW,aX] 244,ownR 5 1 aW aQ.length (aQ.flatMap eB),erQ A aX aZ]) (fun (m,aM,aQ,aZ,aW,aX)=>m) (dX,0,aP,aY,aU,aV) H ⟨rfl,rfl,rfl,rfl,rfl,trivial⟩ ⟨hm,hS⟩ ?_
  clear H hS hm a;intro xx a fN H hR;obtain⟨m,aM,aQ,aZ,aW,aX⟩:=xx;simp only [ent,List.map_cons,List.map_nil] at H;(try dsimp only at hR);obtain⟨hm,hS⟩:=hR
  replace hm:=Qh hm;obtain⟨dY,fO,rfl,hm,cD⟩:=hm;try dsimp only [Wh] at hm
  refine wp_seq (wp_region_lit (n_q H (Yc (i:=aM) (j:=a0.Procs.length) rfl rfl) rfl ?_));clear H a;intro a H
  refine Ze (Za (wp_seq (Zn H rfl (fun bE=>?_) (fun bE=>?_))))
  · replace hm:=Zu hm bE
    have eA : aM < a0.Procs.length:=of_decide_eq_true bE
    refine wp_skip (Za (wp_seq (wp_block (wp_seq (wp_region_lit ?_)))))
    replace hm:=Zj hm;obtain⟨a9,bM,hm⟩:=hm
    obtain⟨eC,bR⟩:=SlR.adV (aI.ext (Zi.mono _) hS.x) bD bM
    refine n_q H (Ug (i:=aM) Tryz.underlying23 Zay rfl bD bR rfl (Zb5 bM)) rfl (W_q (Zf rfl (SlR.ldAggV (aI.ext (Zi.mono _) hS.x) bD bR Zk1 Zay bM)) rfl ?_);clear H a;intro a H
    refine Jb H Zhs rfl ?_
    clear H;intro cF fP hN dJ hs;clear a;intro a H
    replace hS:=hS.newBlk hN dJ hs;clear hN hs
    refine Qi H rfl rfl (vs:=[.int .i64 a9.Entry,.int .i64 a9.Prio,.bool a9.Auto]) rfl Zay (hS.blk 0 rfl) rfl (by simp) ?_
    clear H;intro fQ hN dK hz;clear a;intro a H;replace hS:=hS.setBlk hN dK;clear hN hz
    refine Ze (Za (wp_region_lit (n_q H (Zd rfl) rfl (W_q (Gr (f:=[]) (c:=[.pointer (some ⟨cF,0,none⟩)]) rfl rfl) rfl ?_))));clear H a;intro a H
    replace hS:=hS.pk4
    replace hS:=hS.pk4
    replace hS:=hS.pk4
    obtain⟨eP,cG,bN,cH,cI⟩:=hS.frame (rs1:=[blkR aK [aW,aX] 244,ownR 5 1 aW aQ.length (aQ.flatMap eB),erQ A aX aZ])
    replace hm:=Zj hm;obtain⟨c7,dL,hm⟩:=hm
    refine Zk H rfl Zp0 (Hl (A:=A) (fun w' hw=>hG.ext (bN _ hw).ext) cG (g2:=164) (fs2:=[]) (cp2:=[.pointer (some ⟨cF,0,none⟩)]) (Gd2:=(fun w'=>EV A w' ∧ Blk w' cF [.int .i64 a9.Entry,.int .i64 a9.Prio,.bool a9.Auto] 116)) (a2:=(fun x0=>Vi x0 a9)) en164 (fun w' hw=>⟨hG.ext (bN _ hw).ext,Zhi (cH 0 _ rfl _ hw)⟩) (fun w1 g _ _ _ _ r hgd hp hr=>Zfj (A:=A) (fun w' hw=>(hgd w' hw).1) hp (fun w' hw=>(hgd w' hw).2) hr) dL) rfl ?_
    clear H;intro fR fS hv;clear a;intro a H;obtain⟨dZ,d5,rfl,dM⟩:=hv
    replace hS:=cI _ _ dM;simp only [List.cons_append,List.nil_append] at hS;clear cG bN cH cI
    refine Ze (Zo (Za (wp_region_lit (n_q H (Yt (i:=aM) (j:=1) rfl rfl (by omega)) rfl (W_q (Zd rfl) rfl ?_)))));clear H a;intro a H
    refine Ze (Za ?_)
    obtain rfl:=Option.some.inj hm
    replace hS:=hS.pk2
    replace hS:=hS.pk2
    replace hS:=hS.pk2
    replace hS:=hS.pk4
    replace hS:=hS.tk4
    exact Uz (dY,aM + 1,c7.buf_,c7.err_,dZ,d5) H ⟨rfl,rfl,rfl,rfl,rfl,trivial⟩ ⟨cD,hS⟩ (Nat.lt_succ_self _)
  replace hm:=Zv hm bE
  refine wp_exit (Zr (Zr (Qf ?_)))
  obtain rfl:=Option.some.inj hm;have hz : _=cZ:=cD;subst hz;replace hm:=dI;try dsimp only at hm
  refine Za (wp_seq (wp_seq (wp_region_lit (n_q H (Zc rfl Tu) rfl (W_q (Zf rfl ((hS.blk 0 rfl).ld Zk2 rfl)) rfl ?_)))));clear H a;intro a H
  obtain⟨fT,fU,bF,eQ,eR⟩:=SlR.formV (aJ.ext (Zi.mono _) hS.x)
  refine n_q H (Qc Tryz.underlying24 rfl bF) rfl (W_q (Zd rfl) rfl ?_);clear H a;intro a H
  refine Ze (Za (wp_block ?_))
  replace hm:=Zj hm;obtain⟨c9,hm,dN⟩:=hm;replace hm:=Ql hm;obtain⟨d6,hm⟩:=hm
  refine Kr (σ:=Nat × Nat × (List UInt8) × ErrM × Value × Value) (fun (m,aN,aO,bA,aR,aS)=>[(1,.pointer (some ⟨aG,0,none⟩)),(3,.pointer (some ⟨aK,0,none⟩)),(34,aC),(35,.int .i64 ((a0.Ports.length : Nat) : Int)),(36,.int .i64 ((aN : Nat) : Int))]) (fun (m,aN,aO,bA,aR,aS) wl=>Ye (Wg a0) m (aN,aO,bA)=some c9 ∧ St NB w wl [blkR aG [.int .i64 a0.Id,.bool a0.Mobile,aA,aB,aC,.int .i64 a0.Events,aD] 27,blkR aK [aR,aS] 244,ownR 5 1 aR aO.length (aO.flatMap eB),erQ A aS bA]) (fun (m,aN,aO,bA,aR,aS)=>m) (d6,0,aQ,aZ,aW,aX) H ⟨rfl,rfl,rfl,rfl,rfl,trivial⟩ ⟨hm,hS⟩ ?_
  clear H hS hm a;intro xx a fV H hR;obtain⟨m,aN,aO,bA,aR,aS⟩:=xx;simp only [ent,List.map_cons,List.map_nil] at H;(try dsimp only at hR);obtain⟨hm,hS⟩:=hR
  replace hm:=Qh hm;obtain⟨d7,fW,rfl,hm,cJ⟩:=hm;try dsimp only [Wg] at hm
  refine wp_seq (wp_region_lit (n_q H (Yc (i:=aN) (j:=a0.Ports.length) rfl rfl) rfl ?_));clear H a;intro a H
  refine Ze (Za (wp_seq (Zn H rfl (fun bG=>?_) (fun bG=>?_))))
  · replace hm:=Zu hm bG
    have eD : aN < a0.Ports.length:=of_decide_eq_true bG
    refine wp_skip (Za (wp_seq (wp_block (wp_seq (wp_region_lit ?_)))))
    replace hm:=Zj hm;obtain⟨aT,bO,hm⟩:=hm
    obtain⟨eE,bS⟩:=SlR.adV (aJ.ext (Zi.mono _) hS.x) bF bO
    refine n_q H (Ug (i:=aN) Tryz.underlying24 Gp rfl bF bS rfl (Zb5 bO)) rfl (W_q (Zf rfl (SlR.ldAggV (aJ.ext (Zi.mono _) hS.x) bF bS Zdp Gp bO)) rfl ?_);clear H a;intro a H
    refine Jb H Zgp rfl ?_
    clear H;intro cK fX hN dO hs;clear a;intro a H
    replace hS:=hS.newBlk hN dO hs;clear hN hs
    refine Qi H rfl rfl (vs:=[.int .i64 aT.Kind,.int .i64 aT.Size,.int .i64 aT.Depth,.int .i64 aT.Refresh]) rfl Gp (hS.blk 0 rfl) rfl (by simp) ?_
    clear H;intro eT hN cO hz;clear a;intro a H;replace hS:=hS.setBlk hN cO;clear hN hz
    refine Ze (Za (wp_region_lit (n_q H (Zd rfl) rfl (W_q (Gr (f:=[]) (c:=[.pointer (some ⟨cK,0,none⟩)]) rfl rfl) rfl ?_))));clear H a;intro a H
    replace hS:=hS.pk4
    replace hS:=hS.pk4
    replace hS:=hS.pk4
    obtain⟨eG,bT,bH,bU,bV⟩:=hS.frame (rs1:=[blkR aK [aR,aS] 244,ownR 5 1 aR aO.length (aO.flatMap eB),erQ A aS bA])
    replace hm:=Zj hm;obtain⟨cL,cP,hm⟩:=hm
    refine Zk H rfl Zp0 (Hl (A:=A) (fun w' hw=>hG.ext (bH _ hw).ext) bT (g2:=165) (fs2:=[]) (cp2:=[.pointer (some ⟨cK,0,none⟩)]) (Gd2:=(fun w'=>EV A w' ∧ Blk w' cK [.int .i64 aT.Kind,.int .i64 aT.Size,.int .i64 aT.Depth,.int .i64 aT.Refresh] 118)) (a2:=(fun x0=>Vj x0 aT)) en165 (fun w' hw=>⟨hG.ext (bH _ hw).ext,Zhi (bU 0 _ rfl _ hw)⟩) (fun w1 g _ _ _ _ r hgd hp hr=>Zfk (A:=A) (fun w' hw=>(hgd w' hw).1) hp (fun w' hw=>(hgd w' hw).2) hr) cP) rfl ?_
    clear H;intro eU eV hv;clear a;intro a H;obtain⟨dP,dQ,rfl,cQ⟩:=hv
    replace hS:=bV _ _ cQ;simp only [List.cons_append,List.nil_append] at hS;clear bT bH bU bV
    refine Ze (Zo (Za (wp_region_lit (n_q H (Yt (i:=aN) (j:=1) rfl rfl (by omega)) rfl (W_q (Zd rfl) rfl ?_)))));clear H a;intro a H
    refine Ze (Za ?_)
    obtain rfl:=Option.some.inj hm
    replace hS:=hS.pk2
    replace hS:=hS.pk2
    replace hS:=hS.pk2
    replace hS:=hS.pk4
    replace hS:=hS.tk4
    exact Uz (d7,aN + 1,cL.buf_,cL.err_,dP,dQ) H ⟨rfl,rfl,rfl,rfl,rfl,trivial⟩ ⟨cJ,hS⟩ (Nat.lt_succ_self _)
  replace hm:=Zv hm bG
  refine wp_exit (Zr (Zr (Qf ?_)))
  obtain rfl:=Option.some.inj hm;have hz : _=c9:=cJ;subst hz;replace hm:=dN;try dsimp only at hm
  refine Za (wp_seq (wp_region_lit (n_q H (Zd rfl) rfl (W_q (Gr (f:=[]) (c:=[.pointer (some ⟨aG,0,none⟩)]) rfl rfl) rfl ?_))));clear H a;intro a H
  replace hS:=hS.pk3
  replace hS:=hS.pk3
  replace hS:=hS.pk3
  obtain⟨eH,bW,aE,bX,bY⟩:=hS.frame (rs1:=[blkR aK [aR,aS] 244,ownR 5 1 aR aO.length (aO.flatMap eB),erQ A aS bA])
  replace hm:=Zj hm;obtain⟨bP,cR,hm⟩:=hm
  refine Zk H rfl Zp0 (Hl (A:=A) (fun w' hw=>hG.ext (aE _ hw).ext) bW (g2:=166) (fs2:=[]) (cp2:=[.pointer (some ⟨aG,0,none⟩)]) (Gd2:=(fun w'=>EV A w' ∧ Blk w' aG [.int .i64 a0.Id,.bool a0.Mobile,aA,aB,aC,.int .i64 a0.Events,aD] 27 ∧ SlR w' 2 (Zi Zw) aA a0.Pages ∧ SlR w' 3 (Zi Zs) aB a0.Procs ∧ SlR w' 4 (Zi Zp) aC a0.Ports ∧ SlR w' 1 (Zi eI) aD a0.Sems)) (a2:=(fun x0=>Vk x0 a0)) en166 (fun w' hw=>⟨hG.ext (aE _ hw).ext,Zhi (bX 0 _ rfl _ hw),(fun w' hw=>aH.ext (Zi.mono _) (aE _ hw).ext) w' hw,(fun w' hw=>aI.ext (Zi.mono _) (aE _ hw).ext) w' hw,(fun w' hw=>aJ.ext (Zi.mono _) (aE _ hw).ext) w' hw,(fun w' hw=>bI.ext (Zi.mono _) (aE _ hw).ext) w' hw⟩) (fun w1 g _ _ _ _ r hgd hp hr=>Zfl (A:=A) (fun w' hw=>(hgd w' hw).1) hp (fun w' hw=>(hgd w' hw).2.1) (fun w' hw=>(hgd w' hw).2.2.1) (fun w' hw=>(hgd w' hw).2.2.2.1) (fun w' hw=>(hgd w' hw).2.2.2.2.1) (fun w' hw=>(hgd w' hw).2.2.2.2.2) hr) cR) rfl ?_
  clear H;intro eW eX hv;clear a;intro a H;obtain⟨cM,cN,rfl,cT⟩:=hv
  replace hS:=bY _ _ cT;simp only [List.cons_append,List.nil_append] at hS;clear bW aE bX bY
  refine Ze (Za (wp_seq (wp_region_lit (n_q H (Zd rfl) rfl (W_q (Gr (f:=[]) (c:=[.pointer (some ⟨aG,0,none⟩)]) rfl rfl) rfl ?_)))));clear H a;intro a H
  replace hS:=hS.pk2
  replace hS:=hS.pk2
  replace hS:=hS.pk2
  obtain⟨eJ,bZ,aF,b6,b7⟩:=hS.frame (rs1:=[blkR aK [cM,cN] 244,ownR 5 1 cM bP.buf_.length (bP.buf_.flatMap eB),erQ A cN bP.err_])
  replace hm:=Zj hm;obtain⟨eY,cU,hm⟩:=hm
  refine Zk H rfl Zp0 (Hl (A:=A) (fun w' hw=>hG.ext (aF _ hw).ext) bZ (g2:=167) (fs2:=[]) (cp2:=[.pointer (some ⟨aG,0,none⟩)]) (Gd2:=(fun w'=>EV A w' ∧ Blk w' aG [.int .i64 a0.Id,.bool a0.Mobile,aA,aB,aC,.int .i64 a0.Events,aD] 27 ∧ SlR w' 2 (Zi Zw) aA a0.Pages ∧ SlR w' 3 (Zi Zs) aB a0.Procs ∧ SlR w' 4 (Zi Zp) aC a0.Ports ∧ SlR w' 1 (Zi eI) aD a0.Sems)) (a2:=(fun x0=>Vl x0 a0)) en167 (fun w' hw=>⟨hG.ext (aF _ hw).ext,Zhi (b6 0 _ rfl _ hw),(fun w' hw=>aH.ext (Zi.mono _) (aF _ hw).ext) w' hw,(fun w' hw=>aI.ext (Zi.mono _) (aF _ hw).ext) w' hw,(fun w' hw=>aJ.ext (Zi.mono _) (aF _ hw).ext) w' hw,(fun w' hw=>bI.ext (Zi.mono _) (aF _ hw).ext) w' hw⟩) (fun w1 g _ _ _ _ r hgd hp hr=>Zfm (A:=A) (fun w' hw=>(hgd w' hw).1) hp (fun w' hw=>(hgd w' hw).2.1) (fun w' hw=>(hgd w' hw).2.2.1) (fun w' hw=>(hgd w' hw).2.2.2.1) (fun w' hw=>(hgd w' hw).2.2.2.2.1) (fun w' hw=>(hgd w' hw).2.2.2.2.2) hr) cU) rfl ?_
  clear H;intro eZ e7 hv;clear a;intro a H;obtain⟨e8,e9,rfl,cV⟩:=hv
  replace hS:=b7 _ _ cV;simp only [List.cons_append,List.nil_append] at hS;clear bZ aF b6 b7
  refine Ze (Za (wp_seq (wp_region_lit (n_q H (Zd rfl) rfl (W_q (Zb rfl) rfl ?_)))));clear H a;intro a H
  refine Ze (Za (wp_ret ?_))
  obtain rfl:=Option.some.inj hm
  replace hS:=hS.tk3
  refine Qx H (.inr rfl) rfl rfl ?_
  exact⟨_,_,_,rfl,hS⟩
theorem Ze1 {w : World} {A : Nat → Addr} {fp : Nat → Prop} {b0 : Nat} {v0_0 : Value} {v0_1 : Value} {a0 : GWireWriter} {a1 : Int} (hG : ∀ w',ChgP fp w w' → EV A w') (hP : Sep w fp [blkR b0 [v0_0,v0_1] 244,ownR 5 1 v0_0 a0.buf_.length (a0.buf_.flatMap eB),erQ A v0_1 a0.err_]) {r : GWireWriter} (hm : Uv a0 a1=some r) :
    Calls Tryz.prog 95 [.pointer (some ⟨b0,0,none⟩),.int .i64 a1].toArray w (Ret fun u w'=>∃ h_0 h_1,u=.tuple #[] ∧ St fp w w' [blkR b0 [h_0,h_1] 244,ownR 5 1 h_0 r.buf_.length (r.buf_.flatMap eB),erQ A h_1 r.err_]):=by
  have hS:=St.init hP
  unfold Uv at hm
  refine enter Tryz.func95 rfl rfl rfl ?_;intro a H;dsimp only [Qn,Nat.zero_add,Nat.reduceAdd] at H
  refine wp_region_lit (n_q H (Zd rfl) rfl (W_q (Zd rfl) rfl ?_));clear H a;intro a H
  replace hS:=hS.pk2
  replace hS:=hS.pk2
  replace hS:=hS.pk2
  obtain⟨aG,aA,aB,aD,aC⟩:=hS.frame (rs1:=[blkR b0 [v0_0,v0_1] 244,ownR 5 1 v0_0 a0.buf_.length (a0.buf_.flatMap eB),erQ A v0_1 a0.err_])
  replace hm:=Zj hm;obtain⟨aH,aE,hm⟩:=hm
  refine Zk H rfl Zp2 (Wt (A:=A) (fun w' hw=>hG _ (aB _ hw)) aA aE) rfl ?_
  clear H;intro aI aJ hv;clear a;intro a H;obtain⟨aK,aL,rfl,aF⟩:=hv
  replace hS:=aC _ _ aF;simp only [List.cons_append,List.nil_append] at hS;clear aA aB aD aC
  refine Ze ?_
  obtain rfl:=Option.some.inj hm
  refine Zij H (.inl rfl) rfl ?_
  exact⟨_,_,rfl,hS⟩
theorem Zk5 {w : World} {A : Nat → Addr} {a0 : Int} {r : Int} (hm : Zcm a0=some r) :
    Calls Tryz.prog 264 [.int .u32 a0].toArray w (Ret fun u w'=>u=.int .u32 r ∧ Ext w w'):=by
  have hS:=St.begin NB w
  unfold Zcm at hm
  refine enter Tryz.func264 rfl rfl rfl ?_;intro a H;dsimp only [Qn,Nat.zero_add,Nat.reduceAdd] at H
  refine wp_seq (wp_region_lit (n_q H (Zb rfl) rfl ?_));clear H a;intro a H
  refine Ze (Za (wp_seq (wp_seq (wp_region_lit (n_q H (Zd rfl) rfl (W_q (q_and rfl rfl) rfl (W_q (Jy rfl rfl) rfl ?_)))))));clear H a;intro a H
  refine Ze (Za (Zn H rfl (fun aA=>?_) (fun aA=>?_)))
  · replace hm:=Zu hm aA
    refine wp_seq (wp_region_lit (n_q H (Zd rfl) rfl (W_q (Zmd rfl rfl (by decide)) rfl (W_q (Ztc rfl rfl) rfl (W_q (Zb rfl) rfl ?_)))));clear H a;intro a H
    refine Ze (Za (wp_ret (Zh ?_)))
    obtain rfl:=Option.some.inj hm
    refine Qx H (.inr rfl) rfl rfl ?_
    exact⟨rfl,hS.x⟩
  replace hm:=Zv hm aA
  refine wp_skip (Za (wp_seq (wp_region_lit (n_q H (Zd rfl) rfl (W_q (Zmd rfl rfl (by decide)) rfl (W_q (Zb rfl) rfl ?_))))));clear H a;intro a H
  refine Ze (Za (wp_ret ?_))
  obtain rfl:=Option.some.inj hm
  refine Qx H (.inr rfl) rfl rfl ?_
  exact⟨rfl,hS.x⟩
theorem Zj1 {w : World} {A : Nat → Addr} {r : Vector Int 256} (hm : Zbk=some r) :
    Calls Tryz.prog 255 [].toArray w (Ret fun u w'=>∃ (h_0 : Nat),u=.pointer (some ⟨h_0,0,none⟩) ∧ St NB w w' [blkR h_0 (r.toList.map (Value.int .u32)) 337]):=by
  have hS:=St.begin NB w
  unfold Zbk at hm
  refine enter Tryz.func255 rfl rfl rfl ?_;intro a H;dsimp only [Qn,Nat.zero_add,Nat.reduceAdd] at H
  refine wp_seq (wp_region_lit (n_q H (Zb rfl) rfl ?_));clear H a;intro a H
  refine Ze (Za (wp_seq (wp_region_lit ?_)))
  refine n_q H (Zi5 (cs:=[.int .u32 0,.int .u32 0,.int .u32 0,.int .u32 0,.int .u32 0,.int .u32 0,.int .u32 0,.int .u32 0,.int .u32 0,.int .u32 0,.int .u32 0,.int .u32 0,.int .u32 0,.int .u32 0,.int .u32 0,.int .u32 0,.int .u32 0,.int .u32 0,.int .u32 0,.int .u32 0,.int .u32 0,.int .u32 0,.int .u32 0,.int .u32 0,.int .u32 0,.int .u32 0,.int .u32 0,.int .u32 0,.int .u32 0,.int .u32 0,.int .u32 0,.int .u32 0,.int .u32 0,.int .u32 0,.int .u32 0,.int .u32 0,.int .u32 0,.int .u32 0,.int .u32 0,.int .u32 0,.int .u32 0,.int .u32 0,.int .u32 0,.int .u32 0,.int .u32 0,.int .u32 0,.int .u32 0,.int .u32 0,.int .u32 0,.int .u32 0,.int .u32 0,.int .u32 0,.int .u32 0,.int .u32 0,.int .u32 0,.int .u32 0,.int .u32 0,.int .u32 0,.int .u32 0,.int .u32 0,.int .u32 0,.int .u32 0,.int .u32 0,.int .u32 0,.int .u32 0,.int .u32 0,.int .u32 0,.int .u32 0,.int .u32 0,.int .u32 0,.int .u32 0,.int .u32 0,.int .u32 0,.int .u32 0,.int .u32 0,.int .u32 0,.int .u32 0,.int .u32 0,.int .u32 0,.int .u32 0,.int .u32 0,.int .u32 0,.int .u32 0,.int .u32 0,.int .u32 0,.int .u32 0,.int .u32 0,.int .u32 0,.int .u32 0,.int .u32 0,.int .u32 0,.int .u32 0,.int .u32 0,.int .u32 0,.int .u32 0,.int .u32 0,.int .u32 0,.int .u32 0,.int .u32 0,.int .u32 0,.int .u32 0,.int .u32 0,.int .u32 0,.int .u32 0,.int .u32 0,.int .u32 0,.int .u32 0,.int .u32 0,.int .u32 0,.int .u32 0,.int .u32 0,.int .u32 0,.int .u32 0,.int .u32 0,.int .u32 0,.int .u32 0,.int .u32 0,.int .u32 0,.int .u32 0,.int .u32 0,.int .u32 0,.int .u32 0,.int .u32 0,.int .u32 0,.int .u32 0,.int .u32 0,.int .u32 0,.int .u32 0,.int .u32 0,.int .u32 0,.int .u32 0,.int .u32 0,.int .u32 0,.int .u32 0,.int .u32 0,.int .u32 0,.int .u32 0,.int .u32 0,.int .u32 0,.int .u32 0,.int .u32 0,.int .u32 0,.int .u32 0,.int .u32 0,.int .u32 0,.int .u32 0,.int .u32 0,.int .u32 0,.int .u32 0,.int .u32 0,.int .u32 0,.int .u32 0,.int .u32 0,.int .u32 0,.int .u32 0,.int .u32 0,.int .u32 0,.int .u32 0,.int .u32 0,.int .u32 0,.int .u32 0,.int .u32 0,.int .u32 0,.int .u32 0,.int .u32 0,.int .u32 0,.int .u32 0,.int .u32 0,.int .u32 0,.int .u32 0,.int .u32 0,.int .u32 0,.int .u32 0,.int .u32 0,.int .u32 0,.int .u32 0,.int .u32 0,.int .u32 0,.int .u32 0,.int .u32 0,.int .u32 0,.int .u32 0,.int .u32 0,.int .u32 0,.int .u32 0,.int .u32 0,.int .u32 0,.int .u32 0,.int .u32 0,.int .u32 0,.int .u32 0,.int .u32 0,.int .u32 0,.int .u32 0,.int .u32 0,.int .u32 0,.int .u32 0,.int .u32 0,.int .u32 0,.int .u32 0,.int .u32 0,.int .u32 0,.int .u32 0,.int .u32 0,.int .u32 0,.int .u32 0,.int .u32 0,.int .u32 0,.int .u32 0,.int .u32 0,.int .u32 0,.int .u32 0,.int .u32 0,.int .u32 0,.int .u32 0,.int .u32 0,.int .u32 0,.int .u32 0,.int .u32 0,.int .u32 0,.int .u32 0,.int .u32 0,.int .u32 0,.int .u32 0,.int .u32 0,.int .u32 0,.int .u32 0,.int .u32 0,.int .u32 0,.int .u32 0,.int .u32 0,.int .u32 0,.int .u32 0,.int .u32 0,.int .u32 0,.int .u32 0,.int .u32 0,.int .u32 0,.int .u32 0,.int .u32 0,.int .u32 0,.int .u32 0,.int .u32 0,.int .u32 0,.int .u32 0,.int .u32 0,.int .u32 0,.int .u32 0,.int .u32 0,.int .u32 0,.int .u32 0,.int .u32 0,.int .u32 0,.int .u32 0,.int .u32 0,.int .u32 0]) Tryz.underlying337 Zp4 ze337 rfl (by kernel_rfl)) rfl ?_;clear H a;intro a H
  refine Yy H rfl (cs:=((#v[0,0,0,0,0,0,0,0,0,0,0,0,0,0,0,0,0,0,0,0,0,0,0,0,0,0,0,0,0,0,0,0,0,0,0,0,0,0,0,0,0,0,0,0,0,0,0,0,0,0,0,0,0,0,0,0,0,0,0,0,0,0,0,0,0,0,0,0,0,0,0,0,0,0,0,0,0,0,0,0,0,0,0,0,0,0,0,0,0,0,0,0,0,0,0,0,0,0,0,0,0,0,0,0,0,0,0,0,0,0,0,0,0,0,0,0,0,0,0,0,0,0,0,0,0,0,0,0,0,0,0,0,0,0,0,0,0,0,0,0,0,0,0,0,0,0,0,0,0,0,0,0,0,0,0,0,0,0,0,0,0,0,0,0,0,0,0,0,0,0,0,0,0,0,0,0,0,0,0,0,0,0,0,0,0,0,0,0,0,0,0,0,0,0,0,0,0,0,0,0,0,0,0,0,0,0,0,0,0,0,0,0,0,0,0,0,0,0,0,0,0,0,0,0,0,0,0,0,0,0,0,0,0,0,0,0,0,0,0,0,0,0,0,0,0,0,0,0,0,0,0,0,0,0,0,0]).toList.map (Value.int .u32))) rfl rfl ?_
  clear H;intro aG bA hN aL hs;clear a;intro a H
  replace hS:=hS.newBlk hN aL hs;clear hN hs
  refine n_q H (Zb rfl) rfl ?_;clear H a;intro a H
  refine Ze (Za (wp_seq (wp_seq (wp_region_lit (n_q H (Zd rfl) rfl ?_)))));clear H a;intro a H
  refine Ze (Za (wp_block ?_))
  replace hm:=Zj hm;obtain⟨aJ,hm,aM⟩:=hm;replace hm:=Ql hm;obtain⟨aS,hm⟩:=hm
  refine Kr (σ:=Nat × Nat × (Vector Int 256)) (fun (m,aA,aC)=>[(1,.pointer (some ⟨aG,0,none⟩)),(6,.int .i64 ((aA : Nat) : Int))]) (fun (m,aA,aC) wl=>Ye Ui m (aA,aC)=some aJ ∧ St NB w wl [blkR aG (aC.toList.map (Value.int .u32)) 337]) (fun (m,aA,aC)=>m) (aS,0,#v[0,0,0,0,0,0,0,0,0,0,0,0,0,0,0,0,0,0,0,0,0,0,0,0,0,0,0,0,0,0,0,0,0,0,0,0,0,0,0,0,0,0,0,0,0,0,0,0,0,0,0,0,0,0,0,0,0,0,0,0,0,0,0,0,0,0,0,0,0,0,0,0,0,0,0,0,0,0,0,0,0,0,0,0,0,0,0,0,0,0,0,0,0,0,0,0,0,0,0,0,0,0,0,0,0,0,0,0,0,0,0,0,0,0,0,0,0,0,0,0,0,0,0,0,0,0,0,0,0,0,0,0,0,0,0,0,0,0,0,0,0,0,0,0,0,0,0,0,0,0,0,0,0,0,0,0,0,0,0,0,0,0,0,0,0,0,0,0,0,0,0,0,0,0,0,0,0,0,0,0,0,0,0,0,0,0,0,0,0,0,0,0,0,0,0,0,0,0,0,0,0,0,0,0,0,0,0,0,0,0,0,0,0,0,0,0,0,0,0,0,0,0,0,0,0,0,0,0,0,0,0,0,0,0,0,0,0,0,0,0,0,0,0,0,0,0,0,0,0,0,0,0,0,0,0,0]) H ⟨rfl,rfl,trivial⟩ ⟨hm,hS⟩ ?_
  clear H hS hm a;intro xx a bB H hR;obtain⟨m,aA,aC⟩:=xx;simp only [ent,List.map_cons,List.map_nil] at H;(try dsimp only at hR);obtain⟨hm,hS⟩:=hR
  replace hm:=Qh hm;obtain⟨aT,bC,rfl,hm,aH⟩:=hm;try dsimp only [Ui] at hm
  refine wp_seq (wp_region_lit (n_q H (Yc (i:=aA) (j:=256) rfl rfl) rfl ?_));clear H a;intro a H
  refine Ze (Za (wp_seq (Zn H rfl (fun aE=>?_) (fun aE=>?_))))
  · replace hm:=Zu hm aE
    have aY : aA < 256:=of_decide_eq_true aE
    refine wp_skip (Za (wp_seq (wp_block (wp_seq (wp_region_lit (n_q H (Zd rfl) rfl (W_q (Zb rfl) rfl ?_)))))));clear H a;intro a H
    refine Ze (Za (wp_seq (wp_region_lit (n_q H (Zd rfl) rfl (W_q (Hz Tryz.underlying3 Tryz.underlying101 ⟨_,rfl⟩ rfl) rfl (W_q (Zb rfl) rfl ?_))))));clear H a;intro a H
    refine Ze (Za (wp_seq (wp_seq (wp_region_lit (n_q H (Zd rfl) rfl ?_)))));clear H a;intro a H
    refine Ze (Za (wp_block ?_))
    replace hm:=Zj hm;obtain⟨aK,hm,aN⟩:=hm;replace hm:=Ql hm;obtain⟨aU,hm⟩:=hm
    refine Kr (σ:=Nat × Int × Nat) (fun (m,aD,aB)=>[(1,.pointer (some ⟨aG,0,none⟩)),(2,.int .i64 ((aA : Nat) : Int)),(3,.int .u32 aD),(6,.int .i64 ((aA : Nat) : Int)),(11,.int .i64 ((aB : Nat) : Int))]) (fun (m,aD,aB) wl=>Ye Uh m (aD,aB)=some aK ∧ St NB w wl [blkR aG (aC.toList.map (Value.int .u32)) 337]) (fun (m,aD,aB)=>m) (aU,(IntKind.u32.wrap ((aA : Nat) : Int)),0) H ⟨rfl,rfl,rfl,rfl,rfl,trivial⟩ ⟨hm,hS⟩ ?_
    clear H hS hm a;intro xx a bD H hR;obtain⟨m,aD,aB⟩:=xx;simp only [ent,List.map_cons,List.map_nil] at H;(try dsimp only at hR);obtain⟨hm,hS⟩:=hR
    replace hm:=Qh hm;obtain⟨aV,bE,rfl,hm,aI⟩:=hm;try dsimp only [Uh] at hm
    refine wp_seq (wp_region_lit (n_q H (Yc (i:=aB) (j:=8) rfl rfl) rfl ?_));clear H a;intro a H
    refine Ze (Za (wp_seq (Zn H rfl (fun aF=>?_) (fun aF=>?_))))
    · replace hm:=Zu hm aF
      have aZ : aB < 8:=of_decide_eq_true aF
      refine wp_skip (Za (wp_seq (wp_block (wp_region_lit (n_q H (Zd rfl) rfl ?_)))));clear H a;intro a H
      replace hm:=Zj hm;obtain⟨aW,aO,hm⟩:=hm
      refine Zk H rfl en264 (Zk5 (A:=A) aO) rfl ?_
      clear H;intro bF bG hv;clear a;intro a H;obtain⟨rfl,aP⟩:=hv
      replace hS:=hS.ext aP
      refine n_q H (Zb rfl) rfl ?_;clear H a;intro a H
      refine Ze (Zo (Za (wp_region_lit (n_q H (Yt (i:=aB) (j:=1) rfl rfl (by omega)) rfl (W_q (Zd rfl) rfl ?_)))));clear H a;intro a H
      refine Ze (Za ?_)
      obtain rfl:=Option.some.inj hm
      exact Uz (aV,aW,aB + 1) H ⟨rfl,rfl,rfl,rfl,rfl,trivial⟩ ⟨aI,hS⟩ (Nat.lt_succ_self _)
    replace hm:=Zv hm aF
    refine wp_exit (Zr (Zr (Qf ?_)))
    obtain rfl:=Option.some.inj hm;have hz : _=aK:=aI;subst hz;replace hm:=aN;try dsimp only at hm
    refine Za (wp_region_lit (n_q H (Zd rfl) rfl (W_q (Zd rfl) rfl (W_q (Zd rfl) rfl (W_q (Qa rfl) rfl ?_)))));clear H a;intro a H
    replace hm:=Zj hm;obtain⟨bH,aQ,hm⟩:=hm
    obtain⟨h0x40,h1x40,a9⟩:=Zgw aQ
    refine n_q H (Zjq Tryz.underlying337 Zp4 rfl rfl h0x40 h1x40) rfl ?_;clear H a;intro a H
    refine Kb H rfl rfl Zp4 (hS.blk 0 rfl) (by simp;omega) rfl ?_
    clear H;intro aX hN aR hz;clear a;intro a H;replace hN:=(congrArg (fun z=>Blk aX aG z 337) (Zrl aC (Value.int .u32) (((aA : Nat) : Int).toNat) aD)).mp hN;replace hS:=hS.setBlk hN aR;clear hN hz
    refine Ze (Zo (Za (wp_region_lit (n_q H (Yt (i:=aA) (j:=1) rfl rfl (by omega)) rfl (W_q (Zd rfl) rfl ?_)))));clear H a;intro a H
    refine Ze (Za ?_)
    obtain rfl:=Option.some.inj hm
    exact Uz (aT,aA + 1,(aC.setIfInBounds (((aA : Nat) : Int).toNat) aD)) H ⟨rfl,rfl,trivial⟩ ⟨aH,hS⟩ (Nat.lt_succ_self _)
  replace hm:=Zv hm aE
  refine wp_exit (Zr (Zr (Qf ?_)))
  obtain rfl:=Option.some.inj hm;have hz : _=aJ:=aH;subst hz;replace hm:=aM;try dsimp only at hm
  refine Za (wp_seq (wp_region_lit (n_q H (Zd rfl) rfl (W_q (Zb rfl) rfl ?_))));clear H a;intro a H
  refine Ze (Za (wp_ret ?_))
  obtain rfl:=Option.some.inj hm
  refine Qx H (.inr rfl) rfl rfl ?_
  exact⟨_,rfl,hS⟩
theorem Zk6 {w : World} {A : Nat → Addr} {a0 : Int} {v1 : Value} {a1 : List UInt8} (h1 : SlR w 1 (Zi eB) v1 a1) {r : Int} (hm : Zbd a0 a1=some r) :
    Calls Tryz.prog 245 [.int .u32 a0,v1].toArray w (Ret fun u w'=>u=.int .u32 r ∧ Ext w w'):=by
  have hS:=St.begin NB w
  unfold Zbd at hm
  refine enter Tryz.func245 rfl rfl rfl ?_;intro a H;dsimp only [Qn,Nat.zero_add,Nat.reduceAdd] at H
  refine wp_seq (wp_region_lit (n_q H (Zb rfl) rfl ?_));clear H a;intro a H
  refine Ze (Za (wp_seq (wp_seq (wp_region_lit (n_q H (Zd rfl) rfl ?_)))));clear H a;intro a H
  obtain⟨aX,aY,aB,aV,aW⟩:=SlR.formV (h1.ext (Zi.mono _) hS.x)
  refine n_q H (Qc Tryz.underlying100 rfl aB) rfl (W_q (Zgg (i:=a1.length) (j:=0) rfl rfl) rfl ?_);clear H a;intro a H
  refine Ze (Za (Zn H rfl (fun aE=>?_) (fun aE=>?_)))
  · replace hm:=Zu hm aE
    refine wp_seq (wp_region_lit (n_q H (Zd rfl) rfl (W_q (Zb rfl) rfl ?_)));clear H a;intro a H
    refine Ze (Za (wp_ret (Zh ?_)))
    obtain rfl:=Option.some.inj hm
    refine Qx H (.inr rfl) rfl rfl ?_
    exact⟨rfl,hS.x⟩
  replace hm:=Zv hm aE
  refine wp_skip (Za (wp_seq (wp_region_lit ?_)))
  replace hm:=Zj hm;obtain⟨aJ,aM,hm⟩:=hm
  refine Zk H rfl en255 (Zj1 (A:=A) aM) rfl ?_
  clear H;intro aZ a9 hv;clear a;intro a H;obtain⟨aK,rfl,aN⟩:=hv
  replace hS:=hS.new aN;simp only [List.cons_append,List.nil_append] at hS
  refine n_q H (Zb rfl) rfl ?_;clear H a;intro a H
  refine Ze (Za (wp_seq (wp_seq (wp_region_lit (n_q H (Zd rfl) rfl (W_q (Qc Tryz.underlying100 rfl aB) rfl (W_q (Zd rfl) rfl ?_)))))));clear H a;intro a H
  refine Ze (Za (wp_block ?_))
  replace hm:=Zj hm;obtain⟨aL,hm,aO⟩:=hm;replace hm:=Ql hm;obtain⟨aQ,hm⟩:=hm
  refine Kr (σ:=Nat × Int × Nat) (fun (m,aC,aA)=>[(0,.int .u32 aC),(5,.pointer (some ⟨aK,0,none⟩)),(13,v1),(14,.int .i64 ((a1.length : Nat) : Int)),(15,.int .i64 ((aA : Nat) : Int))]) (fun (m,aC,aA) wl=>Ye (Hq a1 aJ) m (aC,aA)=some aL ∧ St NB w wl [blkR aK (aJ.toList.map (Value.int .u32)) 337]) (fun (m,aC,aA)=>m) (aQ,a0,0) H ⟨rfl,rfl,rfl,rfl,rfl,trivial⟩ ⟨hm,hS⟩ ?_
  clear H hS hm a;intro xx a bA H hR;obtain⟨m,aC,aA⟩:=xx;simp only [ent,List.map_cons,List.map_nil] at H;(try dsimp only at hR);obtain⟨hm,hS⟩:=hR
  replace hm:=Qh hm;obtain⟨aR,bB,rfl,hm,aH⟩:=hm;try dsimp only [Hq] at hm
  refine wp_seq (wp_region_lit (n_q H (Yc (i:=aA) (j:=a1.length) rfl rfl) rfl ?_));clear H a;intro a H
  refine Ze (Za (wp_seq (Zn H rfl (fun aD=>?_) (fun aD=>?_))))
  · replace hm:=Zu hm aD
    have aT : aA < a1.length:=of_decide_eq_true aD
    refine wp_skip (Za (wp_seq (wp_block (wp_seq (wp_region_lit ?_)))))
    replace hm:=Zj hm;obtain⟨bC,aF,hm⟩:=hm
    obtain⟨aU,aG⟩:=SlR.adV (h1.ext (Zi.mono _) hS.x) aB aF
    refine n_q H (Ug (i:=aA) Tryz.underlying100 sz5 rfl aB aG rfl (Zb5 aF)) rfl (W_q (Zf rfl (SlR.ldOneV (h1.ext (Zi.mono _) hS.x) aB aG ag5 aF rfl)) rfl (W_q (Zb rfl) rfl ?_));clear H a;intro a H
    refine Ze (Za (wp_region_lit (n_q H (Zd rfl) rfl (W_q (Zd rfl) rfl (W_q (Hz Tryz.underlying101 Tryz.underlying5 ⟨_,rfl⟩ rfl) rfl (W_q (Zd rfl) rfl (W_q (Ztc rfl rfl) rfl (W_q (Qa rfl) rfl ?_))))))));clear H a;intro a H
    replace hm:=Zj hm;obtain⟨aS,aP,hm⟩:=hm
    obtain⟨h0x36,h1x36,aI⟩:=Zgw aP
    refine n_q H (Zjq Tryz.underlying337 Zp4 rfl rfl h0x36 h1x36) rfl (W_q (Zf rfl ((hS.blk 0 rfl).ld Zto (Zrm (f:=(Value.int .u32)) aI))) rfl (W_q (Zd rfl) rfl (W_q (Zmd rfl rfl (by decide)) rfl (W_q (Ztc rfl rfl) rfl (W_q (Zb rfl) rfl ?_)))));clear H a;intro a H
    refine Ze (Zo (Za (wp_region_lit (n_q H (Yt (i:=aA) (j:=1) rfl rfl (by omega)) rfl (W_q (Zd rfl) rfl ?_)))));clear H a;intro a H
    refine Ze (Za ?_)
    obtain rfl:=Option.some.inj hm
    exact Uz (aR,(Zci .u32 aS (shR .u32 aC 8)),aA + 1) H ⟨rfl,rfl,rfl,rfl,rfl,trivial⟩ ⟨aH,hS⟩ (Nat.lt_succ_self _)
  replace hm:=Zv hm aD
  refine wp_exit (Zr (Zr (Qf ?_)))
  obtain rfl:=Option.some.inj hm;have hz : _=aL:=aH;subst hz;replace hm:=aO;try dsimp only at hm
  refine Za (wp_seq (wp_region_lit (n_q H (Zd rfl) rfl (W_q (Zb rfl) rfl ?_))));clear H a;intro a H
  refine Ze (Za (wp_ret ?_))
  obtain rfl:=Option.some.inj hm
  replace hS:=hS.tk0
  refine Qx H (.inr rfl) rfl rfl ?_
  exact⟨rfl,hS.x⟩
theorem Zk7 {w : World} {A : Nat → Addr} {a0 : Int} {v1 : Value} {a1 : List UInt8} (h1 : SlR w 1 (Zi eB) v1 a1) {r : Int} (hm : Zd7 a0 a1=some r) :
    Calls Tryz.prog 205 [.int .u32 a0,v1].toArray w (Ret fun u w'=>u=.int .u32 r ∧ Ext w w'):=by
  have hS:=St.begin NB w
  unfold Zd7 at hm
  refine enter Tryz.func205 rfl rfl rfl ?_;intro a H;dsimp only [Qn,Nat.zero_add,Nat.reduceAdd] at H
  refine wp_seq (wp_region_lit (n_q H (Zb rfl) rfl ?_));clear H a;intro a H
  refine Ze (Za (wp_seq (wp_region_lit (n_q H (Zd rfl) rfl (W_q (Zpp rfl) rfl (W_q (Zd rfl) rfl ?_))))));clear H a;intro a H
  replace hm:=Zj hm;obtain⟨aC,aA,hm⟩:=hm
  refine Zk H rfl en245 (Zk6 (A:=A) (h1.ext (Zi.mono _) hS.x) aA) rfl ?_
  clear H;intro aD aE hv;clear a;intro a H;obtain⟨rfl,aB⟩:=hv
  replace hS:=hS.ext aB
  refine n_q H (Zpp rfl) rfl (W_q (Zb rfl) rfl ?_);clear H a;intro a H
  refine Ze (Za (wp_ret ?_))
  obtain rfl:=Option.some.inj hm
  refine Qx H (.inr rfl) rfl rfl ?_
  exact⟨rfl,hS.x⟩
theorem Zht {w : World} {A : Nat → Addr} {v0 : Value} {a0 : List UInt8} (h0 : SlR w 1 (Zi eB) v0 a0) {r : Int} (hm : Zcn a0=some r) :
    Calls Tryz.prog 137 [v0].toArray w (Ret fun u w'=>u=.int .u32 r ∧ Ext w w'):=by
  have hS:=St.begin NB w
  unfold Zcn at hm
  refine enter Tryz.func137 rfl rfl rfl ?_;intro a H;dsimp only [Qn,Nat.zero_add,Nat.reduceAdd] at H
  refine wp_seq (wp_region_lit (n_q H (Zb rfl) rfl ?_));clear H a;intro a H
  refine Ze (Za (wp_seq (wp_region_lit (n_q H (Zd rfl) rfl ?_))));clear H a;intro a H
  replace hm:=Zj hm;obtain⟨aC,aA,hm⟩:=hm
  refine Zk H rfl en205 (Zk7 (A:=A) (h0.ext (Zi.mono _) hS.x) aA) rfl ?_
  clear H;intro aD aE hv;clear a;intro a H;obtain⟨rfl,aB⟩:=hv
  replace hS:=hS.ext aB
  refine n_q H (Zb rfl) rfl ?_;clear H a;intro a H
  refine Ze (Za (wp_ret ?_))
  obtain rfl:=Option.some.inj hm
  refine Qx H (.inr rfl) rfl rfl ?_
  exact⟨rfl,hS.x⟩
theorem Zdr {w : World} {A : Nat → Addr} {v0 : Value} {a0 : List UInt8} (h0 : SlR w 1 (Zi eB) v0 a0) {r : List UInt8} (hm : Ge a0=some r) :
    Calls Tryz.prog 171 [v0].toArray w (Ret fun u w'=>∃ h_0,u=h_0 ∧ St NB w w' [ownR 5 1 h_0 r.length (r.flatMap eB)]):=by
  have hS:=St.begin NB w
  unfold Ge at hm
  refine enter Tryz.func171 rfl rfl rfl ?_;intro a H;dsimp only [Qn,Nat.zero_add,Nat.reduceAdd] at H
  refine wp_seq (wp_region_lit (n_q H (Zb rfl) rfl ?_));clear H a;intro a H
  refine Ze (Za (wp_seq (wp_seq (wp_region_lit (n_q H (Zd rfl) rfl ?_)))));clear H a;intro a H
  obtain⟨aH,aI,aA,aF,aG⟩:=SlR.formV (h0.ext (Zi.mono _) hS.x)
  refine n_q H (Zps Tryz.underlying100 rfl aA rfl) rfl ?_;clear H a;intro a H
  refine Ze (Za (Zn H rfl (fun aB=>?_) (fun aB=>?_)))
  · obtain rfl:=SlR.nilV (h0.ext (Zi.mono _) hS.x) aA aB;replace hm:=Za6 hm;obtain⟨_,hm⟩:=hm
    refine wp_seq (wp_region_lit (n_q H (Zb rfl) rfl ?_));clear H a;intro a H
    refine Ze (Za (wp_ret (Zh ?_)))
    obtain rfl:=Option.some.inj hm
    replace hS:=hS.nilOwn 5 1
    refine Qx H (.inr rfl) rfl rfl ?_
    exact⟨_,rfl,hS⟩
  refine wp_skip (Za (wp_seq (wp_region_lit (Qb H Tryz.underlying100 sz5 ze5 rfl rfl rfl (cs:=[]) rfl rfl ?_))))
  clear H;intro aJ aK hN aC hs;clear a;intro a H
  replace hS:=hS.newBlk hN aC hs;clear hN hs
  replace hS:=hS.blkOwnL (e:=eB) (k:=1) ([] : List UInt8) rfl rfl (by simp [maxLen])
  refine n_q H (Zd rfl) rfl ?_;clear H a;intro a H
  replace hm:=Za6 hm;obtain⟨aD,hm⟩:=hm
  refine Zbv (e:=eB) H rfl rfl Tryz.underlying100 Tryz.underlying100 (by simp) el5 (hS.own 0 rfl) ((h0.ext (Zi.mono _) hS.x).src (fun _ _=>rfl)) Zi1 aD (by simp only [maxLen];omega) rfl ?_
  clear H;intro aL aM hN aE hb;clear a;intro a H;replace hS:=hS.setOwn hN aE hb;clear hN hb
  refine n_q H (Zb rfl) rfl ?_;clear H a;intro a H
  refine Ze (Za (wp_ret ?_))
  obtain rfl:=Option.some.inj hm
  refine Qx H (.inr rfl) rfl rfl ?_
  exact⟨_,rfl,hS⟩
theorem Zgi {w : World} {A : Nat → Addr} {a0 : Int} {r : List UInt8} (hm : Zbe a0=some r) :
    Calls Tryz.prog 172 [.int .u32 a0].toArray w (Ret fun u w'=>∃ h_0,u=h_0 ∧ St NB w w' [ownR 5 1 h_0 r.length (r.flatMap eB)]):=by
  have hS:=St.begin NB w
  unfold Zbe at hm
  refine enter Tryz.func172 rfl rfl rfl ?_;intro a H;dsimp only [Qn,Nat.zero_add,Nat.reduceAdd] at H
  refine wp_seq (wp_region_lit (n_q H (Zb rfl) rfl ?_));clear H a;intro a H
  refine Ze (Za (wp_seq (wp_region_lit (n_q H (Zd rfl) rfl (W_q (Hz Tryz.underlying101 Tryz.underlying5 ⟨_,rfl⟩ rfl) rfl (W_q (Zd rfl) rfl (W_q (Zmd rfl rfl (by decide)) rfl (W_q (Hz Tryz.underlying101 Tryz.underlying5 ⟨_,rfl⟩ rfl) rfl (W_q (Zd rfl) rfl (W_q (Zmd rfl rfl (by decide)) rfl (W_q (Hz Tryz.underlying101 Tryz.underlying5 ⟨_,rfl⟩ rfl) rfl (W_q (Zd rfl) rfl (W_q (Zmd rfl rfl (by decide)) rfl (W_q (Hz Tryz.underlying101 Tryz.underlying5 ⟨_,rfl⟩ rfl) rfl ?_))))))))))))));clear H a;intro a H
  refine Qb H Tryz.underlying100 sz5 ze5 rfl rfl rfl (cs:=[.int .u8 (IntKind.u8.wrap a0),.int .u8 (IntKind.u8.wrap (shR .u32 a0 8)),.int .u8 (IntKind.u8.wrap (shR .u32 a0 16)),.int .u8 (IntKind.u8.wrap (shR .u32 a0 24))]) (by kernel_rfl) rfl ?_
  clear H;intro aB aC hN aA hs;clear a;intro a H
  replace hS:=hS.newBlk hN aA hs;clear hN hs
  replace hS:=hS.blkOwnL (e:=eB) (k:=1) [(Qz a0),(Qz (shR .u32 a0 8)),(Qz (shR .u32 a0 16)),(Qz (shR .u32 a0 24))] (by simp [Zmj,Znv]) rfl (by simp [maxLen])
  refine n_q H (Zb rfl) rfl ?_;clear H a;intro a H
  refine Ze (Za (wp_ret ?_))
  obtain rfl:=Option.some.inj hm
  refine Qx H (.inr rfl) rfl rfl ?_
  exact⟨_,rfl,hS⟩
theorem Zk8 {w : World} {A : Nat → Addr} {v0 : Value} {a0 : List UInt8} (h0 : SlR w 1 (Zi eB) v0 a0) {r : List UInt8} (hm : Zco a0=some r) :
    Calls Tryz.prog 98 [v0].toArray w (Ret fun u w'=>∃ h_0,u=h_0 ∧ St NB w w' [ownR 5 1 h_0 r.length (r.flatMap eB)]):=by
  have hS:=St.begin NB w
  unfold Zco at hm
  refine enter Tryz.func98 rfl rfl rfl ?_;intro a H;dsimp only [Qn,Nat.zero_add,Nat.reduceAdd] at H
  refine wp_seq (wp_region_lit (n_q H (Zb rfl) rfl ?_));clear H a;intro a H
  refine Ze (Za (wp_seq (wp_region_lit (n_q H (Zd rfl) rfl ?_))));clear H a;intro a H
  replace hm:=Zj hm;obtain⟨aI,aA,hm⟩:=hm
  refine Zk H rfl en171 (Zdr (A:=A) (h0.ext (Zi.mono _) hS.x) aA) rfl ?_
  clear H;intro aJ aK hv;clear a;intro a H;obtain⟨_,rfl,aB⟩:=hv
  replace hS:=hS.new aB;simp only [List.cons_append,List.nil_append] at hS
  refine n_q H (Zd rfl) rfl ?_;clear H a;intro a H
  replace hm:=Zj hm;obtain⟨aL,aC,hm⟩:=hm
  refine Zk H rfl en137 (Zht (A:=A) (h0.ext (Zi.mono _) hS.x) aC) rfl ?_
  clear H;intro aM aN hv;clear a;intro a H;obtain⟨rfl,aD⟩:=hv
  replace hS:=hS.ext aD
  replace hm:=Zj hm;obtain⟨aO,aE,hm⟩:=hm
  refine Zk H rfl en172 (Zgi (A:=A) aE) rfl ?_
  clear H;intro u32 aP hv;clear a;intro a H;obtain⟨_,rfl,aF⟩:=hv
  replace hS:=hS.new aF;simp only [List.cons_append,List.nil_append] at hS
  replace hS:=hS.pk1
  replace hm:=Za6 hm;obtain⟨aG,hm⟩:=hm
  refine Zbv (e:=eB) H rfl rfl Tryz.underlying100 Tryz.underlying100 (by simp) el5 (hS.own 0 rfl) (((hS.own 1 rfl).slr rfl (fun _ _=>rfl)).src (fun _ _=>rfl)) Zi1 aG (by simp only [maxLen];omega) rfl ?_
  clear H;intro aQ aR hN aH hb;clear a;intro a H;replace hS:=hS.setOwn hN aH hb;clear hN hb
  refine n_q H (Zb rfl) rfl ?_;clear H a;intro a H
  refine Ze (Za (wp_ret ?_))
  obtain rfl:=Option.some.inj hm
  replace hS:=hS.tk1
  refine Qx H (.inr rfl) rfl rfl ?_
  exact⟨_,rfl,hS⟩
theorem Zai {w : World} {A : Nat → Addr} {cs0 : List Value} {a0 : GPlan} (hG : EV A w) (h0 : Xa w cs0 a0) {r : List UInt8 × ErrM} (hm : Yv a0=some r) :
    Calls Tryz.prog 47 [.agg cs0.toArray].toArray w (Ret fun u w'=>∃ h_0 h_1,u=.tuple #[h_0,h_1] ∧ St NB w w' [ownR 5 1 h_0 r.1.length (r.1.flatMap eB),erQ A h_1 r.2]):=by
  obtain⟨aB,aC,aD,aE,rfl,aG,aH,aI,aJ⟩:=h0
  have hS:=St.begin NB w
  unfold Yv at hm
  refine enter Tryz.func47 rfl rfl rfl ?_;intro a H;dsimp only [Qn,Nat.zero_add,Nat.reduceAdd] at H
  refine wp_seq (wp_region_lit (Yy H rfl (cs:=[.int .i64 a0.Id,.bool a0.Mobile,aB,aC,aD,.int .i64 a0.Events,aE]) rfl rfl ?_))
  clear H;intro eR eT hN cZ hs;clear a;intro a H
  replace hS:=hS.newBlk hN cZ hs;clear hN hs
  refine n_q H (Zb rfl) rfl (W_q (Zb rfl) rfl ?_);clear H a;intro a H
  refine Ze (Za (wp_seq (wp_seq (wp_region_lit (n_q H (Zf rfl ((hS.blk 0 rfl).ldAll Zda Zav)) rfl ?_)))));clear H a;intro a H
  replace hm:=Zj hm;obtain⟨aW,c7,hm⟩:=hm
  refine Zk H rfl en57 (Hy (A:=A) (hG.ext hS.x) (⟨_,_,_,_,rfl,(aG.ext (Zi.mono _) hS.x),(aH.ext (Zi.mono _) hS.x),(aI.ext (Zi.mono _) hS.x),(aJ.ext (Zi.mono _) hS.x)⟩ : Xa _ [.int .i64 a0.Id,.bool a0.Mobile,aB,aC,aD,.int .i64 a0.Events,aE] a0) c7) rfl ?_
  clear H;intro cI cJ hv;clear a;intro a H;obtain⟨_,rfl,c9⟩:=hv
  replace hS:=hS.new c9;simp only [List.cons_append,List.nil_append] at hS
  refine n_q H (Xi (Vr Tryz.underlying39 rfl rfl (hS.any 0 rfl : IsE A cJ cI aW).form) (show _=Value.bool (!decide (aW=.nil)) by rw [Xu.isNil (hS.any 0 rfl : IsE A cJ cI aW)])) rfl ?_;clear H a;intro a H
  refine Ze (Za (Zn H rfl (fun aK=>?_) (fun aK=>?_)))
  · replace hm:=Zu hm aK
    refine wp_seq (Gw (by kernel_rfl) (by kernel_rfl) ?_)
    refine Xn H (Zf rfl ((hG.ext hS.x).ld Hp (by decide) Hv)) rfl ?_;clear H a;intro a H
    refine Xn H (Zb rfl) rfl ?_;clear H a;intro a H
    refine Xn H (Zb rfl) rfl ?_;clear H a;intro a H
    refine Tg ?_;intro eU dA
    replace hS:=hS.ext dA
    refine Za (wp_ret (Zh ?_))
    obtain rfl:=Option.some.inj hm
    replace hS:=hS.nilOwn 5 1
    replace hS:=hS.dVar (A:=A) (g:=Hp) (by decide)
    replace hS:=hS.pk1
    replace hS:=hS.tk2
    refine Zgd H (.inr rfl) rfl rfl rfl ?_
    exact⟨_,_,rfl,hS⟩
  replace hm:=Zv hm aK
  refine wp_skip (Za (wp_seq (wp_region_lit (n_q H (Zf rfl ((hS.blk 1 rfl).ldAll Zda Zav)) rfl ?_))));clear H a;intro a H
  replace hm:=Zj hm;obtain⟨aX,dB,hm⟩:=hm
  refine Zk H rfl en91 (Zgr (A:=A) (hG.ext hS.x) (⟨_,_,_,_,rfl,(aG.ext (Zi.mono _) hS.x),(aH.ext (Zi.mono _) hS.x),(aI.ext (Zi.mono _) hS.x),(aJ.ext (Zi.mono _) hS.x)⟩ : Xa _ [.int .i64 a0.Id,.bool a0.Mobile,aB,aC,aD,.int .i64 a0.Events,aE] a0) dB) rfl ?_
  clear H;intro eV eW hv;clear a;intro a H;obtain⟨dW,cK,cL,rfl,dC⟩:=hv
  replace hS:=hS.new dC;simp only [List.cons_append,List.nil_append] at hS
  replace hS:=hS.pk2
  replace hS:=hS.pk2
  replace hS:=hS.pk2
  obtain⟨d5,aY,dD,dE,aZ⟩:=hS.frame (rs1:=[blkR dW [cK,cL] 244,ownR 5 1 cK aX.buf_.length (aX.buf_.flatMap eB),erQ A cL aX.err_])
  replace hm:=Zj hm;obtain⟨a9,dF,hm⟩:=hm
  refine Zk H rfl en92 (Ht (A:=A) aY dF) rfl ?_
  clear H;intro eX cM hv;clear a;intro a H;obtain⟨eY,cN,eZ,e7,rfl,dG⟩:=hv
  replace hS:=aZ _ _ dG;simp only [List.cons_append,List.nil_append] at hS;clear aY dD dE aZ
  refine n_q H (Zd rfl) rfl (W_q (Zm rfl rfl) rfl (W_q (Zm rfl rfl) rfl (W_q (Zb rfl) rfl (W_q (Zb rfl) rfl ?_))));clear H a;intro a H
  refine Ze (Za (wp_seq (wp_seq (wp_region_lit (n_q H (Zd rfl) rfl (W_q (Xi (Vr Tryz.underlying39 rfl rfl (hS.any 3 rfl : IsE A cM cN a9.2.1).form) (show _=Value.bool (!decide (a9.2.1=.nil)) by rw [Xu.isNil (hS.any 3 rfl : IsE A cM cN a9.2.1)])) rfl ?_))))));clear H a;intro a H
  refine Ze (Za (Zn H rfl (fun aL=>?_) (fun aL=>?_)))
  · replace hm:=Zu hm aL
    refine wp_seq (wp_region_lit (n_q H (Zd rfl) rfl (W_q (Zb rfl) rfl (W_q (Zb rfl) rfl ?_))));clear H a;intro a H
    refine Ze (Za (wp_ret (Zh ?_)))
    obtain rfl:=Option.some.inj hm
    replace hS:=hS.nilOwn 5 1
    replace hS:=hS.pk4
    replace hS:=hS.pk1
    replace hS:=hS.tk2
    refine Zgd H (.inr rfl) rfl rfl rfl ?_
    exact⟨_,_,rfl,hS⟩
  replace hm:=Zv hm aL
  refine wp_skip (Za (wp_seq (wp_region_lit ?_)))
  replace hm:=Zj hm;obtain⟨bA,dH,hm⟩:=hm
  refine Zk H rfl en93 (Tv (A:=A) dH) rfl ?_
  clear H;intro e8 e9 hv;clear a;intro a H;obtain⟨aA,cO,cP,rfl,dI⟩:=hv
  replace hS:=hS.new dI;simp only [List.cons_append,List.nil_append] at hS
  refine n_q H (Zb rfl) rfl ?_;clear H a;intro a H
  refine Ze (Za (wp_seq (wp_region_lit (n_q H (Zd rfl) rfl ?_))));clear H a;intro a H
  refine Zks H Tryz.underlying100 Tryz.underlying5 sz5 ze5 rfl rfl rfl (cs:=[.int .u8 70,.int .u8 80,.int .u8 76,.int .u8 78]) (by kernel_rfl) rfl rfl ?_
  clear H;intro fA fB hN dJ hs;clear a;intro a H
  replace hS:=hS.newBlk hN dJ hs;clear hN hs
  replace hS:=hS.blkOwnL (e:=eB) (k:=1) [(Qz 70),(Qz 80),(Qz 76),(Qz 78)] (by kernel_rfl) rfl (by simp [maxLen])
  replace hS:=hS.pk3
  replace hS:=hS.pk3
  replace hS:=hS.pk3
  obtain⟨d6,bB,dK,bC,bD⟩:=hS.frame (rs1:=[blkR aA [cO,cP] 244,ownR 5 1 cO bA.buf_.length (bA.buf_.flatMap eB),erQ A cP bA.err_])
  replace hm:=Zj hm;obtain⟨bE,dL,hm⟩:=hm
  refine Zk H rfl en94 (Tb (A:=A) bB (fun w' hw=>(To (bC 0 _ rfl _ hw)).slr rfl (fun _ _=>rfl)) dL) rfl ?_
  clear H;intro fC fD hv;clear a;intro a H;obtain⟨cQ,cR,rfl,dM⟩:=hv
  replace hS:=bD _ _ dM;simp only [List.cons_append,List.nil_append] at hS;clear bB dK bC bD
  refine Ze (Za (wp_seq (wp_region_lit (n_q H (Zd rfl) rfl ?_))));clear H a;intro a H
  replace hS:=hS.pk2
  replace hS:=hS.pk2
  replace hS:=hS.pk2
  obtain⟨d7,bF,bG,dN,bH⟩:=hS.frame (rs1:=[blkR aA [cQ,cR] 244,ownR 5 1 cQ bE.buf_.length (bE.buf_.flatMap eB),erQ A cR bE.err_])
  replace hm:=Zj hm;obtain⟨bI,dO,hm⟩:=hm
  refine Zk H rfl en95 (Ze1 (A:=A) (fun w' hw=>hG.ext (bG _ hw).ext) bF dO) rfl ?_
  clear H;intro fE fF hv;clear a;intro a H;obtain⟨cT,cU,rfl,dP⟩:=hv
  replace hS:=bH _ _ dP;simp only [List.cons_append,List.nil_append] at hS;clear bF bG dN bH
  refine Ze (Za (wp_seq (wp_region_lit (n_q H (Zd rfl) rfl (W_q (Zd rfl) rfl ?_)))));clear H a;intro a H
  obtain⟨fG,fH,dQ,d8,d9⟩:=SlR.formV ((hS.own 6 rfl).slr rfl (fun _ _=>rfl))
  refine n_q H (Qc Tryz.underlying100 rfl dQ) rfl (W_q (Uo rfl rfl) rfl (W_q (Uo rfl rfl) rfl ?_));clear H a;intro a H
  replace hS:=hS.pk2
  replace hS:=hS.pk2
  replace hS:=hS.pk2
  obtain⟨eA,bJ,bK,dR,bL⟩:=hS.frame (rs1:=[blkR aA [cT,cU] 244,ownR 5 1 cT bI.buf_.length (bI.buf_.flatMap eB),erQ A cU bI.err_])
  replace hm:=Zj hm;obtain⟨bM,dS,hm⟩:=hm
  refine Zk H rfl en96 (Tc (A:=A) (fun w' hw=>hG.ext (bK _ hw).ext) bJ dS) rfl ?_
  clear H;intro fI fJ hv;clear a;intro a H;obtain⟨cV,cW,rfl,dT⟩:=hv
  replace hS:=bL _ _ dT;simp only [List.cons_append,List.nil_append] at hS;clear bJ bK dR bL
  refine Ze (Za (wp_seq (wp_region_lit (n_q H (Zd rfl) rfl (W_q (Zc rfl Zfg) rfl (W_q (Zf rfl ((hS.blk 9 rfl).ld ag3 rfl)) rfl ?_))))));clear H a;intro a H
  replace hS:=hS.pk2
  replace hS:=hS.pk2
  replace hS:=hS.pk2
  obtain⟨eC,bN,bO,dU,bP⟩:=hS.frame (rs1:=[blkR aA [cV,cW] 244,ownR 5 1 cV bM.buf_.length (bM.buf_.flatMap eB),erQ A cW bM.err_])
  replace hm:=Zj hm;obtain⟨bQ,dV,hm⟩:=hm
  refine Zk H rfl en96 (Tc (A:=A) (fun w' hw=>hG.ext (bO _ hw).ext) bN dV) rfl ?_
  clear H;intro eD fK hv;clear a;intro a H;obtain⟨cX,cY,rfl,bX⟩:=hv
  replace hS:=bP _ _ bX;simp only [List.cons_append,List.nil_append] at hS;clear bN bO dU bP
  refine Ze (Za (wp_seq (wp_region_lit (n_q H (Zd rfl) rfl (W_q (Zc rfl Zn0) rfl (W_q (Zf rfl ((hS.blk 9 rfl).ld ag4 rfl)) rfl ?_))))));clear H a;intro a H
  replace hS:=hS.pk2
  replace hS:=hS.pk2
  replace hS:=hS.pk2
  obtain⟨dX,aP,bY,bZ,aQ⟩:=hS.frame (rs1:=[blkR aA [cX,cY] 244,ownR 5 1 cX bQ.buf_.length (bQ.buf_.flatMap eB),erQ A cY bQ.err_])
  replace hm:=Zj hm;obtain⟨aM,b6,hm⟩:=hm
  refine Zk H rfl en97 (Za2 (A:=A) aP b6) rfl ?_
  clear H;intro eE eG hv;clear a;intro a H;obtain⟨bR,bS,rfl,b7⟩:=hv
  replace hS:=aQ _ _ b7;simp only [List.cons_append,List.nil_append] at hS;clear aP bY bZ aQ
  refine Ze (Za (wp_seq (wp_region_lit (n_q H (Zd rfl) rfl (W_q (Zd rfl) rfl ?_)))));clear H a;intro a H
  replace hS:=hS.pk2
  replace hS:=hS.pk2
  replace hS:=hS.pk2
  obtain⟨dY,aR,b8,aS,aT⟩:=hS.frame (rs1:=[blkR aA [bR,bS] 244,ownR 5 1 bR aM.buf_.length (aM.buf_.flatMap eB),erQ A bS aM.err_])
  replace hm:=Zj hm;obtain⟨aN,b9,hm⟩:=hm
  refine Zk H rfl en94 (Tb (A:=A) aR (fun w' hw=>(To (aS 3 _ rfl _ hw)).slr rfl (fun _ _=>rfl)) b9) rfl ?_
  clear H;intro eH eJ hv;clear a;intro a H;obtain⟨bT,bU,rfl,cA⟩:=hv
  replace hS:=aT _ _ cA;simp only [List.cons_append,List.nil_append] at hS;clear aR b8 aS aT
  refine Ze (Za (wp_seq (wp_region_lit (n_q H (Zd rfl) rfl ?_))));clear H a;intro a H
  replace hS:=hS.pk2
  replace hS:=hS.pk2
  replace hS:=hS.pk2
  obtain⟨dZ,aU,cB,cC,aV⟩:=hS.frame (rs1:=[blkR aA [bT,bU] 244,ownR 5 1 bT aN.buf_.length (aN.buf_.flatMap eB),erQ A bU aN.err_])
  replace hm:=Zj hm;obtain⟨aO,cD,hm⟩:=hm
  refine Zk H rfl en92 (Ht (A:=A) aU cD) rfl ?_
  clear H;intro eK bV hv;clear a;intro a H;obtain⟨eL,bW,eM,eN,rfl,cF⟩:=hv
  replace hS:=aV _ _ cF;simp only [List.cons_append,List.nil_append] at hS;clear aU cB cC aV
  refine n_q H (Zd rfl) rfl (W_q (Zm rfl rfl) rfl (W_q (Zm rfl rfl) rfl (W_q (Zb rfl) rfl (W_q (Zb rfl) rfl ?_))));clear H a;intro a H
  refine Ze (Za (wp_seq (wp_seq (wp_region_lit (n_q H (Zd rfl) rfl (W_q (Xi (Vr Tryz.underlying39 rfl rfl (hS.any 3 rfl : IsE A bV bW aO.2.1).form) (show _=Value.bool (!decide (aO.2.1=.nil)) by rw [Xu.isNil (hS.any 3 rfl : IsE A bV bW aO.2.1)])) rfl ?_))))));clear H a;intro a H
  refine Ze (Za (Zn H rfl (fun aF=>?_) (fun aF=>?_)))
  · replace hm:=Zu hm aF
    refine wp_seq (wp_region_lit (n_q H (Zd rfl) rfl (W_q (Zb rfl) rfl (W_q (Zb rfl) rfl ?_))));clear H a;intro a H
    refine Ze (Za (wp_ret (Zh ?_)))
    obtain rfl:=Option.some.inj hm
    replace hS:=hS.nilOwn 5 1
    replace hS:=hS.pk4
    replace hS:=hS.pk1
    replace hS:=hS.tk2
    refine Zgd H (.inr rfl) rfl rfl rfl ?_
    exact⟨_,_,rfl,hS⟩
  replace hm:=Zv hm aF
  refine wp_skip (Za (wp_seq (wp_region_lit (n_q H (Zd rfl) rfl ?_))));clear H a;intro a H
  replace hm:=Zj hm;obtain⟨eO,cG,hm⟩:=hm
  refine Zk H rfl en98 (Zk8 (A:=A) ((hS.own 2 rfl).slr rfl (fun _ _=>rfl)) cG) rfl ?_
  clear H;intro eP eQ hv;clear a;intro a H;obtain⟨_,rfl,cH⟩:=hv
  replace hS:=hS.new cH;simp only [List.cons_append,List.nil_append] at hS
  refine n_q H (Zb rfl) rfl (W_q (Zb rfl) rfl ?_);clear H a;intro a H
  refine Ze (Za (wp_ret ?_))
  obtain rfl:=Option.some.inj hm
  replace hS:=hS.dNil (A:=A)
  replace hS:=hS.pk1
  replace hS:=hS.tk2
  refine Zgd H (.inr rfl) rfl rfl rfl ?_
  exact⟨_,_,rfl,hS⟩
theorem Qd {w : World} {A : Nat → Addr} {v0 : Value} {a0 : List Int} (h0 : SlR w 1 (Zi eI) v0 a0) {r : List Int} (hm : Ha a0=some r) :
    Calls Tryz.prog 125 [v0].toArray w (Ret fun u w'=>∃ h_0,u=h_0 ∧ St NB w w' [ownR 3 1 h_0 r.length (r.flatMap eI)]):=by
  have hS:=St.begin NB w
  unfold Ha at hm
  refine enter Tryz.func125 rfl rfl rfl ?_;intro a H;dsimp only [Qn,Nat.zero_add,Nat.reduceAdd] at H
  refine wp_seq (wp_region_lit (n_q H (Zb rfl) rfl ?_));clear H a;intro a H
  refine Ze (Za (wp_seq (wp_seq (wp_region_lit (n_q H (Zd rfl) rfl ?_)))));clear H a;intro a H
  obtain⟨aH,aI,aA,aF,aG⟩:=SlR.formV (h0.ext (Zi.mono _) hS.x)
  refine n_q H (Zps Tryz.underlying25 rfl aA rfl) rfl ?_;clear H a;intro a H
  refine Ze (Za (Zn H rfl (fun aB=>?_) (fun aB=>?_)))
  · obtain rfl:=SlR.nilV (h0.ext (Zi.mono _) hS.x) aA aB;replace hm:=Za6 hm;obtain⟨_,hm⟩:=hm
    refine wp_seq (wp_region_lit (n_q H (Zb rfl) rfl ?_));clear H a;intro a H
    refine Ze (Za (wp_ret (Zh ?_)))
    obtain rfl:=Option.some.inj hm
    replace hS:=hS.nilOwn 3 1
    refine Qx H (.inr rfl) rfl rfl ?_
    exact⟨_,rfl,hS⟩
  refine wp_skip (Za (wp_seq (wp_region_lit (Qb H Tryz.underlying25 sz3 ze3 rfl rfl rfl (cs:=[]) rfl rfl ?_))))
  clear H;intro aJ aK hN aC hs;clear a;intro a H
  replace hS:=hS.newBlk hN aC hs;clear hN hs
  replace hS:=hS.blkOwnL (e:=eI) (k:=1) ([] : List Int) rfl rfl (by simp [maxLen])
  refine n_q H (Zd rfl) rfl ?_;clear H a;intro a H
  replace hm:=Za6 hm;obtain⟨aD,hm⟩:=hm
  refine Zbv (e:=eI) H rfl rfl Tryz.underlying25 Tryz.underlying25 (by simp) el3 (hS.own 0 rfl) ((h0.ext (Zi.mono _) hS.x).src (fun _ _=>rfl)) Zhg aD (by simp only [maxLen];omega) rfl ?_
  clear H;intro aL aM hN aE hb;clear a;intro a H;replace hS:=hS.setOwn hN aE hb;clear hN hb
  refine n_q H (Zb rfl) rfl ?_;clear H a;intro a H
  refine Ze (Za (wp_ret ?_))
  obtain rfl:=Option.some.inj hm
  refine Qx H (.inr rfl) rfl rfl ?_
  exact⟨_,rfl,hS⟩
end Go.Proofs.YtfemfiiagjnhdaaGreatDoor
