/- Part of a claim, shortened by a program from its texts: PtA. -/
import Derived.Test.YtfemfiiagjnhdaaGreatDoorQtD
set_option linter.unusedVariables false
set_option linter.unusedSimpArgs false
set_option maxRecDepth 10000
namespace Go.Proofs.YtfemfiiagjnhdaaGreatDoor
open Go Go.RowKit
theorem Zho : Hp Tryz.prog 100=some false:=by kernel_rfl
theorem ag101 : Hp Tryz.prog 101=some false:=by kernel_rfl
theorem Zhp : Hp Tryz.prog 114=some true:=by kernel_rfl
theorem Zhq : Hp Tryz.prog 116=some true:=by kernel_rfl
theorem Za8 : Hp Tryz.prog 118=some true:=by kernel_rfl
theorem Zpu : Hp Tryz.prog 130=some false:=by kernel_rfl
theorem Zfb : Hp Tryz.prog 22=some false:=by kernel_rfl
theorem Zgm : Hp Tryz.prog 23=some false:=by kernel_rfl
theorem Zhr : Hp Tryz.prog 24=some false:=by kernel_rfl
theorem Zgn : Hp Tryz.prog 25=some false:=by kernel_rfl
theorem Zam : Hp Tryz.prog 27=some true:=by kernel_rfl
theorem ag5 : Hp Tryz.prog 5=some false:=by kernel_rfl
theorem Zny : bdB Tryz.prog 114=true:=by kernel_rfl
theorem Znz : Gj Tryz.prog 114=some #[(0,1),(1,1)]:=by kernel_rfl
theorem Zpv : bdB Tryz.prog 116=true:=by kernel_rfl
theorem Zpw : Gj Tryz.prog 116=some #[(0,1),(1,1),(2,1)]:=by kernel_rfl
theorem Zpx : bdB Tryz.prog 118=true:=by kernel_rfl
theorem Zpy : Gj Tryz.prog 118=some #[(0,1),(1,1),(2,1),(3,1)]:=by kernel_rfl
theorem bd214 : bdB Tryz.prog 214=true:=by kernel_rfl
theorem pl214 : Gj Tryz.prog 214=some #[(0,1),(1,1)]:=by kernel_rfl
theorem bd244 : bdB Tryz.prog 244=true:=by kernel_rfl
theorem pl244 : Gj Tryz.prog 244=some #[(0,1),(1,1)]:=by kernel_rfl
theorem Zo9 : bdB Tryz.prog 27=true:=by kernel_rfl
theorem Zpa : Gj Tryz.prog 27=some #[(0,1),(1,1),(2,1),(3,1),(4,1),(5,1),(6,1)]:=by kernel_rfl
theorem el3 : ElemOk Tryz.prog 3 1 8 [.int .i64 0]:=⟨by kernel_rfl,by kernel_rfl,by kernel_rfl,rfl,by decide⟩
theorem el5 : ElemOk Tryz.prog 5 1 1 [.int .u8 0]:=⟨by kernel_rfl,by kernel_rfl,by kernel_rfl,rfl,by decide⟩
theorem en128 : Zp Tryz.prog 128=true:=by kernel_rfl
theorem en129 : Zp Tryz.prog 129=true:=by kernel_rfl
theorem en130 : Zp Tryz.prog 130=true:=by kernel_rfl
theorem Zpz : Zp Tryz.prog 137=true:=by kernel_rfl
theorem en140 : Zp Tryz.prog 140=true:=by kernel_rfl
theorem Zlz : Zp Tryz.prog 161=true:=by kernel_rfl
theorem en162 : Zp Tryz.prog 162=true:=by kernel_rfl
theorem Zhs : Zp Tryz.prog 163=true:=by kernel_rfl
theorem en164 : Zp Tryz.prog 164=true:=by kernel_rfl
theorem en165 : Zp Tryz.prog 165=true:=by kernel_rfl
theorem en166 : Zp Tryz.prog 166=true:=by kernel_rfl
theorem en167 : Zp Tryz.prog 167=true:=by kernel_rfl
theorem Zp0 : Zp Tryz.prog 168=true:=by kernel_rfl
theorem Zl0 : Zp Tryz.prog 169=true:=by kernel_rfl
theorem Zl1 : Zp Tryz.prog 170=true:=by kernel_rfl
theorem en171 : Zp Tryz.prog 171=true:=by kernel_rfl
theorem en172 : Zp Tryz.prog 172=true:=by kernel_rfl
theorem Zht : Zp Tryz.prog 174=true:=by kernel_rfl
theorem Zn0 : Zp Tryz.prog 176=true:=by kernel_rfl
theorem Zl2 : Zp Tryz.prog 198=true:=by kernel_rfl
theorem en199 : Zp Tryz.prog 199=true:=by kernel_rfl
theorem en205 : Zp Tryz.prog 205=true:=by kernel_rfl
theorem en228 : Zp Tryz.prog 228=true:=by kernel_rfl
theorem en236 : Zp Tryz.prog 236=true:=by kernel_rfl
theorem Zp1 : Zp Tryz.prog 237=true:=by kernel_rfl
theorem en240 : Zp Tryz.prog 240=true:=by kernel_rfl
theorem en241 : Zp Tryz.prog 241=true:=by kernel_rfl
theorem en242 : Zp Tryz.prog 242=true:=by kernel_rfl
theorem en245 : Zp Tryz.prog 245=true:=by kernel_rfl
theorem en255 : Zp Tryz.prog 255=true:=by kernel_rfl
theorem en264 : Zp Tryz.prog 264=true:=by kernel_rfl
theorem en57 : Zp Tryz.prog 57=true:=by kernel_rfl
theorem en91 : Zp Tryz.prog 91=true:=by kernel_rfl
theorem en92 : Zp Tryz.prog 92=true:=by kernel_rfl
theorem en93 : Zp Tryz.prog 93=true:=by kernel_rfl
theorem en94 : Zp Tryz.prog 94=true:=by kernel_rfl
theorem en95 : Zp Tryz.prog 95=true:=by kernel_rfl
theorem en96 : Zp Tryz.prog 96=true:=by kernel_rfl
theorem en97 : Zp Tryz.prog 97=true:=by kernel_rfl
theorem en98 : Zp Tryz.prog 98=true:=by kernel_rfl
theorem Zdj : Za2 Tryz.prog 114 0=some 0:=by kernel_rfl
theorem Zgo : Za2 Tryz.prog 114 1=some 1:=by kernel_rfl
theorem Zau : Za2 Tryz.prog 116 0=some 0:=by kernel_rfl
theorem Zdk : Za2 Tryz.prog 116 1=some 1:=by kernel_rfl
theorem Zl3 : Za2 Tryz.prog 116 2=some 2:=by kernel_rfl
theorem Gl : Za2 Tryz.prog 118 0=some 0:=by kernel_rfl
theorem Za9 : Za2 Tryz.prog 118 1=some 1:=by kernel_rfl
theorem Zba : Za2 Tryz.prog 118 2=some 2:=by kernel_rfl
theorem Zdl : Za2 Tryz.prog 118 3=some 3:=by kernel_rfl
theorem Zgp : Za2 Tryz.prog 244 0=some 0:=by kernel_rfl
theorem Zeq : Za2 Tryz.prog 244 1=some 1:=by kernel_rfl
theorem Zcu : Za2 Tryz.prog 27 0=some 0:=by kernel_rfl
theorem Zj6 : Za2 Tryz.prog 27 1=some 1:=by kernel_rfl
theorem Vz : Za2 Tryz.prog 27 2=some 2:=by kernel_rfl
theorem Wx : Za2 Tryz.prog 27 3=some 3:=by kernel_rfl
theorem Gb : Za2 Tryz.prog 27 4=some 4:=by kernel_rfl
theorem Zbb : Za2 Tryz.prog 27 5=some 5:=by kernel_rfl
theorem Gc : Za2 Tryz.prog 27 6=some 6:=by kernel_rfl
theorem sz100 : Xi Tryz.prog 100=some 1:=by kernel_rfl
theorem Zl4 : Xi Tryz.prog 101=some 1:=by kernel_rfl
theorem Gm : Xi Tryz.prog 114=some 2:=by kernel_rfl
theorem Ha : Xi Tryz.prog 116=some 3:=by kernel_rfl
theorem Wp : Xi Tryz.prog 118=some 4:=by kernel_rfl
theorem Zn1 : Xi Tryz.prog 130=some 1:=by kernel_rfl
theorem Gh : Xi Tryz.prog 27=some 7:=by kernel_rfl
theorem sz3 : Xi Tryz.prog 3=some 1:=by kernel_rfl
theorem sz5 : Xi Tryz.prog 5=some 1:=by kernel_rfl
theorem Zd7 : Wt Tryz.prog 114=some [.int .i64 0,.string ⟨#[]⟩]:=by kernel_rfl
theorem Zd8 : Wt Tryz.prog 116=some [.int .i64 0,.int .i64 0,.bool false]:=by kernel_rfl
theorem Zer : Wt Tryz.prog 118=some [.int .i64 0,.int .i64 0,.int .i64 0,.int .i64 0]:=by kernel_rfl
theorem ze130 : Wt Tryz.prog 130=some [.nilFunc]:=by kernel_rfl
theorem ze214 : Wt Tryz.prog 214=some [.int .i64 0,.nilIface]:=by kernel_rfl
theorem ze244 : Wt Tryz.prog 244=some [.slice none 0 0,.nilIface]:=by kernel_rfl
theorem Zi3 : Wt Tryz.prog 27=some [.int .i64 0,.bool false,.slice none 0 0,.slice none 0 0,.slice none 0 0,.int .i64 0,.slice none 0 0]:=by kernel_rfl
theorem ze3 : Wt Tryz.prog 3=some [.int .i64 0]:=by kernel_rfl
theorem ze337 : Wt Tryz.prog 337=some [.int .u32 0,.int .u32 0,.int .u32 0,.int .u32 0,.int .u32 0,.int .u32 0,.int .u32 0,.int .u32 0,.int .u32 0,.int .u32 0,.int .u32 0,.int .u32 0,.int .u32 0,.int .u32 0,.int .u32 0,.int .u32 0,.int .u32 0,.int .u32 0,.int .u32 0,.int .u32 0,.int .u32 0,.int .u32 0,.int .u32 0,.int .u32 0,.int .u32 0,.int .u32 0,.int .u32 0,.int .u32 0,.int .u32 0,.int .u32 0,.int .u32 0,.int .u32 0,.int .u32 0,.int .u32 0,.int .u32 0,.int .u32 0,.int .u32 0,.int .u32 0,.int .u32 0,.int .u32 0,.int .u32 0,.int .u32 0,.int .u32 0,.int .u32 0,.int .u32 0,.int .u32 0,.int .u32 0,.int .u32 0,.int .u32 0,.int .u32 0,.int .u32 0,.int .u32 0,.int .u32 0,.int .u32 0,.int .u32 0,.int .u32 0,.int .u32 0,.int .u32 0,.int .u32 0,.int .u32 0,.int .u32 0,.int .u32 0,.int .u32 0,.int .u32 0,.int .u32 0,.int .u32 0,.int .u32 0,.int .u32 0,.int .u32 0,.int .u32 0,.int .u32 0,.int .u32 0,.int .u32 0,.int .u32 0,.int .u32 0,.int .u32 0,.int .u32 0,.int .u32 0,.int .u32 0,.int .u32 0,.int .u32 0,.int .u32 0,.int .u32 0,.int .u32 0,.int .u32 0,.int .u32 0,.int .u32 0,.int .u32 0,.int .u32 0,.int .u32 0,.int .u32 0,.int .u32 0,.int .u32 0,.int .u32 0,.int .u32 0,.int .u32 0,.int .u32 0,.int .u32 0,.int .u32 0,.int .u32 0,.int .u32 0,.int .u32 0,.int .u32 0,.int .u32 0,.int .u32 0,.int .u32 0,.int .u32 0,.int .u32 0,.int .u32 0,.int .u32 0,.int .u32 0,.int .u32 0,.int .u32 0,.int .u32 0,.int .u32 0,.int .u32 0,.int .u32 0,.int .u32 0,.int .u32 0,.int .u32 0,.int .u32 0,.int .u32 0,.int .u32 0,.int .u32 0,.int .u32 0,.int .u32 0,.int .u32 0,.int .u32 0,.int .u32 0,.int .u32 0,.int .u32 0,.int .u32 0,.int .u32 0,.int .u32 0,.int .u32 0,.int .u32 0,.int .u32 0,.int .u32 0,.int .u32 0,.int .u32 0,.int .u32 0,.int .u32 0,.int .u32 0,.int .u32 0,.int .u32 0,.int .u32 0,.int .u32 0,.int .u32 0,.int .u32 0,.int .u32 0,.int .u32 0,.int .u32 0,.int .u32 0,.int .u32 0,.int .u32 0,.int .u32 0,.int .u32 0,.int .u32 0,.int .u32 0,.int .u32 0,.int .u32 0,.int .u32 0,.int .u32 0,.int .u32 0,.int .u32 0,.int .u32 0,.int .u32 0,.int .u32 0,.int .u32 0,.int .u32 0,.int .u32 0,.int .u32 0,.int .u32 0,.int .u32 0,.int .u32 0,.int .u32 0,.int .u32 0,.int .u32 0,.int .u32 0,.int .u32 0,.int .u32 0,.int .u32 0,.int .u32 0,.int .u32 0,.int .u32 0,.int .u32 0,.int .u32 0,.int .u32 0,.int .u32 0,.int .u32 0,.int .u32 0,.int .u32 0,.int .u32 0,.int .u32 0,.int .u32 0,.int .u32 0,.int .u32 0,.int .u32 0,.int .u32 0,.int .u32 0,.int .u32 0,.int .u32 0,.int .u32 0,.int .u32 0,.int .u32 0,.int .u32 0,.int .u32 0,.int .u32 0,.int .u32 0,.int .u32 0,.int .u32 0,.int .u32 0,.int .u32 0,.int .u32 0,.int .u32 0,.int .u32 0,.int .u32 0,.int .u32 0,.int .u32 0,.int .u32 0,.int .u32 0,.int .u32 0,.int .u32 0,.int .u32 0,.int .u32 0,.int .u32 0,.int .u32 0,.int .u32 0,.int .u32 0,.int .u32 0,.int .u32 0,.int .u32 0,.int .u32 0,.int .u32 0,.int .u32 0,.int .u32 0,.int .u32 0,.int .u32 0,.int .u32 0,.int .u32 0,.int .u32 0,.int .u32 0,.int .u32 0,.int .u32 0,.int .u32 0,.int .u32 0,.int .u32 0,.int .u32 0,.int .u32 0,.int .u32 0,.int .u32 0,.int .u32 0,.int .u32 0,.int .u32 0,.int .u32 0,.int .u32 0]:=by kernel_rfl
theorem ze5 : Wt Tryz.prog 5=some [.int .u8 0]:=by kernel_rfl
theorem Zes {w : World} {A : Nat → Addr} {r : GPlan} (hm : Hl=some r) :
    Calls Tryz.prog 46 [].toArray w (Ret fun u w'=>∃ h_0 h_1 h_2 h_3,u=.agg #[.int .i64 r.Id,.bool r.Mobile,h_0,h_1,h_2,.int .i64 r.Events,h_3] ∧ St NB w w' [ownR 114 2 h_0 r.Pages.length (r.Pages.flatMap Zz),ownR 116 3 h_1 r.Procs.length (r.Procs.flatMap Zy),ownR 118 4 h_2 r.Ports.length (r.Ports.flatMap Zs),ownR 3 1 h_3 r.Sems.length (r.Sems.flatMap eI)]):=by
  have hS:=St.begin NB w
  unfold Hl at hm
  refine enter Tryz.func46 rfl rfl rfl ?_;intro a H;dsimp only [Qn,Nat.zero_add,Nat.reduceAdd] at H
  refine wp_seq (wp_region_lit (Xf H Zi3 rfl ?_))
  clear H;intro aK aL hN aE hs;clear a;intro a H
  replace hS:=hS.newBlk hN aE hs;clear hN hs
  refine Ze (Za (wp_seq (wp_region_lit (n_q H (Qd (cs:=[.int .i64 5,.string ⟨#[97,98]⟩]) Zd7 Zny Znz rfl (by kernel_rfl)) rfl (W_q (Qd (cs:=[.int .i64 3,.string ⟨#[]⟩]) Zd7 Zny Znz rfl (by kernel_rfl)) rfl ?_)))));clear H a;intro a H
  refine Qf H Tryz.underlying22 Gm Zd7 rfl rfl rfl (cs:=[.int .i64 5,.string ⟨#[97,98]⟩,.int .i64 3,.string ⟨#[]⟩]) (by kernel_rfl) rfl ?_
  clear H;intro aA aM hN aF hs;clear a;intro a H
  replace hS:=hS.newBlk hN aF hs;clear hN hs
  replace hS:=hS.blkOwnL (e:=Zz) (k:=2) [(⟨5,⟨#[97,98]⟩⟩ : GPagePlan),(⟨3,⟨#[]⟩⟩ : GPagePlan)] rfl rfl (by simp [maxLen])
  refine n_q H (Qd (cs:=[.int .i64 0,.int .i64 7,.bool true]) Zd8 Zpv Zpw rfl (by kernel_rfl)) rfl (W_q (Qd (cs:=[.int .i64 64,.int .i64 9,.bool false]) Zd8 Zpv Zpw rfl (by kernel_rfl)) rfl ?_);clear H a;intro a H
  refine Qf H Tryz.underlying23 Ha Zd8 rfl rfl rfl (cs:=[.int .i64 0,.int .i64 7,.bool true,.int .i64 64,.int .i64 9,.bool false]) (by kernel_rfl) rfl ?_
  clear H;intro aB aN hN aG hs;clear a;intro a H
  replace hS:=hS.newBlk hN aG hs;clear hN hs
  replace hS:=hS.blkOwnL (e:=Zy) (k:=3) [(⟨0,7,true⟩ : GProcPlan),(⟨64,9,false⟩ : GProcPlan)] rfl rfl (by simp [maxLen])
  refine n_q H (Qd (cs:=[.int .i64 1,.int .i64 4,.int .i64 1,.int .i64 2]) Zer Zpx Zpy rfl (by kernel_rfl)) rfl (W_q (Qd (cs:=[.int .i64 4,.int .i64 8,.int .i64 2,.int .i64 0]) Zer Zpx Zpy rfl (by kernel_rfl)) rfl ?_);clear H a;intro a H
  refine Qf H Tryz.underlying24 Wp Zer rfl rfl rfl (cs:=[.int .i64 1,.int .i64 4,.int .i64 1,.int .i64 2,.int .i64 4,.int .i64 8,.int .i64 2,.int .i64 0]) (by kernel_rfl) rfl ?_
  clear H;intro aC aO hN aH hs;clear a;intro a H
  replace hS:=hS.newBlk hN aH hs;clear hN hs
  replace hS:=hS.blkOwnL (e:=Zs) (k:=4) [(⟨1,4,1,2⟩ : GPortPlan),(⟨4,8,2,0⟩ : GPortPlan)] rfl rfl (by simp [maxLen])
  refine Qf H Tryz.underlying25 sz3 ze3 rfl rfl rfl (cs:=[.int .i64 2]) (by kernel_rfl) rfl ?_
  clear H;intro aD aP hN aI hs;clear a;intro a H
  replace hS:=hS.newBlk hN aI hs;clear hN hs
  replace hS:=hS.blkOwnL (e:=eI) (k:=1) [2] rfl rfl (by simp [maxLen])
  refine n_q H (Qd (cs:=[.int .i64 3,.bool true,.slice (some ⟨aA,0,none⟩) 2 2,.slice (some ⟨aB,0,none⟩) 2 2,.slice (some ⟨aC,0,none⟩) 2 2,.int .i64 1,.slice (some ⟨aD,0,none⟩) 1 1]) Zi3 Zo9 Zpa rfl ((Qa rfl rfl (by simp)).trans ((Qa rfl rfl (by simp)).trans ((Qa (((hS.own 3 rfl).slr rfl (fun _ _=>rfl))).one rfl (by simp)).trans ((Qa (((hS.own 2 rfl).slr rfl (fun _ _=>rfl))).one rfl (by simp)).trans ((Qa (((hS.own 1 rfl).slr rfl (fun _ _=>rfl))).one rfl (by simp)).trans ((Qa rfl rfl (by simp)).trans ((Qa (((hS.own 0 rfl).slr rfl (fun _ _=>rfl))).one rfl (by simp)).trans rfl)))))))) rfl ?_;clear H a;intro a H
  replace hS:=hS.pk4
  refine Zr H rfl rfl (vs:=[.int .i64 3,.bool true,.slice (some ⟨aA,0,none⟩) 2 2,.slice (some ⟨aB,0,none⟩) 2 2,.slice (some ⟨aC,0,none⟩) 2 2,.int .i64 1,.slice (some ⟨aD,0,none⟩) 1 1]) rfl Gh (hS.blk 0 rfl) rfl (by simp [(((hS.own 4 rfl).slr rfl (fun _ _=>rfl))).one,(((hS.own 3 rfl).slr rfl (fun _ _=>rfl))).one,(((hS.own 2 rfl).slr rfl (fun _ _=>rfl))).one,(((hS.own 1 rfl).slr rfl (fun _ _=>rfl))).one]) ?_
  clear H;intro aQ hN aJ hz;clear a;intro a H;replace hS:=hS.setBlk hN aJ;clear hN hz
  refine Ze (Za (wp_ret ?_))
  obtain rfl:=Option.some.inj hm
  replace hS:=hS.pk1
  replace hS:=hS.pk2
  replace hS:=hS.pk3
  replace hS:=hS.pk4
  refine Zae H (.inr rfl) rfl (vs:=[.agg #[.int .i64 3,.bool true,.slice (some ⟨aA,0,none⟩) 2 2,.slice (some ⟨aB,0,none⟩) 2 2,.slice (some ⟨aC,0,none⟩) 2 2,.int .i64 1,.slice (some ⟨aD,0,none⟩) 1 1]]) (Xh rfl ((hS.blk 4 rfl).ldAll Zam Gh) Xt) ?_
  replace hS:=hS.tk4
  exact⟨_,_,_,_,rfl,hS⟩
theorem Tk {w : World} {A : Nat → Addr} {a0 : Int} {v1 : Value} {a1 : ErrM} (h1 : IsE A w v1 a1) {r : ErrM} (hm : Gx a0 a1=some r) :
    Calls Tryz.prog 198 [.int .i64 a0,v1].toArray w (Ret fun u w'=>∃ h_0,u=h_0 ∧ St NB w w' [erQ A h_0 r]):=by
  have hS:=St.begin NB w
  unfold Gx at hm
  refine enter Tryz.func198 rfl rfl rfl ?_;intro a H;dsimp only [Qn,Nat.zero_add,Nat.reduceAdd] at H
  refine wp_seq (wp_region_lit (n_q H (Zb rfl) rfl ?_));clear H a;intro a H
  refine Ze (Za (wp_seq (wp_region_lit (n_q H (Zc rfl) rfl (W_q (Zc rfl) rfl (W_q (Qd (cs:=[.int .i64 a0,v1]) ze214 bd214 pl214 rfl ((Qa rfl rfl (by simp)).trans ((Qa (Xb.ext h1 hS.x).one rfl (by simp)).trans rfl))) rfl ?_))))));clear H a;intro a H
  refine Wi H rfl (cs:=[.int .i64 a0,v1]) rfl rfl ?_
  clear H;intro aD aE hN aB hs;clear a;intro a H
  replace hS:=hS.newBlk hN aB hs;clear hN hs
  replace hm:=Zj hm;obtain⟨aF,aC,hm⟩:=hm
  have aA:=(Xb.ext h1 hS.x)
  refine n_q H (Hz Tryz.underlying210 (by simp) rfl) rfl ?_;clear H a;intro a H
  replace hS:=hS.dAtE aA aC
  refine n_q H (Zb rfl) rfl ?_;clear H a;intro a H
  refine Ze (Za (wp_ret ?_))
  obtain rfl:=Option.some.inj hm
  refine Xx H (.inr rfl) rfl rfl ?_
  exact⟨_,rfl,hS⟩
theorem Zb8 {w : World} {A : Nat → Addr} {cs0 : List Value} {a0 : GPlan} (hG : EV A w) (h0 : Qs w cs0 a0) {r : ErrM} (hm : Yv a0=some r) :
    Calls Tryz.prog 128 [.agg cs0.toArray].toArray w (Ret fun u w'=>∃ h_0,u=h_0 ∧ St NB w w' [erQ A h_0 r]):=by
  obtain⟨aK,aO,aP,aQ,rfl,aC,aZ,a9,bA⟩:=h0
  have hS:=St.begin NB w
  unfold Yv at hm
  refine enter Tryz.func128 rfl rfl rfl ?_;intro a H;dsimp only [Qn,Nat.zero_add,Nat.reduceAdd] at H
  refine wp_seq (wp_region_lit (Wi H rfl (cs:=[.int .i64 a0.Id,.bool a0.Mobile,aK,aO,aP,.int .i64 a0.Events,aQ]) rfl rfl ?_))
  clear H;intro bH bI hN aS hs;clear a;intro a H
  replace hS:=hS.newBlk hN aS hs;clear hN hs
  refine n_q H (Zb rfl) rfl ?_;clear H a;intro a H
  refine Ze (Za (wp_seq (wp_seq (wp_region_lit (n_c H (fun HC=>?_))))));clear H
  refine Hx HC (Zd rfl Vz) rfl (by kernel_rfl) (V_q (Zf rfl ((hS.blk 0 rfl).ld Zfb rfl)) rfl (by kernel_rfl) ?_);clear HC a;intro a HC
  obtain⟨bJ,bK,aB,bF,bG⟩:=SlR.formV (aC.ext (Zn.mono _) hS.x)
  refine Hx HC (Qe Tryz.underlying22 rfl aB) rfl (by kernel_rfl) (V_q (Jr (i:=a0.Pages.length) (j:=1) rfl rfl) rfl (by kernel_rfl) (V_q (Zc rfl) rfl (by kernel_rfl) (V_g (Zd rfl Vz) (by kernel_rfl) (by kernel_rfl) (by kernel_rfl) (V_g (Zf rfl ((hS.blk 0 rfl).ld Zfb rfl)) (by kernel_rfl) (by kernel_rfl) (by kernel_rfl) (V_g (Qe Tryz.underlying22 rfl aB) (by kernel_rfl) (by kernel_rfl) (by kernel_rfl) (V_g (Za6 (i:=a0.Pages.length) (j:=32) rfl rfl) (by kernel_rfl) (by kernel_rfl) (by kernel_rfl) (Zdd (j:=4) rfl rfl rfl (by kernel_rfl) (by kernel_rfl) ?_)))))));clear HC a;intro a HC
  have H:=HC.has;clear HC
  refine Ze (Za (Zl H rfl (fun aF=>?_) (fun aF=>?_)))
  · replace hm:=Zu hm aF
    refine wp_seq (wp_region_lit (n_q H (Zf rfl ((hG.ext hS.x).ld Hk (by decide) Ub)) rfl (W_q (Zb rfl) rfl ?_)));clear H a;intro a H
    refine Ze (Za (wp_ret (Zg ?_)))
    obtain rfl:=Option.some.inj hm
    replace hS:=hS.dVar (A:=A) (g:=Hk) (by decide)
    replace hS:=hS.tk1
    refine Xx H (.inr rfl) rfl rfl ?_
    exact⟨_,rfl,hS⟩
  · replace hm:=Zv hm aF
    refine wp_skip (Za (wp_seq (wp_seq (wp_region_lit (n_q H (Zd rfl Vz) rfl (W_q (Zf rfl ((hS.blk 0 rfl).ld Zfb rfl)) rfl (W_q (Qe Tryz.underlying22 rfl aB) rfl (W_q (Zc rfl) rfl ?_))))))));clear H a;intro a H
    refine Ze (Za (wp_block ?_))
    replace hS:=hS.tk0
    replace hm:=Zj hm;obtain⟨aL,hm,aG⟩:=hm;replace hm:=Qk hm;obtain⟨bB,hm⟩:=hm
    refine Kn (σ:=Nat × Nat) (fun (m,aA)=>[(17,aK),(18,.int .i64 ((a0.Pages.length : Nat) : Int)),(19,.int .i64 ((aA : Nat) : Int))]) (fun (m,aA) wl=>Kq (Jb a0) m aA=some aL ∧ St NB w wl []) (fun (m,aA)=>m) (bB,0) H ⟨rfl,rfl,rfl,trivial⟩ ⟨hm,hS⟩ ?_
    clear H hS hm a;intro xx a bL H hR;obtain⟨m,aA⟩:=xx;simp only [ent,List.map_cons,List.map_nil] at H;(try dsimp only at hR);obtain⟨hm,hS⟩:=hR
    replace hm:=Qi hm;obtain⟨bC,bM,rfl,hm,aD⟩:=hm;try dsimp only [Jb] at hm
    refine wp_seq (wp_region_lit (n_q H (Jr (i:=aA) (j:=a0.Pages.length) rfl rfl) rfl ?_));clear H a;intro a H
    refine Ze (Za (wp_seq (Zl H rfl (fun aE=>?_) (fun aE=>?_))))
    · replace hm:=Zu hm aE
      have bD : aA < a0.Pages.length:=of_decide_eq_true aE
      refine wp_skip (Za (wp_seq (wp_block (wp_seq (wp_region_lit (n_q H (Zc rfl) rfl ?_))))));clear H a;intro a H
      replace hm:=Zj hm;obtain⟨aN,aH,hm⟩:=hm
      obtain⟨bE,aM⟩:=SlR.adV (aC.ext (Zn.mono _) hS.x) aB aH
      refine n_q H (Vw (i:=aA) Tryz.underlying22 Gm rfl aB aM rfl (Zaz aH)) rfl (W_q (Zf rfl (SlR.ldAggV (aC.ext (Zn.mono _) hS.x) aB aM Zhp Gm aH)) rfl ?_);clear H a;intro a H
      refine Xf H Zd7 rfl ?_
      clear H;intro bN bO hN aT hs;clear a;intro a H
      replace hS:=hS.newBlk hN aT hs;clear hN hs
      refine n_q H (Zb rfl) rfl ?_;clear H a;intro a H
      refine Zr H rfl rfl (vs:=[.int .i64 aN.Rights,.string aN.Init]) rfl Gm (hS.blk 0 rfl) rfl (by simp) ?_
      clear H;intro aR hN aU hz;clear a;intro a H;replace hS:=hS.setBlk hN aU;clear hN hz
      refine Ze (Za (wp_seq (wp_seq (wp_region_lit (n_c H (fun HC=>?_))))));clear H
      refine Hx HC (Zd rfl Zdj) rfl (by kernel_rfl) (V_q (Zf rfl ((hS.blk 0 rfl).ld ag3 rfl)) rfl (by kernel_rfl) (V_q (Ue rfl rfl) rfl (by kernel_rfl) (V_q (Zc rfl) rfl (by kernel_rfl) (V_g (Zd rfl Zdj) (by kernel_rfl) (by kernel_rfl) (by kernel_rfl) (V_g (Zf rfl ((hS.blk 0 rfl).ld ag3 rfl)) (by kernel_rfl) (by kernel_rfl) (by kernel_rfl) (V_g (Gv rfl rfl) (by kernel_rfl) (by kernel_rfl) (by kernel_rfl) (Zdd (j:=3) rfl rfl rfl (by kernel_rfl) (by kernel_rfl) ?_)))))));clear HC a;intro a HC
      have H:=HC.has;clear HC
      refine Ze (Za (Zl H rfl (fun aI=>?_) (fun aI=>?_)))
      · replace hm:=Zu hm aI
        refine wp_seq (wp_region_lit (n_q H (Zc rfl) rfl (W_q (Zf rfl ((hG.ext hS.x).ld Jg (by decide) Ub)) rfl ?_)));clear H a;intro a H
        replace hm:=Zj hm;obtain⟨bP,aV,hm⟩:=hm
        refine Zi H rfl Zl2 (Tk (A:=A) (Xb.var (by decide) : IsE A aR _ (.v Jg)) aV) rfl ?_
        clear H;intro bQ bR hv;clear a;intro a H;obtain⟨_,rfl,aW⟩:=hv
        replace hS:=hS.new aW;simp only [List.cons_append,List.nil_append] at hS
        refine n_q H (Zb rfl) rfl ?_;clear H a;intro a H
        refine Ze (Za (wp_ret (Zg (Zm (Zg (Zg (Zm (Zg ?_))))))))
        obtain rfl:=Option.some.inj hm;have hz : _=aL:=aD;subst hz;replace hm:=aG;try dsimp only at hm
        obtain rfl:=Option.some.inj hm
        replace hS:=hS.tk1
        refine Xx H (.inr rfl) rfl rfl ?_
        exact⟨_,rfl,hS⟩
      · replace hm:=Zv hm aI
        refine wp_skip (Za (wp_seq (wp_region_lit (n_q H (Zd rfl Zgo) rfl (W_q (Zf rfl ((hS.blk 0 rfl).ld ag9 rfl)) rfl (W_q (Zo1 Tryz.underlying9 rfl) rfl (W_q (Za6 (i:=aN.Init.size) (j:=64) rfl rfl) rfl ?_)))))));clear H a;intro a H
        refine Ze (Za (Zl H rfl (fun aJ=>?_) (fun aJ=>?_)))
        · replace hm:=Zu hm aJ
          refine wp_seq (wp_region_lit (n_q H (Zc rfl) rfl (W_q (Zf rfl ((hG.ext hS.x).ld Yu (by decide) Ub)) rfl ?_)));clear H a;intro a H
          replace hm:=Zj hm;obtain⟨bS,aX,hm⟩:=hm
          refine Zi H rfl Zl2 (Tk (A:=A) (Xb.var (by decide) : IsE A aR _ (.v Yu)) aX) rfl ?_
          clear H;intro bT bU hv;clear a;intro a H;obtain⟨_,rfl,aY⟩:=hv
          replace hS:=hS.new aY;simp only [List.cons_append,List.nil_append] at hS
          refine n_q H (Zb rfl) rfl ?_;clear H a;intro a H
          refine Ze (Za (wp_ret (Zm (Zg (Zg (Zm (Zg ?_)))))))
          obtain rfl:=Option.some.inj hm;have hz : _=aL:=aD;subst hz;replace hm:=aG;try dsimp only at hm
          obtain rfl:=Option.some.inj hm
          replace hS:=hS.tk1
          refine Xx H (.inr rfl) rfl rfl ?_
          exact⟨_,rfl,hS⟩
        · replace hm:=Zv hm aJ
          refine wp_skip (Zo (Za (wp_region_lit (n_q H (Yn (i:=aA) (j:=1) rfl rfl (by omega)) rfl (W_q (Zc rfl) rfl ?_)))));clear H a;intro a H
          refine Ze (Za ?_)
          obtain rfl:=Option.some.inj hm
          replace hS:=hS.tk0
          exact Wv (bC,aA + 1) H ⟨rfl,rfl,rfl,trivial⟩ ⟨aD,hS⟩ (Nat.lt_succ_self _)
    · replace hm:=Zv hm aE
      refine wp_exit (Zq (Zq (Qg ?_)))
      obtain rfl:=Option.some.inj hm;have hz : _=aL:=aD;subst hz;replace hm:=aG;try dsimp only at hm
      refine Za (wp_seq (wp_region_lit (n_q H (Zb rfl) rfl ?_)));clear H a;intro a H
      refine Ze (Za (wp_ret ?_))
      obtain rfl:=Option.some.inj hm
      replace hS:=hS.dNil (A:=A)
      refine Xx H (.inr rfl) rfl rfl ?_
      exact⟨_,rfl,hS⟩
theorem Zb9 {w : World} {A : Nat → Addr} {cs0 : List Value} {a0 : GPlan} (hG : EV A w) (h0 : Qs w cs0 a0) {r : ErrM} (hm : Yw a0=some r) :
    Calls Tryz.prog 129 [.agg cs0.toArray].toArray w (Ret fun u w'=>∃ h_0,u=h_0 ∧ St NB w w' [erQ A h_0 r]):=by
  obtain⟨aK,aB,aL,aM,rfl,aV,aI,bE,bF⟩:=h0
  have hS:=St.begin NB w
  unfold Yw at hm
  refine enter Tryz.func129 rfl rfl rfl ?_;intro a H;dsimp only [Qn,Nat.zero_add,Nat.reduceAdd] at H
  refine wp_seq (wp_region_lit (Wi H rfl (cs:=[.int .i64 a0.Id,.bool a0.Mobile,aK,aB,aL,.int .i64 a0.Events,aM]) rfl rfl ?_))
  clear H;intro aT bU hN bA hs;clear a;intro a H
  replace hS:=hS.newBlk hN bA hs;clear hN hs
  refine n_q H (Zb rfl) rfl ?_;clear H a;intro a H
  refine Ze (Za (wp_seq (wp_seq (wp_region_lit (n_c H (fun HC=>?_))))));clear H
  refine Hx HC (Zd rfl Wx) rfl (by kernel_rfl) (V_q (Zf rfl ((hS.blk 0 rfl).ld Zgm rfl)) rfl (by kernel_rfl) ?_);clear HC a;intro a HC
  obtain⟨bV,bW,aG,bN,bO⟩:=SlR.formV (aI.ext (Zn.mono _) hS.x)
  refine Hx HC (Qe Tryz.underlying23 rfl aG) rfl (by kernel_rfl) (V_q (Jr (i:=a0.Procs.length) (j:=1) rfl rfl) rfl (by kernel_rfl) (V_q (Zc rfl) rfl (by kernel_rfl) (V_g (Zd rfl Wx) (by kernel_rfl) (by kernel_rfl) (by kernel_rfl) (V_g (Zf rfl ((hS.blk 0 rfl).ld Zgm rfl)) (by kernel_rfl) (by kernel_rfl) (by kernel_rfl) (V_g (Qe Tryz.underlying23 rfl aG) (by kernel_rfl) (by kernel_rfl) (by kernel_rfl) (V_g (Za6 (i:=a0.Procs.length) (j:=8) rfl rfl) (by kernel_rfl) (by kernel_rfl) (by kernel_rfl) (Zdd (j:=4) rfl rfl rfl (by kernel_rfl) (by kernel_rfl) ?_)))))));clear HC a;intro a HC
  have H:=HC.has;clear HC
  refine Ze (Za (Zl H rfl (fun aQ=>?_) (fun aQ=>?_)))
  · replace hm:=Zu hm aQ
    refine wp_seq (wp_region_lit (n_q H (Zf rfl ((hG.ext hS.x).ld Hk (by decide) Ub)) rfl (W_q (Zb rfl) rfl ?_)));clear H a;intro a H
    refine Ze (Za (wp_ret (Zg ?_)))
    obtain rfl:=Option.some.inj hm
    replace hS:=hS.dVar (A:=A) (g:=Hk) (by decide)
    replace hS:=hS.tk1
    refine Xx H (.inr rfl) rfl rfl ?_
    exact⟨_,rfl,hS⟩
  · replace hm:=Zv hm aQ
    refine wp_skip (Za (wp_seq (wp_seq (wp_region_lit (n_q H (Zd rfl Wx) rfl (W_q (Zf rfl ((hS.blk 0 rfl).ld Zgm rfl)) rfl (W_q (Qe Tryz.underlying23 rfl aG) rfl (W_q (Zc rfl) rfl ?_))))))));clear H a;intro a H
    refine Ze (Za (wp_block ?_))
    replace hm:=Zj hm;obtain⟨aW,hm,aX⟩:=hm;replace hm:=Qk hm;obtain⟨bG,hm⟩:=hm
    refine Kn (σ:=Nat × Nat) (fun (m,aA)=>[(1,.pointer (some ⟨aT,0,none⟩)),(17,aB),(18,.int .i64 ((a0.Procs.length : Nat) : Int)),(19,.int .i64 ((aA : Nat) : Int))]) (fun (m,aA) wl=>Kq (Jc a0) m aA=some aW ∧ St NB w wl [blkR aT [.int .i64 a0.Id,.bool a0.Mobile,aK,aB,aL,.int .i64 a0.Events,aM] 27]) (fun (m,aA)=>m) (bG,0) H ⟨rfl,rfl,rfl,rfl,trivial⟩ ⟨hm,hS⟩ ?_
    clear H hS hm a;intro xx a bX H hR;obtain⟨m,aA⟩:=xx;simp only [ent,List.map_cons,List.map_nil] at H;(try dsimp only at hR);obtain⟨hm,hS⟩:=hR
    replace hm:=Qi hm;obtain⟨bH,bI,rfl,hm,aR⟩:=hm;try dsimp only [Jc] at hm
    refine wp_seq (wp_region_lit (n_q H (Jr (i:=aA) (j:=a0.Procs.length) rfl rfl) rfl ?_));clear H a;intro a H
    refine Ze (Za (wp_seq (Zl H rfl (fun aN=>?_) (fun aN=>?_))))
    · replace hm:=Zu hm aN
      have bJ : aA < a0.Procs.length:=of_decide_eq_true aN
      refine wp_skip (Za (wp_seq (wp_block (wp_seq (wp_region_lit (n_q H (Zc rfl) rfl ?_))))));clear H a;intro a H
      replace hm:=Zj hm;obtain⟨aH,aS,hm⟩:=hm
      obtain⟨bK,aU⟩:=SlR.adV (aI.ext (Zn.mono _) hS.x) aG aS
      refine n_q H (Vw (i:=aA) Tryz.underlying23 Ha rfl aG aU rfl (Zaz aS)) rfl (W_q (Zf rfl (SlR.ldAggV (aI.ext (Zn.mono _) hS.x) aG aU Zhq Ha aS)) rfl ?_);clear H a;intro a H
      refine Xf H Zd8 rfl ?_
      clear H;intro bY bZ hN bB hs;clear a;intro a H
      replace hS:=hS.newBlk hN bB hs;clear hN hs
      refine n_q H (Zb rfl) rfl ?_;clear H a;intro a H
      refine Zr H rfl rfl (vs:=[.int .i64 aH.Entry,.int .i64 aH.Prio,.bool aH.Auto]) rfl Ha (hS.blk 0 rfl) rfl (by simp) ?_
      clear H;intro b7 hN bC hz;clear a;intro a H;replace hS:=hS.setBlk hN bC;clear hN hz
      refine Ze (Za ?_)
      replace hm:=Zj hm;obtain⟨b8,hm,aJ⟩:=hm
      refine Gw (σ:=Bool) H (fun aO=>[(1,.pointer (some ⟨aT,0,none⟩)),(3,.int .i64 ((aA : Nat) : Int)),(17,aB),(18,.int .i64 ((a0.Procs.length : Nat) : Int)),(19,.int .i64 ((aA : Nat) : Int)),(51,.bool aO)]) (fun aO wl=>(Yq aA) aO=some bI ∧ St NB w wl [blkR aT [.int .i64 a0.Id,.bool a0.Mobile,aK,aB,aL,.int .i64 a0.Events,aM] 27]) ?_ ?_
      · skip
        refine wp_region_lit (n_q H (Zd rfl Zau) rfl (W_q (Zf rfl ((hS.blk 0 rfl).ld ag3 rfl)) rfl (W_q (Ue rfl rfl) rfl (W_q (Zc rfl) rfl ?_))));clear H a;intro a H
        rcases Bool.eq_false_or_eq_true (decide (aH.Entry < 0)) with aC|aC
        · replace H:=H.know 27 rfl aC
          replace hm:=Zu hm aC
          refine Ts H rfl rfl (by decide) rfl (Qc rfl rfl (by decide) rfl (Qc rfl rfl (by decide) rfl (Qc rfl rfl (by decide) rfl (Qc rfl rfl (by decide) rfl (Qc rfl rfl (by decide) rfl (Qc rfl rfl (by decide) rfl (W_q (Zx rfl rfl) rfl (W_q (Zc rfl) rfl (Qc rfl rfl (by decide) rfl (Qc rfl rfl (by decide) rfl (Qc rfl rfl (by decide) rfl ?_)))))))))));clear H a;intro a H
          refine Ts H rfl rfl (by decide) rfl (W_q (Zx rfl rfl) rfl (W_q (Zc rfl) rfl (Qc rfl rfl (by decide) rfl (Qc rfl rfl (by decide) rfl (Qc rfl rfl (by decide) rfl (W_q (Zx rfl rfl) rfl (W_q (Zc rfl) rfl (Qc rfl rfl (by decide) rfl (Qc rfl rfl (by decide) rfl (Qc rfl rfl (by decide) rfl (W_q (Zx rfl rfl) rfl ?_)))))))))));clear H a;intro a H
          refine Ze (Za ?_)
          obtain rfl:=Option.some.inj hm;replace hm:=aJ;try dsimp only at hm
          replace hS:=hS.pk1
          replace hS:=hS.tk1
          exact Wb true H ⟨rfl,rfl,rfl,rfl,rfl,rfl,trivial⟩ ⟨hm,hS⟩
        · replace H:=H.know 27 rfl aC
          replace hm:=Zv hm aC
          refine Vg H rfl rfl (n_q H (Zd rfl Zau) rfl (Qw rfl rfl (W_q (Zf rfl ((hS.blk 0 rfl).ld ag3 rfl)) rfl (Qw rfl rfl (W_q (Zd rfl Vz) rfl (Qw rfl rfl (W_q (Zf rfl ((hS.blk 1 rfl).ld Zfb rfl)) rfl (Qw rfl rfl ?_))))))));clear H a;intro a H
          obtain⟨bP,bQ,aY,bL,bM⟩:=SlR.formV (aV.ext (Zn.mono _) hS.x)
          refine n_q H (Qe Tryz.underlying22 rfl aY) rfl (Qw rfl rfl (W_q (Zbt rfl rfl) rfl (Qw rfl rfl (W_q (Zne rfl rfl) rfl (W_q (Xj rfl rfl) rfl (W_q (Zc rfl) rfl ?_))))));clear H a;intro a H
          rcases Bool.eq_false_or_eq_true (decide ((IntKind.i64.wrap (64 * ((a0.Pages.length : Nat) : Int))) ≤ aH.Entry)) with aD|aD
          · replace H:=H.know 36 rfl aD
            replace hm:=Zu hm aD
            refine Ts H rfl rfl (by decide) rfl (Qc rfl rfl (by decide) rfl (Qc rfl rfl (by decide) rfl (Qc rfl rfl (by decide) rfl (W_q (Zx rfl rfl) rfl (W_q (Zc rfl) rfl (Qc rfl rfl (by decide) rfl (Qc rfl rfl (by decide) rfl (Qc rfl rfl (by decide) rfl (W_q (Zx rfl rfl) rfl (W_q (Zc rfl) rfl (Qc rfl rfl (by decide) rfl ?_)))))))))));clear H a;intro a H
            refine Ts H rfl rfl (by decide) rfl (Qc rfl rfl (by decide) rfl (W_q (Zx rfl rfl) rfl ?_));clear H a;intro a H
            refine Ze (Za ?_)
            obtain rfl:=Option.some.inj hm;replace hm:=aJ;try dsimp only at hm
            replace hS:=hS.pk1
            replace hS:=hS.tk1
            exact Wb true H ⟨rfl,rfl,rfl,rfl,rfl,rfl,trivial⟩ ⟨hm,hS⟩
          · replace H:=H.know 36 rfl aD
            replace hm:=Zv hm aD
            refine Vg H rfl rfl (n_q H (Zd rfl Zau) rfl (Qw rfl rfl (W_q (Zf rfl ((hS.blk 0 rfl).ld ag3 rfl)) rfl (Qw rfl rfl (W_q (Zoy rfl rfl (by decide)) rfl (Qw rfl rfl (W_q (Uv rfl rfl) rfl (W_q (Xj rfl rfl) rfl (W_q (Zc rfl) rfl ?_)))))))));clear H a;intro a H
            rcases Bool.eq_false_or_eq_true (!decide ((Int.tmod aH.Entry 4)=0)) with aE|aE
            · replace H:=H.know 42 rfl aE
              replace hm:=Zu hm aE
              refine Ts H rfl rfl (by decide) rfl (Qc rfl rfl (by decide) rfl (Qc rfl rfl (by decide) rfl (W_q (Zx rfl rfl) rfl (W_q (Zc rfl) rfl (Qc rfl rfl (by decide) rfl (Qc rfl rfl (by decide) rfl (Qc rfl rfl (by decide) rfl (W_q (Zx rfl rfl) rfl ?_))))))));clear H a;intro a H
              refine Ze (Za ?_)
              obtain rfl:=Option.some.inj hm;replace hm:=aJ;try dsimp only at hm
              replace hS:=hS.pk1
              replace hS:=hS.tk1
              exact Wb true H ⟨rfl,rfl,rfl,rfl,rfl,rfl,trivial⟩ ⟨hm,hS⟩
            · replace H:=H.know 42 rfl aE
              replace hm:=Zv hm aE
              refine Vg H rfl rfl (n_q H (Zd rfl Zdk) rfl (Qw rfl rfl (W_q (Zf rfl ((hS.blk 0 rfl).ld ag3 rfl)) rfl (Qw rfl rfl (W_q (Ue rfl rfl) rfl (W_q (Xj rfl rfl) rfl (W_q (Zc rfl) rfl ?_)))))));clear H a;intro a H
              rcases Bool.eq_false_or_eq_true (decide (aH.Prio < 0)) with aF|aF
              · replace H:=H.know 47 rfl aF
                replace hm:=Zu hm aF
                refine Ts H rfl rfl (by decide) rfl (Qc rfl rfl (by decide) rfl (Qc rfl rfl (by decide) rfl (W_q (Zx rfl rfl) rfl ?_)));clear H a;intro a H
                refine Ze (Za ?_)
                obtain rfl:=Option.some.inj hm;replace hm:=aJ;try dsimp only at hm
                replace hS:=hS.pk1
                replace hS:=hS.tk1
                exact Wb true H ⟨rfl,rfl,rfl,rfl,rfl,rfl,trivial⟩ ⟨hm,hS⟩
              · replace H:=H.know 47 rfl aF
                replace hm:=Zv hm aF
                refine Vg H rfl rfl (n_q H (Zd rfl Zdk) rfl (Qw rfl rfl (W_q (Zf rfl ((hS.blk 0 rfl).ld ag3 rfl)) rfl (Qw rfl rfl (W_q (Gv rfl rfl) rfl (W_q (Xj rfl rfl) rfl ?_))))));clear H a;intro a H
                refine Ze (Za ?_)
                obtain rfl:=Option.some.inj hm;replace hm:=aJ;try dsimp only at hm
                replace hS:=hS.pk1
                replace hS:=hS.tk1
                exact Wb (decide (255 < aH.Prio)) H ⟨rfl,rfl,rfl,rfl,rfl,rfl,trivial⟩ ⟨hm,hS⟩
      · clear H hS hm a;intro aO a bD H hR
        simp only [ent,List.map_cons,List.map_nil] at H;(try dsimp only at hR);obtain⟨hm,hS⟩:=hR;try dsimp only [Yq] at hm
        refine Zl H rfl (fun aP=>?_) (fun aP=>?_)
        · replace hm:=Zu hm aP
          refine wp_seq (wp_region_lit (n_q H (Zc rfl) rfl (W_q (Zf rfl ((hG.ext hS.x).ld Jg (by decide) Ub)) rfl ?_)));clear H a;intro a H
          replace hm:=Zj hm;obtain⟨bR,aZ,hm⟩:=hm
          refine Zi H rfl Zl2 (Tk (A:=A) (Xb.var (by decide) : IsE A bD _ (.v Jg)) aZ) rfl ?_
          clear H;intro bS bT hv;clear a;intro a H;obtain⟨_,rfl,a9⟩:=hv
          replace hS:=hS.new a9;simp only [List.cons_append,List.nil_append] at hS
          refine n_q H (Zb rfl) rfl ?_;clear H a;intro a H
          refine Ze (Za (wp_ret (Zm (Zg (Zg (Zm (Zg ?_)))))))
          obtain rfl:=Option.some.inj hm;have hz : _=aW:=aR;subst hz;replace hm:=aX;try dsimp only at hm
          obtain rfl:=Option.some.inj hm
          replace hS:=hS.tk1
          refine Xx H (.inr rfl) rfl rfl ?_
          exact⟨_,rfl,hS⟩
        · replace hm:=Zv hm aP
          refine wp_skip (Zo (Za (wp_region_lit (n_q H (Yn (i:=aA) (j:=1) rfl rfl (by omega)) rfl (W_q (Zc rfl) rfl ?_)))));clear H a;intro a H
          refine Ze (Za ?_)
          obtain rfl:=Option.some.inj hm
          exact Wv (bH,aA + 1) H ⟨rfl,rfl,rfl,rfl,trivial⟩ ⟨aR,hS⟩ (Nat.lt_succ_self _)
    · replace hm:=Zv hm aN
      refine wp_exit (Zq (Zq (Qg ?_)))
      obtain rfl:=Option.some.inj hm;have hz : _=aW:=aR;subst hz;replace hm:=aX;try dsimp only at hm
      refine Za (wp_seq (wp_region_lit (n_q H (Zb rfl) rfl ?_)));clear H a;intro a H
      refine Ze (Za (wp_ret ?_))
      obtain rfl:=Option.some.inj hm
      replace hS:=hS.dNil (A:=A)
      replace hS:=hS.tk1
      refine Xx H (.inr rfl) rfl rfl ?_
      exact⟨_,rfl,hS⟩
theorem Zd9 {w : World} {A : Nat → Addr} {a0 : GPortPlan} {r : Bool} (hm : Gp a0=some r) :
    Calls Tryz.prog 240 [.agg (Zs a0).toArray].toArray w (Ret fun u w'=>u=.bool r ∧ Ext w w'):=by
  have hS:=St.begin NB w
  unfold Gp at hm
  refine enter Tryz.func240 rfl rfl rfl ?_;intro a H;dsimp only [Qn,Nat.zero_add,Nat.reduceAdd] at H
  refine wp_seq (wp_region_lit (Wi H rfl (cs:=[.int .i64 a0.Kind,.int .i64 a0.Size,.int .i64 a0.Depth,.int .i64 a0.Refresh]) rfl rfl ?_))
  clear H;intro aB aC hN aA hs;clear a;intro a H
  replace hS:=hS.newBlk hN aA hs;clear hN hs
  refine n_q H (Zb rfl) rfl ?_;clear H a;intro a H
  refine Ze (Za (wp_seq (wp_region_lit (n_c H (fun HC=>?_)))));clear H
  refine Hx HC (Zd rfl Gl) rfl (by kernel_rfl) (V_q (Zf rfl ((hS.blk 0 rfl).ld ag3 rfl)) rfl (by kernel_rfl) (V_q (Um rfl rfl) rfl (by kernel_rfl) (V_q (Zc rfl) rfl (by kernel_rfl) (V_g (Zd rfl Gl) (by kernel_rfl) (by kernel_rfl) (by kernel_rfl) (V_g (Zf rfl ((hS.blk 0 rfl).ld ag3 rfl)) (by kernel_rfl) (by kernel_rfl) (by kernel_rfl) (V_g (Um rfl rfl) (by kernel_rfl) (by kernel_rfl) (by kernel_rfl) (Zdd (j:=3) rfl rfl rfl (by kernel_rfl) (by kernel_rfl) (V_q (Zb rfl) rfl (by kernel_rfl) ?_))))))));clear HC a;intro a HC
  have H:=HC.has;clear HC
  refine Ze (Za (wp_ret ?_))
  obtain rfl:=Option.some.inj hm
  replace hS:=hS.tk0
  refine Xx H (.inr rfl) rfl rfl ?_
  exact⟨rfl,hS.x⟩
theorem Zgq {w : World} {A : Nat → Addr} {a0 : GPortPlan} {r : Bool} (hm : Zat a0=some r) :
    Calls Tryz.prog 241 [.agg (Zs a0).toArray].toArray w (Ret fun u w'=>u=.bool r ∧ Ext w w'):=by
  have hS:=St.begin NB w
  unfold Zat at hm
  refine enter Tryz.func241 rfl rfl rfl ?_;intro a H;dsimp only [Qn,Nat.zero_add,Nat.reduceAdd] at H
  refine wp_seq (wp_region_lit (Wi H rfl (cs:=[.int .i64 a0.Kind,.int .i64 a0.Size,.int .i64 a0.Depth,.int .i64 a0.Refresh]) rfl rfl ?_))
  clear H;intro aB aC hN aA hs;clear a;intro a H
  replace hS:=hS.newBlk hN aA hs;clear hN hs
  refine n_q H (Zb rfl) rfl ?_;clear H a;intro a H
  refine Ze (Za (wp_seq (wp_region_lit (n_c H (fun HC=>?_)))));clear H
  refine Hx HC (Zd rfl Gl) rfl (by kernel_rfl) (V_q (Zf rfl ((hS.blk 0 rfl).ld ag3 rfl)) rfl (by kernel_rfl) (V_q (Um rfl rfl) rfl (by kernel_rfl) (V_q (Zc rfl) rfl (by kernel_rfl) (V_g (Zd rfl Gl) (by kernel_rfl) (by kernel_rfl) (by kernel_rfl) (V_g (Zf rfl ((hS.blk 0 rfl).ld ag3 rfl)) (by kernel_rfl) (by kernel_rfl) (by kernel_rfl) (V_g (Um rfl rfl) (by kernel_rfl) (by kernel_rfl) (by kernel_rfl) (Zdd (j:=3) rfl rfl rfl (by kernel_rfl) (by kernel_rfl) (V_q (Zb rfl) rfl (by kernel_rfl) ?_))))))));clear HC a;intro a HC
  have H:=HC.has;clear HC
  refine Ze (Za (wp_ret ?_))
  obtain rfl:=Option.some.inj hm
  replace hS:=hS.tk0
  refine Xx H (.inr rfl) rfl rfl ?_
  exact⟨rfl,hS.x⟩
theorem Zbz {w : World} {A : Nat → Addr} {a0 : GPortPlan} {r : Bool} (hm : Un a0=some r) :
    Calls Tryz.prog 242 [.agg (Zs a0).toArray].toArray w (Ret fun u w'=>u=.bool r ∧ Ext w w'):=by
  have hS:=St.begin NB w
  unfold Un at hm
  refine enter Tryz.func242 rfl rfl rfl ?_;intro a H;dsimp only [Qn,Nat.zero_add,Nat.reduceAdd] at H
  refine wp_seq (wp_region_lit (Wi H rfl (cs:=[.int .i64 a0.Kind,.int .i64 a0.Size,.int .i64 a0.Depth,.int .i64 a0.Refresh]) rfl rfl ?_))
  clear H;intro aB aC hN aA hs;clear a;intro a H
  replace hS:=hS.newBlk hN aA hs;clear hN hs
  refine n_q H (Zb rfl) rfl ?_;clear H a;intro a H
  refine Ze (Za (wp_seq (wp_region_lit (n_c H (fun HC=>?_)))));clear H
  refine Hx HC (Zd rfl Gl) rfl (by kernel_rfl) (V_q (Zf rfl ((hS.blk 0 rfl).ld ag3 rfl)) rfl (by kernel_rfl) (V_q (Um rfl rfl) rfl (by kernel_rfl) (V_q (Zc rfl) rfl (by kernel_rfl) (V_g (Zd rfl Gl) (by kernel_rfl) (by kernel_rfl) (by kernel_rfl) (V_g (Zf rfl ((hS.blk 0 rfl).ld ag3 rfl)) (by kernel_rfl) (by kernel_rfl) (by kernel_rfl) (V_g (Um rfl rfl) (by kernel_rfl) (by kernel_rfl) (by kernel_rfl) (Zdd (j:=3) rfl rfl rfl (by kernel_rfl) (by kernel_rfl) (V_q (Zb rfl) rfl (by kernel_rfl) ?_))))))));clear HC a;intro a HC
  have H:=HC.has;clear HC
  refine Ze (Za (wp_ret ?_))
  obtain rfl:=Option.some.inj hm
  replace hS:=hS.tk0
  refine Xx H (.inr rfl) rfl rfl ?_
  exact⟨rfl,hS.x⟩
theorem Tu {w : World} {A : Nat → Addr} {a0 : GPortPlan} (hG : EV A w) {r : ErrM} (hm : Yd a0=some r) :
    Calls Tryz.prog 199 [.agg (Zs a0).toArray].toArray w (Ret fun u w'=>∃ h_0,u=h_0 ∧ St NB w w' [erQ A h_0 r]):=by
  have hS:=St.begin NB w
  unfold Yd at hm
  refine enter Tryz.func199 rfl rfl rfl ?_;intro a H;dsimp only [Qn,Nat.zero_add,Nat.reduceAdd] at H
  refine wp_seq (wp_region_lit (Wi H rfl (cs:=[.int .i64 a0.Kind,.int .i64 a0.Size,.int .i64 a0.Depth,.int .i64 a0.Refresh]) rfl rfl ?_))
  clear H;intro aI bH hN aV hs;clear a;intro a H
  replace hS:=hS.newBlk hN aV hs;clear hN hs
  refine n_q H (Zb rfl) rfl ?_;clear H a;intro a H
  refine Ze (Za (wp_seq (wp_region_lit (n_q H (Zb rfl) rfl (W_q (Zb rfl) rfl ?_)))));clear H a;intro a H
  refine Ze (Za ?_)
  replace hm:=Zj hm;obtain⟨bI,hm,aM⟩:=hm
  refine Gw (σ:=Nat) H (fun aA=>[(1,.pointer (some ⟨aI,0,none⟩)),(3,.int .i64 ((aA : Nat) : Int)),(4,.int .i64 0)]) (fun aA wl=>(Vj a0) aA=some r ∧ St NB w wl [blkR aI [.int .i64 a0.Kind,.int .i64 a0.Size,.int .i64 a0.Depth,.int .i64 a0.Refresh] 118]) ?_ ?_
  · skip
    refine wp_seq (wp_region_lit (n_q H (Zf rfl ((hS.blk 0 rfl).ldAll Za8 Wp)) rfl ?_));clear H a;intro a H
    replace hm:=Zj hm;obtain⟨bC,aR,hm⟩:=hm
    refine Zi H rfl en240 (Zd9 (A:=A) aR) rfl ?_
    clear H;intro bD bE hv;clear a;intro a H;obtain⟨rfl,aS⟩:=hv
    replace hS:=hS.ext aS
    refine Ze (Za (Zl H rfl (fun aJ=>?_) (fun aJ=>?_)))
    · replace hm:=Zu hm aJ
      refine wp_region_lit (n_q H (Zb rfl) rfl ?_);clear H a;intro a H
      refine Ze (Za ?_)
      obtain rfl:=Option.some.inj hm;replace hm:=aM;try dsimp only at hm
      exact Wb 8 H ⟨rfl,rfl,rfl,trivial⟩ ⟨hm,hS⟩
    · replace hm:=Zv hm aJ
      refine wp_skip (Za ?_)
      obtain rfl:=Option.some.inj hm;replace hm:=aM;try dsimp only at hm
      exact Wb 1 H ⟨rfl,rfl,rfl,trivial⟩ ⟨hm,hS⟩
  · clear H hS hm a;intro aA a bF H hR
    simp only [ent,List.map_cons,List.map_nil] at H;(try dsimp only at hR);obtain⟨hm,hS⟩:=hR;try dsimp only [Vj] at hm
    replace hm:=Zj hm;obtain⟨bG,hm,aL⟩:=hm
    refine Gw (σ:=Nat) H (fun aC=>[(1,.pointer (some ⟨aI,0,none⟩)),(3,.int .i64 ((aA : Nat) : Int)),(4,.int .i64 ((aC : Nat) : Int))]) (fun aC wl=>(Vi a0 aA) aC=some r ∧ St NB w wl [blkR aI [.int .i64 a0.Kind,.int .i64 a0.Size,.int .i64 a0.Depth,.int .i64 a0.Refresh] 118]) ?_ ?_
    · skip
      refine wp_seq (wp_region_lit (n_q H (Zd rfl Gl) rfl (W_q (Zf rfl ((hS.blk 0 rfl).ld ag3 rfl)) rfl (W_q (Um rfl rfl) rfl ?_))));clear H a;intro a H
      refine Ze (Za (Zl H rfl (fun aE=>?_) (fun aE=>?_)))
      · replace hm:=Zu hm aE
        refine wp_region_lit (n_q H (Zb rfl) rfl ?_);clear H a;intro a H
        refine Ze (Za ?_)
        obtain rfl:=Option.some.inj hm;replace hm:=aL;try dsimp only at hm
        exact Wb 255 H ⟨rfl,rfl,rfl,trivial⟩ ⟨hm,hS⟩
      · replace hm:=Zv hm aE
        refine wp_skip (Za ?_)
        obtain rfl:=Option.some.inj hm;replace hm:=aL;try dsimp only at hm
        exact Wb 0 H ⟨rfl,rfl,rfl,trivial⟩ ⟨hm,hS⟩
    · clear H hS hm a;intro aC a aW H hR
      simp only [ent,List.map_cons,List.map_nil] at H;(try dsimp only at hR);obtain⟨hm,hS⟩:=hR;try dsimp only [Vi] at hm
      refine wp_seq (wp_block ?_)
      replace hm:=Zj hm;obtain⟨aX,hm,aK⟩:=hm
      refine Gw (σ:=Bool) H (fun aD=>[(1,.pointer (some ⟨aI,0,none⟩)),(3,.int .i64 ((aA : Nat) : Int)),(4,.int .i64 ((aC : Nat) : Int)),(10,.bool aD)]) (fun aD wl=>(Vh a0 aA aC) aD=some r ∧ St NB w wl [blkR aI [.int .i64 a0.Kind,.int .i64 a0.Size,.int .i64 a0.Depth,.int .i64 a0.Refresh] 118]) ?_ ?_
      · skip
        refine wp_region_lit (n_q H (Zf rfl ((hS.blk 0 rfl).ldAll Za8 Wp)) rfl ?_);clear H a;intro a H
        replace hm:=Zj hm;obtain⟨aT,aN,hm⟩:=hm
        refine Zi H rfl en241 (Zgq (A:=A) aN) rfl ?_
        clear H;intro aY aZ hv;clear a;intro a H;obtain⟨rfl,aO⟩:=hv
        replace hS:=hS.ext aO
        refine n_q H (Zhe rfl) rfl (W_q (Zc rfl) rfl ?_);clear H a;intro a H
        rcases Bool.eq_false_or_eq_true (!aT) with aB|aB
        · replace H:=H.know 14 rfl aB
          replace hm:=Zu hm aB
          refine Vg H rfl rfl (n_q H (Zf rfl ((hS.blk 0 rfl).ldAll Za8 Wp)) rfl (Qw rfl rfl ?_));clear H a;intro a H
          replace hm:=Zj hm;obtain⟨aU,aP,hm⟩:=hm
          refine Zi H rfl en242 (Zbz (A:=A) aP) rfl ?_
          clear H;intro a9 bA hv;clear a;intro a H;obtain⟨rfl,aQ⟩:=hv
          replace hS:=hS.ext aQ
          refine Vg H rfl rfl (n_q H (Zhe rfl) rfl (W_q (Zx rfl rfl) rfl (W_q (Zb rfl) rfl ?_)));clear H a;intro a H
          refine Ze (Za ?_)
          obtain rfl:=Option.some.inj hm;replace hm:=aK;try dsimp only at hm
          exact Wb (!aU) H ⟨rfl,rfl,rfl,rfl,trivial⟩ ⟨hm,hS⟩
        · replace H:=H.know 14 rfl aB
          replace hm:=Zv hm aB
          refine Ts H rfl rfl (by decide) rfl (Qc rfl rfl (by decide) rfl (Qc rfl rfl (by decide) rfl (W_q (Xj rfl rfl) rfl (W_q (Zb rfl) rfl ?_))));clear H a;intro a H
          refine Ze (Za ?_)
          obtain rfl:=Option.some.inj hm;replace hm:=aK;try dsimp only at hm
          exact Wb false H ⟨rfl,rfl,rfl,rfl,trivial⟩ ⟨hm,hS⟩
      · clear H hS hm a;intro aD a bB H hR
        simp only [ent,List.map_cons,List.map_nil] at H;(try dsimp only at hR);obtain⟨hm,hS⟩:=hR;try dsimp only [Vh] at hm
        refine Zl H rfl (fun aF=>?_) (fun aF=>?_)
        · replace hm:=Zu hm aF
          refine wp_seq (wp_region_lit (n_q H (Zf rfl ((hG.ext hS.x).ld Zgi (by decide) Ub)) rfl (W_q (Zb rfl) rfl ?_)));clear H a;intro a H
          refine Ze (Za (wp_ret (Zm (Zg ?_))))
          obtain rfl:=Option.some.inj hm
          replace hS:=hS.dVar (A:=A) (g:=Zgi) (by decide)
          replace hS:=hS.tk1
          refine Xx H (.inr rfl) rfl rfl ?_
          exact⟨_,rfl,hS⟩
        · replace hm:=Zv hm aF
          refine wp_seq (wp_region_lit (n_c H (fun HC=>?_)));clear H
          refine Hx HC (Zd rfl Za9) rfl (by kernel_rfl) (V_q (Zf rfl ((hS.blk 0 rfl).ld ag3 rfl)) rfl (by kernel_rfl) (V_q (Ue rfl rfl) rfl (by kernel_rfl) (V_q (Zc rfl) rfl (by kernel_rfl) (V_g (Zd rfl Za9) (by kernel_rfl) (by kernel_rfl) (by kernel_rfl) (V_g (Zf rfl ((hS.blk 0 rfl).ld ag3 rfl)) (by kernel_rfl) (by kernel_rfl) (by kernel_rfl) (V_g (Gv rfl rfl) (by kernel_rfl) (by kernel_rfl) (by kernel_rfl) (Zdd (j:=3) rfl rfl rfl (by kernel_rfl) (by kernel_rfl) (V_q (Zb rfl) rfl (by kernel_rfl) ?_))))))));clear HC a;intro a HC
          have H:=HC.has;clear HC
          refine Ze (Za (Zl H rfl (fun aG=>?_) (fun aG=>?_)))
          · replace hm:=Zu hm aG
            refine wp_seq (wp_region_lit (n_q H (Zf rfl ((hG.ext hS.x).ld Hk (by decide) Ub)) rfl (W_q (Zb rfl) rfl ?_)));clear H a;intro a H
            refine Ze (Za (wp_ret (Zm (Zg ?_))))
            obtain rfl:=Option.some.inj hm
            replace hS:=hS.dVar (A:=A) (g:=Hk) (by decide)
            replace hS:=hS.tk1
            refine Xx H (.inr rfl) rfl rfl ?_
            exact⟨_,rfl,hS⟩
          · replace hm:=Zv hm aG
            refine wp_seq (wp_region_lit (n_c H (fun HC=>?_)));clear H
            refine Hx HC (Zd rfl Zba) rfl (by kernel_rfl) (V_q (Zf rfl ((hS.blk 0 rfl).ld ag3 rfl)) rfl (by kernel_rfl) (V_q (Ue rfl rfl) rfl (by kernel_rfl) (V_q (Zc rfl) rfl (by kernel_rfl) (V_g (Zd rfl Zba) (by kernel_rfl) (by kernel_rfl) (by kernel_rfl) (V_g (Zf rfl ((hS.blk 0 rfl).ld ag3 rfl)) (by kernel_rfl) (by kernel_rfl) (by kernel_rfl) (V_g (Zc rfl) (by kernel_rfl) (by kernel_rfl) (by kernel_rfl) (V_g (Gv rfl rfl) (by kernel_rfl) (by kernel_rfl) (by kernel_rfl) (Zdd (j:=3) rfl rfl rfl (by kernel_rfl) (by kernel_rfl) (V_q (Zc rfl) rfl (by kernel_rfl) (V_g (Zd rfl Zdl) (by kernel_rfl) (by kernel_rfl) (by kernel_rfl) (V_g (Zf rfl ((hS.blk 0 rfl).ld ag3 rfl)) (by kernel_rfl) (by kernel_rfl) (by kernel_rfl) ?_)))))))))));clear HC a;intro a HC
            refine Zde HC (Ue rfl rfl) (by kernel_rfl) (by kernel_rfl) (by kernel_rfl) (Zdd (j:=9) rfl rfl rfl (by kernel_rfl) (by kernel_rfl) (V_q (Zc rfl) rfl (by kernel_rfl) (V_g (Zd rfl Zdl) (by kernel_rfl) (by kernel_rfl) (by kernel_rfl) (V_g (Zf rfl ((hS.blk 0 rfl).ld ag3 rfl)) (by kernel_rfl) (by kernel_rfl) (by kernel_rfl) (V_g (Zc rfl) (by kernel_rfl) (by kernel_rfl) (by kernel_rfl) (V_g (Gv rfl rfl) (by kernel_rfl) (by kernel_rfl) (by kernel_rfl) (Zdd (j:=14) rfl rfl rfl (by kernel_rfl) (by kernel_rfl) (V_q (Zb rfl) rfl (by kernel_rfl) ?_))))))));clear HC a;intro a HC
            have H:=HC.has;clear HC
            refine Ze (Za (Zl H rfl (fun aH=>?_) (fun aH=>?_)))
            · replace hm:=Zu hm aH
              refine wp_seq (wp_region_lit (n_q H (Zf rfl ((hG.ext hS.x).ld Jg (by decide) Ub)) rfl (W_q (Zb rfl) rfl ?_)));clear H a;intro a H
              refine Ze (Za (wp_ret (Zm (Zg ?_))))
              obtain rfl:=Option.some.inj hm
              replace hS:=hS.dVar (A:=A) (g:=Jg) (by decide)
              replace hS:=hS.tk1
              refine Xx H (.inr rfl) rfl rfl ?_
              exact⟨_,rfl,hS⟩
            · replace hm:=Zv hm aH
              refine wp_skip (Zo (Za (wp_seq (wp_region_lit (n_q H (Zb rfl) rfl ?_)))));clear H a;intro a H
              refine Ze (Za (wp_ret ?_))
              obtain rfl:=Option.some.inj hm
              replace hS:=hS.dNil (A:=A)
              replace hS:=hS.tk1
              refine Xx H (.inr rfl) rfl rfl ?_
              exact⟨_,rfl,hS⟩
theorem Zgr {w : World} {A : Nat → Addr} {a0 : GPortPlan} (hG : EV A w) {r : Int × ErrM} (hm : Ta a0=some r) :
    Calls Tryz.prog 228 [.agg (Zs a0).toArray].toArray w (Ret fun u w'=>∃ h_0,u=.tuple #[.int .i64 r.1,h_0] ∧ St NB w w' [erQ A h_0 r.2]):=by
  have hS:=St.begin NB w
  unfold Ta at hm
  refine enter Tryz.func228 rfl rfl rfl ?_;intro a H;dsimp only [Qn,Nat.zero_add,Nat.reduceAdd] at H
  refine wp_seq (wp_region_lit (Wi H rfl (cs:=[.int .i64 a0.Kind,.int .i64 a0.Size,.int .i64 a0.Depth,.int .i64 a0.Refresh]) rfl rfl ?_))
  clear H;intro aL aM hN aF hs;clear a;intro a H
  replace hS:=hS.newBlk hN aF hs;clear hN hs
  refine n_q H (Zb rfl) rfl (W_q (Zb rfl) rfl ?_);clear H a;intro a H
  refine Ze (Za (wp_seq (wp_seq (wp_region_lit (n_q H (Zf rfl ((hS.blk 0 rfl).ldAll Za8 Wp)) rfl ?_)))));clear H a;intro a H
  replace hm:=Zj hm;obtain⟨aC,aG,hm⟩:=hm
  refine Zi H rfl en199 (Tu (A:=A) (hG.ext hS.x) aG) rfl ?_
  clear H;intro aD aE hv;clear a;intro a H;obtain⟨_,rfl,aH⟩:=hv
  replace hS:=hS.new aH;simp only [List.cons_append,List.nil_append] at hS
  refine n_q H (Qq (Jh Tryz.underlying39 rfl rfl (hS.any 0 rfl : IsE A aE aD aC).form) (show _=Value.bool (!decide (aC=.nil)) by rw [Xb.isNil (hS.any 0 rfl : IsE A aE aD aC)])) rfl ?_;clear H a;intro a H
  refine Ze (Za (Zl H rfl (fun aA=>?_) (fun aA=>?_)))
  · replace hm:=Zu hm aA
    refine wp_seq (Wq (by kernel_rfl) (by kernel_rfl) ?_)
    refine Xg H (Zf rfl ((hG.ext hS.x).ld Gf (by decide) Ub)) rfl ?_;clear H a;intro a H
    refine Xg H (Zb rfl) rfl ?_;clear H a;intro a H
    refine Xg H (Zb rfl) rfl ?_;clear H a;intro a H
    refine Hf ?_;intro aN aI
    replace hS:=hS.ext aI
    refine Za (wp_ret (Zg ?_))
    obtain rfl:=Option.some.inj hm
    replace hS:=hS.dVar (A:=A) (g:=Gf) (by decide)
    replace hS:=hS.tk1
    refine Zbu H (.inr rfl) rfl rfl rfl ?_
    exact⟨_,rfl,hS⟩
  · replace hm:=Zv hm aA
    refine wp_skip (Za (wp_seq (wp_seq (wp_region_lit (n_q H (Zf rfl ((hS.blk 1 rfl).ldAll Za8 Wp)) rfl ?_)))));clear H a;intro a H
    replace hm:=Zj hm;obtain⟨aO,aJ,hm⟩:=hm
    refine Zi H rfl en242 (Zbz (A:=A) aJ) rfl ?_
    clear H;intro aP aQ hv;clear a;intro a H;obtain⟨rfl,aK⟩:=hv
    replace hS:=hS.ext aK
    refine Ze (Za (Zl H rfl (fun aB=>?_) (fun aB=>?_)))
    · replace hm:=Zu hm aB
      refine wp_seq (wp_region_lit (n_q H (Zb rfl) rfl (W_q (Zb rfl) rfl ?_)));clear H a;intro a H
      refine Ze (Za (wp_ret (Zg ?_)))
      obtain rfl:=Option.some.inj hm
      replace hS:=hS.dNil (A:=A)
      replace hS:=hS.tk1
      refine Zbu H (.inr rfl) rfl rfl rfl ?_
      exact⟨_,rfl,hS⟩
    · replace hm:=Zv hm aB
      refine wp_skip (Za (wp_seq (wp_region_lit (n_q H (Zd rfl Zba) rfl (W_q (Zf rfl ((hS.blk 1 rfl).ld ag3 rfl)) rfl (W_q (Zd rfl Za9) rfl (W_q (Zf rfl ((hS.blk 1 rfl).ld ag3 rfl)) rfl (W_q (Ke rfl rfl) rfl (W_q (Zbt rfl rfl) rfl (W_q (Ke rfl rfl) rfl (W_q (Zb rfl) rfl (W_q (Zb rfl) rfl ?_))))))))))));clear H a;intro a H
      refine Ze (Za (wp_ret ?_))
      obtain rfl:=Option.some.inj hm
      replace hS:=hS.dNil (A:=A)
      replace hS:=hS.tk1
      refine Zbu H (.inr rfl) rfl rfl rfl ?_
      exact⟨_,rfl,hS⟩
theorem Zb0 {w : World} {A : Nat → Addr} {cs0 : List Value} {a0 : GPlan} (hG : EV A w) (h0 : Qs w cs0 a0) {r : Int} (hm : Uo a0=some r) :
    Calls Tryz.prog 140 [.agg cs0.toArray].toArray w (Ret fun u w'=>u=.int .i64 r ∧ Ext w w'):=by
  obtain⟨aN,aO,aG,aP,rfl,aJ,aK,aB,aL⟩:=h0
  have hS:=St.begin NB w
  unfold Uo at hm
  refine enter Tryz.func140 rfl rfl rfl ?_;intro a H;dsimp only [Qn,Nat.zero_add,Nat.reduceAdd] at H
  refine wp_seq (wp_region_lit (Wi H rfl (cs:=[.int .i64 a0.Id,.bool a0.Mobile,aN,aO,aG,.int .i64 a0.Events,aP]) rfl rfl ?_))
  clear H;intro bM bN hN aR hs;clear a;intro a H
  replace hS:=hS.newBlk hN aR hs;clear hN hs
  refine n_q H (Zb rfl) rfl ?_;clear H a;intro a H
  refine Ze (Za (wp_seq (wp_region_lit (n_q H (Zd rfl Wx) rfl (W_q (Zf rfl ((hS.blk 0 rfl).ld Zgm rfl)) rfl ?_)))));clear H a;intro a H
  obtain⟨bO,bP,aS,bE,bF⟩:=SlR.formV (aK.ext (Zn.mono _) hS.x)
  refine n_q H (Qe Tryz.underlying23 rfl aS) rfl (W_q (Zbt rfl rfl) rfl (W_q (Ke rfl rfl) rfl (W_q (Zd rfl Vz) rfl (W_q (Zf rfl ((hS.blk 0 rfl).ld Zfb rfl)) rfl ?_))));clear H a;intro a H
  obtain⟨bQ,bR,aT,bG,bH⟩:=SlR.formV (aJ.ext (Zn.mono _) hS.x)
  refine n_q H (Qe Tryz.underlying22 rfl aT) rfl (W_q (Zbt rfl rfl) rfl (W_q (Ke rfl rfl) rfl (W_q (Zd rfl Zbb) rfl (W_q (Zf rfl ((hS.blk 0 rfl).ld ag3 rfl)) rfl (W_q (Ke rfl rfl) rfl (W_q (Zd rfl Gc) rfl (W_q (Zf rfl ((hS.blk 0 rfl).ld Zgn rfl)) rfl ?_)))))));clear H a;intro a H
  obtain⟨bS,bT,aU,bI,bJ⟩:=SlR.formV (aL.ext (Zn.mono _) hS.x)
  refine n_q H (Qe Tryz.underlying25 rfl aU) rfl (W_q (Ke rfl rfl) rfl (W_q (Zb rfl) rfl ?_));clear H a;intro a H
  refine Ze (Za (wp_seq (wp_seq (wp_region_lit (n_q H (Zd rfl Gb) rfl (W_q (Zf rfl ((hS.blk 0 rfl).ld Zhr rfl)) rfl ?_))))));clear H a;intro a H
  obtain⟨bU,bV,aD,bK,bL⟩:=SlR.formV (aB.ext (Zn.mono _) hS.x)
  refine n_q H (Qe Tryz.underlying24 rfl aD) rfl (W_q (Zc rfl) rfl ?_);clear H a;intro a H
  refine Ze (Za (wp_block ?_))
  replace hS:=hS.tk0
  replace hm:=Zj hm;obtain⟨aQ,hm,aV⟩:=hm;replace hm:=Qk hm;obtain⟨a9,hm⟩:=hm
  refine Kn (σ:=Nat × Int × Nat) (fun (m,aC,aA)=>[(3,.int .i64 aC),(26,aG),(27,.int .i64 ((a0.Ports.length : Nat) : Int)),(28,.int .i64 ((aA : Nat) : Int))]) (fun (m,aC,aA) wl=>Kq (Yx a0) m (aC,aA)=some aQ ∧ St NB w wl []) (fun (m,aC,aA)=>m) (a9,(IntKind.i64.wrap ((IntKind.i64.wrap ((IntKind.i64.wrap ((IntKind.i64.wrap (58 + (IntKind.i64.wrap (76 * ((a0.Procs.length : Nat) : Int))))) + (IntKind.i64.wrap (68 * ((a0.Pages.length : Nat) : Int))))) + a0.Events)) + ((a0.Sems.length : Nat) : Int))),0) H ⟨rfl,rfl,rfl,rfl,trivial⟩ ⟨hm,hS⟩ ?_
  clear H hS hm a;intro xx a bW H hR;obtain⟨m,aC,aA⟩:=xx;simp only [ent,List.map_cons,List.map_nil] at H;(try dsimp only at hR);obtain⟨hm,hS⟩:=hR
  replace hm:=Qi hm;obtain⟨bA,bX,rfl,hm,aM⟩:=hm;try dsimp only [Yx] at hm
  refine wp_seq (wp_region_lit (n_q H (Jr (i:=aA) (j:=a0.Ports.length) rfl rfl) rfl ?_));clear H a;intro a H
  refine Ze (Za (wp_seq (Zl H rfl (fun aE=>?_) (fun aE=>?_))))
  · replace hm:=Zu hm aE
    have bC : aA < a0.Ports.length:=of_decide_eq_true aE
    refine wp_skip (Za (wp_seq (wp_block (wp_seq (wp_region_lit ?_)))))
    replace hm:=Zj hm;obtain⟨aH,aF,hm⟩:=hm
    obtain⟨bD,aI⟩:=SlR.adV (aB.ext (Zn.mono _) hS.x) aD aF
    refine n_q H (Vw (i:=aA) Tryz.underlying24 Wp rfl aD aI rfl (Zaz aF)) rfl (W_q (Zf rfl (SlR.ldAggV (aB.ext (Zn.mono _) hS.x) aD aI Za8 Wp aF)) rfl ?_);clear H a;intro a H
    refine Xf H Zer rfl ?_
    clear H;intro bY bZ hN aW hs;clear a;intro a H
    replace hS:=hS.newBlk hN aW hs;clear hN hs
    refine Zr H rfl rfl (vs:=[.int .i64 aH.Kind,.int .i64 aH.Size,.int .i64 aH.Depth,.int .i64 aH.Refresh]) rfl Wp (hS.blk 0 rfl) rfl (by simp) ?_
    clear H;intro b7 hN aX hz;clear a;intro a H;replace hS:=hS.setBlk hN aX;clear hN hz
    refine Ze (Za (wp_seq (wp_region_lit (n_q H (Zf rfl ((hS.blk 0 rfl).ldAll Za8 Wp)) rfl ?_))));clear H a;intro a H
    replace hm:=Zj hm;obtain⟨bB,aY,hm⟩:=hm
    refine Zi H rfl en228 (Zgr (A:=A) (hG.ext hS.x) aY) rfl ?_
    clear H;intro b8 b9 hv;clear a;intro a H;obtain⟨cA,rfl,aZ⟩:=hv
    replace hS:=hS.new aZ;simp only [List.cons_append,List.nil_append] at hS
    refine n_q H (Zc rfl) rfl (W_q (Zh rfl rfl) rfl (W_q (Zh rfl rfl) rfl (W_q (Zb rfl) rfl (W_q (Zb rfl) rfl ?_))));clear H a;intro a H
    refine Ze (Za (wp_region_lit (n_q H (Zc rfl) rfl (W_q (Zc rfl) rfl (W_q (Ke rfl rfl) rfl (W_q (Ke rfl rfl) rfl (W_q (Zb rfl) rfl ?_)))))));clear H a;intro a H
    refine Ze (Zo (Za (wp_region_lit (n_q H (Yn (i:=aA) (j:=1) rfl rfl (by omega)) rfl (W_q (Zc rfl) rfl ?_)))));clear H a;intro a H
    refine Ze (Za ?_)
    obtain rfl:=Option.some.inj hm
    replace hS:=hS.tk0
    exact Wv (bA,(IntKind.i64.wrap (aC + (IntKind.i64.wrap (3 + bB.1)))),aA + 1) H ⟨rfl,rfl,rfl,rfl,trivial⟩ ⟨aM,hS⟩ (Nat.lt_succ_self _)
  · replace hm:=Zv hm aE
    refine wp_exit (Zq (Zq (Qg ?_)))
    obtain rfl:=Option.some.inj hm;have hz : _=aQ:=aM;subst hz;replace hm:=aV;try dsimp only at hm
    refine Za (wp_seq (wp_region_lit (n_q H (Zc rfl) rfl (W_q (Zb rfl) rfl ?_))));clear H a;intro a H
    refine Ze (Za (wp_ret ?_))
    obtain rfl:=Option.some.inj hm
    refine Xx H (.inr rfl) rfl rfl ?_
    exact⟨rfl,hS.x⟩
theorem Zcv {w : World} {A : Nat → Addr} {cs0 : List Value} {a0 : GPlan} (hG : EV A w) (h0 : Qs w cs0 a0) {r : ErrM} (hm : Vo a0=some r) :
    Calls Tryz.prog 130 [.agg cs0.toArray].toArray w (Ret fun u w'=>∃ h_0,u=h_0 ∧ St NB w w' [erQ A h_0 r]):=by
  obtain⟨aG,aH,aC,aD,rfl,bA,bB,aE,aF⟩:=h0
  have hS:=St.begin NB w
  unfold Vo at hm
  refine enter Tryz.func130 rfl rfl rfl ?_;intro a H;dsimp only [Qn,Nat.zero_add,Nat.reduceAdd] at H
  refine wp_seq (wp_region_lit (Wi H rfl (cs:=[.int .i64 a0.Id,.bool a0.Mobile,aG,aH,aC,.int .i64 a0.Events,aD]) rfl rfl ?_))
  clear H;intro aW cD hN bI hs;clear a;intro a H
  replace hS:=hS.newBlk hN bI hs;clear hN hs
  refine n_q H (Zb rfl) rfl ?_;clear H a;intro a H
  refine Ze (Za (wp_seq (wp_seq (wp_region_lit (n_q H (Zd rfl Gb) rfl (W_q (Zf rfl ((hS.blk 0 rfl).ld Zhr rfl)) rfl ?_))))));clear H a;intro a H
  obtain⟨cF,cG,aI,b9,cA⟩:=SlR.formV (aE.ext (Zn.mono _) hS.x)
  refine n_q H (Qe Tryz.underlying24 rfl aI) rfl (W_q (Za6 (i:=a0.Ports.length) (j:=8) rfl rfl) rfl ?_);clear H a;intro a H
  refine Ze (Za (Zl H rfl (fun aM=>?_) (fun aM=>?_)))
  · replace hm:=Zu hm aM
    refine wp_seq (wp_region_lit (n_q H (Zf rfl ((hG.ext hS.x).ld Hk (by decide) Ub)) rfl (W_q (Zb rfl) rfl ?_)));clear H a;intro a H
    refine Ze (Za (wp_ret (Zg ?_)))
    obtain rfl:=Option.some.inj hm
    replace hS:=hS.dVar (A:=A) (g:=Hk) (by decide)
    replace hS:=hS.tk1
    refine Xx H (.inr rfl) rfl rfl ?_
    exact⟨_,rfl,hS⟩
  · replace hm:=Zv hm aM
    refine wp_skip (Za (wp_seq (wp_seq (wp_region_lit (n_q H (Zd rfl Gb) rfl (W_q (Zf rfl ((hS.blk 0 rfl).ld Zhr rfl)) rfl (W_q (Qe Tryz.underlying24 rfl aI) rfl (W_q (Zc rfl) rfl ?_))))))));clear H a;intro a H
    refine Ze (Za (wp_block ?_))
    replace hm:=Zj hm;obtain⟨bC,hm,bD⟩:=hm;replace hm:=Qk hm;obtain⟨bT,hm⟩:=hm
    refine Kn (σ:=Nat × Nat) (fun (m,aA)=>[(1,.pointer (some ⟨aW,0,none⟩)),(14,aC),(15,.int .i64 ((a0.Ports.length : Nat) : Int)),(16,.int .i64 ((aA : Nat) : Int))]) (fun (m,aA) wl=>Kq (Jk a0) m aA=some bC ∧ St NB w wl [blkR aW [.int .i64 a0.Id,.bool a0.Mobile,aG,aH,aC,.int .i64 a0.Events,aD] 27]) (fun (m,aA)=>m) (bT,0) H ⟨rfl,rfl,rfl,rfl,trivial⟩ ⟨hm,hS⟩ ?_
    clear H hS hm a;intro xx a cH H hR;obtain⟨m,aA⟩:=xx;simp only [ent,List.map_cons,List.map_nil] at H;(try dsimp only at hR);obtain⟨hm,hS⟩:=hR
    replace hm:=Qi hm;obtain⟨bU,cI,rfl,hm,aN⟩:=hm;try dsimp only [Jk] at hm
    refine wp_seq (wp_region_lit (n_q H (Jr (i:=aA) (j:=a0.Ports.length) rfl rfl) rfl ?_));clear H a;intro a H
    refine Ze (Za (wp_seq (Zl H rfl (fun aK=>?_) (fun aK=>?_))))
    · replace hm:=Zu hm aK
      have bY : aA < a0.Ports.length:=of_decide_eq_true aK
      refine wp_skip (Za (wp_seq (wp_block (wp_seq (wp_region_lit (n_q H (Zc rfl) rfl ?_))))));clear H a;intro a H
      replace hm:=Zj hm;obtain⟨aX,aO,hm⟩:=hm
      obtain⟨bZ,aY⟩:=SlR.adV (aE.ext (Zn.mono _) hS.x) aI aO
      refine n_q H (Vw (i:=aA) Tryz.underlying24 Wp rfl aI aY rfl (Zaz aO)) rfl (W_q (Zf rfl (SlR.ldAggV (aE.ext (Zn.mono _) hS.x) aI aY Za8 Wp aO)) rfl ?_);clear H a;intro a H
      refine Xf H Zer rfl ?_
      clear H;intro cJ cK hN bJ hs;clear a;intro a H
      replace hS:=hS.newBlk hN bJ hs;clear hN hs
      refine n_q H (Zb rfl) rfl ?_;clear H a;intro a H
      refine Zr H rfl rfl (vs:=[.int .i64 aX.Kind,.int .i64 aX.Size,.int .i64 aX.Depth,.int .i64 aX.Refresh]) rfl Wp (hS.blk 0 rfl) rfl (by simp) ?_
      clear H;intro cL hN bK hz;clear a;intro a H;replace hS:=hS.setBlk hN bK;clear hN hz
      refine Ze (Za (wp_seq (wp_region_lit (n_q H (Zf rfl ((hS.blk 0 rfl).ldAll Za8 Wp)) rfl ?_))));clear H a;intro a H
      replace hm:=Zj hm;obtain⟨aZ,bL,hm⟩:=hm
      refine Zi H rfl en199 (Tu (A:=A) (hG.ext hS.x) bL) rfl ?_
      clear H;intro bE bF hv;clear a;intro a H;obtain⟨_,rfl,bM⟩:=hv
      replace hS:=hS.new bM;simp only [List.cons_append,List.nil_append] at hS
      refine n_q H (Zb rfl) rfl ?_;clear H a;intro a H
      refine Ze (Za (wp_seq (wp_region_lit (n_q H (Zc rfl) rfl (W_q (Qq (Jh Tryz.underlying39 rfl rfl (hS.any 0 rfl : IsE A bF bE aZ).form) (show _=Value.bool (!decide (aZ=.nil)) by rw [Xb.isNil (hS.any 0 rfl : IsE A bF bE aZ)])) rfl ?_)))));clear H a;intro a H
      refine Ze (Za (Zl H rfl (fun aP=>?_) (fun aP=>?_)))
      · replace hm:=Zu hm aP
        refine wp_seq (wp_region_lit (n_q H (Zc rfl) rfl (W_q (Zc rfl) rfl ?_)));clear H a;intro a H
        replace hm:=Zj hm;obtain⟨cM,bN,hm⟩:=hm
        refine Zi H rfl Zl2 (Tk (A:=A) (hS.any 0 rfl : IsE A bF bE aZ) bN) rfl ?_
        clear H;intro cN cO hv;clear a;intro a H;obtain⟨_,rfl,bO⟩:=hv
        replace hS:=hS.new bO;simp only [List.cons_append,List.nil_append] at hS
        refine n_q H (Zb rfl) rfl ?_;clear H a;intro a H
        refine Ze (Za (wp_ret (Zm (Zg (Zg (Zm (Zg ?_)))))))
        obtain rfl:=Option.some.inj hm;have hz : _=bC:=aN;subst hz;replace hm:=bD;try dsimp only at hm
        obtain rfl:=Option.some.inj hm
        replace hS:=hS.tk1
        refine Xx H (.inr rfl) rfl rfl ?_
        exact⟨_,rfl,hS⟩
      · replace hm:=Zv hm aP
        refine wp_skip (Zo (Za (wp_region_lit (n_q H (Yn (i:=aA) (j:=1) rfl rfl (by omega)) rfl (W_q (Zc rfl) rfl ?_)))));clear H a;intro a H
        refine Ze (Za ?_)
        obtain rfl:=Option.some.inj hm
        replace hS:=hS.pk2
        replace hS:=hS.tk1
        exact Wv (bU,aA + 1) H ⟨rfl,rfl,rfl,rfl,trivial⟩ ⟨aN,hS⟩ (Nat.lt_succ_self _)
    · replace hm:=Zv hm aK
      refine wp_exit (Zq (Zq (Qg ?_)))
      obtain rfl:=Option.some.inj hm;have hz : _=bC:=aN;subst hz;replace hm:=bD;try dsimp only at hm
      refine Za (wp_seq (wp_seq (wp_region_lit (n_c H (fun HC=>?_)))));clear H
      refine Hx HC (Zd rfl Zbb) rfl (by kernel_rfl) (V_q (Zf rfl ((hS.blk 0 rfl).ld ag3 rfl)) rfl (by kernel_rfl) (V_q (Ue rfl rfl) rfl (by kernel_rfl) (V_q (Zc rfl) rfl (by kernel_rfl) (V_g (Zd rfl Zbb) (by kernel_rfl) (by kernel_rfl) (by kernel_rfl) (V_g (Zf rfl ((hS.blk 0 rfl).ld ag3 rfl)) (by kernel_rfl) (by kernel_rfl) (by kernel_rfl) (V_g (Gv rfl rfl) (by kernel_rfl) (by kernel_rfl) (by kernel_rfl) (Zdd (j:=3) rfl rfl rfl (by kernel_rfl) (by kernel_rfl) ?_)))))));clear HC a;intro a HC
      have H:=HC.has;clear HC
      refine Ze (Za (Zl H rfl (fun aQ=>?_) (fun aQ=>?_)))
      · replace hm:=Zu hm aQ
        refine wp_seq (wp_region_lit (n_q H (Zf rfl ((hG.ext hS.x).ld Jg (by decide) Ub)) rfl (W_q (Zb rfl) rfl ?_)));clear H a;intro a H
        refine Ze (Za (wp_ret (Zg ?_)))
        obtain rfl:=Option.some.inj hm
        replace hS:=hS.dVar (A:=A) (g:=Jg) (by decide)
        replace hS:=hS.tk1
        refine Xx H (.inr rfl) rfl rfl ?_
        exact⟨_,rfl,hS⟩
      · replace hm:=Zv hm aQ
        refine wp_skip (Za (wp_seq (wp_seq (wp_region_lit (n_q H (Zd rfl Gc) rfl (W_q (Zf rfl ((hS.blk 0 rfl).ld Zgn rfl)) rfl ?_))))));clear H a;intro a H
        obtain⟨cP,cQ,aJ,cB,cC⟩:=SlR.formV (aF.ext (Zn.mono _) hS.x)
        refine n_q H (Qe Tryz.underlying25 rfl aJ) rfl (W_q (Za6 (i:=a0.Sems.length) (j:=8) rfl rfl) rfl ?_);clear H a;intro a H
        refine Ze (Za (Zl H rfl (fun aR=>?_) (fun aR=>?_)))
        · replace hm:=Zu hm aR
          refine wp_seq (wp_region_lit (n_q H (Zf rfl ((hG.ext hS.x).ld Hk (by decide) Ub)) rfl (W_q (Zb rfl) rfl ?_)));clear H a;intro a H
          refine Ze (Za (wp_ret (Zg ?_)))
          obtain rfl:=Option.some.inj hm
          replace hS:=hS.dVar (A:=A) (g:=Hk) (by decide)
          replace hS:=hS.tk1
          refine Xx H (.inr rfl) rfl rfl ?_
          exact⟨_,rfl,hS⟩
        · replace hm:=Zv hm aR
          refine wp_skip (Za (wp_seq (wp_seq (wp_region_lit (n_q H (Zd rfl Gc) rfl (W_q (Zf rfl ((hS.blk 0 rfl).ld Zgn rfl)) rfl (W_q (Qe Tryz.underlying25 rfl aJ) rfl (W_q (Zc rfl) rfl ?_))))))));clear H a;intro a H
          refine Ze (Za (wp_block ?_))
          replace hm:=Zj hm;obtain⟨bG,hm,bH⟩:=hm;replace hm:=Qk hm;obtain⟨bV,hm⟩:=hm
          refine Kn (σ:=Nat × Nat) (fun (m,aB)=>[(1,.pointer (some ⟨aW,0,none⟩)),(44,aD),(45,.int .i64 ((a0.Sems.length : Nat) : Int)),(46,.int .i64 ((aB : Nat) : Int))]) (fun (m,aB) wl=>Kq (Jj a0) m aB=some bG ∧ St NB w wl [blkR aW [.int .i64 a0.Id,.bool a0.Mobile,aG,aH,aC,.int .i64 a0.Events,aD] 27]) (fun (m,aB)=>m) (bV,0) H ⟨rfl,rfl,rfl,rfl,trivial⟩ ⟨hm,hS⟩ ?_
          clear H hS hm a;intro xx a bW H hR;obtain⟨m,aB⟩:=xx;simp only [ent,List.map_cons,List.map_nil] at H;(try dsimp only at hR);obtain⟨hm,hS⟩:=hR
          replace hm:=Qi hm;obtain⟨bX,cR,rfl,hm,aS⟩:=hm;try dsimp only [Jj] at hm
          refine wp_seq (wp_region_lit (n_q H (Jr (i:=aB) (j:=a0.Sems.length) rfl rfl) rfl ?_));clear H a;intro a H
          refine Ze (Za (wp_seq (Zl H rfl (fun aL=>?_) (fun aL=>?_))))
          · replace hm:=Zu hm aL
            have b7 : aB < a0.Sems.length:=of_decide_eq_true aL
            refine wp_skip (Za (wp_seq (wp_block (wp_seq (wp_region_lit (n_q H (Zc rfl) rfl ?_))))));clear H a;intro a H
            replace hm:=Zj hm;obtain⟨cT,aT,hm⟩:=hm
            obtain⟨b8,a9⟩:=SlR.adV (aF.ext (Zn.mono _) hS.x) aJ aT
            refine n_q H (Vw (i:=aB) Tryz.underlying25 sz3 rfl aJ a9 rfl (Zaz aT)) rfl (W_q (Zf rfl (SlR.ldOneV (aF.ext (Zn.mono _) hS.x) aJ a9 ag3 aT rfl)) rfl (W_q (Zb rfl) rfl (W_q (Zb rfl) rfl ?_)));clear H a;intro a H
            refine Ze (Za (wp_seq (wp_region_lit (n_c H (fun HC=>?_)))));clear H
            refine Hx HC (Zc rfl) rfl (by kernel_rfl) (V_q (Ue rfl rfl) rfl (by kernel_rfl) (V_q (Zc rfl) rfl (by kernel_rfl) (V_g (Zc rfl) (by kernel_rfl) (by kernel_rfl) (by kernel_rfl) (V_g (Gv rfl rfl) (by kernel_rfl) (by kernel_rfl) (by kernel_rfl) (Zdd (j:=2) rfl rfl rfl (by kernel_rfl) (by kernel_rfl) ?_)))));clear HC a;intro a HC
            have H:=HC.has;clear HC
            refine Ze (Za (Zl H rfl (fun aU=>?_) (fun aU=>?_)))
            · replace hm:=Zu hm aU
              refine wp_seq (wp_region_lit (n_q H (Zc rfl) rfl (W_q (Zf rfl ((hG.ext hS.x).ld Jg (by decide) Ub)) rfl ?_)));clear H a;intro a H
              replace hm:=Zj hm;obtain⟨cU,bP,hm⟩:=hm
              refine Zi H rfl Zl2 (Tk (A:=A) (Xb.var (by decide) : IsE A bW _ (.v Jg)) bP) rfl ?_
              clear H;intro u64 cV hv;clear a;intro a H;obtain⟨_,rfl,bQ⟩:=hv
              replace hS:=hS.new bQ;simp only [List.cons_append,List.nil_append] at hS
              refine n_q H (Zb rfl) rfl ?_;clear H a;intro a H
              refine Ze (Za (wp_ret (Zm (Zg (Zg (Zm (Zg ?_)))))))
              obtain rfl:=Option.some.inj hm;have hz : _=bG:=aS;subst hz;replace hm:=bH;try dsimp only at hm
              obtain rfl:=Option.some.inj hm
              replace hS:=hS.tk1
              refine Xx H (.inr rfl) rfl rfl ?_
              exact⟨_,rfl,hS⟩
            · replace hm:=Zv hm aU
              refine wp_skip (Zo (Za (wp_region_lit (n_q H (Yn (i:=aB) (j:=1) rfl rfl (by omega)) rfl (W_q (Zc rfl) rfl ?_)))));clear H a;intro a H
              refine Ze (Za ?_)
              obtain rfl:=Option.some.inj hm
              exact Wv (bX,aB + 1) H ⟨rfl,rfl,rfl,rfl,trivial⟩ ⟨aS,hS⟩ (Nat.lt_succ_self _)
          · replace hm:=Zv hm aL
            refine wp_exit (Zq (Zq (Qg ?_)))
            obtain rfl:=Option.some.inj hm;have hz : _=bG:=aS;subst hz;replace hm:=bH;try dsimp only at hm
            refine Za (wp_seq (wp_seq (wp_region_lit (n_q H (Zf rfl ((hS.blk 0 rfl).ldAll Zam Gh)) rfl ?_))));clear H a;intro a H
            replace hm:=Zj hm;obtain⟨cW,bR,hm⟩:=hm
            refine Zi H rfl en140 (Zb0 (A:=A) (hG.ext hS.x) (⟨_,_,_,_,rfl,(bA.ext (Zn.mono _) hS.x),(bB.ext (Zn.mono _) hS.x),(aE.ext (Zn.mono _) hS.x),(aF.ext (Zn.mono _) hS.x)⟩ : Qs _ [.int .i64 a0.Id,.bool a0.Mobile,aG,aH,aC,.int .i64 a0.Events,aD] a0) bR) rfl ?_
            clear H;intro cX cY hv;clear a;intro a H;obtain⟨rfl,bS⟩:=hv
            replace hS:=hS.ext bS
            refine n_q H (Gv rfl rfl) rfl ?_;clear H a;intro a H
            refine Ze (Za (Zl H rfl (fun aV=>?_) (fun aV=>?_)))
            · replace hm:=Zu hm aV
              refine wp_seq (wp_region_lit (n_q H (Zf rfl ((hG.ext hS.x).ld Hk (by decide) Ub)) rfl (W_q (Zb rfl) rfl ?_)));clear H a;intro a H
              refine Ze (Za (wp_ret (Zg ?_)))
              obtain rfl:=Option.some.inj hm
              replace hS:=hS.dVar (A:=A) (g:=Hk) (by decide)
              replace hS:=hS.tk1
              refine Xx H (.inr rfl) rfl rfl ?_
              exact⟨_,rfl,hS⟩
            · replace hm:=Zv hm aV
              refine wp_skip (Za (wp_seq (wp_region_lit (n_q H (Zb rfl) rfl ?_))));clear H a;intro a H
              refine Ze (Za (wp_ret ?_))
              obtain rfl:=Option.some.inj hm
              replace hS:=hS.dNil (A:=A)
              replace hS:=hS.tk1
              refine Xx H (.inr rfl) rfl rfl ?_
              exact⟨_,rfl,hS⟩
theorem Wy {w : World} {A : Nat → Addr} {cs0 : List Value} {a0 : GPlan} (hG : EV A w) (h0 : Qs w cs0 a0) {r : ErrM} (hm : Js a0=some r) :
    Calls Tryz.prog 57 [.agg cs0.toArray].toArray w (Ret fun u w'=>∃ h_0,u=h_0 ∧ St NB w w' [erQ A h_0 r]):=by
  obtain⟨aA,aB,aC,aD,rfl,aE,aF,aG,aH⟩:=h0
  have hS:=St.begin NB w
  unfold Js at hm
  refine enter Tryz.func57 rfl rfl rfl ?_;intro a H;dsimp only [Qn,Nat.zero_add,Nat.reduceAdd] at H
  refine wp_seq (wp_region_lit (Wi H rfl (cs:=[.int .i64 a0.Id,.bool a0.Mobile,aA,aB,aC,.int .i64 a0.Events,aD]) rfl rfl ?_))
  clear H;intro bD bE hN aW hs;clear a;intro a H
  replace hS:=hS.newBlk hN aW hs;clear hN hs
  refine n_q H (Zb rfl) rfl ?_;clear H a;intro a H
  refine Ze (Za (wp_seq (wp_seq (wp_region_lit (n_c H (fun HC=>?_))))));clear H
  refine Hx HC (Zd rfl Zcu) rfl (by kernel_rfl) (V_q (Zf rfl ((hS.blk 0 rfl).ld ag3 rfl)) rfl (by kernel_rfl) (V_q (Ue rfl rfl) rfl (by kernel_rfl) (V_q (Zc rfl) rfl (by kernel_rfl) (V_g (Zd rfl Zcu) (by kernel_rfl) (by kernel_rfl) (by kernel_rfl) (V_g (Zf rfl ((hS.blk 0 rfl).ld ag3 rfl)) (by kernel_rfl) (by kernel_rfl) (by kernel_rfl) (V_g (Gv rfl rfl) (by kernel_rfl) (by kernel_rfl) (by kernel_rfl) (Zdd (j:=3) rfl rfl rfl (by kernel_rfl) (by kernel_rfl) ?_)))))));clear HC a;intro a HC
  have H:=HC.has;clear HC
  refine Ze (Za (Zl H rfl (fun aI=>?_) (fun aI=>?_)))
  · replace hm:=Zu hm aI
    refine wp_seq (wp_region_lit (n_q H (Zf rfl ((hG.ext hS.x).ld Jg (by decide) Ub)) rfl (W_q (Zb rfl) rfl ?_)));clear H a;intro a H
    refine Ze (Za (wp_ret (Zg ?_)))
    obtain rfl:=Option.some.inj hm
    replace hS:=hS.dVar (A:=A) (g:=Jg) (by decide)
    replace hS:=hS.tk1
    refine Xx H (.inr rfl) rfl rfl ?_
    exact⟨_,rfl,hS⟩
  · replace hm:=Zv hm aI
    refine wp_skip (Za (wp_seq (wp_seq (wp_region_lit (Qf H Tryz.underlying206 Zn1 ze130 rfl rfl rfl (cs:=[.func (.func 128) [].toArray [].toArray,.func (.func 129) [].toArray [].toArray,.func (.func 130) [].toArray [].toArray]) (by kernel_rfl) rfl ?_)))))
    clear H;intro aM bF hN aX hs;clear a;intro a H
    replace hS:=hS.newBlk hN aX hs;clear hN hs
    refine n_q H (Zk9 Tryz.underlying206 rfl) rfl (W_q (Zc rfl) rfl ?_);clear H a;intro a H
    refine Ze (Za (wp_block (wp_loop_rounds 4 ?_)))
    refine Eq.mpr (rounds_succ (n:=3)) ?_
    refine wp_seq (wp_region_lit (n_q H (Qq (Ue rfl rfl) (show _=Value.bool true from rfl)) rfl ?_));clear H a;intro a H
    refine Ze (Za (wp_seq (Zgg H rfl ?_)))
    refine wp_skip (Za (wp_seq (wp_block (wp_seq (wp_region_lit (n_q H (Qq (Hy Tryz.underlying206 Zn1 rfl rfl (by decide) (by decide)) (show _=Value.pointer (some ⟨aM,0,none⟩) by simp [Yf])) rfl (W_q (Zf rfl ((hS.blk 0 rfl).ld Zpu rfl)) rfl (W_q (Zb rfl) rfl ?_))))))));clear H a;intro a H
    refine Ze (Za (wp_seq (wp_region_lit (n_q H (Zc rfl) rfl (W_q (Zf rfl ((hS.blk 1 rfl).ldAll Zam Gh)) rfl ?_)))));clear H a;intro a H
    replace hm:=Zj hm;obtain⟨aN,aY,hm⟩:=hm
    refine Zf9 H rfl rfl en128 (Zb8 (A:=A) (hG.ext hS.x) (⟨_,_,_,_,rfl,(aE.ext (Zn.mono _) hS.x),(aF.ext (Zn.mono _) hS.x),(aG.ext (Zn.mono _) hS.x),(aH.ext (Zn.mono _) hS.x)⟩ : Qs _ [.int .i64 a0.Id,.bool a0.Mobile,aA,aB,aC,.int .i64 a0.Events,aD] a0) aY) rfl ?_
    clear H;intro aQ aR hv;clear a;intro a H;obtain⟨_,rfl,aZ⟩:=hv
    replace hS:=hS.new aZ;simp only [List.cons_append,List.nil_append] at hS
    refine n_q H (Zb rfl) rfl ?_;clear H a;intro a H
    refine Ze (Za (wp_seq (wp_region_lit (n_q H (Zc rfl) rfl (W_q (Qq (Jh Tryz.underlying39 rfl rfl (hS.any 0 rfl : IsE A aR aQ aN).form) (show _=Value.bool (!decide (aN=.nil)) by rw [Xb.isNil (hS.any 0 rfl : IsE A aR aQ aN)])) rfl ?_)))));clear H a;intro a H
    refine Ze (Za (Zl H rfl (fun aJ=>?_) (fun aJ=>?_)))
    · replace hm:=Zu hm aJ
      refine wp_seq (wp_region_lit (n_q H (Zc rfl) rfl (W_q (Zb rfl) rfl ?_)));clear H a;intro a H
      refine Ze (Za (wp_ret (Zm (Zg (Zg (Zm (Zg ?_)))))))
      obtain rfl:=Option.some.inj hm
      replace hS:=hS.tk1
      refine Xx H (.inr rfl) rfl rfl ?_
      exact⟨_,rfl,hS⟩
    · replace hm:=Zv hm aJ
      refine wp_skip (Zo (Za (wp_region_lit (n_q H (Qq (Ke rfl rfl) (show _=Value.int .i64 1 from rfl)) rfl (W_q (Zc rfl) rfl ?_)))));clear H a;intro a H
      refine Ze (Za (Eq.mpr (rounds_succ (n:=2)) ?_))
      refine wp_seq (wp_region_lit (n_q H (Qq (Ue rfl rfl) (show _=Value.bool true from rfl)) rfl ?_));clear H a;intro a H
      refine Ze (Za (wp_seq (Zgg H rfl ?_)))
      refine wp_skip (Za (wp_seq (wp_block (wp_seq (wp_region_lit (n_q H (Qq (Hy Tryz.underlying206 Zn1 rfl rfl (by decide) (by decide)) (show _=Value.pointer (some ⟨aM,1,none⟩) by simp [Yf])) rfl (W_q (Zf rfl ((hS.blk 1 rfl).ld Zpu rfl)) rfl (W_q (Zb rfl) rfl ?_))))))));clear H a;intro a H
      refine Ze (Za (wp_seq (wp_region_lit (n_q H (Zc rfl) rfl (W_q (Zf rfl ((hS.blk 2 rfl).ldAll Zam Gh)) rfl ?_)))));clear H a;intro a H
      replace hm:=Zj hm;obtain⟨aO,a9,hm⟩:=hm
      refine Zf9 H rfl rfl en129 (Zb9 (A:=A) (hG.ext hS.x) (⟨_,_,_,_,rfl,(aE.ext (Zn.mono _) hS.x),(aF.ext (Zn.mono _) hS.x),(aG.ext (Zn.mono _) hS.x),(aH.ext (Zn.mono _) hS.x)⟩ : Qs _ [.int .i64 a0.Id,.bool a0.Mobile,aA,aB,aC,.int .i64 a0.Events,aD] a0) a9) rfl ?_
      clear H;intro aS aT hv;clear a;intro a H;obtain⟨_,rfl,bA⟩:=hv
      replace hS:=hS.new bA;simp only [List.cons_append,List.nil_append] at hS
      refine n_q H (Zb rfl) rfl ?_;clear H a;intro a H
      refine Ze (Za (wp_seq (wp_region_lit (n_q H (Zc rfl) rfl (W_q (Qq (Jh Tryz.underlying39 rfl rfl (hS.any 0 rfl : IsE A aT aS aO).form) (show _=Value.bool (!decide (aO=.nil)) by rw [Xb.isNil (hS.any 0 rfl : IsE A aT aS aO)])) rfl ?_)))));clear H a;intro a H
      refine Ze (Za (Zl H rfl (fun aK=>?_) (fun aK=>?_)))
      · replace hm:=Zu hm aK
        refine wp_seq (wp_region_lit (n_q H (Zc rfl) rfl (W_q (Zb rfl) rfl ?_)));clear H a;intro a H
        refine Ze (Za (wp_ret (Zm (Zg (Zg (Zm (Zg ?_)))))))
        obtain rfl:=Option.some.inj hm
        replace hS:=hS.tk1
        refine Xx H (.inr rfl) rfl rfl ?_
        exact⟨_,rfl,hS⟩
      · replace hm:=Zv hm aK
        refine wp_skip (Zo (Za (wp_region_lit (n_q H (Qq (Ke rfl rfl) (show _=Value.int .i64 2 from rfl)) rfl (W_q (Zc rfl) rfl ?_)))));clear H a;intro a H
        refine Ze (Za (Eq.mpr (rounds_succ (n:=1)) ?_))
        refine wp_seq (wp_region_lit (n_q H (Qq (Ue rfl rfl) (show _=Value.bool true from rfl)) rfl ?_));clear H a;intro a H
        refine Ze (Za (wp_seq (Zgg H rfl ?_)))
        refine wp_skip (Za (wp_seq (wp_block (wp_seq (wp_region_lit (n_q H (Qq (Hy Tryz.underlying206 Zn1 rfl rfl (by decide) (by decide)) (show _=Value.pointer (some ⟨aM,2,none⟩) by simp [Yf])) rfl (W_q (Zf rfl ((hS.blk 2 rfl).ld Zpu rfl)) rfl (W_q (Zb rfl) rfl ?_))))))));clear H a;intro a H
        refine Ze (Za (wp_seq (wp_region_lit (n_q H (Zc rfl) rfl (W_q (Zf rfl ((hS.blk 3 rfl).ldAll Zam Gh)) rfl ?_)))));clear H a;intro a H
        replace hm:=Zj hm;obtain⟨aP,bB,hm⟩:=hm
        refine Zf9 H rfl rfl en130 (Zcv (A:=A) (hG.ext hS.x) (⟨_,_,_,_,rfl,(aE.ext (Zn.mono _) hS.x),(aF.ext (Zn.mono _) hS.x),(aG.ext (Zn.mono _) hS.x),(aH.ext (Zn.mono _) hS.x)⟩ : Qs _ [.int .i64 a0.Id,.bool a0.Mobile,aA,aB,aC,.int .i64 a0.Events,aD] a0) bB) rfl ?_
        clear H;intro aU aV hv;clear a;intro a H;obtain⟨_,rfl,bC⟩:=hv
        replace hS:=hS.new bC;simp only [List.cons_append,List.nil_append] at hS
        refine n_q H (Zb rfl) rfl ?_;clear H a;intro a H
        refine Ze (Za (wp_seq (wp_region_lit (n_q H (Zc rfl) rfl (W_q (Qq (Jh Tryz.underlying39 rfl rfl (hS.any 0 rfl : IsE A aV aU aP).form) (show _=Value.bool (!decide (aP=.nil)) by rw [Xb.isNil (hS.any 0 rfl : IsE A aV aU aP)])) rfl ?_)))));clear H a;intro a H
        refine Ze (Za (Zl H rfl (fun aL=>?_) (fun aL=>?_)))
        · replace hm:=Zu hm aL
          refine wp_seq (wp_region_lit (n_q H (Zc rfl) rfl (W_q (Zb rfl) rfl ?_)));clear H a;intro a H
          refine Ze (Za (wp_ret (Zm (Zg (Zg (Zm (Zg ?_)))))))
          obtain rfl:=Option.some.inj hm
          replace hS:=hS.tk1
          refine Xx H (.inr rfl) rfl rfl ?_
          exact⟨_,rfl,hS⟩
        · replace hm:=Zv hm aL
          refine wp_skip (Zo (Za (wp_region_lit (n_q H (Qq (Ke rfl rfl) (show _=Value.int .i64 3 from rfl)) rfl (W_q (Zc rfl) rfl ?_)))));clear H a;intro a H
          refine Ze (Za (Eq.mpr (rounds_succ (n:=0)) ?_))
          refine wp_seq (wp_region_lit (n_q H (Qq (Ue rfl rfl) (show _=Value.bool false from rfl)) rfl ?_));clear H a;intro a H
          refine Ze (Za (wp_seq (Znt H rfl ?_)))
          refine wp_exit (Zq (Zq (Qg (Za (wp_seq (wp_region_lit (n_q H (Zb rfl) rfl ?_)))))));clear H a;intro a H
          refine Ze (Za (wp_ret ?_))
          obtain rfl:=Option.some.inj hm
          replace hS:=hS.dNil (A:=A)
          replace hS:=hS.tk1
          refine Xx H (.inr rfl) rfl rfl ?_
          exact⟨_,rfl,hS⟩
theorem Gd {w : World} {A : Nat → Addr} {r : GWireWriter} (hm : Je=some r) :
    Calls Tryz.prog 93 [].toArray w (Ret fun u w'=>∃ (h_0 : Nat) (h_1 : Value) (h_2 : Value),u=.pointer (some ⟨h_0,0,none⟩) ∧ St NB w w' [blkR h_0 [h_1,h_2] 244,ownR 5 1 h_1 r.buf_.length (r.buf_.flatMap eB),erQ A h_2 r.err_]):=by
  have hS:=St.begin NB w
  unfold Je at hm
  refine enter Tryz.func93 rfl rfl rfl ?_;intro a H;dsimp only [Qn,Nat.zero_add,Nat.reduceAdd] at H
  refine wp_seq (wp_region_lit (n_q H (Zb rfl) rfl ?_));clear H a;intro a H
  refine Ze (Za (wp_seq (wp_region_lit (n_q H (Qd (cs:=[.slice none 0 0,.nilIface]) ze244 bd244 pl244 rfl (by kernel_rfl)) rfl ?_))));clear H a;intro a H
  refine Wi H rfl (cs:=[.slice none 0 0,.nilIface]) rfl rfl ?_
  clear H;intro aB aC hN aA hs;clear a;intro a H
  replace hS:=hS.newBlk hN aA hs;clear hN hs
  refine n_q H (Zb rfl) rfl ?_;clear H a;intro a H
  refine Ze (Za (wp_ret ?_))
  obtain rfl:=Option.some.inj hm
  replace hS:=hS.nilOwn 5 1
  replace hS:=hS.dNil (A:=A)
  replace hS:=hS.pk1
  replace hS:=hS.pk2
  refine Xx H (.inr rfl) rfl rfl ?_
  exact⟨_,_,_,rfl,hS⟩
theorem We {w : World} {A : Nat → Addr} {v0 : Value} {a0 : List UInt8} (h0 : SlR w 1 (Zn eB) v0 a0) {r : List UInt8} (hm : Qy a0=some r) :
    Calls Tryz.prog 168 [v0].toArray w (Ret fun u w'=>∃ h_0,u=h_0 ∧ St NB w w' [ownR 5 1 h_0 r.length (r.flatMap eB)]):=by
  have hS:=St.begin NB w
  unfold Qy at hm
  refine enter Tryz.func168 rfl rfl rfl ?_;intro a H;dsimp only [Qn,Nat.zero_add,Nat.reduceAdd] at H
  refine wp_seq (wp_region_lit (n_q H (Zb rfl) rfl ?_));clear H a;intro a H
  refine Ze (Za (wp_seq (wp_seq (wp_region_lit (n_q H (Zc rfl) rfl ?_)))));clear H a;intro a H
  obtain⟨aH,aI,aA,aF,aG⟩:=SlR.formV (h0.ext (Zn.mono _) hS.x)
  refine n_q H (Zlt Tryz.underlying100 rfl aA rfl) rfl ?_;clear H a;intro a H
  refine Ze (Za (Zl H rfl (fun aB=>?_) (fun aB=>?_)))
  · obtain rfl:=SlR.nilV (h0.ext (Zn.mono _) hS.x) aA aB;replace hm:=Zbm hm;obtain⟨_,hm⟩:=hm
    refine wp_seq (wp_region_lit (n_q H (Zb rfl) rfl ?_));clear H a;intro a H
    refine Ze (Za (wp_ret (Zg ?_)))
    obtain rfl:=Option.some.inj hm
    replace hS:=hS.nilOwn 5 1
    refine Xx H (.inr rfl) rfl rfl ?_
    exact⟨_,rfl,hS⟩
  · skip
    refine wp_skip (Za (wp_seq (wp_region_lit (Qf H Tryz.underlying100 sz5 ze5 rfl rfl rfl (cs:=[]) rfl rfl ?_))))
    clear H;intro aJ aK hN aC hs;clear a;intro a H
    replace hS:=hS.newBlk hN aC hs;clear hN hs
    replace hS:=hS.blkOwnL (e:=eB) (k:=1) ([] : List UInt8) rfl rfl (by simp [maxLen])
    refine n_q H (Zc rfl) rfl ?_;clear H a;intro a H
    replace hm:=Zbm hm;obtain⟨aD,hm⟩:=hm
    refine Zcr (e:=eB) H rfl rfl Tryz.underlying100 Tryz.underlying100 (by simp) el5 (hS.own 0 rfl) ((h0.ext (Zn.mono _) hS.x).src (fun _ _=>rfl)) Zhj aD (by simp only [maxLen];omega) rfl ?_
    clear H;intro aL aM hN aE hb;clear a;intro a H;replace hS:=hS.setOwn hN aE hb;clear hN hb
    refine n_q H (Zb rfl) rfl ?_;clear H a;intro a H
    refine Ze (Za (wp_ret ?_))
    obtain rfl:=Option.some.inj hm
    refine Xx H (.inr rfl) rfl rfl ?_
    exact⟨_,rfl,hS⟩
theorem Wr {w : World} {A : Nat → Addr} {fp : Nat → Prop} {b0 : Nat} {v0_0 : Value} {v0_1 : Value} {a0 : GWireWriter} (hP : Sep w fp [blkR b0 [v0_0,v0_1] 244,ownR 5 1 v0_0 a0.buf_.length (a0.buf_.flatMap eB),erQ A v0_1 a0.err_]) {r : List UInt8 × ErrM × GWireWriter} (hm : Xy a0=some r) :
    Calls Tryz.prog 92 [.pointer (some ⟨b0,0,none⟩)].toArray w (Ret fun u w'=>∃ h_0 h_1 h_2 h_3,u=.tuple #[h_0,h_1] ∧ St fp w w' [blkR b0 [h_2,h_3] 244,ownR 5 1 h_2 r.2.2.buf_.length (r.2.2.buf_.flatMap eB),ownR 5 1 h_0 r.1.length (r.1.flatMap eB),erQ A h_1 r.2.1]):=by
  have hS:=St.init hP
  unfold Xy at hm
  refine enter Tryz.func92 rfl rfl rfl ?_;intro a H;dsimp only [Qn,Nat.zero_add,Nat.reduceAdd] at H
  refine wp_seq (wp_region_lit (n_q H (Zb rfl) rfl (W_q (Zb rfl) rfl ?_)));clear H a;intro a H
  refine Ze (Za (wp_seq (wp_seq (wp_region_lit (n_q H (Zc rfl) rfl (W_q (Zt rfl) rfl (W_q (Zd rfl Zeq) rfl (W_q (Zf rfl ((hS.blk 0 rfl).ld Ub rfl)) rfl (W_q (Qq (Jh Tryz.underlying39 rfl rfl (hS.any 2 rfl : IsE A w v0_1 a0.err_).form) (show _=Value.bool (!decide (a0.err_=.nil)) by rw [Xb.isNil (hS.any 2 rfl : IsE A w v0_1 a0.err_)])) rfl ?_)))))))));clear H a;intro a H
  refine Ze (Za (Zl H rfl (fun aA=>?_) (fun aA=>?_)))
  · replace hm:=Zu hm aA
    refine wp_seq (Wq (by kernel_rfl) (by kernel_rfl) ?_)
    refine Xg H (Zc rfl) rfl ?_;clear H a;intro a H
    refine Xg H (Zt rfl) rfl ?_;clear H a;intro a H
    refine Xg H (Zd rfl Zeq) rfl ?_;clear H a;intro a H
    refine Xg H (Zf rfl ((hS.blk 0 rfl).ld Ub rfl)) rfl ?_;clear H a;intro a H
    refine Xg H (Zb rfl) rfl ?_;clear H a;intro a H
    refine Xg H (Zb rfl) rfl ?_;clear H a;intro a H
    refine Hf ?_;intro aE aB
    replace hS:=hS.ext aB
    refine Za (wp_ret (Zg ?_))
    obtain rfl:=Option.some.inj hm
    replace hS:=hS.nilOwn 5 1
    replace hS:=hS.pk3
    replace hS:=hS.pk1
    replace hS:=hS.pk3
    replace hS:=hS.pk3
    refine Zbu H (.inr rfl) rfl rfl rfl ?_
    exact⟨_,_,_,_,rfl,hS⟩
  · replace hm:=Zv hm aA
    refine wp_skip (Za (wp_seq (wp_region_lit (n_q H (Zc rfl) rfl (W_q (Zt rfl) rfl (W_q (Zd rfl Zgp) rfl (W_q (Zf rfl ((hS.blk 0 rfl).ld Zho rfl)) rfl ?_)))))));clear H a;intro a H
    replace hm:=Zj hm;obtain⟨aF,aC,hm⟩:=hm
    refine Zi H rfl Zp0 (We (A:=A) ((hS.own 1 rfl).slr rfl (fun _ _=>rfl)) aC) rfl ?_
    clear H;intro aG aH hv;clear a;intro a H;obtain⟨_,rfl,aD⟩:=hv
    replace hS:=hS.new aD;simp only [List.cons_append,List.nil_append] at hS
    refine n_q H (Zb rfl) rfl (W_q (Zb rfl) rfl ?_);clear H a;intro a H
    refine Ze (Za (wp_ret ?_))
    obtain rfl:=Option.some.inj hm
    replace hS:=hS.dNil (A:=A)
    replace hS:=hS.pk1
    replace hS:=hS.pk3
    replace hS:=hS.pk3
    replace hS:=hS.tk4
    refine Zbu H (.inr rfl) rfl rfl rfl ?_
    exact⟨_,_,_,_,rfl,hS⟩
theorem Kx {w : World} {A : Nat → Addr} {fp : Nat → Prop} {b0 : Nat} {v0_0 : Value} {v0_1 : Value} {a0 : GWireWriter} {v1 : Value} {a1 : List UInt8} (hP : Sep w fp [blkR b0 [v0_0,v0_1] 244,ownR 5 1 v0_0 a0.buf_.length (a0.buf_.flatMap eB),erQ A v0_1 a0.err_]) (h1 : ∀ w',ChgP fp w w' → SlR w' 1 (Zn eB) v1 a1) {r : GWireWriter} (hm : Xd a0 a1=some r) :
    Calls Tryz.prog 169 [.pointer (some ⟨b0,0,none⟩),v1].toArray w (Ret fun u w'=>∃ h_0 h_1,u=.tuple #[] ∧ St fp w w' [blkR b0 [h_0,h_1] 244,ownR 5 1 h_0 r.buf_.length (r.buf_.flatMap eB),erQ A h_1 r.err_]):=by
  have hS:=St.init hP
  unfold Xd at hm
  refine enter Tryz.func169 rfl rfl rfl ?_;intro a H;dsimp only [Qn,Nat.zero_add,Nat.reduceAdd] at H
  refine wp_seq (wp_region_lit (n_q H (Zc rfl) rfl (W_q (Zt rfl) rfl (W_q (Zd rfl Zeq) rfl (W_q (Zf rfl ((hS.blk 0 rfl).ld Ub rfl)) rfl (W_q (Qq (Za4 Tryz.underlying39 rfl rfl (hS.any 2 rfl : IsE A w v0_1 a0.err_).form) (show _=Value.bool (decide (a0.err_=.nil)) by rw [Xb.isNil (hS.any 2 rfl : IsE A w v0_1 a0.err_)])) rfl ?_))))));clear H a;intro a H
  refine Ze (Za (Zl H rfl (fun aA=>?_) (fun aA=>?_)))
  · replace hm:=Zu hm aA
    refine wp_region_lit (n_q H (Zc rfl) rfl (W_q (Zc rfl) rfl (W_q (Zt rfl) rfl (W_q (Zd rfl Zgp) rfl (W_q (Zf rfl ((hS.blk 0 rfl).ld Zho rfl)) rfl (W_q (Zc rfl) rfl ?_))))));clear H a;intro a H
    replace hS:=hS.pk1
    replace hm:=Zbm hm;obtain⟨aB,hm⟩:=hm
    refine Zcr (e:=eB) H rfl rfl Tryz.underlying100 Tryz.underlying100 (by simp) el5 (hS.own 0 rfl) ((h1 _ hS.chg).src (fun _ _=>rfl)) Zhj aB (by simp only [maxLen];omega) rfl ?_
    clear H;intro aE aF hN aC hb;clear a;intro a H;replace hS:=hS.setOwn hN aC hb;clear hN hb
    refine n_q H (Zt rfl) rfl (W_q (Zd rfl Zgp) rfl ?_);clear H a;intro a H
    replace hS:=hS.pk1
    refine Kj H rfl rfl sz100 (hS.blk 0 rfl) (by simp) (((hS.own 1 rfl).slr rfl (fun _ _=>rfl))).one ?_
    clear H;intro aG hN aD hz;clear a;intro a H;replace hS:=hS.setBlk hN aD;clear hN hz
    try simp only [List.set_cons_succ,List.set_cons_zero] at hS
    refine Ze ?_
    obtain rfl:=Option.some.inj hm
    refine Zfc H (.inl rfl) rfl ?_
    exact⟨_,_,rfl,hS⟩
  · replace hm:=Zv hm aA
    refine wp_skip ?_
    obtain rfl:=Option.some.inj hm
    refine Zfc H (.inl rfl) rfl ?_
    exact⟨_,_,rfl,hS⟩
theorem Hn {w : World} {A : Nat → Addr} {a0 : Int} {r : Int} (hm : Jl a0=some r) :
    Calls Tryz.prog 176 [.int .i64 a0].toArray w (Ret fun u w'=>u=.int .i64 r ∧ Ext w w'):=by
  have hS:=St.begin NB w
  unfold Jl at hm
  refine enter Tryz.func176 rfl rfl rfl ?_;intro a H;dsimp only [Qn,Nat.zero_add,Nat.reduceAdd] at H
  refine wp_seq (wp_region_lit (n_q H (Zb rfl) rfl ?_));clear H a;intro a H
  refine Ze (Za (wp_seq (wp_region_lit (n_q H (Zc rfl) rfl (W_q (Zbt rfl rfl) rfl ?_)))));clear H a;intro a H
  replace hm:=Zbm hm;obtain⟨aA,hm⟩:=hm
  refine n_q H (Zk5 rfl rfl aA) rfl (W_q (Za3 rfl rfl) rfl (W_q (Zb rfl) rfl ?_));clear H a;intro a H
  refine Ze (Za (wp_ret ?_))
  obtain rfl:=Option.some.inj hm
  refine Xx H (.inr rfl) rfl rfl ?_
  exact⟨rfl,hS.x⟩
theorem Wf {w : World} {A : Nat → Addr} {a0 : Int} {v1 : Value} {a1 : ErrM} (h1 : IsE A w v1 a1) {r : ErrM} (hm : Jt a0 a1=some r) :
    Calls Tryz.prog 174 [.int .i64 a0,v1].toArray w (Ret fun u w'=>∃ h_0,u=h_0 ∧ St NB w w' [erQ A h_0 r]):=by
  have hS:=St.begin NB w
  unfold Jt at hm
  refine enter Tryz.func174 rfl rfl rfl ?_;intro a H;dsimp only [Qn,Nat.zero_add,Nat.reduceAdd] at H
  refine wp_seq (wp_region_lit (n_q H (Zb rfl) rfl ?_));clear H a;intro a H
  refine Ze (Za (wp_seq (wp_region_lit (n_q H (Zc rfl) rfl (W_q (Zc rfl) rfl (W_q (Qd (cs:=[.int .i64 a0,v1]) ze214 bd214 pl214 rfl ((Qa rfl rfl (by simp)).trans ((Qa (Xb.ext h1 hS.x).one rfl (by simp)).trans rfl))) rfl ?_))))));clear H a;intro a H
  refine Wi H rfl (cs:=[.int .i64 a0,v1]) rfl rfl ?_
  clear H;intro aD aE hN aB hs;clear a;intro a H
  replace hS:=hS.newBlk hN aB hs;clear hN hs
  replace hm:=Zj hm;obtain⟨aF,aC,hm⟩:=hm
  have aA:=(Xb.ext h1 hS.x)
  refine n_q H (Hz Tryz.underlying210 (by simp) rfl) rfl ?_;clear H a;intro a H
  replace hS:=hS.dAtE aA aC
  refine n_q H (Zb rfl) rfl ?_;clear H a;intro a H
  refine Ze (Za (wp_ret ?_))
  obtain rfl:=Option.some.inj hm
  refine Xx H (.inr rfl) rfl rfl ?_
  exact⟨_,rfl,hS⟩
theorem Wg {w : World} {A : Nat → Addr} {fp : Nat → Prop} {b0 : Nat} {v0_0 : Value} {v0_1 : Value} {a0 : GWireWriter} {v1 : Value} {a1 : ErrM} (hP : Sep w fp [blkR b0 [v0_0,v0_1] 244,ownR 5 1 v0_0 a0.buf_.length (a0.buf_.flatMap eB),erQ A v0_1 a0.err_]) (h1 : ∀ w',ChgP fp w w' → IsE A w' v1 a1) {r : GWireWriter} (hm : Kw a0 a1=some r) :
    Calls Tryz.prog 237 [.pointer (some ⟨b0,0,none⟩),v1].toArray w (Ret fun u w'=>∃ h_0 h_1,u=.tuple #[] ∧ St fp w w' [blkR b0 [h_0,h_1] 244,ownR 5 1 h_0 r.buf_.length (r.buf_.flatMap eB),erQ A h_1 r.err_]):=by
  have hS:=St.init hP
  unfold Kw at hm
  refine enter Tryz.func237 rfl rfl rfl ?_;intro a H;dsimp only [Qn,Nat.zero_add,Nat.reduceAdd] at H
  refine wp_seq (wp_region_lit (n_q H (Zc rfl) rfl (W_q (Zt rfl) rfl (W_q (Zd rfl Zeq) rfl (W_q (Zf rfl ((hS.blk 0 rfl).ld Ub rfl)) rfl (W_q (Qq (Za4 Tryz.underlying39 rfl rfl (hS.any 2 rfl : IsE A w v0_1 a0.err_).form) (show _=Value.bool (decide (a0.err_=.nil)) by rw [Xb.isNil (hS.any 2 rfl : IsE A w v0_1 a0.err_)])) rfl ?_))))));clear H a;intro a H
  refine Ze (Za (Zl H rfl (fun aA=>?_) (fun aA=>?_)))
  · replace hm:=Zu hm aA
    refine wp_region_lit (n_q H (Zc rfl) rfl (W_q (Zc rfl) rfl (W_q (Zt rfl) rfl (W_q (Zd rfl Zgp) rfl (W_q (Zf rfl ((hS.blk 0 rfl).ld Zho rfl)) rfl ?_)))));clear H a;intro a H
    obtain⟨aK,aL,aB,aI,aJ⟩:=SlR.formV ((hS.own 1 rfl).slr rfl (fun _ _=>rfl))
    refine n_q H (Qe Tryz.underlying100 rfl aB) rfl (W_q (Zc rfl) rfl ?_);clear H a;intro a H
    replace hm:=Zj hm;obtain⟨aF,aC,hm⟩:=hm
    refine Zi H rfl Zht (Wf (A:=A) (h1 _ hS.chg) aC) rfl ?_
    clear H;intro aG aH hv;clear a;intro a H;obtain⟨_,rfl,aD⟩:=hv
    replace hS:=hS.new aD;simp only [List.cons_append,List.nil_append] at hS
    refine n_q H (Zt rfl) rfl (W_q (Zd rfl Zeq) rfl ?_);clear H a;intro a H
    replace hS:=hS.pk1
    refine Kj H rfl rfl sz39 (hS.blk 0 rfl) (by simp) (hS.any 1 rfl : IsE A aH aG aF).one ?_
    clear H;intro aM hN aE hz;clear a;intro a H;replace hS:=hS.setBlk hN aE;clear hN hz
    try simp only [List.set_cons_succ,List.set_cons_zero] at hS
    refine Ze ?_
    obtain rfl:=Option.some.inj hm
    replace hS:=hS.pk1
    replace hS:=hS.pk2
    replace hS:=hS.pk2
    replace hS:=hS.tk3
    refine Zfc H (.inl rfl) rfl ?_
    exact⟨_,_,rfl,hS⟩
  · replace hm:=Zv hm aA
    refine wp_skip ?_
    obtain rfl:=Option.some.inj hm
    refine Zfc H (.inl rfl) rfl ?_
    exact⟨_,_,rfl,hS⟩
theorem Ky {w : World} {A : Nat → Addr} {fp : Nat → Prop} {b0 : Nat} {v0_0 : Value} {v0_1 : Value} {a0 : GWireWriter} {a1 : Int} {a2 : Int} (hG : ∀ w',ChgP fp w w' → EV A w') (hP : Sep w fp [blkR b0 [v0_0,v0_1] 244,ownR 5 1 v0_0 a0.buf_.length (a0.buf_.flatMap eB),erQ A v0_1 a0.err_]) {r : GWireWriter} (hm : Qj a0 a1 a2=some r) :
    Calls Tryz.prog 170 [.pointer (some ⟨b0,0,none⟩),.int .i64 a1,.int .i64 a2].toArray w (Ret fun u w'=>∃ h_0 h_1,u=.tuple #[] ∧ St fp w w' [blkR b0 [h_0,h_1] 244,ownR 5 1 h_0 r.buf_.length (r.buf_.flatMap eB),erQ A h_1 r.err_]):=by
  have hS:=St.init hP
  unfold Qj at hm
  refine enter Tryz.func170 rfl rfl rfl ?_;intro a H;dsimp only [Qn,Nat.zero_add,Nat.reduceAdd] at H
  refine wp_seq ?_
  replace hm:=Zj hm;obtain⟨bY,hm,aP⟩:=hm
  refine Gw (σ:=Bool) H (fun aG=>[(0,.pointer (some ⟨b0,0,none⟩)),(1,.int .i64 a1),(2,.int .i64 a2),(14,.bool aG)]) (fun aG wl=>(Yr a0 a1 a2) aG=some r ∧ St fp w wl [blkR b0 [v0_0,v0_1] 244,ownR 5 1 v0_0 a0.buf_.length (a0.buf_.flatMap eB),erQ A v0_1 a0.err_]) ?_ ?_
  · skip
    refine wp_region_lit (n_q H (Zc rfl) rfl (W_q (Ue rfl rfl) rfl (W_q (Zc rfl) rfl ?_)));clear H a;intro a H
    rcases Bool.eq_false_or_eq_true (decide (a1 < 0)) with aE|aE
    · replace H:=H.know 9 rfl aE
      replace hm:=Zu hm aE
      refine Ts H rfl rfl (by decide) rfl (Qc rfl rfl (by decide) rfl (Qc rfl rfl (by decide) rfl (Qc rfl rfl (by decide) rfl (W_q (Zx rfl rfl) rfl ?_))));clear H a;intro a H
      refine Ze (Za ?_)
      obtain rfl:=Option.some.inj hm;replace hm:=aP;try dsimp only at hm
      exact Wb true H ⟨rfl,rfl,rfl,rfl,trivial⟩ ⟨hm,hS⟩
    · replace H:=H.know 9 rfl aE
      replace hm:=Zv hm aE
      refine Vg H rfl rfl (n_q H (Zc rfl) rfl (Qw rfl rfl (W_q (Zc rfl) rfl (Qw rfl rfl ?_))));clear H a;intro a H
      replace hm:=Zj hm;obtain⟨bD,aS,hm⟩:=hm
      refine Zi H rfl Zn0 (Hn (A:=A) aS) rfl ?_
      clear H;intro bK bL hv;clear a;intro a H;obtain⟨rfl,aT⟩:=hv
      replace hS:=hS.ext aT
      refine Vg H rfl rfl (n_q H (Gv rfl rfl) rfl (W_q (Xj rfl rfl) rfl ?_));clear H a;intro a H
      refine Ze (Za ?_)
      obtain rfl:=Option.some.inj hm;replace hm:=aP;try dsimp only at hm
      exact Wb (decide (bD < a1)) H ⟨rfl,rfl,rfl,rfl,trivial⟩ ⟨hm,hS⟩
  · clear H hS hm a;intro aG a bM H hR
    simp only [ent,List.map_cons,List.map_nil] at H;(try dsimp only at hR);obtain⟨hm,hS⟩:=hR;try dsimp only [Yr] at hm
    refine Zl H rfl (fun aH=>?_) (fun aH=>?_)
    · replace hm:=Zu hm aH
      refine wp_seq (wp_region_lit (n_q H (Zc rfl) rfl (W_q (Zf rfl ((hG _ hS.chg).ld Jg (by decide) Ub)) rfl ?_)));clear H a;intro a H
      replace hS:=hS.pk2
      replace hS:=hS.pk2
      replace hS:=hS.pk2
      obtain⟨bI,aJ,aU,aV,aK⟩:=hS.frame (rs1:=[blkR b0 [v0_0,v0_1] 244,ownR 5 1 v0_0 a0.buf_.length (a0.buf_.flatMap eB),erQ A v0_1 a0.err_])
      replace hm:=Zj hm;obtain⟨bN,aW,hm⟩:=hm
      refine Zi H rfl Zp1 (Wg (A:=A) aJ (fun w' hw=>(Xb.var (by decide) : IsE A w' _ (.v Jg))) aW) rfl ?_
      clear H;intro bO bP hv;clear a;intro a H;obtain⟨bQ,bR,rfl,aX⟩:=hv
      replace hS:=aK _ _ aX;simp only [List.cons_append,List.nil_append] at hS;clear aJ aU aV aK
      refine Ze (Za (wp_ret (Zg ?_)))
      obtain rfl:=Option.some.inj hm
      refine Zfc H (.inr rfl) rfl ?_
      exact⟨_,_,rfl,hS⟩
    · replace hm:=Zv hm aH
      refine wp_skip (Za (wp_seq (wp_region_lit (n_q H (Zc rfl) rfl (W_q (Za3 rfl rfl) rfl (W_q (Zb rfl) rfl ?_))))));clear H a;intro a H
      refine Ze (Za (wp_block ?_))
      replace hm:=Zj hm;obtain⟨aQ,hm,aY⟩:=hm;replace hm:=Qk hm;obtain⟨bE,hm⟩:=hm
      refine Kn (σ:=Nat × Int × (List UInt8) × ErrM × Value × Value) (fun (m,aA,aB,aF,aC,aD)=>[(0,.pointer (some ⟨b0,0,none⟩)),(1,.int .i64 a1),(6,.int .i64 aA)]) (fun (m,aA,aB,aF,aC,aD) wl=>Kq (Xm a1) m (aA,aB,aF)=some aQ ∧ St fp w wl [blkR b0 [aC,aD] 244,ownR 5 1 aC aB.length (aB.flatMap eB),erQ A aD aF]) (fun (m,aA,aB,aF,aC,aD)=>m) (bE,(IntKind.i64.wrap (a2 - 1)),a0.buf_,a0.err_,v0_0,v0_1) H ⟨rfl,rfl,rfl,trivial⟩ ⟨hm,hS⟩ ?_
      clear H hS hm a;intro xx a bS H hR;obtain⟨m,aA,aB,aF,aC,aD⟩:=xx;simp only [ent,List.map_cons,List.map_nil] at H;(try dsimp only at hR);obtain⟨hm,hS⟩:=hR
      replace hm:=Qi hm;obtain⟨bF,bT,rfl,hm,aL⟩:=hm;try dsimp only [Xm] at hm
      refine wp_seq (wp_seq (wp_region_lit (n_q H (Zc rfl) rfl (W_q (Zne rfl rfl) rfl ?_))));clear H a;intro a H
      refine Ze (Za (Zl H rfl (fun aI=>?_) (fun aI=>?_)))
      · replace hm:=Zu hm aI
        refine wp_skip (Za (wp_seq (wp_block (wp_region_lit (n_q H (Zc rfl) rfl (W_q (Zc rfl) rfl (W_q (Zc rfl) rfl (W_q (Zbt rfl rfl) rfl ?_))))))));clear H a;intro a H
        replace hm:=Zbm hm;obtain⟨aZ,hm⟩:=hm
        refine n_q H (Zit rfl rfl aZ) rfl (W_q (Us Tryz.underlying3 Tryz.underlying5 ⟨_,rfl⟩ rfl) rfl ?_);clear H a;intro a H
        refine Qf H Tryz.underlying100 sz5 ze5 rfl rfl rfl (cs:=[.int .u8 (IntKind.u8.wrap (shR .i64 a1 (IntKind.i64.wrap (8 * aA))))]) (by kernel_rfl) rfl ?_
        clear H;intro bU bV hN a9 hs;clear a;intro a H
        replace hS:=hS.newBlk hN a9 hs;clear hN hs
        replace hS:=hS.blkOwnL (e:=eB) (k:=1) [(Qz (shR .i64 a1 (IntKind.i64.wrap (8 * aA))))] (by simp [Zlm,Zln]) rfl (by simp [maxLen])
        replace hS:=hS.pk3
        replace hS:=hS.pk3
        replace hS:=hS.pk3
        obtain⟨bJ,aM,bA,aN,aO⟩:=hS.frame (rs1:=[blkR b0 [aC,aD] 244,ownR 5 1 aC aB.length (aB.flatMap eB),erQ A aD aF])
        replace hm:=Zj hm;obtain⟨aR,bB,hm⟩:=hm
        refine Zi H rfl Zl0 (Kx (A:=A) aM (fun w' hw=>(Uu (aN 0 _ rfl _ hw)).slr rfl (fun _ _=>rfl)) bB) rfl ?_
        clear H;intro bW bX hv;clear a;intro a H;obtain⟨bG,bH,rfl,bC⟩:=hv
        replace hS:=aO _ _ bC;simp only [List.cons_append,List.nil_append] at hS;clear aM bA aN aO
        refine Ze (Zo (Za (wp_region_lit (n_q H (Zc rfl) rfl (W_q (Za3 rfl rfl) rfl (W_q (Zb rfl) rfl ?_))))));clear H a;intro a H
        refine Ze (Za ?_)
        obtain rfl:=Option.some.inj hm
        replace hS:=hS.tk3
        exact Wv (bF,(IntKind.i64.wrap (aA - 1)),aR.buf_,aR.err_,bG,bH) H ⟨rfl,rfl,rfl,trivial⟩ ⟨aL,hS⟩ (Nat.lt_succ_self _)
      · replace hm:=Zv hm aI
        refine wp_exit (Zq (Zq (Qg ?_)))
        obtain rfl:=Option.some.inj hm;have hz : _=aQ:=aL;subst hz;replace hm:=aY;try dsimp only at hm
        obtain rfl:=Option.some.inj hm
        refine Zfc H (.inl rfl) rfl ?_
        exact⟨_,_,rfl,hS⟩
theorem Za0 {w : World} {A : Nat → Addr} {fp : Nat → Prop} {b0 : Nat} {v0_0 : Value} {v0_1 : Value} {a0 : GWireWriter} {a1 : Int} {v2 : Value} {a2 : List UInt8} (hG : ∀ w',ChgP fp w w' → EV A w') (hP : Sep w fp [blkR b0 [v0_0,v0_1] 244,ownR 5 1 v0_0 a0.buf_.length (a0.buf_.flatMap eB),erQ A v0_1 a0.err_]) (h2 : ∀ w',ChgP fp w w' → SlR w' 1 (Zn eB) v2 a2) {r : GWireWriter} (hm : Kf a0 a1 a2=some r) :
    Calls Tryz.prog 236 [.pointer (some ⟨b0,0,none⟩),.int .i64 a1,v2].toArray w (Ret fun u w'=>∃ h_0 h_1,u=.tuple #[] ∧ St fp w w' [blkR b0 [h_0,h_1] 244,ownR 5 1 h_0 r.buf_.length (r.buf_.flatMap eB),erQ A h_1 r.err_]):=by
  have hS:=St.init hP
  unfold Kf at hm
  refine enter Tryz.func236 rfl rfl rfl ?_;intro a H;dsimp only [Qn,Nat.zero_add,Nat.reduceAdd] at H
  refine wp_block ?_
  replace hm:=Zj hm;obtain⟨cW,hm,aU⟩:=hm
  refine Gw (σ:=Bool) H (fun aB=>[(0,.pointer (some ⟨b0,0,none⟩)),(1,.int .i64 a1),(2,v2),(16,.bool aB)]) (fun aB wl=>(Kk a0 a1 a2) aB=some r ∧ St fp w wl [blkR b0 [v0_0,v0_1] 244,ownR 5 1 v0_0 a0.buf_.length (a0.buf_.flatMap eB),erQ A v0_1 a0.err_]) ?_ ?_
  · skip
    refine wp_region_lit (n_q H (Zc rfl) rfl (W_q (Ue rfl rfl) rfl (W_q (Zc rfl) rfl ?_)));clear H a;intro a H
    rcases Bool.eq_false_or_eq_true (decide (a1 < 1)) with aA|aA
    · replace H:=H.know 19 rfl aA
      replace hm:=Zu hm aA
      refine Ts H rfl rfl (by decide) rfl (Qc rfl rfl (by decide) rfl (Qc rfl rfl (by decide) rfl (W_q (Zx rfl rfl) rfl (W_q (Zb rfl) rfl ?_))));clear H a;intro a H
      refine Ze (Za ?_)
      obtain rfl:=Option.some.inj hm;replace hm:=aU;try dsimp only at hm
      exact Wb true H ⟨rfl,rfl,rfl,rfl,trivial⟩ ⟨hm,hS⟩
    · replace H:=H.know 19 rfl aA
      replace hm:=Zv hm aA
      refine Vg H rfl rfl (n_q H (Zc rfl) rfl (Qw rfl rfl ?_));clear H a;intro a H
      replace hm:=Zj hm;obtain⟨bR,aZ,hm⟩:=hm
      refine Zi H rfl Zn0 (Hn (A:=A) aZ) rfl ?_
      clear H;intro bZ b7 hv;clear a;intro a H;obtain⟨rfl,a9⟩:=hv
      replace hS:=hS.ext a9
      refine Vg H rfl rfl (n_q H (Gv rfl rfl) rfl (W_q (Xj rfl rfl) rfl (W_q (Zb rfl) rfl ?_)));clear H a;intro a H
      refine Ze (Za ?_)
      obtain rfl:=Option.some.inj hm;replace hm:=aU;try dsimp only at hm
      exact Wb (decide (bR < a1)) H ⟨rfl,rfl,rfl,rfl,trivial⟩ ⟨hm,hS⟩
  · clear H hS hm a;intro aB a b8 H hR
    simp only [ent,List.map_cons,List.map_nil] at H;(try dsimp only at hR);obtain⟨hm,hS⟩:=hR;try dsimp only [Kk] at hm
    refine Zl H rfl (fun aC=>?_) (fun aC=>?_)
    · replace hm:=Zu hm aC
      refine wp_region_lit (n_q H (Zc rfl) rfl (W_q (Zf rfl ((hG _ hS.chg).ld Zko (by decide) Ub)) rfl ?_));clear H a;intro a H
      replace hS:=hS.pk2
      replace hS:=hS.pk2
      replace hS:=hS.pk2
      obtain⟨bS,aG,bA,bB,aH⟩:=hS.frame (rs1:=[blkR b0 [v0_0,v0_1] 244,ownR 5 1 v0_0 a0.buf_.length (a0.buf_.flatMap eB),erQ A v0_1 a0.err_])
      replace hm:=Zj hm;obtain⟨b9,bC,hm⟩:=hm
      refine Zi H rfl Zp1 (Wg (A:=A) aG (fun w' hw=>(Xb.var (by decide) : IsE A w' _ (.v Zko))) bC) rfl ?_
      clear H;intro cA cB hv;clear a;intro a H;obtain⟨cC,cD,rfl,bD⟩:=hv
      replace hS:=aH _ _ bD;simp only [List.cons_append,List.nil_append] at hS;clear aG bA bB aH
      refine Ze (Zo ?_)
      obtain rfl:=Option.some.inj hm
      refine Zfc H (.inl rfl) rfl ?_
      exact⟨_,_,rfl,hS⟩
    · replace hm:=Zv hm aC
      refine wp_seq (wp_region_lit (n_q H (Zc rfl) rfl ?_));clear H a;intro a H
      obtain⟨cF,cG,aI,bT,bU⟩:=SlR.formV (h2 _ hS.chg)
      refine n_q H (Qe Tryz.underlying100 rfl aI) rfl (W_q (Za6 (i:=a2.length) (j:=65535) rfl rfl) rfl (W_q (Zb rfl) rfl ?_));clear H a;intro a H
      refine Ze (Za (Zl H rfl (fun aD=>?_) (fun aD=>?_)))
      · replace hm:=Zu hm aD
        refine wp_region_lit (n_q H (Zc rfl) rfl (W_q (Zf rfl ((hG _ hS.chg).ld Yu (by decide) Ub)) rfl ?_));clear H a;intro a H
        replace hS:=hS.pk2
        replace hS:=hS.pk2
        replace hS:=hS.pk2
        obtain⟨bV,aJ,bE,bF,aK⟩:=hS.frame (rs1:=[blkR b0 [v0_0,v0_1] 244,ownR 5 1 v0_0 a0.buf_.length (a0.buf_.flatMap eB),erQ A v0_1 a0.err_])
        replace hm:=Zj hm;obtain⟨cH,bG,hm⟩:=hm
        refine Zi H rfl Zp1 (Wg (A:=A) aJ (fun w' hw=>(Xb.var (by decide) : IsE A w' _ (.v Yu))) bG) rfl ?_
        clear H;intro cI cJ hv;clear a;intro a H;obtain⟨cK,cL,rfl,bH⟩:=hv
        replace hS:=aK _ _ bH;simp only [List.cons_append,List.nil_append] at hS;clear aJ bE bF aK
        refine Ze (Zo ?_)
        obtain rfl:=Option.some.inj hm
        refine Zfc H (.inl rfl) rfl ?_
        exact⟨_,_,rfl,hS⟩
      · replace hm:=Zv hm aD
        refine wp_seq (wp_region_lit (n_q H (Zc rfl) rfl (W_q (Zc rfl) rfl ?_)));clear H a;intro a H
        replace hS:=hS.pk2
        replace hS:=hS.pk2
        replace hS:=hS.pk2
        obtain⟨bW,aL,aM,bI,aN⟩:=hS.frame (rs1:=[blkR b0 [v0_0,v0_1] 244,ownR 5 1 v0_0 a0.buf_.length (a0.buf_.flatMap eB),erQ A v0_1 a0.err_])
        replace hm:=Zj hm;obtain⟨aE,bJ,hm⟩:=hm
        refine Zi H rfl Zl1 (Ky (A:=A) (fun w' hw=>hG _ (aM _ hw)) aL bJ) rfl ?_
        clear H;intro cM cN hv;clear a;intro a H;obtain⟨aV,aW,rfl,bK⟩:=hv
        replace hS:=aN _ _ bK;simp only [List.cons_append,List.nil_append] at hS;clear aL aM bI aN
        refine Ze (Za (wp_seq (wp_region_lit (n_q H (Zc rfl) rfl (W_q (Zc rfl) rfl (W_q (Qe Tryz.underlying100 rfl aI) rfl ?_))))));clear H a;intro a H
        replace hS:=hS.pk2
        replace hS:=hS.pk2
        replace hS:=hS.pk2
        obtain⟨bX,aO,aP,bL,aQ⟩:=hS.frame (rs1:=[blkR b0 [aV,aW] 244,ownR 5 1 aV aE.buf_.length (aE.buf_.flatMap eB),erQ A aW aE.err_])
        replace hm:=Zj hm;obtain⟨aF,bM,hm⟩:=hm
        refine Zi H rfl Zl1 (Ky (A:=A) (fun w' hw=>hG _ (aP _ hw)) aO bM) rfl ?_
        clear H;intro cO cP hv;clear a;intro a H;obtain⟨aX,aY,rfl,bN⟩:=hv
        replace hS:=aQ _ _ bN;simp only [List.cons_append,List.nil_append] at hS;clear aO aP bL aQ
        refine Ze (Za (wp_region_lit (n_q H (Zc rfl) rfl (W_q (Zc rfl) rfl ?_))));clear H a;intro a H
        replace hS:=hS.pk2
        replace hS:=hS.pk2
        replace hS:=hS.pk2
        obtain⟨bY,aR,aS,bO,aT⟩:=hS.frame (rs1:=[blkR b0 [aX,aY] 244,ownR 5 1 aX aF.buf_.length (aF.buf_.flatMap eB),erQ A aY aF.err_])
        replace hm:=Zj hm;obtain⟨cQ,bP,hm⟩:=hm
        refine Zi H rfl Zl0 (Kx (A:=A) aR (fun w' hw=>h2 _ (aS _ hw)) bP) rfl ?_
        clear H;intro cR cT hv;clear a;intro a H;obtain⟨cU,cV,rfl,bQ⟩:=hv
        replace hS:=aT _ _ bQ;simp only [List.cons_append,List.nil_append] at hS;clear aR aS bO aT
        refine Ze (Zo ?_)
        obtain rfl:=Option.some.inj hm
        refine Zfc H (.inl rfl) rfl ?_
        exact⟨_,_,rfl,hS⟩
theorem Wh {w : World} {A : Nat → Addr} {fp : Nat → Prop} {b0 : Nat} {v0_0 : Value} {v0_1 : Value} {a0 : GWireWriter} {a1 : Int} {g2 : Nat} {fs2 : List Value} {cp2 : List Value} {Gd2 : World → Prop} {a2 : GWireWriter → Option GWireWriter} (hG : ∀ w',ChgP fp w w' → EV A w') (hP : Sep w fp [blkR b0 [v0_0,v0_1] 244,ownR 5 1 v0_0 a0.buf_.length (a0.buf_.flatMap eB),erQ A v0_1 a0.err_]) (he2 : Zp Tryz.prog g2=true) (hd2 : ∀ w',ChgP fp w w' → Gd2 w') (hf2 : ∀ (w1 : World) (g : Nat → Prop) (b_0 : Nat) (v_0_0 : Value) (v_0_1 : Value) (x_0 : GWireWriter) (r : GWireWriter),(∀ w',ChgP g w1 w' → Gd2 w') → Sep w1 g [blkR b_0 [v_0_0,v_0_1] 244,ownR 5 1 v_0_0 x_0.buf_.length (x_0.buf_.flatMap eB),erQ A v_0_1 x_0.err_] → a2 x_0=some r → Calls Tryz.prog g2 (fs2 ++ [Value.pointer (some ⟨b_0,0,none⟩)] ++ cp2).toArray w1 (Ret fun u w'=>∃ h_0 h_1,u=.tuple #[] ∧ St g w1 w' [blkR b_0 [h_0,h_1] 244,ownR 5 1 h_0 r.buf_.length (r.buf_.flatMap eB),erQ A h_1 r.err_])) {r : GWireWriter} (hm : Kl a0 a1 a2=some r) :
    Calls Tryz.prog 161 [.pointer (some ⟨b0,0,none⟩),.int .i64 a1,.func (.func g2) fs2.toArray cp2.toArray].toArray w (Ret fun u w'=>∃ h_0 h_1,u=.tuple #[] ∧ St fp w w' [blkR b0 [h_0,h_1] 244,ownR 5 1 h_0 r.buf_.length (r.buf_.flatMap eB),erQ A h_1 r.err_]):=by
  have hS:=St.init hP
  unfold Kl at hm
  refine enter Tryz.func161 rfl rfl rfl ?_;intro a H;dsimp only [Qn,Nat.zero_add,Nat.reduceAdd] at H
  refine wp_seq (wp_region_lit ?_)
  replace hm:=Zj hm;obtain⟨aA,aP,hm⟩:=hm
  refine Zi H rfl en93 (Gd (A:=A) aP) rfl ?_
  clear H;intro bC bD hv;clear a;intro a H;obtain⟨aL,aM,aN,rfl,aQ⟩:=hv
  replace hS:=hS.new aQ;simp only [List.cons_append,List.nil_append] at hS
  refine n_q H (Zb rfl) rfl ?_;clear H a;intro a H
  refine Ze (Za (wp_seq (wp_region_lit (n_q H (Zc rfl) rfl (W_q (Zc rfl) rfl ?_)))));clear H a;intro a H
  replace hS:=hS.pk2
  replace hS:=hS.pk2
  replace hS:=hS.pk2
  obtain⟨a9,aB,aC,aR,aD⟩:=hS.frame (rs1:=[blkR aL [aM,aN] 244,ownR 5 1 aM aA.buf_.length (aA.buf_.flatMap eB),erQ A aN aA.err_])
  replace hm:=Zj hm;obtain⟨aE,aS,hm⟩:=hm
  refine Zf9 H rfl rfl he2 (hf2 _ _ _ _ _ _ _ (fun w' hw=>hd2 _ (aC _ hw)) aB aS) rfl ?_
  clear H;intro bE bF hv;clear a;intro a H;obtain⟨aO,u32,rfl,aT⟩:=hv
  replace hS:=aD _ _ aT;simp only [List.cons_append,List.nil_append] at hS;clear aB aC aR aD
  refine Ze (Za (wp_seq (wp_region_lit (n_q H (Zc rfl) rfl ?_))));clear H a;intro a H
  replace hS:=hS.pk2
  replace hS:=hS.pk2
  replace hS:=hS.pk2
  obtain⟨bA,aF,aU,aV,aG⟩:=hS.frame (rs1:=[blkR aL [aO,u32] 244,ownR 5 1 aO aE.buf_.length (aE.buf_.flatMap eB),erQ A u32 aE.err_])
  replace hm:=Zj hm;obtain⟨bG,aW,hm⟩:=hm
  refine Zi H rfl en92 (Wr (A:=A) aF aW) rfl ?_
  clear H;intro bH bI hv;clear a;intro a H;obtain⟨bJ,bK,bL,bM,rfl,aX⟩:=hv
  replace hS:=aG _ _ aX;simp only [List.cons_append,List.nil_append] at hS;clear aF aU aV aG
  refine n_q H (Zc rfl) rfl (W_q (Zh rfl rfl) rfl (W_q (Zh rfl rfl) rfl (W_q (Zb rfl) rfl (W_q (Zb rfl) rfl ?_))));clear H a;intro a H
  refine Ze (Za (wp_region_lit (n_q H (Zc rfl) rfl (W_q (Zc rfl) rfl (W_q (Zc rfl) rfl ?_)))));clear H a;intro a H
  replace hS:=hS.pk6
  replace hS:=hS.pk6
  replace hS:=hS.pk6
  obtain⟨bB,aH,aI,aJ,aK⟩:=hS.frame (rs1:=[blkR b0 [v0_0,v0_1] 244,ownR 5 1 v0_0 a0.buf_.length (a0.buf_.flatMap eB),erQ A v0_1 a0.err_])
  replace hm:=Zj hm;obtain⟨bN,aY,hm⟩:=hm
  refine Zi H rfl en236 (Za0 (A:=A) (fun w' hw=>hG _ (aI _ hw)) aH (fun w' hw=>(Uu (aJ 2 _ rfl _ hw)).slr rfl (fun _ _=>rfl)) aY) rfl ?_
  clear H;intro bO bP hv;clear a;intro a H;obtain⟨bQ,bR,rfl,aZ⟩:=hv
  replace hS:=aK _ _ aZ;simp only [List.cons_append,List.nil_append] at hS;clear aH aI aJ aK
  refine Ze ?_
  obtain rfl:=Option.some.inj hm
  replace hS:=hS.tk3
  refine Zfc H (.inl rfl) rfl ?_
  exact⟨_,_,rfl,hS⟩
theorem Ug {w : World} {A : Nat → Addr} {fp : Nat → Prop} {b0 : Nat} {v0_0 : Value} {v0_1 : Value} {a0 : GWireWriter} {v1 : Value} {a1 : List UInt8} (hP : Sep w fp [blkR b0 [v0_0,v0_1] 244,ownR 5 1 v0_0 a0.buf_.length (a0.buf_.flatMap eB),erQ A v0_1 a0.err_]) (h1 : ∀ w',ChgP fp w w' → SlR w' 1 (Zn eB) v1 a1) {r : GWireWriter} (hm : Jm a0 a1=some r) :
    Calls Tryz.prog 94 [.pointer (some ⟨b0,0,none⟩),v1].toArray w (Ret fun u w'=>∃ h_0 h_1,u=.tuple #[] ∧ St fp w w' [blkR b0 [h_0,h_1] 244,ownR 5 1 h_0 r.buf_.length (r.buf_.flatMap eB),erQ A h_1 r.err_]):=by
  have hS:=St.init hP
  unfold Jm at hm
  refine enter Tryz.func94 rfl rfl rfl ?_;intro a H;dsimp only [Qn,Nat.zero_add,Nat.reduceAdd] at H
  refine wp_region_lit (n_q H (Zc rfl) rfl (W_q (Zc rfl) rfl ?_));clear H a;intro a H
  replace hS:=hS.pk2
  replace hS:=hS.pk2
  replace hS:=hS.pk2
  obtain⟨aG,aA,aB,aD,aC⟩:=hS.frame (rs1:=[blkR b0 [v0_0,v0_1] 244,ownR 5 1 v0_0 a0.buf_.length (a0.buf_.flatMap eB),erQ A v0_1 a0.err_])
  replace hm:=Zj hm;obtain⟨aH,aE,hm⟩:=hm
  refine Zi H rfl Zl0 (Kx (A:=A) aA (fun w' hw=>h1 _ (aB _ hw)) aE) rfl ?_
  clear H;intro aI aJ hv;clear a;intro a H;obtain⟨aK,aL,rfl,aF⟩:=hv
  replace hS:=aC _ _ aF;simp only [List.cons_append,List.nil_append] at hS;clear aA aB aD aC
  refine Ze ?_
  obtain rfl:=Option.some.inj hm
  refine Zfc H (.inl rfl) rfl ?_
  exact⟨_,_,rfl,hS⟩
theorem Xo {w : World} {A : Nat → Addr} {fp : Nat → Prop} {b0 : Nat} {v0_0 : Value} {v0_1 : Value} {a0 : GWireWriter} {a1 : Int} (hG : ∀ w',ChgP fp w w' → EV A w') (hP : Sep w fp [blkR b0 [v0_0,v0_1] 244,ownR 5 1 v0_0 a0.buf_.length (a0.buf_.flatMap eB),erQ A v0_1 a0.err_]) {r : GWireWriter} (hm : Qt a0 a1=some r) :
    Calls Tryz.prog 163 [.pointer (some ⟨b0,0,none⟩),.int .i64 a1].toArray w (Ret fun u w'=>∃ h_0 h_1,u=.tuple #[] ∧ St fp w w' [blkR b0 [h_0,h_1] 244,ownR 5 1 h_0 r.buf_.length (r.buf_.flatMap eB),erQ A h_1 r.err_]):=by
  have hS:=St.init hP
  unfold Qt at hm
  refine enter Tryz.func163 rfl rfl rfl ?_;intro a H;dsimp only [Qn,Nat.zero_add,Nat.reduceAdd] at H
  refine wp_region_lit (n_q H (Zc rfl) rfl (W_q (Zc rfl) rfl ?_));clear H a;intro a H
  replace hS:=hS.pk2
  replace hS:=hS.pk2
  replace hS:=hS.pk2
  obtain⟨aG,aA,aB,aD,aC⟩:=hS.frame (rs1:=[blkR b0 [v0_0,v0_1] 244,ownR 5 1 v0_0 a0.buf_.length (a0.buf_.flatMap eB),erQ A v0_1 a0.err_])
  replace hm:=Zj hm;obtain⟨aH,aE,hm⟩:=hm
  refine Zi H rfl Zl1 (Ky (A:=A) (fun w' hw=>hG _ (aB _ hw)) aA aE) rfl ?_
  clear H;intro aI aJ hv;clear a;intro a H;obtain⟨aK,aL,rfl,aF⟩:=hv
  replace hS:=aC _ _ aF;simp only [List.cons_append,List.nil_append] at hS;clear aA aB aD aC
  refine Ze ?_
  obtain rfl:=Option.some.inj hm
  refine Zfc H (.inl rfl) rfl ?_
  exact⟨_,_,rfl,hS⟩
theorem Zcw {w : World} {A : Nat → Addr} {fp : Nat → Prop} {b0 : Nat} {v0_0 : Value} {v0_1 : Value} {a0 : GWireWriter} {b1 : Nat} {a1 : GPagePlan} (hG : ∀ w',ChgP fp w w' → EV A w') (hP : Sep w fp [blkR b0 [v0_0,v0_1] 244,ownR 5 1 v0_0 a0.buf_.length (a0.buf_.flatMap eB),erQ A v0_1 a0.err_]) (hc1_0 : ∀ w',ChgP fp w w' → Blk w' b1 [.int .i64 a1.Rights,.string a1.Init] 114) {r : GWireWriter} (hm : Jz a0 a1=some r) :
    Calls Tryz.prog 162 [.pointer (some ⟨b0,0,none⟩),.pointer (some ⟨b1,0,none⟩)].toArray w (Ret fun u w'=>∃ h_0 h_1,u=.tuple #[] ∧ St fp w w' [blkR b0 [h_0,h_1] 244,ownR 5 1 h_0 r.buf_.length (r.buf_.flatMap eB),erQ A h_1 r.err_]):=by
  have hS:=St.init hP
  unfold Jz at hm
  refine enter Tryz.func162 rfl rfl rfl ?_;intro a H;dsimp only [Qn,Nat.zero_add,Nat.reduceAdd] at H
  refine wp_seq (wp_region_lit (n_q H (Zc rfl) rfl (W_q (Zd rfl Zdj) rfl (W_q (Zf rfl ((hc1_0 _ hS.chg).ld ag3 rfl)) rfl ?_))));clear H a;intro a H
  replace hS:=hS.pk2
  replace hS:=hS.pk2
  replace hS:=hS.pk2
  obtain⟨aR,aA,aB,aJ,aC⟩:=hS.frame (rs1:=[blkR b0 [v0_0,v0_1] 244,ownR 5 1 v0_0 a0.buf_.length (a0.buf_.flatMap eB),erQ A v0_1 a0.err_])
  replace hm:=Zj hm;obtain⟨aD,aK,hm⟩:=hm
  refine Zi H rfl Zhs (Xo (A:=A) (fun w' hw=>hG _ (aB _ hw)) aA aK) rfl ?_
  clear H;intro aT aU hv;clear a;intro a H;obtain⟨aH,aI,rfl,aL⟩:=hv
  replace hS:=aC _ _ aL;simp only [List.cons_append,List.nil_append] at hS;clear aA aB aJ aC
  refine Ze (Za (wp_region_lit (n_q H (Zc rfl) rfl (W_q (Zd rfl Zgo) rfl (W_q (Zf rfl ((hc1_0 _ hS.chg).ld ag9 rfl)) rfl ?_)))));clear H a;intro a H
  replace hm:=Zbm hm;obtain⟨aM,hm⟩:=hm
  refine Zpg H Tryz.underlying9 Tryz.underlying100 Tryz.underlying5 rfl (by simp only [maxLen];exact aM) rfl ?_
  clear H;intro aV aW hN aN hs;clear a;intro a H
  replace hS:=hS.newOwn hN aN (by rw [hs];intro c hc;rw [List.mem_singleton.1 hc];exact Nat.le_refl _);clear hN hs
  replace hS:=hS.pk3
  replace hS:=hS.pk3
  replace hS:=hS.pk3
  obtain⟨aS,aE,aO,aF,aG⟩:=hS.frame (rs1:=[blkR b0 [aH,aI] 244,ownR 5 1 aH aD.buf_.length (aD.buf_.flatMap eB),erQ A aI aD.err_])
  replace hm:=Zj hm;obtain⟨aX,aP,hm⟩:=hm
  refine Zi H rfl en94 (Ug (A:=A) aE (fun w' hw=>(Uu (aF 0 _ rfl _ hw)).slr rfl (fun _ _=>rfl)) aP) rfl ?_
  clear H;intro aY aZ hv;clear a;intro a H;obtain⟨a9,bA,rfl,aQ⟩:=hv
  replace hS:=aG _ _ aQ;simp only [List.cons_append,List.nil_append] at hS;clear aE aO aF aG
  refine Ze ?_
  obtain rfl:=Option.some.inj hm
  replace hS:=hS.tk3
  refine Zfc H (.inl rfl) rfl ?_
  exact⟨_,_,rfl,hS⟩
theorem Uh {w : World} {A : Nat → Addr} {fp : Nat → Prop} {b0 : Nat} {v0_0 : Value} {v0_1 : Value} {a0 : GWireWriter} {a1 : Int} (hG : ∀ w',ChgP fp w w' → EV A w') (hP : Sep w fp [blkR b0 [v0_0,v0_1] 244,ownR 5 1 v0_0 a0.buf_.length (a0.buf_.flatMap eB),erQ A v0_1 a0.err_]) {r : GWireWriter} (hm : Jn a0 a1=some r) :
    Calls Tryz.prog 96 [.pointer (some ⟨b0,0,none⟩),.int .i64 a1].toArray w (Ret fun u w'=>∃ h_0 h_1,u=.tuple #[] ∧ St fp w w' [blkR b0 [h_0,h_1] 244,ownR 5 1 h_0 r.buf_.length (r.buf_.flatMap eB),erQ A h_1 r.err_]):=by
  have hS:=St.init hP
  unfold Jn at hm
  refine enter Tryz.func96 rfl rfl rfl ?_;intro a H;dsimp only [Qn,Nat.zero_add,Nat.reduceAdd] at H
  refine wp_region_lit (n_q H (Zc rfl) rfl (W_q (Zc rfl) rfl ?_));clear H a;intro a H
  replace hS:=hS.pk2
  replace hS:=hS.pk2
  replace hS:=hS.pk2
  obtain⟨aG,aA,aB,aD,aC⟩:=hS.frame (rs1:=[blkR b0 [v0_0,v0_1] 244,ownR 5 1 v0_0 a0.buf_.length (a0.buf_.flatMap eB),erQ A v0_1 a0.err_])
  replace hm:=Zj hm;obtain⟨aH,aE,hm⟩:=hm
  refine Zi H rfl Zl1 (Ky (A:=A) (fun w' hw=>hG _ (aB _ hw)) aA aE) rfl ?_
  clear H;intro aI aJ hv;clear a;intro a H;obtain⟨aK,aL,rfl,aF⟩:=hv
  replace hS:=aC _ _ aF;simp only [List.cons_append,List.nil_append] at hS;clear aA aB aD aC
  refine Ze ?_
  obtain rfl:=Option.some.inj hm
  refine Zfc H (.inl rfl) rfl ?_
  exact⟨_,_,rfl,hS⟩
theorem Hh {w : World} {A : Nat → Addr} {fp : Nat → Prop} {b0 : Nat} {v0_0 : Value} {v0_1 : Value} {a0 : GWireWriter} {a1 : Bool} (hP : Sep w fp [blkR b0 [v0_0,v0_1] 244,ownR 5 1 v0_0 a0.buf_.length (a0.buf_.flatMap eB),erQ A v0_1 a0.err_]) {r : GWireWriter} (hm : Jw a0 a1=some r) :
    Calls Tryz.prog 97 [.pointer (some ⟨b0,0,none⟩),.bool a1].toArray w (Ret fun u w'=>∃ h_0 h_1,u=.tuple #[] ∧ St fp w w' [blkR b0 [h_0,h_1] 244,ownR 5 1 h_0 r.buf_.length (r.buf_.flatMap eB),erQ A h_1 r.err_]):=by
  have hS:=St.init hP
  unfold Jw at hm
  refine enter Tryz.func97 rfl rfl rfl ?_;intro a H;dsimp only [Qn,Nat.zero_add,Nat.reduceAdd] at H
  refine wp_seq (wp_region_lit (n_q H (Zc rfl) rfl ?_));clear H a;intro a H
  refine Ze (Za (Zl H rfl (fun aA=>?_) (fun aA=>?_)))
  · replace hm:=Zu hm aA
    refine wp_region_lit (n_q H (Zc rfl) rfl ?_);clear H a;intro a H
    refine Qf H Tryz.underlying100 sz5 ze5 rfl rfl rfl (cs:=[.int .u8 1]) (by kernel_rfl) rfl ?_
    clear H;intro aR aS hN aH hs;clear a;intro a H
    replace hS:=hS.newBlk hN aH hs;clear hN hs
    replace hS:=hS.blkOwnL (e:=eB) (k:=1) [(Qz 1)] (by kernel_rfl) rfl (by simp [maxLen])
    replace hS:=hS.pk3
    replace hS:=hS.pk3
    replace hS:=hS.pk3
    obtain⟨aP,aB,aI,aC,aD⟩:=hS.frame (rs1:=[blkR b0 [v0_0,v0_1] 244,ownR 5 1 v0_0 a0.buf_.length (a0.buf_.flatMap eB),erQ A v0_1 a0.err_])
    replace hm:=Zj hm;obtain⟨aT,aJ,hm⟩:=hm
    refine Zi H rfl Zl0 (Kx (A:=A) aB (fun w' hw=>(Uu (aC 0 _ rfl _ hw)).slr rfl (fun _ _=>rfl)) aJ) rfl ?_
    clear H;intro aU aV hv;clear a;intro a H;obtain⟨aW,aX,rfl,aK⟩:=hv
    replace hS:=aD _ _ aK;simp only [List.cons_append,List.nil_append] at hS;clear aB aI aC aD
    refine Ze ?_
    obtain rfl:=Option.some.inj hm
    replace hS:=hS.tk3
    refine Zfc H (.inl rfl) rfl ?_
    exact⟨_,_,rfl,hS⟩
  · replace hm:=Zv hm aA
    refine wp_region_lit (n_q H (Zc rfl) rfl ?_);clear H a;intro a H
    refine Qf H Tryz.underlying100 sz5 ze5 rfl rfl rfl (cs:=[.int .u8 0]) (by kernel_rfl) rfl ?_
    clear H;intro aY aZ hN aL hs;clear a;intro a H
    replace hS:=hS.newBlk hN aL hs;clear hN hs
    replace hS:=hS.blkOwnL (e:=eB) (k:=1) [(Qz 0)] (by kernel_rfl) rfl (by simp [maxLen])
    replace hS:=hS.pk3
    replace hS:=hS.pk3
    replace hS:=hS.pk3
    obtain⟨aQ,aE,aM,aF,aG⟩:=hS.frame (rs1:=[blkR b0 [v0_0,v0_1] 244,ownR 5 1 v0_0 a0.buf_.length (a0.buf_.flatMap eB),erQ A v0_1 a0.err_])
    replace hm:=Zj hm;obtain⟨a9,aN,hm⟩:=hm
    refine Zi H rfl Zl0 (Kx (A:=A) aE (fun w' hw=>(Uu (aF 0 _ rfl _ hw)).slr rfl (fun _ _=>rfl)) aN) rfl ?_
    clear H;intro bA bB hv;clear a;intro a H;obtain⟨bC,bD,rfl,aO⟩:=hv
    replace hS:=aG _ _ aO;simp only [List.cons_append,List.nil_append] at hS;clear aE aM aF aG
    refine Ze ?_
    obtain rfl:=Option.some.inj hm
    replace hS:=hS.tk3
    refine Zfc H (.inl rfl) rfl ?_
    exact⟨_,_,rfl,hS⟩
theorem Zcx {w : World} {A : Nat → Addr} {fp : Nat → Prop} {b0 : Nat} {v0_0 : Value} {v0_1 : Value} {a0 : GWireWriter} {b1 : Nat} {a1 : GProcPlan} (hG : ∀ w',ChgP fp w w' → EV A w') (hP : Sep w fp [blkR b0 [v0_0,v0_1] 244,ownR 5 1 v0_0 a0.buf_.length (a0.buf_.flatMap eB),erQ A v0_1 a0.err_]) (hc1_0 : ∀ w',ChgP fp w w' → Blk w' b1 [.int .i64 a1.Entry,.int .i64 a1.Prio,.bool a1.Auto] 116) {r : GWireWriter} (hm : Ka a0 a1=some r) :
    Calls Tryz.prog 164 [.pointer (some ⟨b0,0,none⟩),.pointer (some ⟨b1,0,none⟩)].toArray w (Ret fun u w'=>∃ h_0 h_1,u=.tuple #[] ∧ St fp w w' [blkR b0 [h_0,h_1] 244,ownR 5 1 h_0 r.buf_.length (r.buf_.flatMap eB),erQ A h_1 r.err_]):=by
  have hS:=St.init hP
  unfold Ka at hm
  refine enter Tryz.func164 rfl rfl rfl ?_;intro a H;dsimp only [Qn,Nat.zero_add,Nat.reduceAdd] at H
  refine wp_seq (wp_region_lit (n_q H (Zc rfl) rfl (W_q (Zd rfl Zau) rfl (W_q (Zf rfl ((hc1_0 _ hS.chg).ld ag3 rfl)) rfl ?_))));clear H a;intro a H
  replace hS:=hS.pk2
  replace hS:=hS.pk2
  replace hS:=hS.pk2
  obtain⟨aX,aA,aB,aN,aC⟩:=hS.frame (rs1:=[blkR b0 [v0_0,v0_1] 244,ownR 5 1 v0_0 a0.buf_.length (a0.buf_.flatMap eB),erQ A v0_1 a0.err_])
  replace hm:=Zj hm;obtain⟨aD,aO,hm⟩:=hm
  refine Zi H rfl en96 (Uh (A:=A) (fun w' hw=>hG _ (aB _ hw)) aA aO) rfl ?_
  clear H;intro a9 bA hv;clear a;intro a H;obtain⟨aK,aL,rfl,aP⟩:=hv
  replace hS:=aC _ _ aP;simp only [List.cons_append,List.nil_append] at hS;clear aA aB aN aC
  refine Ze (Za (wp_seq (wp_region_lit (n_q H (Zc rfl) rfl (W_q (Zd rfl Zdk) rfl (W_q (Zf rfl ((hc1_0 _ hS.chg).ld ag3 rfl)) rfl ?_))))));clear H a;intro a H
  replace hS:=hS.pk2
  replace hS:=hS.pk2
  replace hS:=hS.pk2
  obtain⟨aY,aE,aF,aQ,aG⟩:=hS.frame (rs1:=[blkR b0 [aK,aL] 244,ownR 5 1 aK aD.buf_.length (aD.buf_.flatMap eB),erQ A aL aD.err_])
  replace hm:=Zj hm;obtain⟨aH,aR,hm⟩:=hm
  refine Zi H rfl Zhs (Xo (A:=A) (fun w' hw=>hG _ (aF _ hw)) aE aR) rfl ?_
  clear H;intro bB bC hv;clear a;intro a H;obtain⟨aM,u32,rfl,aS⟩:=hv
  replace hS:=aG _ _ aS;simp only [List.cons_append,List.nil_append] at hS;clear aE aF aQ aG
  refine Ze (Za (wp_region_lit (n_q H (Zc rfl) rfl (W_q (Zd rfl Zl3) rfl (W_q (Zf rfl ((hc1_0 _ hS.chg).ld ag4 rfl)) rfl ?_)))));clear H a;intro a H
  replace hS:=hS.pk2
  replace hS:=hS.pk2
  replace hS:=hS.pk2
  obtain⟨aZ,aI,aT,aU,aJ⟩:=hS.frame (rs1:=[blkR b0 [aM,u32] 244,ownR 5 1 aM aH.buf_.length (aH.buf_.flatMap eB),erQ A u32 aH.err_])
  replace hm:=Zj hm;obtain⟨bD,aV,hm⟩:=hm
  refine Zi H rfl en97 (Hh (A:=A) aI aV) rfl ?_
  clear H;intro bE bF hv;clear a;intro a H;obtain⟨bG,bH,rfl,aW⟩:=hv
  replace hS:=aJ _ _ aW;simp only [List.cons_append,List.nil_append] at hS;clear aI aT aU aJ
  refine Ze ?_
  obtain rfl:=Option.some.inj hm
  refine Zfc H (.inl rfl) rfl ?_
  exact⟨_,_,rfl,hS⟩
theorem Zcy {w : World} {A : Nat → Addr} {fp : Nat → Prop} {b0 : Nat} {v0_0 : Value} {v0_1 : Value} {a0 : GWireWriter} {b1 : Nat} {a1 : GPortPlan} (hG : ∀ w',ChgP fp w w' → EV A w') (hP : Sep w fp [blkR b0 [v0_0,v0_1] 244,ownR 5 1 v0_0 a0.buf_.length (a0.buf_.flatMap eB),erQ A v0_1 a0.err_]) (hc1_0 : ∀ w',ChgP fp w w' → Blk w' b1 [.int .i64 a1.Kind,.int .i64 a1.Size,.int .i64 a1.Depth,.int .i64 a1.Refresh] 118) {r : GWireWriter} (hm : Kb a0 a1=some r) :
    Calls Tryz.prog 165 [.pointer (some ⟨b0,0,none⟩),.pointer (some ⟨b1,0,none⟩)].toArray w (Ret fun u w'=>∃ h_0 h_1,u=.tuple #[] ∧ St fp w w' [blkR b0 [h_0,h_1] 244,ownR 5 1 h_0 r.buf_.length (r.buf_.flatMap eB),erQ A h_1 r.err_]):=by
  have hS:=St.init hP
  unfold Kb at hm
  refine enter Tryz.func165 rfl rfl rfl ?_;intro a H;dsimp only [Qn,Nat.zero_add,Nat.reduceAdd] at H
  refine wp_seq (wp_region_lit (n_q H (Zc rfl) rfl (W_q (Zd rfl Gl) rfl (W_q (Zf rfl ((hc1_0 _ hS.chg).ld ag3 rfl)) rfl ?_))));clear H a;intro a H
  replace hS:=hS.pk2
  replace hS:=hS.pk2
  replace hS:=hS.pk2
  obtain⟨bF,aA,aB,aU,aC⟩:=hS.frame (rs1:=[blkR b0 [v0_0,v0_1] 244,ownR 5 1 v0_0 a0.buf_.length (a0.buf_.flatMap eB),erQ A v0_1 a0.err_])
  replace hm:=Zj hm;obtain⟨aD,aV,hm⟩:=hm
  refine Zi H rfl Zhs (Xo (A:=A) (fun w' hw=>hG _ (aB _ hw)) aA aV) rfl ?_
  clear H;intro bJ bK hv;clear a;intro a H;obtain⟨aP,aQ,rfl,aW⟩:=hv
  replace hS:=aC _ _ aW;simp only [List.cons_append,List.nil_append] at hS;clear aA aB aU aC
  refine Ze (Za (wp_seq (wp_region_lit (n_q H (Zc rfl) rfl (W_q (Zd rfl Za9) rfl (W_q (Zf rfl ((hc1_0 _ hS.chg).ld ag3 rfl)) rfl ?_))))));clear H a;intro a H
  replace hS:=hS.pk2
  replace hS:=hS.pk2
  replace hS:=hS.pk2
  obtain⟨bG,aE,aF,aX,aG⟩:=hS.frame (rs1:=[blkR b0 [aP,aQ] 244,ownR 5 1 aP aD.buf_.length (aD.buf_.flatMap eB),erQ A aQ aD.err_])
  replace hm:=Zj hm;obtain⟨aH,aY,hm⟩:=hm
  refine Zi H rfl Zhs (Xo (A:=A) (fun w' hw=>hG _ (aF _ hw)) aE aY) rfl ?_
  clear H;intro bL bM hv;clear a;intro a H;obtain⟨aR,u32,rfl,aZ⟩:=hv
  replace hS:=aG _ _ aZ;simp only [List.cons_append,List.nil_append] at hS;clear aE aF aX aG
  refine Ze (Za (wp_seq (wp_region_lit (n_q H (Zc rfl) rfl (W_q (Zd rfl Zba) rfl (W_q (Zf rfl ((hc1_0 _ hS.chg).ld ag3 rfl)) rfl ?_))))));clear H a;intro a H
  replace hS:=hS.pk2
  replace hS:=hS.pk2
  replace hS:=hS.pk2
  obtain⟨bH,aI,aJ,a9,aK⟩:=hS.frame (rs1:=[blkR b0 [aR,u32] 244,ownR 5 1 aR aH.buf_.length (aH.buf_.flatMap eB),erQ A u32 aH.err_])
  replace hm:=Zj hm;obtain⟨aL,bA,hm⟩:=hm
  refine Zi H rfl Zhs (Xo (A:=A) (fun w' hw=>hG _ (aJ _ hw)) aI bA) rfl ?_
  clear H;intro bN bO hv;clear a;intro a H;obtain⟨aS,aT,rfl,bB⟩:=hv
  replace hS:=aK _ _ bB;simp only [List.cons_append,List.nil_append] at hS;clear aI aJ a9 aK
  refine Ze (Za (wp_region_lit (n_q H (Zc rfl) rfl (W_q (Zd rfl Zdl) rfl (W_q (Zf rfl ((hc1_0 _ hS.chg).ld ag3 rfl)) rfl ?_)))));clear H a;intro a H
  replace hS:=hS.pk2
  replace hS:=hS.pk2
  replace hS:=hS.pk2
  obtain⟨bI,aM,aN,bC,aO⟩:=hS.frame (rs1:=[blkR b0 [aS,aT] 244,ownR 5 1 aS aL.buf_.length (aL.buf_.flatMap eB),erQ A aT aL.err_])
  replace hm:=Zj hm;obtain⟨bP,bD,hm⟩:=hm
  refine Zi H rfl Zhs (Xo (A:=A) (fun w' hw=>hG _ (aN _ hw)) aM bD) rfl ?_
  clear H;intro bQ bR hv;clear a;intro a H;obtain⟨bS,bT,rfl,bE⟩:=hv
  replace hS:=aO _ _ bE;simp only [List.cons_append,List.nil_append] at hS;clear aM aN bC aO
  refine Ze ?_
  obtain rfl:=Option.some.inj hm
  refine Zfc H (.inl rfl) rfl ?_
  exact⟨_,_,rfl,hS⟩
theorem Zcz {w : World} {A : Nat → Addr} {fp : Nat → Prop} {b0 : Nat} {v0_0 : Value} {v0_1 : Value} {a0 : GWireWriter} {b1 : Nat} {v1_0 : Value} {v1_1 : Value} {v1_2 : Value} {v1_3 : Value} {a1 : GPlan} (hG : ∀ w',ChgP fp w w' → EV A w') (hP : Sep w fp [blkR b0 [v0_0,v0_1] 244,ownR 5 1 v0_0 a0.buf_.length (a0.buf_.flatMap eB),erQ A v0_1 a0.err_]) (hc1_0 : ∀ w',ChgP fp w w' → Blk w' b1 [.int .i64 a1.Id,.bool a1.Mobile,v1_0,v1_1,v1_2,.int .i64 a1.Events,v1_3] 27) (hc1_1 : ∀ w',ChgP fp w w' → SlR w' 2 (Zn Zz) v1_0 a1.Pages) (hc1_2 : ∀ w',ChgP fp w w' → SlR w' 3 (Zn Zy) v1_1 a1.Procs) (hc1_3 : ∀ w',ChgP fp w w' → SlR w' 4 (Zn Zs) v1_2 a1.Ports) (hc1_4 : ∀ w',ChgP fp w w' → SlR w' 1 (Zn eI) v1_3 a1.Sems) {r : GWireWriter} (hm : Kc a0 a1=some r) :
    Calls Tryz.prog 166 [.pointer (some ⟨b0,0,none⟩),.pointer (some ⟨b1,0,none⟩)].toArray w (Ret fun u w'=>∃ h_0 h_1,u=.tuple #[] ∧ St fp w w' [blkR b0 [h_0,h_1] 244,ownR 5 1 h_0 r.buf_.length (r.buf_.flatMap eB),erQ A h_1 r.err_]):=by
  have hS:=St.init hP
  unfold Kc at hm
  refine enter Tryz.func166 rfl rfl rfl ?_;intro a H;dsimp only [Qn,Nat.zero_add,Nat.reduceAdd] at H
  refine wp_region_lit (n_q H (Zc rfl) rfl (W_q (Zd rfl Zbb) rfl (W_q (Zf rfl ((hc1_0 _ hS.chg).ld ag3 rfl)) rfl ?_)));clear H a;intro a H
  replace hS:=hS.pk2
  replace hS:=hS.pk2
  replace hS:=hS.pk2
  obtain⟨aG,aA,aB,aD,aC⟩:=hS.frame (rs1:=[blkR b0 [v0_0,v0_1] 244,ownR 5 1 v0_0 a0.buf_.length (a0.buf_.flatMap eB),erQ A v0_1 a0.err_])
  replace hm:=Zj hm;obtain⟨aH,aE,hm⟩:=hm
  refine Zi H rfl Zhs (Xo (A:=A) (fun w' hw=>hG _ (aB _ hw)) aA aE) rfl ?_
  clear H;intro aI aJ hv;clear a;intro a H;obtain⟨aK,aL,rfl,aF⟩:=hv
  replace hS:=aC _ _ aF;simp only [List.cons_append,List.nil_append] at hS;clear aA aB aD aC
  refine Ze ?_
  obtain rfl:=Option.some.inj hm
  refine Zfc H (.inl rfl) rfl ?_
  exact⟨_,_,rfl,hS⟩
theorem Zc0 {w : World} {A : Nat → Addr} {fp : Nat → Prop} {b0 : Nat} {v0_0 : Value} {v0_1 : Value} {a0 : GWireWriter} {b1 : Nat} {v1_0 : Value} {v1_1 : Value} {v1_2 : Value} {v1_3 : Value} {a1 : GPlan} (hG : ∀ w',ChgP fp w w' → EV A w') (hP : Sep w fp [blkR b0 [v0_0,v0_1] 244,ownR 5 1 v0_0 a0.buf_.length (a0.buf_.flatMap eB),erQ A v0_1 a0.err_]) (hc1_0 : ∀ w',ChgP fp w w' → Blk w' b1 [.int .i64 a1.Id,.bool a1.Mobile,v1_0,v1_1,v1_2,.int .i64 a1.Events,v1_3] 27) (hc1_1 : ∀ w',ChgP fp w w' → SlR w' 2 (Zn Zz) v1_0 a1.Pages) (hc1_2 : ∀ w',ChgP fp w w' → SlR w' 3 (Zn Zy) v1_1 a1.Procs) (hc1_3 : ∀ w',ChgP fp w w' → SlR w' 4 (Zn Zs) v1_2 a1.Ports) (hc1_4 : ∀ w',ChgP fp w w' → SlR w' 1 (Zn eI) v1_3 a1.Sems) {r : GWireWriter} (hm : Kd a0 a1=some r) :
    Calls Tryz.prog 167 [.pointer (some ⟨b0,0,none⟩),.pointer (some ⟨b1,0,none⟩)].toArray w (Ret fun u w'=>∃ h_0 h_1,u=.tuple #[] ∧ St fp w w' [blkR b0 [h_0,h_1] 244,ownR 5 1 h_0 r.buf_.length (r.buf_.flatMap eB),erQ A h_1 r.err_]):=by
  have hS:=St.init hP
  unfold Kd at hm
  refine enter Tryz.func167 rfl rfl rfl ?_;intro a H;dsimp only [Qn,Nat.zero_add,Nat.reduceAdd] at H
  refine wp_seq (wp_region_lit (n_q H (Zd rfl Gc) rfl (W_q (Zf rfl ((hc1_0 _ hS.chg).ld Zgn rfl)) rfl ?_)));clear H a;intro a H
  obtain⟨bB,bC,aF,aZ,a9⟩:=SlR.formV (hc1_4 _ hS.chg)
  refine n_q H (Qe Tryz.underlying25 rfl aF) rfl (W_q (Zc rfl) rfl ?_);clear H a;intro a H
  refine Ze (Za (wp_block ?_))
  replace hm:=Zj hm;obtain⟨aN,hm,aP⟩:=hm;replace hm:=Qk hm;obtain⟨aT,hm⟩:=hm
  refine Kn (σ:=Nat × Nat × (List UInt8) × ErrM × Value × Value) (fun (m,aA,aB,aE,aC,aD)=>[(0,.pointer (some ⟨b0,0,none⟩)),(6,v1_3),(7,.int .i64 ((a1.Sems.length : Nat) : Int)),(8,.int .i64 ((aA : Nat) : Int))]) (fun (m,aA,aB,aE,aC,aD) wl=>Kq (Jo a1) m (aA,aB,aE)=some aN ∧ St fp w wl [blkR b0 [aC,aD] 244,ownR 5 1 aC aB.length (aB.flatMap eB),erQ A aD aE]) (fun (m,aA,aB,aE,aC,aD)=>m) (aT,0,a0.buf_,a0.err_,v0_0,v0_1) H ⟨rfl,rfl,rfl,rfl,trivial⟩ ⟨hm,hS⟩ ?_
  clear H hS hm a;intro xx a bD H hR;obtain⟨m,aA,aB,aE,aC,aD⟩:=xx;simp only [ent,List.map_cons,List.map_nil] at H;(try dsimp only at hR);obtain⟨hm,hS⟩:=hR
  replace hm:=Qi hm;obtain⟨aU,bE,rfl,hm,aJ⟩:=hm;try dsimp only [Jo] at hm
  refine wp_seq (wp_region_lit (n_q H (Jr (i:=aA) (j:=a1.Sems.length) rfl rfl) rfl ?_));clear H a;intro a H
  refine Ze (Za (wp_seq (Zl H rfl (fun aG=>?_) (fun aG=>?_))))
  · replace hm:=Zu hm aG
    have aX : aA < a1.Sems.length:=of_decide_eq_true aG
    refine wp_skip (Za (wp_seq (wp_block (wp_seq (wp_region_lit ?_)))))
    replace hm:=Zj hm;obtain⟨bF,aH,hm⟩:=hm
    obtain⟨aY,aI⟩:=SlR.adV (hc1_4 _ hS.chg) aF aH
    refine n_q H (Vw (i:=aA) Tryz.underlying25 sz3 rfl aF aI rfl (Zaz aH)) rfl (W_q (Zf rfl (SlR.ldOneV (hc1_4 _ hS.chg) aF aI ag3 aH rfl)) rfl (W_q (Zb rfl) rfl ?_));clear H a;intro a H
    refine Ze (Za (wp_region_lit (n_q H (Zc rfl) rfl (W_q (Zc rfl) rfl ?_))));clear H a;intro a H
    replace hS:=hS.pk2
    replace hS:=hS.pk2
    replace hS:=hS.pk2
    obtain⟨bA,aK,aL,aQ,aM⟩:=hS.frame (rs1:=[blkR b0 [aC,aD] 244,ownR 5 1 aC aB.length (aB.flatMap eB),erQ A aD aE])
    replace hm:=Zj hm;obtain⟨aO,aR,hm⟩:=hm
    refine Zi H rfl Zhs (Xo (A:=A) (fun w' hw=>hG _ (aL _ hw)) aK aR) rfl ?_
    clear H;intro bG bH hv;clear a;intro a H;obtain⟨aV,aW,rfl,aS⟩:=hv
    replace hS:=aM _ _ aS;simp only [List.cons_append,List.nil_append] at hS;clear aK aL aQ aM
    refine Ze (Zo (Za (wp_region_lit (n_q H (Yn (i:=aA) (j:=1) rfl rfl (by omega)) rfl (W_q (Zc rfl) rfl ?_)))));clear H a;intro a H
    refine Ze (Za ?_)
    obtain rfl:=Option.some.inj hm
    exact Wv (aU,aA + 1,aO.buf_,aO.err_,aV,aW) H ⟨rfl,rfl,rfl,rfl,trivial⟩ ⟨aJ,hS⟩ (Nat.lt_succ_self _)
  · replace hm:=Zv hm aG
    refine wp_exit (Zq (Zq (Qg ?_)))
    obtain rfl:=Option.some.inj hm;have hz : _=aN:=aJ;subst hz;replace hm:=aP;try dsimp only at hm
    obtain rfl:=Option.some.inj hm
    refine Zfc H (.inl rfl) rfl ?_
    exact⟨_,_,rfl,hS⟩
theorem Zea {w : World} {A : Nat → Addr} {cs0 : List Value} {a0 : GPlan} (hG : EV A w) (h0 : Qs w cs0 a0) {r : GWireWriter} (hm : Ww a0=some r) :
    Calls Tryz.prog 91 [.agg cs0.toArray].toArray w (Ret fun u w'=>∃ (h_0 : Nat) (h_1 : Value) (h_2 : Value),u=.pointer (some ⟨h_0,0,none⟩) ∧ St NB w w' [blkR h_0 [h_1,h_2] 244,ownR 5 1 h_1 r.buf_.length (r.buf_.flatMap eB),erQ A h_2 r.err_]):=by
  obtain⟨aA,aB,aC,aD,rfl,aH,aI,aJ,bI⟩:=h0
  have hS:=St.begin NB w
  unfold Ww at hm
  refine enter Tryz.func91 rfl rfl rfl ?_;intro a H;dsimp only [Qn,Nat.zero_add,Nat.reduceAdd] at H
  refine wp_seq (wp_region_lit (Wi H rfl (cs:=[.int .i64 a0.Id,.bool a0.Mobile,aA,aB,aC,.int .i64 a0.Events,aD]) rfl rfl ?_))
  clear H;intro aG fF hN dD hs;clear a;intro a H
  replace hS:=hS.newBlk hN dD hs;clear hN hs
  refine n_q H (Zb rfl) rfl ?_;clear H a;intro a H
  refine Ze (Za (wp_seq (wp_region_lit ?_)))
  replace hm:=Zj hm;obtain⟨cX,dE,hm⟩:=hm
  refine Zi H rfl en93 (Gd (A:=A) dE) rfl ?_
  clear H;intro fG fH hv;clear a;intro a H;obtain⟨aK,dU,dV,rfl,dF⟩:=hv
  replace hS:=hS.new dF;simp only [List.cons_append,List.nil_append] at hS
  refine n_q H (Zb rfl) rfl ?_;clear H a;intro a H
  refine Ze (Za (wp_seq (wp_seq (wp_region_lit (n_q H (Zd rfl Vz) rfl (W_q (Zf rfl ((hS.blk 3 rfl).ld Zfb rfl)) rfl ?_))))));clear H a;intro a H
  obtain⟨fI,fJ,bB,eN,eO⟩:=SlR.formV (aH.ext (Zn.mono _) hS.x)
  refine n_q H (Qe Tryz.underlying22 rfl bB) rfl (W_q (Zc rfl) rfl ?_);clear H a;intro a H
  refine Ze (Za (wp_block ?_))
  replace hS:=hS.pk2
  replace hS:=hS.pk2
  replace hS:=hS.pk2
  replace hS:=hS.pk3
  replace hm:=Zj hm;obtain⟨cY,hm,dG⟩:=hm;replace hm:=Qk hm;obtain⟨dW,hm⟩:=hm
  refine Kn (σ:=Nat × Nat × (List UInt8) × ErrM × Value × Value) (fun (m,aL,aP,aY,aU,aV)=>[(1,.pointer (some ⟨aG,0,none⟩)),(3,.pointer (some ⟨aK,0,none⟩)),(12,aA),(13,.int .i64 ((a0.Pages.length : Nat) : Int)),(14,.int .i64 ((aL : Nat) : Int))]) (fun (m,aL,aP,aY,aU,aV) wl=>Kq (Kt a0) m (aL,aP,aY)=some cY ∧ St NB w wl [blkR aG [.int .i64 a0.Id,.bool a0.Mobile,aA,aB,aC,.int .i64 a0.Events,aD] 27,blkR aK [aU,aV] 244,ownR 5 1 aU aP.length (aP.flatMap eB),erQ A aV aY]) (fun (m,aL,aP,aY,aU,aV)=>m) (dW,0,cX.buf_,cX.err_,dU,dV) H ⟨rfl,rfl,rfl,rfl,rfl,trivial⟩ ⟨hm,hS⟩ ?_
  clear H hS hm a;intro xx a fK H hR;obtain⟨m,aL,aP,aY,aU,aV⟩:=xx;simp only [ent,List.map_cons,List.map_nil] at H;(try dsimp only at hR);obtain⟨hm,hS⟩:=hR
  replace hm:=Qi hm;obtain⟨dX,fL,rfl,hm,b9⟩:=hm;try dsimp only [Kt] at hm
  refine wp_seq (wp_region_lit (n_q H (Jr (i:=aL) (j:=a0.Pages.length) rfl rfl) rfl ?_));clear H a;intro a H
  refine Ze (Za (wp_seq (Zl H rfl (fun bC=>?_) (fun bC=>?_))))
  · replace hm:=Zu hm bC
    have eC : aL < a0.Pages.length:=of_decide_eq_true bC
    refine wp_skip (Za (wp_seq (wp_block (wp_seq (wp_region_lit ?_)))))
    replace hm:=Zj hm;obtain⟨bJ,bK,hm⟩:=hm
    obtain⟨eD,bQ⟩:=SlR.adV (aH.ext (Zn.mono _) hS.x) bB bK
    refine n_q H (Vw (i:=aL) Tryz.underlying22 Gm rfl bB bQ rfl (Zaz bK)) rfl (W_q (Zf rfl (SlR.ldAggV (aH.ext (Zn.mono _) hS.x) bB bQ Zhp Gm bK)) rfl ?_);clear H a;intro a H
    refine Xf H Zd7 rfl ?_
    clear H;intro cA fM hN dH hs;clear a;intro a H
    replace hS:=hS.newBlk hN dH hs;clear hN hs
    refine Zr H rfl rfl (vs:=[.int .i64 bJ.Rights,.string bJ.Init]) rfl Gm (hS.blk 0 rfl) rfl (by simp) ?_
    clear H;intro fN hN dI hz;clear a;intro a H;replace hS:=hS.setBlk hN dI;clear hN hz
    refine Ze (Za (wp_region_lit (n_q H (Zc rfl) rfl (W_q (Zad (f:=[]) (c:=[.pointer (some ⟨cA,0,none⟩)]) rfl rfl) rfl ?_))));clear H a;intro a H
    replace hS:=hS.pk4
    replace hS:=hS.pk4
    replace hS:=hS.pk4
    obtain⟨eP,cB,bL,cC,cD⟩:=hS.frame (rs1:=[blkR aK [aU,aV] 244,ownR 5 1 aU aP.length (aP.flatMap eB),erQ A aV aY])
    replace hm:=Zj hm;obtain⟨cZ,dJ,hm⟩:=hm
    refine Zi H rfl Zlz (Wh (A:=A) (fun w' hw=>hG.ext (bL _ hw).ext) cB (g2:=162) (fs2:=[]) (cp2:=[.pointer (some ⟨cA,0,none⟩)]) (Gd2:=(fun w'=>EV A w' ∧ Blk w' cA [.int .i64 bJ.Rights,.string bJ.Init] 114)) (a2:=(fun x0=>Jz x0 bJ)) en162 (fun w' hw=>⟨hG.ext (bL _ hw).ext,Zep (cC 0 _ rfl _ hw)⟩) (fun w1 g _ _ _ _ r hgd hp hr=>Zcw (A:=A) (fun w' hw=>(hgd w' hw).1) hp (fun w' hw=>(hgd w' hw).2) hr) dJ) rfl ?_
    clear H;intro fO fP hv;clear a;intro a H;obtain⟨dY,dZ,rfl,dK⟩:=hv
    replace hS:=cD _ _ dK;simp only [List.cons_append,List.nil_append] at hS;clear cB bL cC cD
    refine Ze (Zo (Za (wp_region_lit (n_q H (Yn (i:=aL) (j:=1) rfl rfl (by omega)) rfl (W_q (Zc rfl) rfl ?_)))));clear H a;intro a H
    refine Ze (Za ?_)
    obtain rfl:=Option.some.inj hm
    replace hS:=hS.pk2
    replace hS:=hS.pk2
    replace hS:=hS.pk2
    replace hS:=hS.pk4
    replace hS:=hS.tk4
    exact Wv (dX,aL + 1,cZ.buf_,cZ.err_,dY,dZ) H ⟨rfl,rfl,rfl,rfl,rfl,trivial⟩ ⟨b9,hS⟩ (Nat.lt_succ_self _)
  · replace hm:=Zv hm bC
    refine wp_exit (Zq (Zq (Qg ?_)))
    obtain rfl:=Option.some.inj hm;have hz : _=cY:=b9;subst hz;replace hm:=dG;try dsimp only at hm
    refine Za (wp_seq (wp_seq (wp_region_lit (n_q H (Zd rfl Wx) rfl (W_q (Zf rfl ((hS.blk 0 rfl).ld Zgm rfl)) rfl ?_)))));clear H a;intro a H
    obtain⟨fQ,fR,bD,eQ,eT⟩:=SlR.formV (aI.ext (Zn.mono _) hS.x)
    refine n_q H (Qe Tryz.underlying23 rfl bD) rfl (W_q (Zc rfl) rfl ?_);clear H a;intro a H
    refine Ze (Za (wp_block ?_))
    replace hm:=Zj hm;obtain⟨dA,hm,dL⟩:=hm;replace hm:=Qk hm;obtain⟨d5,hm⟩:=hm
    refine Kn (σ:=Nat × Nat × (List UInt8) × ErrM × Value × Value) (fun (m,aM,aQ,aZ,aW,aX)=>[(1,.pointer (some ⟨aG,0,none⟩)),(3,.pointer (some ⟨aK,0,none⟩)),(23,aB),(24,.int .i64 ((a0.Procs.length : Nat) : Int)),(25,.int .i64 ((aM : Nat) : Int))]) (fun (m,aM,aQ,aZ,aW,aX) wl=>Kq (Ks a0) m (aM,aQ,aZ)=some dA ∧ St NB w wl [blkR aG [.int .i64 a0.Id,.bool a0.Mobile,aA,aB,aC,.int .i64 a0.Events,aD] 27,blkR aK [aW,aX] 244,ownR 5 1 aW aQ.length (aQ.flatMap eB),erQ A aX aZ]) (fun (m,aM,aQ,aZ,aW,aX)=>m) (d5,0,aP,aY,aU,aV) H ⟨rfl,rfl,rfl,rfl,rfl,trivial⟩ ⟨hm,hS⟩ ?_
    clear H hS hm a;intro xx a fS H hR;obtain⟨m,aM,aQ,aZ,aW,aX⟩:=xx;simp only [ent,List.map_cons,List.map_nil] at H;(try dsimp only at hR);obtain⟨hm,hS⟩:=hR
    replace hm:=Qi hm;obtain⟨d6,fT,rfl,hm,cF⟩:=hm;try dsimp only [Ks] at hm
    refine wp_seq (wp_region_lit (n_q H (Jr (i:=aM) (j:=a0.Procs.length) rfl rfl) rfl ?_));clear H a;intro a H
    refine Ze (Za (wp_seq (Zl H rfl (fun bE=>?_) (fun bE=>?_))))
    · replace hm:=Zu hm bE
      have eE : aM < a0.Procs.length:=of_decide_eq_true bE
      refine wp_skip (Za (wp_seq (wp_block (wp_seq (wp_region_lit ?_)))))
      replace hm:=Zj hm;obtain⟨a9,bM,hm⟩:=hm
      obtain⟨eG,bR⟩:=SlR.adV (aI.ext (Zn.mono _) hS.x) bD bM
      refine n_q H (Vw (i:=aM) Tryz.underlying23 Ha rfl bD bR rfl (Zaz bM)) rfl (W_q (Zf rfl (SlR.ldAggV (aI.ext (Zn.mono _) hS.x) bD bR Zhq Ha bM)) rfl ?_);clear H a;intro a H
      refine Xf H Zd8 rfl ?_
      clear H;intro cG fU hN dM hs;clear a;intro a H
      replace hS:=hS.newBlk hN dM hs;clear hN hs
      refine Zr H rfl rfl (vs:=[.int .i64 a9.Entry,.int .i64 a9.Prio,.bool a9.Auto]) rfl Ha (hS.blk 0 rfl) rfl (by simp) ?_
      clear H;intro fV hN dN hz;clear a;intro a H;replace hS:=hS.setBlk hN dN;clear hN hz
      refine Ze (Za (wp_region_lit (n_q H (Zc rfl) rfl (W_q (Zad (f:=[]) (c:=[.pointer (some ⟨cG,0,none⟩)]) rfl rfl) rfl ?_))));clear H a;intro a H
      replace hS:=hS.pk4
      replace hS:=hS.pk4
      replace hS:=hS.pk4
      obtain⟨eU,cH,bN,cI,cJ⟩:=hS.frame (rs1:=[blkR aK [aW,aX] 244,ownR 5 1 aW aQ.length (aQ.flatMap eB),erQ A aX aZ])
      replace hm:=Zj hm;obtain⟨dB,dO,hm⟩:=hm
      refine Zi H rfl Zlz (Wh (A:=A) (fun w' hw=>hG.ext (bN _ hw).ext) cH (g2:=164) (fs2:=[]) (cp2:=[.pointer (some ⟨cG,0,none⟩)]) (Gd2:=(fun w'=>EV A w' ∧ Blk w' cG [.int .i64 a9.Entry,.int .i64 a9.Prio,.bool a9.Auto] 116)) (a2:=(fun x0=>Ka x0 a9)) en164 (fun w' hw=>⟨hG.ext (bN _ hw).ext,Zep (cI 0 _ rfl _ hw)⟩) (fun w1 g _ _ _ _ r hgd hp hr=>Zcx (A:=A) (fun w' hw=>(hgd w' hw).1) hp (fun w' hw=>(hgd w' hw).2) hr) dO) rfl ?_
      clear H;intro fW fX hv;clear a;intro a H;obtain⟨d7,d8,rfl,dP⟩:=hv
      replace hS:=cJ _ _ dP;simp only [List.cons_append,List.nil_append] at hS;clear cH bN cI cJ
      refine Ze (Zo (Za (wp_region_lit (n_q H (Yn (i:=aM) (j:=1) rfl rfl (by omega)) rfl (W_q (Zc rfl) rfl ?_)))));clear H a;intro a H
      refine Ze (Za ?_)
      obtain rfl:=Option.some.inj hm
      replace hS:=hS.pk2
      replace hS:=hS.pk2
      replace hS:=hS.pk2
      replace hS:=hS.pk4
      replace hS:=hS.tk4
      exact Wv (d6,aM + 1,dB.buf_,dB.err_,d7,d8) H ⟨rfl,rfl,rfl,rfl,rfl,trivial⟩ ⟨cF,hS⟩ (Nat.lt_succ_self _)
    · replace hm:=Zv hm bE
      refine wp_exit (Zq (Zq (Qg ?_)))
      obtain rfl:=Option.some.inj hm;have hz : _=dA:=cF;subst hz;replace hm:=dL;try dsimp only at hm
      refine Za (wp_seq (wp_seq (wp_region_lit (n_q H (Zd rfl Gb) rfl (W_q (Zf rfl ((hS.blk 0 rfl).ld Zhr rfl)) rfl ?_)))));clear H a;intro a H
      obtain⟨fY,fZ,bF,eV,eW⟩:=SlR.formV (aJ.ext (Zn.mono _) hS.x)
      refine n_q H (Qe Tryz.underlying24 rfl bF) rfl (W_q (Zc rfl) rfl ?_);clear H a;intro a H
      refine Ze (Za (wp_block ?_))
      replace hm:=Zj hm;obtain⟨dC,hm,dQ⟩:=hm;replace hm:=Qk hm;obtain⟨d9,hm⟩:=hm
      refine Kn (σ:=Nat × Nat × (List UInt8) × ErrM × Value × Value) (fun (m,aN,aO,bA,aR,aS)=>[(1,.pointer (some ⟨aG,0,none⟩)),(3,.pointer (some ⟨aK,0,none⟩)),(34,aC),(35,.int .i64 ((a0.Ports.length : Nat) : Int)),(36,.int .i64 ((aN : Nat) : Int))]) (fun (m,aN,aO,bA,aR,aS) wl=>Kq (Kr a0) m (aN,aO,bA)=some dC ∧ St NB w wl [blkR aG [.int .i64 a0.Id,.bool a0.Mobile,aA,aB,aC,.int .i64 a0.Events,aD] 27,blkR aK [aR,aS] 244,ownR 5 1 aR aO.length (aO.flatMap eB),erQ A aS bA]) (fun (m,aN,aO,bA,aR,aS)=>m) (d9,0,aQ,aZ,aW,aX) H ⟨rfl,rfl,rfl,rfl,rfl,trivial⟩ ⟨hm,hS⟩ ?_
      clear H hS hm a;intro xx a gA H hR;obtain⟨m,aN,aO,bA,aR,aS⟩:=xx;simp only [ent,List.map_cons,List.map_nil] at H;(try dsimp only at hR);obtain⟨hm,hS⟩:=hR
      replace hm:=Qi hm;obtain⟨eA,gB,rfl,hm,cK⟩:=hm;try dsimp only [Kr] at hm
      refine wp_seq (wp_region_lit (n_q H (Jr (i:=aN) (j:=a0.Ports.length) rfl rfl) rfl ?_));clear H a;intro a H
      refine Ze (Za (wp_seq (Zl H rfl (fun bG=>?_) (fun bG=>?_))))
      · replace hm:=Zu hm bG
        have eH : aN < a0.Ports.length:=of_decide_eq_true bG
        refine wp_skip (Za (wp_seq (wp_block (wp_seq (wp_region_lit ?_)))))
        replace hm:=Zj hm;obtain⟨aT,bO,hm⟩:=hm
        obtain⟨eJ,bS⟩:=SlR.adV (aJ.ext (Zn.mono _) hS.x) bF bO
        refine n_q H (Vw (i:=aN) Tryz.underlying24 Wp rfl bF bS rfl (Zaz bO)) rfl (W_q (Zf rfl (SlR.ldAggV (aJ.ext (Zn.mono _) hS.x) bF bS Za8 Wp bO)) rfl ?_);clear H a;intro a H
        refine Xf H Zer rfl ?_
        clear H;intro cL gC hN dR hs;clear a;intro a H
        replace hS:=hS.newBlk hN dR hs;clear hN hs
        refine Zr H rfl rfl (vs:=[.int .i64 aT.Kind,.int .i64 aT.Size,.int .i64 aT.Depth,.int .i64 aT.Refresh]) rfl Wp (hS.blk 0 rfl) rfl (by simp) ?_
        clear H;intro eX hN cP hz;clear a;intro a H;replace hS:=hS.setBlk hN cP;clear hN hz
        refine Ze (Za (wp_region_lit (n_q H (Zc rfl) rfl (W_q (Zad (f:=[]) (c:=[.pointer (some ⟨cL,0,none⟩)]) rfl rfl) rfl ?_))));clear H a;intro a H
        replace hS:=hS.pk4
        replace hS:=hS.pk4
        replace hS:=hS.pk4
        obtain⟨eK,bT,bH,bU,bV⟩:=hS.frame (rs1:=[blkR aK [aR,aS] 244,ownR 5 1 aR aO.length (aO.flatMap eB),erQ A aS bA])
        replace hm:=Zj hm;obtain⟨cM,cQ,hm⟩:=hm
        refine Zi H rfl Zlz (Wh (A:=A) (fun w' hw=>hG.ext (bH _ hw).ext) bT (g2:=165) (fs2:=[]) (cp2:=[.pointer (some ⟨cL,0,none⟩)]) (Gd2:=(fun w'=>EV A w' ∧ Blk w' cL [.int .i64 aT.Kind,.int .i64 aT.Size,.int .i64 aT.Depth,.int .i64 aT.Refresh] 118)) (a2:=(fun x0=>Kb x0 aT)) en165 (fun w' hw=>⟨hG.ext (bH _ hw).ext,Zep (bU 0 _ rfl _ hw)⟩) (fun w1 g _ _ _ _ r hgd hp hr=>Zcy (A:=A) (fun w' hw=>(hgd w' hw).1) hp (fun w' hw=>(hgd w' hw).2) hr) cQ) rfl ?_
        clear H;intro eY eZ hv;clear a;intro a H;obtain⟨dS,dT,rfl,cR⟩:=hv
        replace hS:=bV _ _ cR;simp only [List.cons_append,List.nil_append] at hS;clear bT bH bU bV
        refine Ze (Zo (Za (wp_region_lit (n_q H (Yn (i:=aN) (j:=1) rfl rfl (by omega)) rfl (W_q (Zc rfl) rfl ?_)))));clear H a;intro a H
        refine Ze (Za ?_)
        obtain rfl:=Option.some.inj hm
        replace hS:=hS.pk2
        replace hS:=hS.pk2
        replace hS:=hS.pk2
        replace hS:=hS.pk4
        replace hS:=hS.tk4
        exact Wv (eA,aN + 1,cM.buf_,cM.err_,dS,dT) H ⟨rfl,rfl,rfl,rfl,rfl,trivial⟩ ⟨cK,hS⟩ (Nat.lt_succ_self _)
      · replace hm:=Zv hm bG
        refine wp_exit (Zq (Zq (Qg ?_)))
        obtain rfl:=Option.some.inj hm;have hz : _=dC:=cK;subst hz;replace hm:=dQ;try dsimp only at hm
        refine Za (wp_seq (wp_region_lit (n_q H (Zc rfl) rfl (W_q (Zad (f:=[]) (c:=[.pointer (some ⟨aG,0,none⟩)]) rfl rfl) rfl ?_))));clear H a;intro a H
        replace hS:=hS.pk3
        replace hS:=hS.pk3
        replace hS:=hS.pk3
        obtain⟨eL,bW,aE,bX,bY⟩:=hS.frame (rs1:=[blkR aK [aR,aS] 244,ownR 5 1 aR aO.length (aO.flatMap eB),erQ A aS bA])
        replace hm:=Zj hm;obtain⟨bP,cT,hm⟩:=hm
        refine Zi H rfl Zlz (Wh (A:=A) (fun w' hw=>hG.ext (aE _ hw).ext) bW (g2:=166) (fs2:=[]) (cp2:=[.pointer (some ⟨aG,0,none⟩)]) (Gd2:=(fun w'=>EV A w' ∧ Blk w' aG [.int .i64 a0.Id,.bool a0.Mobile,aA,aB,aC,.int .i64 a0.Events,aD] 27 ∧ SlR w' 2 (Zn Zz) aA a0.Pages ∧ SlR w' 3 (Zn Zy) aB a0.Procs ∧ SlR w' 4 (Zn Zs) aC a0.Ports ∧ SlR w' 1 (Zn eI) aD a0.Sems)) (a2:=(fun x0=>Kc x0 a0)) en166 (fun w' hw=>⟨hG.ext (aE _ hw).ext,Zep (bX 0 _ rfl _ hw),(fun w' hw=>aH.ext (Zn.mono _) (aE _ hw).ext) w' hw,(fun w' hw=>aI.ext (Zn.mono _) (aE _ hw).ext) w' hw,(fun w' hw=>aJ.ext (Zn.mono _) (aE _ hw).ext) w' hw,(fun w' hw=>bI.ext (Zn.mono _) (aE _ hw).ext) w' hw⟩) (fun w1 g _ _ _ _ r hgd hp hr=>Zcz (A:=A) (fun w' hw=>(hgd w' hw).1) hp (fun w' hw=>(hgd w' hw).2.1) (fun w' hw=>(hgd w' hw).2.2.1) (fun w' hw=>(hgd w' hw).2.2.2.1) (fun w' hw=>(hgd w' hw).2.2.2.2.1) (fun w' hw=>(hgd w' hw).2.2.2.2.2) hr) cT) rfl ?_
        clear H;intro e8 e9 hv;clear a;intro a H;obtain⟨cN,cO,rfl,cU⟩:=hv
        replace hS:=bY _ _ cU;simp only [List.cons_append,List.nil_append] at hS;clear bW aE bX bY
        refine Ze (Za (wp_seq (wp_region_lit (n_q H (Zc rfl) rfl (W_q (Zad (f:=[]) (c:=[.pointer (some ⟨aG,0,none⟩)]) rfl rfl) rfl ?_)))));clear H a;intro a H
        replace hS:=hS.pk2
        replace hS:=hS.pk2
        replace hS:=hS.pk2
        obtain⟨eM,bZ,aF,b7,b8⟩:=hS.frame (rs1:=[blkR aK [cN,cO] 244,ownR 5 1 cN bP.buf_.length (bP.buf_.flatMap eB),erQ A cO bP.err_])
        replace hm:=Zj hm;obtain⟨fA,cV,hm⟩:=hm
        refine Zi H rfl Zlz (Wh (A:=A) (fun w' hw=>hG.ext (aF _ hw).ext) bZ (g2:=167) (fs2:=[]) (cp2:=[.pointer (some ⟨aG,0,none⟩)]) (Gd2:=(fun w'=>EV A w' ∧ Blk w' aG [.int .i64 a0.Id,.bool a0.Mobile,aA,aB,aC,.int .i64 a0.Events,aD] 27 ∧ SlR w' 2 (Zn Zz) aA a0.Pages ∧ SlR w' 3 (Zn Zy) aB a0.Procs ∧ SlR w' 4 (Zn Zs) aC a0.Ports ∧ SlR w' 1 (Zn eI) aD a0.Sems)) (a2:=(fun x0=>Kd x0 a0)) en167 (fun w' hw=>⟨hG.ext (aF _ hw).ext,Zep (b7 0 _ rfl _ hw),(fun w' hw=>aH.ext (Zn.mono _) (aF _ hw).ext) w' hw,(fun w' hw=>aI.ext (Zn.mono _) (aF _ hw).ext) w' hw,(fun w' hw=>aJ.ext (Zn.mono _) (aF _ hw).ext) w' hw,(fun w' hw=>bI.ext (Zn.mono _) (aF _ hw).ext) w' hw⟩) (fun w1 g _ _ _ _ r hgd hp hr=>Zc0 (A:=A) (fun w' hw=>(hgd w' hw).1) hp (fun w' hw=>(hgd w' hw).2.1) (fun w' hw=>(hgd w' hw).2.2.1) (fun w' hw=>(hgd w' hw).2.2.2.1) (fun w' hw=>(hgd w' hw).2.2.2.2.1) (fun w' hw=>(hgd w' hw).2.2.2.2.2) hr) cV) rfl ?_
        clear H;intro fB fC hv;clear a;intro a H;obtain⟨fD,fE,rfl,cW⟩:=hv
        replace hS:=b8 _ _ cW;simp only [List.cons_append,List.nil_append] at hS;clear bZ aF b7 b8
        refine Ze (Za (wp_seq (wp_region_lit (n_q H (Zc rfl) rfl (W_q (Zb rfl) rfl ?_)))));clear H a;intro a H
        refine Ze (Za (wp_ret ?_))
        obtain rfl:=Option.some.inj hm
        replace hS:=hS.tk3
        refine Xx H (.inr rfl) rfl rfl ?_
        exact⟨_,_,_,rfl,hS⟩
theorem Zca {w : World} {A : Nat → Addr} {fp : Nat → Prop} {b0 : Nat} {v0_0 : Value} {v0_1 : Value} {a0 : GWireWriter} {a1 : Int} (hG : ∀ w',ChgP fp w w' → EV A w') (hP : Sep w fp [blkR b0 [v0_0,v0_1] 244,ownR 5 1 v0_0 a0.buf_.length (a0.buf_.flatMap eB),erQ A v0_1 a0.err_]) {r : GWireWriter} (hm : Yy a0 a1=some r) :
    Calls Tryz.prog 95 [.pointer (some ⟨b0,0,none⟩),.int .i64 a1].toArray w (Ret fun u w'=>∃ h_0 h_1,u=.tuple #[] ∧ St fp w w' [blkR b0 [h_0,h_1] 244,ownR 5 1 h_0 r.buf_.length (r.buf_.flatMap eB),erQ A h_1 r.err_]):=by
  have hS:=St.init hP
  unfold Yy at hm
  refine enter Tryz.func95 rfl rfl rfl ?_;intro a H;dsimp only [Qn,Nat.zero_add,Nat.reduceAdd] at H
  refine wp_region_lit (n_q H (Zc rfl) rfl (W_q (Zc rfl) rfl ?_));clear H a;intro a H
  replace hS:=hS.pk2
  replace hS:=hS.pk2
  replace hS:=hS.pk2
  obtain⟨aG,aA,aB,aD,aC⟩:=hS.frame (rs1:=[blkR b0 [v0_0,v0_1] 244,ownR 5 1 v0_0 a0.buf_.length (a0.buf_.flatMap eB),erQ A v0_1 a0.err_])
  replace hm:=Zj hm;obtain⟨aH,aE,hm⟩:=hm
  refine Zi H rfl Zl1 (Ky (A:=A) (fun w' hw=>hG _ (aB _ hw)) aA aE) rfl ?_
  clear H;intro aI aJ hv;clear a;intro a H;obtain⟨aK,aL,rfl,aF⟩:=hv
  replace hS:=aC _ _ aF;simp only [List.cons_append,List.nil_append] at hS;clear aA aB aD aC
  refine Ze ?_
  obtain rfl:=Option.some.inj hm
  refine Zfc H (.inl rfl) rfl ?_
  exact⟨_,_,rfl,hS⟩
theorem Zhu {w : World} {A : Nat → Addr} {a0 : Int} {r : Int} (hm : Zai a0=some r) :
    Calls Tryz.prog 264 [.int .u32 a0].toArray w (Ret fun u w'=>u=.int .u32 r ∧ Ext w w'):=by
  have hS:=St.begin NB w
  unfold Zai at hm
  refine enter Tryz.func264 rfl rfl rfl ?_;intro a H;dsimp only [Qn,Nat.zero_add,Nat.reduceAdd] at H
  refine wp_seq (wp_region_lit (n_q H (Zb rfl) rfl ?_));clear H a;intro a H
  refine Ze (Za (wp_seq (wp_seq (wp_region_lit (n_q H (Zc rfl) rfl (W_q (q_and rfl rfl) rfl (W_q (Um rfl rfl) rfl ?_)))))));clear H a;intro a H
  refine Ze (Za (Zl H rfl (fun aA=>?_) (fun aA=>?_)))
  · replace hm:=Zu hm aA
    refine wp_seq (wp_region_lit (n_q H (Zc rfl) rfl (W_q (Zit rfl rfl (by decide)) rfl (W_q (Zpe rfl rfl) rfl (W_q (Zb rfl) rfl ?_)))));clear H a;intro a H
    refine Ze (Za (wp_ret (Zg ?_)))
    obtain rfl:=Option.some.inj hm
    refine Xx H (.inr rfl) rfl rfl ?_
    exact⟨rfl,hS.x⟩
  · replace hm:=Zv hm aA
    refine wp_skip (Za (wp_seq (wp_region_lit (n_q H (Zc rfl) rfl (W_q (Zit rfl rfl (by decide)) rfl (W_q (Zb rfl) rfl ?_))))));clear H a;intro a H
    refine Ze (Za (wp_ret ?_))
    obtain rfl:=Option.some.inj hm
    refine Xx H (.inr rfl) rfl rfl ?_
    exact⟨rfl,hS.x⟩
theorem Zgs {w : World} {A : Nat → Addr} {r : Vector Int 256} (hm : Tb=some r) :
    Calls Tryz.prog 255 [].toArray w (Ret fun u w'=>∃ (h_0 : Nat),u=.pointer (some ⟨h_0,0,none⟩) ∧ St NB w w' [blkR h_0 (r.toList.map (Value.int .u32)) 337]):=by
  have hS:=St.begin NB w
  unfold Tb at hm
  refine enter Tryz.func255 rfl rfl rfl ?_;intro a H;dsimp only [Qn,Nat.zero_add,Nat.reduceAdd] at H
  refine wp_seq (wp_region_lit (n_q H (Zb rfl) rfl ?_));clear H a;intro a H
  refine Ze (Za (wp_seq (wp_region_lit ?_)))
  refine n_q H (Zkl (cs:=[.int .u32 0,.int .u32 0,.int .u32 0,.int .u32 0,.int .u32 0,.int .u32 0,.int .u32 0,.int .u32 0,.int .u32 0,.int .u32 0,.int .u32 0,.int .u32 0,.int .u32 0,.int .u32 0,.int .u32 0,.int .u32 0,.int .u32 0,.int .u32 0,.int .u32 0,.int .u32 0,.int .u32 0,.int .u32 0,.int .u32 0,.int .u32 0,.int .u32 0,.int .u32 0,.int .u32 0,.int .u32 0,.int .u32 0,.int .u32 0,.int .u32 0,.int .u32 0,.int .u32 0,.int .u32 0,.int .u32 0,.int .u32 0,.int .u32 0,.int .u32 0,.int .u32 0,.int .u32 0,.int .u32 0,.int .u32 0,.int .u32 0,.int .u32 0,.int .u32 0,.int .u32 0,.int .u32 0,.int .u32 0,.int .u32 0,.int .u32 0,.int .u32 0,.int .u32 0,.int .u32 0,.int .u32 0,.int .u32 0,.int .u32 0,.int .u32 0,.int .u32 0,.int .u32 0,.int .u32 0,.int .u32 0,.int .u32 0,.int .u32 0,.int .u32 0,.int .u32 0,.int .u32 0,.int .u32 0,.int .u32 0,.int .u32 0,.int .u32 0,.int .u32 0,.int .u32 0,.int .u32 0,.int .u32 0,.int .u32 0,.int .u32 0,.int .u32 0,.int .u32 0,.int .u32 0,.int .u32 0,.int .u32 0,.int .u32 0,.int .u32 0,.int .u32 0,.int .u32 0,.int .u32 0,.int .u32 0,.int .u32 0,.int .u32 0,.int .u32 0,.int .u32 0,.int .u32 0,.int .u32 0,.int .u32 0,.int .u32 0,.int .u32 0,.int .u32 0,.int .u32 0,.int .u32 0,.int .u32 0,.int .u32 0,.int .u32 0,.int .u32 0,.int .u32 0,.int .u32 0,.int .u32 0,.int .u32 0,.int .u32 0,.int .u32 0,.int .u32 0,.int .u32 0,.int .u32 0,.int .u32 0,.int .u32 0,.int .u32 0,.int .u32 0,.int .u32 0,.int .u32 0,.int .u32 0,.int .u32 0,.int .u32 0,.int .u32 0,.int .u32 0,.int .u32 0,.int .u32 0,.int .u32 0,.int .u32 0,.int .u32 0,.int .u32 0,.int .u32 0,.int .u32 0,.int .u32 0,.int .u32 0,.int .u32 0,.int .u32 0,.int .u32 0,.int .u32 0,.int .u32 0,.int .u32 0,.int .u32 0,.int .u32 0,.int .u32 0,.int .u32 0,.int .u32 0,.int .u32 0,.int .u32 0,.int .u32 0,.int .u32 0,.int .u32 0,.int .u32 0,.int .u32 0,.int .u32 0,.int .u32 0,.int .u32 0,.int .u32 0,.int .u32 0,.int .u32 0,.int .u32 0,.int .u32 0,.int .u32 0,.int .u32 0,.int .u32 0,.int .u32 0,.int .u32 0,.int .u32 0,.int .u32 0,.int .u32 0,.int .u32 0,.int .u32 0,.int .u32 0,.int .u32 0,.int .u32 0,.int .u32 0,.int .u32 0,.int .u32 0,.int .u32 0,.int .u32 0,.int .u32 0,.int .u32 0,.int .u32 0,.int .u32 0,.int .u32 0,.int .u32 0,.int .u32 0,.int .u32 0,.int .u32 0,.int .u32 0,.int .u32 0,.int .u32 0,.int .u32 0,.int .u32 0,.int .u32 0,.int .u32 0,.int .u32 0,.int .u32 0,.int .u32 0,.int .u32 0,.int .u32 0,.int .u32 0,.int .u32 0,.int .u32 0,.int .u32 0,.int .u32 0,.int .u32 0,.int .u32 0,.int .u32 0,.int .u32 0,.int .u32 0,.int .u32 0,.int .u32 0,.int .u32 0,.int .u32 0,.int .u32 0,.int .u32 0,.int .u32 0,.int .u32 0,.int .u32 0,.int .u32 0,.int .u32 0,.int .u32 0,.int .u32 0,.int .u32 0,.int .u32 0,.int .u32 0,.int .u32 0,.int .u32 0,.int .u32 0,.int .u32 0,.int .u32 0,.int .u32 0,.int .u32 0,.int .u32 0,.int .u32 0,.int .u32 0,.int .u32 0,.int .u32 0,.int .u32 0,.int .u32 0,.int .u32 0,.int .u32 0,.int .u32 0,.int .u32 0,.int .u32 0,.int .u32 0,.int .u32 0,.int .u32 0,.int .u32 0,.int .u32 0,.int .u32 0,.int .u32 0,.int .u32 0,.int .u32 0,.int .u32 0,.int .u32 0,.int .u32 0,.int .u32 0]) Tryz.underlying337 Zl4 ze337 rfl (by kernel_rfl)) rfl ?_;clear H a;intro a H
  refine Wi H rfl (cs:=((#v[0,0,0,0,0,0,0,0,0,0,0,0,0,0,0,0,0,0,0,0,0,0,0,0,0,0,0,0,0,0,0,0,0,0,0,0,0,0,0,0,0,0,0,0,0,0,0,0,0,0,0,0,0,0,0,0,0,0,0,0,0,0,0,0,0,0,0,0,0,0,0,0,0,0,0,0,0,0,0,0,0,0,0,0,0,0,0,0,0,0,0,0,0,0,0,0,0,0,0,0,0,0,0,0,0,0,0,0,0,0,0,0,0,0,0,0,0,0,0,0,0,0,0,0,0,0,0,0,0,0,0,0,0,0,0,0,0,0,0,0,0,0,0,0,0,0,0,0,0,0,0,0,0,0,0,0,0,0,0,0,0,0,0,0,0,0,0,0,0,0,0,0,0,0,0,0,0,0,0,0,0,0,0,0,0,0,0,0,0,0,0,0,0,0,0,0,0,0,0,0,0,0,0,0,0,0,0,0,0,0,0,0,0,0,0,0,0,0,0,0,0,0,0,0,0,0,0,0,0,0,0,0,0,0,0,0,0,0,0,0,0,0,0,0,0,0,0,0,0,0,0,0,0,0,0,0]).toList.map (Value.int .u32))) rfl rfl ?_
  clear H;intro aG bA hN aL hs;clear a;intro a H
  replace hS:=hS.newBlk hN aL hs;clear hN hs
  refine n_q H (Zb rfl) rfl ?_;clear H a;intro a H
  refine Ze (Za (wp_seq (wp_seq (wp_region_lit (n_q H (Zc rfl) rfl ?_)))));clear H a;intro a H
  refine Ze (Za (wp_block ?_))
  replace hm:=Zj hm;obtain⟨aJ,hm,aM⟩:=hm;replace hm:=Qk hm;obtain⟨aS,hm⟩:=hm
  refine Kn (σ:=Nat × Nat × (Vector Int 256)) (fun (m,aA,aC)=>[(1,.pointer (some ⟨aG,0,none⟩)),(6,.int .i64 ((aA : Nat) : Int))]) (fun (m,aA,aC) wl=>Kq Yk m (aA,aC)=some aJ ∧ St NB w wl [blkR aG (aC.toList.map (Value.int .u32)) 337]) (fun (m,aA,aC)=>m) (aS,0,#v[0,0,0,0,0,0,0,0,0,0,0,0,0,0,0,0,0,0,0,0,0,0,0,0,0,0,0,0,0,0,0,0,0,0,0,0,0,0,0,0,0,0,0,0,0,0,0,0,0,0,0,0,0,0,0,0,0,0,0,0,0,0,0,0,0,0,0,0,0,0,0,0,0,0,0,0,0,0,0,0,0,0,0,0,0,0,0,0,0,0,0,0,0,0,0,0,0,0,0,0,0,0,0,0,0,0,0,0,0,0,0,0,0,0,0,0,0,0,0,0,0,0,0,0,0,0,0,0,0,0,0,0,0,0,0,0,0,0,0,0,0,0,0,0,0,0,0,0,0,0,0,0,0,0,0,0,0,0,0,0,0,0,0,0,0,0,0,0,0,0,0,0,0,0,0,0,0,0,0,0,0,0,0,0,0,0,0,0,0,0,0,0,0,0,0,0,0,0,0,0,0,0,0,0,0,0,0,0,0,0,0,0,0,0,0,0,0,0,0,0,0,0,0,0,0,0,0,0,0,0,0,0,0,0,0,0,0,0,0,0,0,0,0,0,0,0,0,0,0,0,0,0,0,0,0,0]) H ⟨rfl,rfl,trivial⟩ ⟨hm,hS⟩ ?_
  clear H hS hm a;intro xx a bB H hR;obtain⟨m,aA,aC⟩:=xx;simp only [ent,List.map_cons,List.map_nil] at H;(try dsimp only at hR);obtain⟨hm,hS⟩:=hR
  replace hm:=Qi hm;obtain⟨aT,bC,rfl,hm,aH⟩:=hm;try dsimp only [Yk] at hm
  refine wp_seq (wp_region_lit (n_q H (Jr (i:=aA) (j:=256) rfl rfl) rfl ?_));clear H a;intro a H
  refine Ze (Za (wp_seq (Zl H rfl (fun aE=>?_) (fun aE=>?_))))
  · replace hm:=Zu hm aE
    have aY : aA < 256:=of_decide_eq_true aE
    refine wp_skip (Za (wp_seq (wp_block (wp_seq (wp_region_lit (n_q H (Zc rfl) rfl (W_q (Zb rfl) rfl ?_)))))));clear H a;intro a H
    refine Ze (Za (wp_seq (wp_region_lit (n_q H (Zc rfl) rfl (W_q (Us Tryz.underlying3 Tryz.underlying101 ⟨_,rfl⟩ rfl) rfl (W_q (Zb rfl) rfl ?_))))));clear H a;intro a H
    refine Ze (Za (wp_seq (wp_seq (wp_region_lit (n_q H (Zc rfl) rfl ?_)))));clear H a;intro a H
    refine Ze (Za (wp_block ?_))
    replace hm:=Zj hm;obtain⟨aK,hm,aN⟩:=hm;replace hm:=Qk hm;obtain⟨aU,hm⟩:=hm
    refine Kn (σ:=Nat × Int × Nat) (fun (m,aD,aB)=>[(1,.pointer (some ⟨aG,0,none⟩)),(2,.int .i64 ((aA : Nat) : Int)),(3,.int .u32 aD),(6,.int .i64 ((aA : Nat) : Int)),(11,.int .i64 ((aB : Nat) : Int))]) (fun (m,aD,aB) wl=>Kq Yj m (aD,aB)=some aK ∧ St NB w wl [blkR aG (aC.toList.map (Value.int .u32)) 337]) (fun (m,aD,aB)=>m) (aU,(IntKind.u32.wrap ((aA : Nat) : Int)),0) H ⟨rfl,rfl,rfl,rfl,rfl,trivial⟩ ⟨hm,hS⟩ ?_
    clear H hS hm a;intro xx a bD H hR;obtain⟨m,aD,aB⟩:=xx;simp only [ent,List.map_cons,List.map_nil] at H;(try dsimp only at hR);obtain⟨hm,hS⟩:=hR
    replace hm:=Qi hm;obtain⟨aV,bE,rfl,hm,aI⟩:=hm;try dsimp only [Yj] at hm
    refine wp_seq (wp_region_lit (n_q H (Jr (i:=aB) (j:=8) rfl rfl) rfl ?_));clear H a;intro a H
    refine Ze (Za (wp_seq (Zl H rfl (fun aF=>?_) (fun aF=>?_))))
    · replace hm:=Zu hm aF
      have aZ : aB < 8:=of_decide_eq_true aF
      refine wp_skip (Za (wp_seq (wp_block (wp_region_lit (n_q H (Zc rfl) rfl ?_)))));clear H a;intro a H
      replace hm:=Zj hm;obtain⟨aW,aO,hm⟩:=hm
      refine Zi H rfl en264 (Zhu (A:=A) aO) rfl ?_
      clear H;intro bF bG hv;clear a;intro a H;obtain⟨rfl,aP⟩:=hv
      replace hS:=hS.ext aP
      refine n_q H (Zb rfl) rfl ?_;clear H a;intro a H
      refine Ze (Zo (Za (wp_region_lit (n_q H (Yn (i:=aB) (j:=1) rfl rfl (by omega)) rfl (W_q (Zc rfl) rfl ?_)))));clear H a;intro a H
      refine Ze (Za ?_)
      obtain rfl:=Option.some.inj hm
      exact Wv (aV,aW,aB + 1) H ⟨rfl,rfl,rfl,rfl,rfl,trivial⟩ ⟨aI,hS⟩ (Nat.lt_succ_self _)
    · replace hm:=Zv hm aF
      refine wp_exit (Zq (Zq (Qg ?_)))
      obtain rfl:=Option.some.inj hm;have hz : _=aK:=aI;subst hz;replace hm:=aN;try dsimp only at hm
      refine Za (wp_region_lit (n_q H (Zc rfl) rfl (W_q (Zc rfl) rfl (W_q (Zc rfl) rfl (W_q (Zt rfl) rfl ?_)))));clear H a;intro a H
      replace hm:=Zj hm;obtain⟨bH,aQ,hm⟩:=hm
      obtain⟨h0x40,h1x40,a9⟩:=Zgh aQ
      refine n_q H (Zj4 Tryz.underlying337 Zl4 rfl rfl h0x40 h1x40) rfl ?_;clear H a;intro a H
      refine Kj H rfl rfl Zl4 (hS.blk 0 rfl) (by simp;omega) rfl ?_
      clear H;intro aX hN aR hz;clear a;intro a H;replace hN:=(congrArg (fun z=>Blk aX aG z 337) (Znw aC (Value.int .u32) (((aA : Nat) : Int).toNat) aD)).mp hN;replace hS:=hS.setBlk hN aR;clear hN hz
      refine Ze (Zo (Za (wp_region_lit (n_q H (Yn (i:=aA) (j:=1) rfl rfl (by omega)) rfl (W_q (Zc rfl) rfl ?_)))));clear H a;intro a H
      refine Ze (Za ?_)
      obtain rfl:=Option.some.inj hm
      exact Wv (aT,aA + 1,(aC.setIfInBounds (((aA : Nat) : Int).toNat) aD)) H ⟨rfl,rfl,trivial⟩ ⟨aH,hS⟩ (Nat.lt_succ_self _)
  · replace hm:=Zv hm aE
    refine wp_exit (Zq (Zq (Qg ?_)))
    obtain rfl:=Option.some.inj hm;have hz : _=aJ:=aH;subst hz;replace hm:=aM;try dsimp only at hm
    refine Za (wp_seq (wp_region_lit (n_q H (Zc rfl) rfl (W_q (Zb rfl) rfl ?_))));clear H a;intro a H
    refine Ze (Za (wp_ret ?_))
    obtain rfl:=Option.some.inj hm
    refine Xx H (.inr rfl) rfl rfl ?_
    exact⟨_,rfl,hS⟩
theorem Zhv {w : World} {A : Nat → Addr} {a0 : Int} {v1 : Value} {a1 : List UInt8} (h1 : SlR w 1 (Zn eB) v1 a1) {r : Int} (hm : Hq a0 a1=some r) :
    Calls Tryz.prog 245 [.int .u32 a0,v1].toArray w (Ret fun u w'=>u=.int .u32 r ∧ Ext w w'):=by
  have hS:=St.begin NB w
  unfold Hq at hm
  refine enter Tryz.func245 rfl rfl rfl ?_;intro a H;dsimp only [Qn,Nat.zero_add,Nat.reduceAdd] at H
  refine wp_seq (wp_region_lit (n_q H (Zb rfl) rfl ?_));clear H a;intro a H
  refine Ze (Za (wp_seq (wp_seq (wp_region_lit (n_q H (Zc rfl) rfl ?_)))));clear H a;intro a H
  obtain⟨aX,aY,aB,aV,aW⟩:=SlR.formV (h1.ext (Zn.mono _) hS.x)
  refine n_q H (Qe Tryz.underlying100 rfl aB) rfl (W_q (q_eqlN (i:=a1.length) (j:=0) rfl rfl) rfl ?_);clear H a;intro a H
  refine Ze (Za (Zl H rfl (fun aE=>?_) (fun aE=>?_)))
  · replace hm:=Zu hm aE
    refine wp_seq (wp_region_lit (n_q H (Zc rfl) rfl (W_q (Zb rfl) rfl ?_)));clear H a;intro a H
    refine Ze (Za (wp_ret (Zg ?_)))
    obtain rfl:=Option.some.inj hm
    refine Xx H (.inr rfl) rfl rfl ?_
    exact⟨rfl,hS.x⟩
  · replace hm:=Zv hm aE
    refine wp_skip (Za (wp_seq (wp_region_lit ?_)))
    replace hm:=Zj hm;obtain⟨aJ,aM,hm⟩:=hm
    refine Zi H rfl en255 (Zgs (A:=A) aM) rfl ?_
    clear H;intro aZ a9 hv;clear a;intro a H;obtain⟨aK,rfl,aN⟩:=hv
    replace hS:=hS.new aN;simp only [List.cons_append,List.nil_append] at hS
    refine n_q H (Zb rfl) rfl ?_;clear H a;intro a H
    refine Ze (Za (wp_seq (wp_seq (wp_region_lit (n_q H (Zc rfl) rfl (W_q (Qe Tryz.underlying100 rfl aB) rfl (W_q (Zc rfl) rfl ?_)))))));clear H a;intro a H
    refine Ze (Za (wp_block ?_))
    replace hm:=Zj hm;obtain⟨aL,hm,aO⟩:=hm;replace hm:=Qk hm;obtain⟨aQ,hm⟩:=hm
    refine Kn (σ:=Nat × Int × Nat) (fun (m,aC,aA)=>[(0,.int .u32 aC),(5,.pointer (some ⟨aK,0,none⟩)),(13,v1),(14,.int .i64 ((a1.length : Nat) : Int)),(15,.int .i64 ((aA : Nat) : Int))]) (fun (m,aC,aA) wl=>Kq (Wk a1 aJ) m (aC,aA)=some aL ∧ St NB w wl [blkR aK (aJ.toList.map (Value.int .u32)) 337]) (fun (m,aC,aA)=>m) (aQ,a0,0) H ⟨rfl,rfl,rfl,rfl,rfl,trivial⟩ ⟨hm,hS⟩ ?_
    clear H hS hm a;intro xx a bA H hR;obtain⟨m,aC,aA⟩:=xx;simp only [ent,List.map_cons,List.map_nil] at H;(try dsimp only at hR);obtain⟨hm,hS⟩:=hR
    replace hm:=Qi hm;obtain⟨aR,bB,rfl,hm,aH⟩:=hm;try dsimp only [Wk] at hm
    refine wp_seq (wp_region_lit (n_q H (Jr (i:=aA) (j:=a1.length) rfl rfl) rfl ?_));clear H a;intro a H
    refine Ze (Za (wp_seq (Zl H rfl (fun aD=>?_) (fun aD=>?_))))
    · replace hm:=Zu hm aD
      have aT : aA < a1.length:=of_decide_eq_true aD
      refine wp_skip (Za (wp_seq (wp_block (wp_seq (wp_region_lit ?_)))))
      replace hm:=Zj hm;obtain⟨bC,aF,hm⟩:=hm
      obtain⟨aU,aG⟩:=SlR.adV (h1.ext (Zn.mono _) hS.x) aB aF
      refine n_q H (Vw (i:=aA) Tryz.underlying100 sz5 rfl aB aG rfl (Zaz aF)) rfl (W_q (Zf rfl (SlR.ldOneV (h1.ext (Zn.mono _) hS.x) aB aG ag5 aF rfl)) rfl (W_q (Zb rfl) rfl ?_));clear H a;intro a H
      refine Ze (Za (wp_region_lit (n_q H (Zc rfl) rfl (W_q (Zc rfl) rfl (W_q (Us Tryz.underlying101 Tryz.underlying5 ⟨_,rfl⟩ rfl) rfl (W_q (Zc rfl) rfl (W_q (Zpe rfl rfl) rfl (W_q (Zt rfl) rfl ?_))))))));clear H a;intro a H
      replace hm:=Zj hm;obtain⟨aS,aP,hm⟩:=hm
      obtain⟨h0x36,h1x36,aI⟩:=Zgh aP
      refine n_q H (Zj4 Tryz.underlying337 Zl4 rfl rfl h0x36 h1x36) rfl (W_q (Zf rfl ((hS.blk 0 rfl).ld ag101 (Znx (f:=(Value.int .u32)) aI))) rfl (W_q (Zc rfl) rfl (W_q (Zit rfl rfl (by decide)) rfl (W_q (Zpe rfl rfl) rfl (W_q (Zb rfl) rfl ?_)))));clear H a;intro a H
      refine Ze (Zo (Za (wp_region_lit (n_q H (Yn (i:=aA) (j:=1) rfl rfl (by omega)) rfl (W_q (Zc rfl) rfl ?_)))));clear H a;intro a H
      refine Ze (Za ?_)
      obtain rfl:=Option.some.inj hm
      exact Wv (aR,(Gg .u32 aS (shR .u32 aC 8)),aA + 1) H ⟨rfl,rfl,rfl,rfl,rfl,trivial⟩ ⟨aH,hS⟩ (Nat.lt_succ_self _)
    · replace hm:=Zv hm aD
      refine wp_exit (Zq (Zq (Qg ?_)))
      obtain rfl:=Option.some.inj hm;have hz : _=aL:=aH;subst hz;replace hm:=aO;try dsimp only at hm
      refine Za (wp_seq (wp_region_lit (n_q H (Zc rfl) rfl (W_q (Zb rfl) rfl ?_))));clear H a;intro a H
      refine Ze (Za (wp_ret ?_))
      obtain rfl:=Option.some.inj hm
      replace hS:=hS.tk0
      refine Xx H (.inr rfl) rfl rfl ?_
      exact⟨rfl,hS.x⟩
theorem Zhw {w : World} {A : Nat → Addr} {a0 : Int} {v1 : Value} {a1 : List UInt8} (h1 : SlR w 1 (Zn eB) v1 a1) {r : Int} (hm : Zbi a0 a1=some r) :
    Calls Tryz.prog 205 [.int .u32 a0,v1].toArray w (Ret fun u w'=>u=.int .u32 r ∧ Ext w w'):=by
  have hS:=St.begin NB w
  unfold Zbi at hm
  refine enter Tryz.func205 rfl rfl rfl ?_;intro a H;dsimp only [Qn,Nat.zero_add,Nat.reduceAdd] at H
  refine wp_seq (wp_region_lit (n_q H (Zb rfl) rfl ?_));clear H a;intro a H
  refine Ze (Za (wp_seq (wp_region_lit (n_q H (Zc rfl) rfl (W_q (Zlr rfl) rfl (W_q (Zc rfl) rfl ?_))))));clear H a;intro a H
  replace hm:=Zj hm;obtain⟨aC,aA,hm⟩:=hm
  refine Zi H rfl en245 (Zhv (A:=A) (h1.ext (Zn.mono _) hS.x) aA) rfl ?_
  clear H;intro aD aE hv;clear a;intro a H;obtain⟨rfl,aB⟩:=hv
  replace hS:=hS.ext aB
  refine n_q H (Zlr rfl) rfl (W_q (Zb rfl) rfl ?_);clear H a;intro a H
  refine Ze (Za (wp_ret ?_))
  obtain rfl:=Option.some.inj hm
  refine Xx H (.inr rfl) rfl rfl ?_
  exact⟨rfl,hS.x⟩
theorem Zcb {w : World} {A : Nat → Addr} {v0 : Value} {a0 : List UInt8} (h0 : SlR w 1 (Zn eB) v0 a0) {r : Int} (hm : Tc a0=some r) :
    Calls Tryz.prog 137 [v0].toArray w (Ret fun u w'=>u=.int .u32 r ∧ Ext w w'):=by
  have hS:=St.begin NB w
  unfold Tc at hm
  refine enter Tryz.func137 rfl rfl rfl ?_;intro a H;dsimp only [Qn,Nat.zero_add,Nat.reduceAdd] at H
  refine wp_seq (wp_region_lit (n_q H (Zb rfl) rfl ?_));clear H a;intro a H
  refine Ze (Za (wp_seq (wp_region_lit (n_q H (Zc rfl) rfl ?_))));clear H a;intro a H
  replace hm:=Zj hm;obtain⟨aC,aA,hm⟩:=hm
  refine Zi H rfl en205 (Zhw (A:=A) (h0.ext (Zn.mono _) hS.x) aA) rfl ?_
  clear H;intro aD aE hv;clear a;intro a H;obtain⟨rfl,aB⟩:=hv
  replace hS:=hS.ext aB
  refine n_q H (Zb rfl) rfl ?_;clear H a;intro a H
  refine Ze (Za (wp_ret ?_))
  obtain rfl:=Option.some.inj hm
  refine Xx H (.inr rfl) rfl rfl ?_
  exact⟨rfl,hS.x⟩
theorem Zbc {w : World} {A : Nat → Addr} {v0 : Value} {a0 : List UInt8} (h0 : SlR w 1 (Zn eB) v0 a0) {r : List UInt8} (hm : Vk a0=some r) :
    Calls Tryz.prog 171 [v0].toArray w (Ret fun u w'=>∃ h_0,u=h_0 ∧ St NB w w' [ownR 5 1 h_0 r.length (r.flatMap eB)]):=by
  have hS:=St.begin NB w
  unfold Vk at hm
  refine enter Tryz.func171 rfl rfl rfl ?_;intro a H;dsimp only [Qn,Nat.zero_add,Nat.reduceAdd] at H
  refine wp_seq (wp_region_lit (n_q H (Zb rfl) rfl ?_));clear H a;intro a H
  refine Ze (Za (wp_seq (wp_seq (wp_region_lit (n_q H (Zc rfl) rfl ?_)))));clear H a;intro a H
  obtain⟨aH,aI,aA,aF,aG⟩:=SlR.formV (h0.ext (Zn.mono _) hS.x)
  refine n_q H (Zlt Tryz.underlying100 rfl aA rfl) rfl ?_;clear H a;intro a H
  refine Ze (Za (Zl H rfl (fun aB=>?_) (fun aB=>?_)))
  · obtain rfl:=SlR.nilV (h0.ext (Zn.mono _) hS.x) aA aB;replace hm:=Zbm hm;obtain⟨_,hm⟩:=hm
    refine wp_seq (wp_region_lit (n_q H (Zb rfl) rfl ?_));clear H a;intro a H
    refine Ze (Za (wp_ret (Zg ?_)))
    obtain rfl:=Option.some.inj hm
    replace hS:=hS.nilOwn 5 1
    refine Xx H (.inr rfl) rfl rfl ?_
    exact⟨_,rfl,hS⟩
  · skip
    refine wp_skip (Za (wp_seq (wp_region_lit (Qf H Tryz.underlying100 sz5 ze5 rfl rfl rfl (cs:=[]) rfl rfl ?_))))
    clear H;intro aJ aK hN aC hs;clear a;intro a H
    replace hS:=hS.newBlk hN aC hs;clear hN hs
    replace hS:=hS.blkOwnL (e:=eB) (k:=1) ([] : List UInt8) rfl rfl (by simp [maxLen])
    refine n_q H (Zc rfl) rfl ?_;clear H a;intro a H
    replace hm:=Zbm hm;obtain⟨aD,hm⟩:=hm
    refine Zcr (e:=eB) H rfl rfl Tryz.underlying100 Tryz.underlying100 (by simp) el5 (hS.own 0 rfl) ((h0.ext (Zn.mono _) hS.x).src (fun _ _=>rfl)) Zhj aD (by simp only [maxLen];omega) rfl ?_
    clear H;intro aL aM hN aE hb;clear a;intro a H;replace hS:=hS.setOwn hN aE hb;clear hN hb
    refine n_q H (Zb rfl) rfl ?_;clear H a;intro a H
    refine Ze (Za (wp_ret ?_))
    obtain rfl:=Option.some.inj hm
    refine Xx H (.inr rfl) rfl rfl ?_
    exact⟨_,rfl,hS⟩
theorem Zd0 {w : World} {A : Nat → Addr} {a0 : Int} {r : List UInt8} (hm : Hr a0=some r) :
    Calls Tryz.prog 172 [.int .u32 a0].toArray w (Ret fun u w'=>∃ h_0,u=h_0 ∧ St NB w w' [ownR 5 1 h_0 r.length (r.flatMap eB)]):=by
  have hS:=St.begin NB w
  unfold Hr at hm
  refine enter Tryz.func172 rfl rfl rfl ?_;intro a H;dsimp only [Qn,Nat.zero_add,Nat.reduceAdd] at H
  refine wp_seq (wp_region_lit (n_q H (Zb rfl) rfl ?_));clear H a;intro a H
  refine Ze (Za (wp_seq (wp_region_lit (n_q H (Zc rfl) rfl (W_q (Us Tryz.underlying101 Tryz.underlying5 ⟨_,rfl⟩ rfl) rfl (W_q (Zc rfl) rfl (W_q (Zit rfl rfl (by decide)) rfl (W_q (Us Tryz.underlying101 Tryz.underlying5 ⟨_,rfl⟩ rfl) rfl (W_q (Zc rfl) rfl (W_q (Zit rfl rfl (by decide)) rfl (W_q (Us Tryz.underlying101 Tryz.underlying5 ⟨_,rfl⟩ rfl) rfl (W_q (Zc rfl) rfl (W_q (Zit rfl rfl (by decide)) rfl (W_q (Us Tryz.underlying101 Tryz.underlying5 ⟨_,rfl⟩ rfl) rfl ?_))))))))))))));clear H a;intro a H
  refine Qf H Tryz.underlying100 sz5 ze5 rfl rfl rfl (cs:=[.int .u8 (IntKind.u8.wrap a0),.int .u8 (IntKind.u8.wrap (shR .u32 a0 8)),.int .u8 (IntKind.u8.wrap (shR .u32 a0 16)),.int .u8 (IntKind.u8.wrap (shR .u32 a0 24))]) (by kernel_rfl) rfl ?_
  clear H;intro aB aC hN aA hs;clear a;intro a H
  replace hS:=hS.newBlk hN aA hs;clear hN hs
  replace hS:=hS.blkOwnL (e:=eB) (k:=1) [(Qz a0),(Qz (shR .u32 a0 8)),(Qz (shR .u32 a0 16)),(Qz (shR .u32 a0 24))] (by simp [Zlm,Zln]) rfl (by simp [maxLen])
  refine n_q H (Zb rfl) rfl ?_;clear H a;intro a H
  refine Ze (Za (wp_ret ?_))
  obtain rfl:=Option.some.inj hm
  refine Xx H (.inr rfl) rfl rfl ?_
  exact⟨_,rfl,hS⟩
theorem Zhx {w : World} {A : Nat → Addr} {v0 : Value} {a0 : List UInt8} (h0 : SlR w 1 (Zn eB) v0 a0) {r : List UInt8} (hm : Zaj a0=some r) :
    Calls Tryz.prog 98 [v0].toArray w (Ret fun u w'=>∃ h_0,u=h_0 ∧ St NB w w' [ownR 5 1 h_0 r.length (r.flatMap eB)]):=by
  have hS:=St.begin NB w
  unfold Zaj at hm
  refine enter Tryz.func98 rfl rfl rfl ?_;intro a H;dsimp only [Qn,Nat.zero_add,Nat.reduceAdd] at H
  refine wp_seq (wp_region_lit (n_q H (Zb rfl) rfl ?_));clear H a;intro a H
  refine Ze (Za (wp_seq (wp_region_lit (n_q H (Zc rfl) rfl ?_))));clear H a;intro a H
  replace hm:=Zj hm;obtain⟨aI,aA,hm⟩:=hm
  refine Zi H rfl en171 (Zbc (A:=A) (h0.ext (Zn.mono _) hS.x) aA) rfl ?_
  clear H;intro aJ aK hv;clear a;intro a H;obtain⟨_,rfl,aB⟩:=hv
  replace hS:=hS.new aB;simp only [List.cons_append,List.nil_append] at hS
  refine n_q H (Zc rfl) rfl ?_;clear H a;intro a H
  replace hm:=Zj hm;obtain⟨aL,aC,hm⟩:=hm
  refine Zi H rfl Zpz (Zcb (A:=A) (h0.ext (Zn.mono _) hS.x) aC) rfl ?_
  clear H;intro aM aN hv;clear a;intro a H;obtain⟨rfl,aD⟩:=hv
  replace hS:=hS.ext aD
  replace hm:=Zj hm;obtain⟨aO,aE,hm⟩:=hm
  refine Zi H rfl en172 (Zd0 (A:=A) aE) rfl ?_
  clear H;intro u32 aP hv;clear a;intro a H;obtain⟨_,rfl,aF⟩:=hv
  replace hS:=hS.new aF;simp only [List.cons_append,List.nil_append] at hS
  replace hS:=hS.pk1
  replace hm:=Zbm hm;obtain⟨aG,hm⟩:=hm
  refine Zcr (e:=eB) H rfl rfl Tryz.underlying100 Tryz.underlying100 (by simp) el5 (hS.own 0 rfl) (((hS.own 1 rfl).slr rfl (fun _ _=>rfl)).src (fun _ _=>rfl)) Zhj aG (by simp only [maxLen];omega) rfl ?_
  clear H;intro aQ aR hN aH hb;clear a;intro a H;replace hS:=hS.setOwn hN aH hb;clear hN hb
  refine n_q H (Zb rfl) rfl ?_;clear H a;intro a H
  refine Ze (Za (wp_ret ?_))
  obtain rfl:=Option.some.inj hm
  replace hS:=hS.tk1
  refine Xx H (.inr rfl) rfl rfl ?_
  exact⟨_,rfl,hS⟩
theorem Wz {w : World} {A : Nat → Addr} {cs0 : List Value} {a0 : GPlan} (hG : EV A w) (h0 : Qs w cs0 a0) {r : List UInt8 × ErrM} (hm : Jf a0=some r) :
    Calls Tryz.prog 47 [.agg cs0.toArray].toArray w (Ret fun u w'=>∃ h_0 h_1,u=.tuple #[h_0,h_1] ∧ St NB w w' [ownR 5 1 h_0 r.1.length (r.1.flatMap eB),erQ A h_1 r.2]):=by
  obtain⟨aB,aC,aD,aE,rfl,aG,aH,aI,aJ⟩:=h0
  have hS:=St.begin NB w
  unfold Jf at hm
  refine enter Tryz.func47 rfl rfl rfl ?_;intro a H;dsimp only [Qn,Nat.zero_add,Nat.reduceAdd] at H
  refine wp_seq (wp_region_lit (Wi H rfl (cs:=[.int .i64 a0.Id,.bool a0.Mobile,aB,aC,aD,.int .i64 a0.Events,aE]) rfl rfl ?_))
  clear H;intro eW eX hN dA hs;clear a;intro a H
  replace hS:=hS.newBlk hN dA hs;clear hN hs
  refine n_q H (Zb rfl) rfl (W_q (Zb rfl) rfl ?_);clear H a;intro a H
  refine Ze (Za (wp_seq (wp_seq (wp_region_lit (n_q H (Zf rfl ((hS.blk 0 rfl).ldAll Zam Gh)) rfl ?_)))));clear H a;intro a H
  replace hm:=Zj hm;obtain⟨aW,dB,hm⟩:=hm
  refine Zi H rfl en57 (Wy (A:=A) (hG.ext hS.x) (⟨_,_,_,_,rfl,(aG.ext (Zn.mono _) hS.x),(aH.ext (Zn.mono _) hS.x),(aI.ext (Zn.mono _) hS.x),(aJ.ext (Zn.mono _) hS.x)⟩ : Qs _ [.int .i64 a0.Id,.bool a0.Mobile,aB,aC,aD,.int .i64 a0.Events,aE] a0) dB) rfl ?_
  clear H;intro cJ cK hv;clear a;intro a H;obtain⟨_,rfl,dC⟩:=hv
  replace hS:=hS.new dC;simp only [List.cons_append,List.nil_append] at hS
  refine n_q H (Qq (Jh Tryz.underlying39 rfl rfl (hS.any 0 rfl : IsE A cK cJ aW).form) (show _=Value.bool (!decide (aW=.nil)) by rw [Xb.isNil (hS.any 0 rfl : IsE A cK cJ aW)])) rfl ?_;clear H a;intro a H
  refine Ze (Za (Zl H rfl (fun aK=>?_) (fun aK=>?_)))
  · replace hm:=Zu hm aK
    refine wp_seq (Wq (by kernel_rfl) (by kernel_rfl) ?_)
    refine Xg H (Zf rfl ((hG.ext hS.x).ld Gf (by decide) Ub)) rfl ?_;clear H a;intro a H
    refine Xg H (Zb rfl) rfl ?_;clear H a;intro a H
    refine Xg H (Zb rfl) rfl ?_;clear H a;intro a H
    refine Hf ?_;intro eY dD
    replace hS:=hS.ext dD
    refine Za (wp_ret (Zg ?_))
    obtain rfl:=Option.some.inj hm
    replace hS:=hS.nilOwn 5 1
    replace hS:=hS.dVar (A:=A) (g:=Gf) (by decide)
    replace hS:=hS.pk1
    replace hS:=hS.tk2
    refine Zbu H (.inr rfl) rfl rfl rfl ?_
    exact⟨_,_,rfl,hS⟩
  · replace hm:=Zv hm aK
    refine wp_skip (Za (wp_seq (wp_region_lit (n_q H (Zf rfl ((hS.blk 1 rfl).ldAll Zam Gh)) rfl ?_))));clear H a;intro a H
    replace hm:=Zj hm;obtain⟨aX,dE,hm⟩:=hm
    refine Zi H rfl en91 (Zea (A:=A) (hG.ext hS.x) (⟨_,_,_,_,rfl,(aG.ext (Zn.mono _) hS.x),(aH.ext (Zn.mono _) hS.x),(aI.ext (Zn.mono _) hS.x),(aJ.ext (Zn.mono _) hS.x)⟩ : Qs _ [.int .i64 a0.Id,.bool a0.Mobile,aB,aC,aD,.int .i64 a0.Events,aE] a0) dE) rfl ?_
    clear H;intro eZ e8 hv;clear a;intro a H;obtain⟨dZ,cL,cM,rfl,dF⟩:=hv
    replace hS:=hS.new dF;simp only [List.cons_append,List.nil_append] at hS
    replace hS:=hS.pk2
    replace hS:=hS.pk2
    replace hS:=hS.pk2
    obtain⟨d8,aY,dG,dH,aZ⟩:=hS.frame (rs1:=[blkR dZ [cL,cM] 244,ownR 5 1 cL aX.buf_.length (aX.buf_.flatMap eB),erQ A cM aX.err_])
    replace hm:=Zj hm;obtain⟨a9,dI,hm⟩:=hm
    refine Zi H rfl en92 (Wr (A:=A) aY dI) rfl ?_
    clear H;intro e9 cN hv;clear a;intro a H;obtain⟨fA,cO,fB,fC,rfl,dJ⟩:=hv
    replace hS:=aZ _ _ dJ;simp only [List.cons_append,List.nil_append] at hS;clear aY dG dH aZ
    refine n_q H (Zc rfl) rfl (W_q (Zh rfl rfl) rfl (W_q (Zh rfl rfl) rfl (W_q (Zb rfl) rfl (W_q (Zb rfl) rfl ?_))));clear H a;intro a H
    refine Ze (Za (wp_seq (wp_seq (wp_region_lit (n_q H (Zc rfl) rfl (W_q (Qq (Jh Tryz.underlying39 rfl rfl (hS.any 3 rfl : IsE A cN cO a9.2.1).form) (show _=Value.bool (!decide (a9.2.1=.nil)) by rw [Xb.isNil (hS.any 3 rfl : IsE A cN cO a9.2.1)])) rfl ?_))))));clear H a;intro a H
    refine Ze (Za (Zl H rfl (fun aL=>?_) (fun aL=>?_)))
    · replace hm:=Zu hm aL
      refine wp_seq (wp_region_lit (n_q H (Zc rfl) rfl (W_q (Zb rfl) rfl (W_q (Zb rfl) rfl ?_))));clear H a;intro a H
      refine Ze (Za (wp_ret (Zg ?_)))
      obtain rfl:=Option.some.inj hm
      replace hS:=hS.nilOwn 5 1
      replace hS:=hS.pk4
      replace hS:=hS.pk1
      replace hS:=hS.tk2
      refine Zbu H (.inr rfl) rfl rfl rfl ?_
      exact⟨_,_,rfl,hS⟩
    · replace hm:=Zv hm aL
      refine wp_skip (Za (wp_seq (wp_region_lit ?_)))
      replace hm:=Zj hm;obtain⟨bA,dK,hm⟩:=hm
      refine Zi H rfl en93 (Gd (A:=A) dK) rfl ?_
      clear H;intro fD fE hv;clear a;intro a H;obtain⟨aA,cP,cQ,rfl,dL⟩:=hv
      replace hS:=hS.new dL;simp only [List.cons_append,List.nil_append] at hS
      refine n_q H (Zb rfl) rfl ?_;clear H a;intro a H
      refine Ze (Za (wp_seq (wp_region_lit (n_q H (Zc rfl) rfl ?_))));clear H a;intro a H
      refine Zhk H Tryz.underlying100 Tryz.underlying5 sz5 ze5 rfl rfl rfl (cs:=[.int .u8 70,.int .u8 80,.int .u8 76,.int .u8 78]) (by kernel_rfl) rfl rfl ?_
      clear H;intro fF fG hN dM hs;clear a;intro a H
      replace hS:=hS.newBlk hN dM hs;clear hN hs
      replace hS:=hS.blkOwnL (e:=eB) (k:=1) [(Qz 70),(Qz 80),(Qz 76),(Qz 78)] (by kernel_rfl) rfl (by simp [maxLen])
      replace hS:=hS.pk3
      replace hS:=hS.pk3
      replace hS:=hS.pk3
      obtain⟨d9,bB,dN,bC,bD⟩:=hS.frame (rs1:=[blkR aA [cP,cQ] 244,ownR 5 1 cP bA.buf_.length (bA.buf_.flatMap eB),erQ A cQ bA.err_])
      replace hm:=Zj hm;obtain⟨bE,dO,hm⟩:=hm
      refine Zi H rfl en94 (Ug (A:=A) bB (fun w' hw=>(Uu (bC 0 _ rfl _ hw)).slr rfl (fun _ _=>rfl)) dO) rfl ?_
      clear H;intro fH fI hv;clear a;intro a H;obtain⟨cR,cT,rfl,dP⟩:=hv
      replace hS:=bD _ _ dP;simp only [List.cons_append,List.nil_append] at hS;clear bB dN bC bD
      refine Ze (Za (wp_seq (wp_region_lit (n_q H (Zc rfl) rfl ?_))));clear H a;intro a H
      replace hS:=hS.pk2
      replace hS:=hS.pk2
      replace hS:=hS.pk2
      obtain⟨eA,bF,bG,dQ,bH⟩:=hS.frame (rs1:=[blkR aA [cR,cT] 244,ownR 5 1 cR bE.buf_.length (bE.buf_.flatMap eB),erQ A cT bE.err_])
      replace hm:=Zj hm;obtain⟨bI,dR,hm⟩:=hm
      refine Zi H rfl en95 (Zca (A:=A) (fun w' hw=>hG.ext (bG _ hw).ext) bF dR) rfl ?_
      clear H;intro fJ fK hv;clear a;intro a H;obtain⟨cU,cV,rfl,dS⟩:=hv
      replace hS:=bH _ _ dS;simp only [List.cons_append,List.nil_append] at hS;clear bF bG dQ bH
      refine Ze (Za (wp_seq (wp_region_lit (n_q H (Zc rfl) rfl (W_q (Zc rfl) rfl ?_)))));clear H a;intro a H
      obtain⟨fL,fM,dT,eC,eD⟩:=SlR.formV ((hS.own 6 rfl).slr rfl (fun _ _=>rfl))
      refine n_q H (Qe Tryz.underlying100 rfl dT) rfl (W_q (Ke rfl rfl) rfl (W_q (Ke rfl rfl) rfl ?_));clear H a;intro a H
      replace hS:=hS.pk2
      replace hS:=hS.pk2
      replace hS:=hS.pk2
      obtain⟨eE,bJ,bK,dU,bL⟩:=hS.frame (rs1:=[blkR aA [cU,cV] 244,ownR 5 1 cU bI.buf_.length (bI.buf_.flatMap eB),erQ A cV bI.err_])
      replace hm:=Zj hm;obtain⟨bM,dV,hm⟩:=hm
      refine Zi H rfl en96 (Uh (A:=A) (fun w' hw=>hG.ext (bK _ hw).ext) bJ dV) rfl ?_
      clear H;intro fN fO hv;clear a;intro a H;obtain⟨cW,cX,rfl,dW⟩:=hv
      replace hS:=bL _ _ dW;simp only [List.cons_append,List.nil_append] at hS;clear bJ bK dU bL
      refine Ze (Za (wp_seq (wp_region_lit (n_q H (Zc rfl) rfl (W_q (Zd rfl Zcu) rfl (W_q (Zf rfl ((hS.blk 9 rfl).ld ag3 rfl)) rfl ?_))))));clear H a;intro a H
      replace hS:=hS.pk2
      replace hS:=hS.pk2
      replace hS:=hS.pk2
      obtain⟨eG,bN,bO,dX,bP⟩:=hS.frame (rs1:=[blkR aA [cW,cX] 244,ownR 5 1 cW bM.buf_.length (bM.buf_.flatMap eB),erQ A cX bM.err_])
      replace hm:=Zj hm;obtain⟨bQ,dY,hm⟩:=hm
      refine Zi H rfl en96 (Uh (A:=A) (fun w' hw=>hG.ext (bO _ hw).ext) bN dY) rfl ?_
      clear H;intro eH fP hv;clear a;intro a H;obtain⟨cY,cZ,rfl,bX⟩:=hv
      replace hS:=bP _ _ bX;simp only [List.cons_append,List.nil_append] at hS;clear bN bO dX bP
      refine Ze (Za (wp_seq (wp_region_lit (n_q H (Zc rfl) rfl (W_q (Zd rfl Zj6) rfl (W_q (Zf rfl ((hS.blk 9 rfl).ld ag4 rfl)) rfl ?_))))));clear H a;intro a H
      replace hS:=hS.pk2
      replace hS:=hS.pk2
      replace hS:=hS.pk2
      obtain⟨d5,aP,bY,bZ,aQ⟩:=hS.frame (rs1:=[blkR aA [cY,cZ] 244,ownR 5 1 cY bQ.buf_.length (bQ.buf_.flatMap eB),erQ A cZ bQ.err_])
      replace hm:=Zj hm;obtain⟨aM,b7,hm⟩:=hm
      refine Zi H rfl en97 (Hh (A:=A) aP b7) rfl ?_
      clear H;intro eJ eK hv;clear a;intro a H;obtain⟨bR,bS,rfl,b8⟩:=hv
      replace hS:=aQ _ _ b8;simp only [List.cons_append,List.nil_append] at hS;clear aP bY bZ aQ
      refine Ze (Za (wp_seq (wp_region_lit (n_q H (Zc rfl) rfl (W_q (Zc rfl) rfl ?_)))));clear H a;intro a H
      replace hS:=hS.pk2
      replace hS:=hS.pk2
      replace hS:=hS.pk2
      obtain⟨d6,aR,b9,aS,aT⟩:=hS.frame (rs1:=[blkR aA [bR,bS] 244,ownR 5 1 bR aM.buf_.length (aM.buf_.flatMap eB),erQ A bS aM.err_])
      replace hm:=Zj hm;obtain⟨aN,cA,hm⟩:=hm
      refine Zi H rfl en94 (Ug (A:=A) aR (fun w' hw=>(Uu (aS 3 _ rfl _ hw)).slr rfl (fun _ _=>rfl)) cA) rfl ?_
      clear H;intro eL eM hv;clear a;intro a H;obtain⟨bT,bU,rfl,cB⟩:=hv
      replace hS:=aT _ _ cB;simp only [List.cons_append,List.nil_append] at hS;clear aR b9 aS aT
      refine Ze (Za (wp_seq (wp_region_lit (n_q H (Zc rfl) rfl ?_))));clear H a;intro a H
      replace hS:=hS.pk2
      replace hS:=hS.pk2
      replace hS:=hS.pk2
      obtain⟨d7,aU,cC,cD,aV⟩:=hS.frame (rs1:=[blkR aA [bT,bU] 244,ownR 5 1 bT aN.buf_.length (aN.buf_.flatMap eB),erQ A bU aN.err_])
      replace hm:=Zj hm;obtain⟨aO,cF,hm⟩:=hm
      refine Zi H rfl en92 (Wr (A:=A) aU cF) rfl ?_
      clear H;intro eN bV hv;clear a;intro a H;obtain⟨eO,bW,eP,eQ,rfl,cG⟩:=hv
      replace hS:=aV _ _ cG;simp only [List.cons_append,List.nil_append] at hS;clear aU cC cD aV
      refine n_q H (Zc rfl) rfl (W_q (Zh rfl rfl) rfl (W_q (Zh rfl rfl) rfl (W_q (Zb rfl) rfl (W_q (Zb rfl) rfl ?_))));clear H a;intro a H
      refine Ze (Za (wp_seq (wp_seq (wp_region_lit (n_q H (Zc rfl) rfl (W_q (Qq (Jh Tryz.underlying39 rfl rfl (hS.any 3 rfl : IsE A bV bW aO.2.1).form) (show _=Value.bool (!decide (aO.2.1=.nil)) by rw [Xb.isNil (hS.any 3 rfl : IsE A bV bW aO.2.1)])) rfl ?_))))));clear H a;intro a H
      refine Ze (Za (Zl H rfl (fun aF=>?_) (fun aF=>?_)))
      · replace hm:=Zu hm aF
        refine wp_seq (wp_region_lit (n_q H (Zc rfl) rfl (W_q (Zb rfl) rfl (W_q (Zb rfl) rfl ?_))));clear H a;intro a H
        refine Ze (Za (wp_ret (Zg ?_)))
        obtain rfl:=Option.some.inj hm
        replace hS:=hS.nilOwn 5 1
        replace hS:=hS.pk4
        replace hS:=hS.pk1
        replace hS:=hS.tk2
        refine Zbu H (.inr rfl) rfl rfl rfl ?_
        exact⟨_,_,rfl,hS⟩
      · replace hm:=Zv hm aF
        refine wp_skip (Za (wp_seq (wp_region_lit (n_q H (Zc rfl) rfl ?_))));clear H a;intro a H
        replace hm:=Zj hm;obtain⟨eT,cH,hm⟩:=hm
        refine Zi H rfl en98 (Zhx (A:=A) ((hS.own 2 rfl).slr rfl (fun _ _=>rfl)) cH) rfl ?_
        clear H;intro eU eV hv;clear a;intro a H;obtain⟨_,rfl,cI⟩:=hv
        replace hS:=hS.new cI;simp only [List.cons_append,List.nil_append] at hS
        refine n_q H (Zb rfl) rfl (W_q (Zb rfl) rfl ?_);clear H a;intro a H
        refine Ze (Za (wp_ret ?_))
        obtain rfl:=Option.some.inj hm
        replace hS:=hS.dNil (A:=A)
        replace hS:=hS.pk1
        replace hS:=hS.tk2
        refine Zbu H (.inr rfl) rfl rfl rfl ?_
        exact⟨_,_,rfl,hS⟩
theorem Zw {w : World} {A : Nat → Addr} {v0 : Value} {a0 : List Int} (h0 : SlR w 1 (Zn eI) v0 a0) {r : List Int} (hm : Vy a0=some r) :
    Calls Tryz.prog 125 [v0].toArray w (Ret fun u w'=>∃ h_0,u=h_0 ∧ St NB w w' [ownR 3 1 h_0 r.length (r.flatMap eI)]):=by
  have hS:=St.begin NB w
  unfold Vy at hm
  refine enter Tryz.func125 rfl rfl rfl ?_;intro a H;dsimp only [Qn,Nat.zero_add,Nat.reduceAdd] at H
  refine wp_seq (wp_region_lit (n_q H (Zb rfl) rfl ?_));clear H a;intro a H
  refine Ze (Za (wp_seq (wp_seq (wp_region_lit (n_q H (Zc rfl) rfl ?_)))));clear H a;intro a H
  obtain⟨aH,aI,aA,aF,aG⟩:=SlR.formV (h0.ext (Zn.mono _) hS.x)
  refine n_q H (Zlt Tryz.underlying25 rfl aA rfl) rfl ?_;clear H a;intro a H
  refine Ze (Za (Zl H rfl (fun aB=>?_) (fun aB=>?_)))
  · obtain rfl:=SlR.nilV (h0.ext (Zn.mono _) hS.x) aA aB;replace hm:=Zbm hm;obtain⟨_,hm⟩:=hm
    refine wp_seq (wp_region_lit (n_q H (Zb rfl) rfl ?_));clear H a;intro a H
    refine Ze (Za (wp_ret (Zg ?_)))
    obtain rfl:=Option.some.inj hm
    replace hS:=hS.nilOwn 3 1
    refine Xx H (.inr rfl) rfl rfl ?_
    exact⟨_,rfl,hS⟩
  · skip
    refine wp_skip (Za (wp_seq (wp_region_lit (Qf H Tryz.underlying25 sz3 ze3 rfl rfl rfl (cs:=[]) rfl rfl ?_))))
    clear H;intro aJ aK hN aC hs;clear a;intro a H
    replace hS:=hS.newBlk hN aC hs;clear hN hs
    replace hS:=hS.blkOwnL (e:=eI) (k:=1) ([] : List Int) rfl rfl (by simp [maxLen])
    refine n_q H (Zc rfl) rfl ?_;clear H a;intro a H
    replace hm:=Zbm hm;obtain⟨aD,hm⟩:=hm
    refine Zcr (e:=eI) H rfl rfl Tryz.underlying25 Tryz.underlying25 (by simp) el3 (hS.own 0 rfl) ((h0.ext (Zn.mono _) hS.x).src (fun _ _=>rfl)) Zjy aD (by simp only [maxLen];omega) rfl ?_
    clear H;intro aL aM hN aE hb;clear a;intro a H;replace hS:=hS.setOwn hN aE hb;clear hN hb
    refine n_q H (Zb rfl) rfl ?_;clear H a;intro a H
    refine Ze (Za (wp_ret ?_))
    obtain rfl:=Option.some.inj hm
    refine Xx H (.inr rfl) rfl rfl ?_
    exact⟨_,rfl,hS⟩
end Go.Proofs.YtfemfiiagjnhdaaGreatDoor
