/- Part of a claim, shortened by a program from its texts: PbA. -/
import Derived.Test.YtfemfiiagjnhdaaGreatDoorQyD
set_option linter.unusedVariables false
set_option linter.unusedSimpArgs false
set_option maxRecDepth 10000
namespace Go.Proofs.YtfemfiiagjnhdaaGreatDoor
open Go Go.RowKit
theorem Zdx : Za5 Tryz.prog 100=some false:=by kernel_rfl
theorem ag101 : Za5 Tryz.prog 101=some false:=by kernel_rfl
theorem Zk1 : Za5 Tryz.prog 114=some true:=by kernel_rfl
theorem Zjs : Za5 Tryz.prog 116=some true:=by kernel_rfl
theorem Zdq : Za5 Tryz.prog 118=some true:=by kernel_rfl
theorem Zt1 : Za5 Tryz.prog 130=some false:=by kernel_rfl
theorem Zgt : Za5 Tryz.prog 22=some false:=by kernel_rfl
theorem Zii : Za5 Tryz.prog 23=some false:=by kernel_rfl
theorem Zi7 : Za5 Tryz.prog 24=some false:=by kernel_rfl
theorem Zij : Za5 Tryz.prog 25=some false:=by kernel_rfl
theorem Zap : Za5 Tryz.prog 27=some true:=by kernel_rfl
theorem ag5 : Za5 Tryz.prog 5=some false:=by kernel_rfl
theorem Zpv : bdB Tryz.prog 114=true:=by kernel_rfl
theorem Zpw : Gj Tryz.prog 114=some #[(0,1),(1,1)]:=by kernel_rfl
theorem Zrx : bdB Tryz.prog 116=true:=by kernel_rfl
theorem Zry : Gj Tryz.prog 116=some #[(0,1),(1,1),(2,1)]:=by kernel_rfl
theorem Zrz : bdB Tryz.prog 118=true:=by kernel_rfl
theorem Zr0 : Gj Tryz.prog 118=some #[(0,1),(1,1),(2,1),(3,1)]:=by kernel_rfl
theorem bd214 : bdB Tryz.prog 214=true:=by kernel_rfl
theorem pl214 : Gj Tryz.prog 214=some #[(0,1),(1,1)]:=by kernel_rfl
theorem bd244 : bdB Tryz.prog 244=true:=by kernel_rfl
theorem pl244 : Gj Tryz.prog 244=some #[(0,1),(1,1)]:=by kernel_rfl
theorem Zno : bdB Tryz.prog 27=true:=by kernel_rfl
theorem Znp : Gj Tryz.prog 27=some #[(0,1),(1,1),(2,1),(3,1),(4,1),(5,1),(6,1)]:=by kernel_rfl
theorem el3 : ElemOk Tryz.prog 3 1 8 [.int .i64 0]:=⟨by kernel_rfl,by kernel_rfl,by kernel_rfl,rfl,by decide⟩
theorem el5 : ElemOk Tryz.prog 5 1 1 [.int .u8 0]:=⟨by kernel_rfl,by kernel_rfl,by kernel_rfl,rfl,by decide⟩
theorem en128 : Zs Tryz.prog 128=true:=by kernel_rfl
theorem en129 : Zs Tryz.prog 129=true:=by kernel_rfl
theorem en130 : Zs Tryz.prog 130=true:=by kernel_rfl
theorem Zt2 : Zs Tryz.prog 137=true:=by kernel_rfl
theorem en140 : Zs Tryz.prog 140=true:=by kernel_rfl
theorem Zpx : Zs Tryz.prog 161=true:=by kernel_rfl
theorem en162 : Zs Tryz.prog 162=true:=by kernel_rfl
theorem Zk2 : Zs Tryz.prog 163=true:=by kernel_rfl
theorem en164 : Zs Tryz.prog 164=true:=by kernel_rfl
theorem en165 : Zs Tryz.prog 165=true:=by kernel_rfl
theorem en166 : Zs Tryz.prog 166=true:=by kernel_rfl
theorem en167 : Zs Tryz.prog 167=true:=by kernel_rfl
theorem Zt3 : Zs Tryz.prog 168=true:=by kernel_rfl
theorem Zpy : Zs Tryz.prog 169=true:=by kernel_rfl
theorem Zpz : Zs Tryz.prog 170=true:=by kernel_rfl
theorem en171 : Zs Tryz.prog 171=true:=by kernel_rfl
theorem en172 : Zs Tryz.prog 172=true:=by kernel_rfl
theorem Zk3 : Zs Tryz.prog 174=true:=by kernel_rfl
theorem Zr1 : Zs Tryz.prog 176=true:=by kernel_rfl
theorem Zp0 : Zs Tryz.prog 198=true:=by kernel_rfl
theorem en199 : Zs Tryz.prog 199=true:=by kernel_rfl
theorem en205 : Zs Tryz.prog 205=true:=by kernel_rfl
theorem en228 : Zs Tryz.prog 228=true:=by kernel_rfl
theorem en236 : Zs Tryz.prog 236=true:=by kernel_rfl
theorem Zt4 : Zs Tryz.prog 237=true:=by kernel_rfl
theorem en240 : Zs Tryz.prog 240=true:=by kernel_rfl
theorem en241 : Zs Tryz.prog 241=true:=by kernel_rfl
theorem en242 : Zs Tryz.prog 242=true:=by kernel_rfl
theorem en245 : Zs Tryz.prog 245=true:=by kernel_rfl
theorem en255 : Zs Tryz.prog 255=true:=by kernel_rfl
theorem en264 : Zs Tryz.prog 264=true:=by kernel_rfl
theorem en57 : Zs Tryz.prog 57=true:=by kernel_rfl
theorem en91 : Zs Tryz.prog 91=true:=by kernel_rfl
theorem en92 : Zs Tryz.prog 92=true:=by kernel_rfl
theorem en93 : Zs Tryz.prog 93=true:=by kernel_rfl
theorem en94 : Zs Tryz.prog 94=true:=by kernel_rfl
theorem en95 : Zs Tryz.prog 95=true:=by kernel_rfl
theorem en96 : Zs Tryz.prog 96=true:=by kernel_rfl
theorem en97 : Zs Tryz.prog 97=true:=by kernel_rfl
theorem en98 : Zs Tryz.prog 98=true:=by kernel_rfl
theorem Zeu : Zb2 Tryz.prog 114 0=some 0:=by kernel_rfl
theorem Zhs : Zb2 Tryz.prog 114 1=some 1:=by kernel_rfl
theorem Zcc : Zb2 Tryz.prog 116 0=some 0:=by kernel_rfl
theorem Zev : Zb2 Tryz.prog 116 1=some 1:=by kernel_rfl
theorem Zmi : Zb2 Tryz.prog 116 2=some 2:=by kernel_rfl
theorem Tv : Zb2 Tryz.prog 118 0=some 0:=by kernel_rfl
theorem Zdh : Zb2 Tryz.prog 118 1=some 1:=by kernel_rfl
theorem Zdi : Zb2 Tryz.prog 118 2=some 2:=by kernel_rfl
theorem Zew : Zb2 Tryz.prog 118 3=some 3:=by kernel_rfl
theorem Zjt : Zb2 Tryz.prog 244 0=some 0:=by kernel_rfl
theorem Zht : Zb2 Tryz.prog 244 1=some 1:=by kernel_rfl
theorem Zeh : Zb2 Tryz.prog 27 0=some 0:=by kernel_rfl
theorem Zk4 : Zb2 Tryz.prog 27 1=some 1:=by kernel_rfl
theorem Vs : Zb2 Tryz.prog 27 2=some 2:=by kernel_rfl
theorem Ur : Zb2 Tryz.prog 27 3=some 3:=by kernel_rfl
theorem Gp : Zb2 Tryz.prog 27 4=some 4:=by kernel_rfl
theorem Zc2 : Zb2 Tryz.prog 27 5=some 5:=by kernel_rfl
theorem Gq : Zb2 Tryz.prog 27 6=some 6:=by kernel_rfl
theorem Zok : Xx Tryz.prog 100=some 1:=by kernel_rfl
theorem Zp1 : Xx Tryz.prog 101=some 1:=by kernel_rfl
theorem Tk : Xx Tryz.prog 114=some 2:=by kernel_rfl
theorem Tl : Xx Tryz.prog 116=some 3:=by kernel_rfl
theorem Us : Xx Tryz.prog 118=some 4:=by kernel_rfl
theorem Zr2 : Xx Tryz.prog 130=some 1:=by kernel_rfl
theorem Ut : Xx Tryz.prog 27=some 7:=by kernel_rfl
theorem sz3 : Xx Tryz.prog 3=some 1:=by kernel_rfl
theorem sz5 : Xx Tryz.prog 5=some 1:=by kernel_rfl
theorem Zfl : Gc Tryz.prog 114=some [.int .i64 0,.string ⟨#[]⟩]:=by kernel_rfl
theorem Zex : Gc Tryz.prog 116=some [.int .i64 0,.int .i64 0,.bool false]:=by kernel_rfl
theorem Zfm : Gc Tryz.prog 118=some [.int .i64 0,.int .i64 0,.int .i64 0,.int .i64 0]:=by kernel_rfl
theorem ze130 : Gc Tryz.prog 130=some [.nilFunc]:=by kernel_rfl
theorem ze214 : Gc Tryz.prog 214=some [.int .i64 0,.nilIface]:=by kernel_rfl
theorem ze244 : Gc Tryz.prog 244=some [.slice none 0 0,.nilIface]:=by kernel_rfl
theorem Zg9 : Gc Tryz.prog 27=some [.int .i64 0,.bool false,.slice none 0 0,.slice none 0 0,.slice none 0 0,.int .i64 0,.slice none 0 0]:=by kernel_rfl
theorem ze3 : Gc Tryz.prog 3=some [.int .i64 0]:=by kernel_rfl
theorem ze337 : Gc Tryz.prog 337=some [.int .u32 0,.int .u32 0,.int .u32 0,.int .u32 0,.int .u32 0,.int .u32 0,.int .u32 0,.int .u32 0,.int .u32 0,.int .u32 0,.int .u32 0,.int .u32 0,.int .u32 0,.int .u32 0,.int .u32 0,.int .u32 0,.int .u32 0,.int .u32 0,.int .u32 0,.int .u32 0,.int .u32 0,.int .u32 0,.int .u32 0,.int .u32 0,.int .u32 0,.int .u32 0,.int .u32 0,.int .u32 0,.int .u32 0,.int .u32 0,.int .u32 0,.int .u32 0,.int .u32 0,.int .u32 0,.int .u32 0,.int .u32 0,.int .u32 0,.int .u32 0,.int .u32 0,.int .u32 0,.int .u32 0,.int .u32 0,.int .u32 0,.int .u32 0,.int .u32 0,.int .u32 0,.int .u32 0,.int .u32 0,.int .u32 0,.int .u32 0,.int .u32 0,.int .u32 0,.int .u32 0,.int .u32 0,.int .u32 0,.int .u32 0,.int .u32 0,.int .u32 0,.int .u32 0,.int .u32 0,.int .u32 0,.int .u32 0,.int .u32 0,.int .u32 0,.int .u32 0,.int .u32 0,.int .u32 0,.int .u32 0,.int .u32 0,.int .u32 0,.int .u32 0,.int .u32 0,.int .u32 0,.int .u32 0,.int .u32 0,.int .u32 0,.int .u32 0,.int .u32 0,.int .u32 0,.int .u32 0,.int .u32 0,.int .u32 0,.int .u32 0,.int .u32 0,.int .u32 0,.int .u32 0,.int .u32 0,.int .u32 0,.int .u32 0,.int .u32 0,.int .u32 0,.int .u32 0,.int .u32 0,.int .u32 0,.int .u32 0,.int .u32 0,.int .u32 0,.int .u32 0,.int .u32 0,.int .u32 0,.int .u32 0,.int .u32 0,.int .u32 0,.int .u32 0,.int .u32 0,.int .u32 0,.int .u32 0,.int .u32 0,.int .u32 0,.int .u32 0,.int .u32 0,.int .u32 0,.int .u32 0,.int .u32 0,.int .u32 0,.int .u32 0,.int .u32 0,.int .u32 0,.int .u32 0,.int .u32 0,.int .u32 0,.int .u32 0,.int .u32 0,.int .u32 0,.int .u32 0,.int .u32 0,.int .u32 0,.int .u32 0,.int .u32 0,.int .u32 0,.int .u32 0,.int .u32 0,.int .u32 0,.int .u32 0,.int .u32 0,.int .u32 0,.int .u32 0,.int .u32 0,.int .u32 0,.int .u32 0,.int .u32 0,.int .u32 0,.int .u32 0,.int .u32 0,.int .u32 0,.int .u32 0,.int .u32 0,.int .u32 0,.int .u32 0,.int .u32 0,.int .u32 0,.int .u32 0,.int .u32 0,.int .u32 0,.int .u32 0,.int .u32 0,.int .u32 0,.int .u32 0,.int .u32 0,.int .u32 0,.int .u32 0,.int .u32 0,.int .u32 0,.int .u32 0,.int .u32 0,.int .u32 0,.int .u32 0,.int .u32 0,.int .u32 0,.int .u32 0,.int .u32 0,.int .u32 0,.int .u32 0,.int .u32 0,.int .u32 0,.int .u32 0,.int .u32 0,.int .u32 0,.int .u32 0,.int .u32 0,.int .u32 0,.int .u32 0,.int .u32 0,.int .u32 0,.int .u32 0,.int .u32 0,.int .u32 0,.int .u32 0,.int .u32 0,.int .u32 0,.int .u32 0,.int .u32 0,.int .u32 0,.int .u32 0,.int .u32 0,.int .u32 0,.int .u32 0,.int .u32 0,.int .u32 0,.int .u32 0,.int .u32 0,.int .u32 0,.int .u32 0,.int .u32 0,.int .u32 0,.int .u32 0,.int .u32 0,.int .u32 0,.int .u32 0,.int .u32 0,.int .u32 0,.int .u32 0,.int .u32 0,.int .u32 0,.int .u32 0,.int .u32 0,.int .u32 0,.int .u32 0,.int .u32 0,.int .u32 0,.int .u32 0,.int .u32 0,.int .u32 0,.int .u32 0,.int .u32 0,.int .u32 0,.int .u32 0,.int .u32 0,.int .u32 0,.int .u32 0,.int .u32 0,.int .u32 0,.int .u32 0,.int .u32 0,.int .u32 0,.int .u32 0,.int .u32 0,.int .u32 0,.int .u32 0,.int .u32 0,.int .u32 0,.int .u32 0,.int .u32 0,.int .u32 0,.int .u32 0,.int .u32 0,.int .u32 0,.int .u32 0,.int .u32 0,.int .u32 0,.int .u32 0,.int .u32 0,.int .u32 0,.int .u32 0,.int .u32 0,.int .u32 0]:=by kernel_rfl
theorem ze5 : Gc Tryz.prog 5=some [.int .u8 0]:=by kernel_rfl
theorem Zhu {w : World} {A : Nat → Addr} {r : GPlan} (hm : Za0=some r) :
    Calls Tryz.prog 46 [].toArray w (Ret fun u w'=>∃ h_0 h_1 h_2 h_3,u=.agg #[.int .i64 r.Id,.bool r.Mobile,h_0,h_1,h_2,.int .i64 r.Events,h_3] ∧ St NB w w' [ownR 114 2 h_0 r.Pages.length (r.Pages.flatMap Qc),ownR 116 3 h_1 r.Procs.length (r.Procs.flatMap Zx),ownR 118 4 h_2 r.Ports.length (r.Ports.flatMap Zw),ownR 3 1 h_3 r.Sems.length (r.Sems.flatMap eI)]):=by
  have hS:=St.begin NB w
  unfold Za0 at hm
  refine enter Tryz.func46 rfl rfl rfl ?_;intro a H;dsimp only [Qk,Nat.zero_add,Nat.reduceAdd] at H
  refine wp_seq (wp_region_lit (Qr H Zg9 rfl ?_))
  clear H;intro aK aL hN aE hs;clear a;intro a H
  replace hS:=hS.newBlk hN aE hs;clear hN hs
  refine Ze (Za (wp_seq (wp_region_lit (n_q H (Zz (cs:=[.int .i64 5,.string ⟨#[97,98]⟩]) Zfl Zpv Zpw rfl (by kernel_rfl)) rfl (W_q (Zz (cs:=[.int .i64 3,.string ⟨#[]⟩]) Zfl Zpv Zpw rfl (by kernel_rfl)) rfl ?_)))));clear H a;intro a H
  refine Qd H Tryz.underlying22 Tk Zfl rfl rfl rfl (cs:=[.int .i64 5,.string ⟨#[97,98]⟩,.int .i64 3,.string ⟨#[]⟩]) (by kernel_rfl) rfl ?_
  clear H;intro aA aM hN aF hs;clear a;intro a H
  replace hS:=hS.newBlk hN aF hs;clear hN hs
  replace hS:=hS.blkOwnL (e:=Qc) (k:=2) [(⟨5,⟨#[97,98]⟩⟩ : GPagePlan),(⟨3,⟨#[]⟩⟩ : GPagePlan)] rfl rfl (by simp [maxLen])
  refine n_q H (Zz (cs:=[.int .i64 0,.int .i64 7,.bool true]) Zex Zrx Zry rfl (by kernel_rfl)) rfl (W_q (Zz (cs:=[.int .i64 64,.int .i64 9,.bool false]) Zex Zrx Zry rfl (by kernel_rfl)) rfl ?_);clear H a;intro a H
  refine Qd H Tryz.underlying23 Tl Zex rfl rfl rfl (cs:=[.int .i64 0,.int .i64 7,.bool true,.int .i64 64,.int .i64 9,.bool false]) (by kernel_rfl) rfl ?_
  clear H;intro aB aN hN aG hs;clear a;intro a H
  replace hS:=hS.newBlk hN aG hs;clear hN hs
  replace hS:=hS.blkOwnL (e:=Zx) (k:=3) [(⟨0,7,true⟩ : GProcPlan),(⟨64,9,false⟩ : GProcPlan)] rfl rfl (by simp [maxLen])
  refine n_q H (Zz (cs:=[.int .i64 1,.int .i64 4,.int .i64 1,.int .i64 2]) Zfm Zrz Zr0 rfl (by kernel_rfl)) rfl (W_q (Zz (cs:=[.int .i64 4,.int .i64 8,.int .i64 2,.int .i64 0]) Zfm Zrz Zr0 rfl (by kernel_rfl)) rfl ?_);clear H a;intro a H
  refine Qd H Tryz.underlying24 Us Zfm rfl rfl rfl (cs:=[.int .i64 1,.int .i64 4,.int .i64 1,.int .i64 2,.int .i64 4,.int .i64 8,.int .i64 2,.int .i64 0]) (by kernel_rfl) rfl ?_
  clear H;intro aC aO hN aH hs;clear a;intro a H
  replace hS:=hS.newBlk hN aH hs;clear hN hs
  replace hS:=hS.blkOwnL (e:=Zw) (k:=4) [(⟨1,4,1,2⟩ : GPortPlan),(⟨4,8,2,0⟩ : GPortPlan)] rfl rfl (by simp [maxLen])
  refine Qd H Tryz.underlying25 sz3 ze3 rfl rfl rfl (cs:=[.int .i64 2]) (by kernel_rfl) rfl ?_
  clear H;intro aD aP hN aI hs;clear a;intro a H
  replace hS:=hS.newBlk hN aI hs;clear hN hs
  replace hS:=hS.blkOwnL (e:=eI) (k:=1) [2] rfl rfl (by simp [maxLen])
  refine n_q H (Zz (cs:=[.int .i64 3,.bool true,.slice (some ⟨aA,0,none⟩) 2 2,.slice (some ⟨aB,0,none⟩) 2 2,.slice (some ⟨aC,0,none⟩) 2 2,.int .i64 1,.slice (some ⟨aD,0,none⟩) 1 1]) Zg9 Zno Znp rfl ((Qh rfl rfl (by simp)).trans ((Qh rfl rfl (by simp)).trans ((Qh (((hS.own 3 rfl).slr rfl (fun _ _=>rfl))).one rfl (by simp)).trans ((Qh (((hS.own 2 rfl).slr rfl (fun _ _=>rfl))).one rfl (by simp)).trans ((Qh (((hS.own 1 rfl).slr rfl (fun _ _=>rfl))).one rfl (by simp)).trans ((Qh rfl rfl (by simp)).trans ((Qh (((hS.own 0 rfl).slr rfl (fun _ _=>rfl))).one rfl (by simp)).trans rfl)))))))) rfl ?_;clear H a;intro a H
  replace hS:=hS.pk4
  refine Zr H rfl rfl (vs:=[.int .i64 3,.bool true,.slice (some ⟨aA,0,none⟩) 2 2,.slice (some ⟨aB,0,none⟩) 2 2,.slice (some ⟨aC,0,none⟩) 2 2,.int .i64 1,.slice (some ⟨aD,0,none⟩) 1 1]) rfl Ut (hS.blk 0 rfl) rfl (by simp [(((hS.own 4 rfl).slr rfl (fun _ _=>rfl))).one,(((hS.own 3 rfl).slr rfl (fun _ _=>rfl))).one,(((hS.own 2 rfl).slr rfl (fun _ _=>rfl))).one,(((hS.own 1 rfl).slr rfl (fun _ _=>rfl))).one]) ?_
  clear H;intro aQ hN aJ hz;clear a;intro a H;replace hS:=hS.setBlk hN aJ;clear hN hz
  refine Ze (Za (wp_ret ?_))
  obtain rfl:=Option.some.inj hm
  replace hS:=hS.pk1
  replace hS:=hS.pk2
  replace hS:=hS.pk3
  replace hS:=hS.pk4
  refine Ti H (.inr rfl) rfl (vs:=[.agg #[.int .i64 3,.bool true,.slice (some ⟨aA,0,none⟩) 2 2,.slice (some ⟨aB,0,none⟩) 2 2,.slice (some ⟨aC,0,none⟩) 2 2,.int .i64 1,.slice (some ⟨aD,0,none⟩) 1 1]]) (Qm rfl ((hS.blk 4 rfl).ldAll Zap Ut) Qv) ?_
  replace hS:=hS.tk4
  exact⟨_,_,_,_,rfl,hS⟩
theorem Zbr {w : World} {A : Nat → Addr} {a0 : Int} {v1 : Value} {a1 : ErrM} (h1 : IsE A w v1 a1) {r : ErrM} (hm : Zam a0 a1=some r) :
    Calls Tryz.prog 198 [.int .i64 a0,v1].toArray w (Ret fun u w'=>∃ h_0,u=h_0 ∧ St NB w w' [erQ A h_0 r]):=by
  have hS:=St.begin NB w
  unfold Zam at hm
  refine enter Tryz.func198 rfl rfl rfl ?_;intro a H;dsimp only [Qk,Nat.zero_add,Nat.reduceAdd] at H
  refine wp_seq (wp_region_lit (n_q H (Zb rfl) rfl ?_));clear H a;intro a H
  refine Ze (Za (wp_seq (wp_region_lit (n_q H (Zc rfl) rfl (W_q (Zc rfl) rfl (W_q (Zz (cs:=[.int .i64 a0,v1]) ze214 bd214 pl214 rfl ((Qh rfl rfl (by simp)).trans ((Qh (Xw.ext h1 hS.x).one rfl (by simp)).trans rfl))) rfl ?_))))));clear H a;intro a H
  refine Wt H rfl (cs:=[.int .i64 a0,v1]) rfl rfl ?_
  clear H;intro aD aE hN aB hs;clear a;intro a H
  replace hS:=hS.newBlk hN aB hs;clear hN hs
  replace hm:=Zi hm;obtain⟨aF,aC,hm⟩:=hm
  have aA:=(Xw.ext h1 hS.x)
  refine n_q H (Zbd Tryz.underlying210 (by simp) rfl) rfl ?_;clear H a;intro a H
  replace hS:=hS.dAtE aA aC
  refine n_q H (Zb rfl) rfl ?_;clear H a;intro a H
  refine Ze (Za (wp_ret ?_))
  obtain rfl:=Option.some.inj hm
  refine Je H (.inr rfl) rfl rfl ?_
  exact⟨_,rfl,hS⟩
theorem Zey {w : World} {A : Nat → Addr} {cs0 : List Value} {a0 : GPlan} (hG : EV A w) (h0 : Qw w cs0 a0) {r : ErrM} (hm : Wk a0=some r) :
    Calls Tryz.prog 128 [.agg cs0.toArray].toArray w (Ret fun u w'=>∃ h_0,u=h_0 ∧ St NB w w' [erQ A h_0 r]):=by
  obtain⟨aK,aO,aP,aQ,rfl,aC,aZ,a9,bA⟩:=h0
  have hS:=St.begin NB w
  unfold Wk at hm
  refine enter Tryz.func128 rfl rfl rfl ?_;intro a H;dsimp only [Qk,Nat.zero_add,Nat.reduceAdd] at H
  refine wp_seq (wp_region_lit (Wt H rfl (cs:=[.int .i64 a0.Id,.bool a0.Mobile,aK,aO,aP,.int .i64 a0.Events,aQ]) rfl rfl ?_))
  clear H;intro bH bI hN aS hs;clear a;intro a H
  replace hS:=hS.newBlk hN aS hs;clear hN hs
  refine n_q H (Zb rfl) rfl ?_;clear H a;intro a H
  refine Ze (Za (wp_seq (wp_seq (wp_region_lit (n_c H (fun HC=>?_))))));clear H
  refine Tn HC (Zd rfl Vs) rfl (by kernel_rfl) (V_q (Zf rfl ((hS.blk 0 rfl).ld Zgt rfl)) rfl (by kernel_rfl) ?_);clear HC a;intro a HC
  obtain⟨bJ,bK,aB,bF,bG⟩:=SlR.formV (aC.ext (Zq.mono _) hS.x)
  refine Tn HC (Qf Tryz.underlying22 rfl aB) rfl (by kernel_rfl) (V_q (Xz (i:=a0.Pages.length) (j:=1) rfl rfl) rfl (by kernel_rfl) (V_q (Zc rfl) rfl (by kernel_rfl) (V_g (Zd rfl Vs) (by kernel_rfl) (by kernel_rfl) (by kernel_rfl) (V_g (Zf rfl ((hS.blk 0 rfl).ld Zgt rfl)) (by kernel_rfl) (by kernel_rfl) (by kernel_rfl) (V_g (Qf Tryz.underlying22 rfl aB) (by kernel_rfl) (by kernel_rfl) (by kernel_rfl) (V_g (Zdn (i:=a0.Pages.length) (j:=32) rfl rfl) (by kernel_rfl) (by kernel_rfl) (by kernel_rfl) (Zet (j:=4) rfl rfl rfl (by kernel_rfl) (by kernel_rfl) ?_)))))));clear HC a;intro a HC
  have H:=HC.has;clear HC
  refine Ze (Za (Zl H rfl (fun aF=>?_) (fun aF=>?_)))
  · replace hm:=Zu hm aF
    refine wp_seq (wp_region_lit (n_q H (Zf rfl ((hG.ext hS.x).ld Zaz (by decide) Hv)) rfl (W_q (Zb rfl) rfl ?_)));clear H a;intro a H
    refine Ze (Za (wp_ret (Zh ?_)))
    obtain rfl:=Option.some.inj hm
    replace hS:=hS.dVar (A:=A) (g:=Zaz) (by decide)
    replace hS:=hS.tk1
    refine Je H (.inr rfl) rfl rfl ?_
    exact⟨_,rfl,hS⟩
  replace hm:=Zv hm aF
  refine wp_skip (Za (wp_seq (wp_seq (wp_region_lit (n_q H (Zd rfl Vs) rfl (W_q (Zf rfl ((hS.blk 0 rfl).ld Zgt rfl)) rfl (W_q (Qf Tryz.underlying22 rfl aB) rfl (W_q (Zc rfl) rfl ?_))))))));clear H a;intro a H
  refine Ze (Za (wp_block ?_))
  replace hS:=hS.tk0
  replace hm:=Zi hm;obtain⟨aL,hm,aG⟩:=hm;replace hm:=Qg hm;obtain⟨bB,hm⟩:=hm
  refine Jd (σ:=Nat × Nat) (fun (m,aA)=>[(17,aK),(18,.int .i64 ((a0.Pages.length : Nat) : Int)),(19,.int .i64 ((aA : Nat) : Int))]) (fun (m,aA) wl=>Js (Kg a0) m aA=some aL ∧ St NB w wl []) (fun (m,aA)=>m) (bB,0) H ⟨rfl,rfl,rfl,trivial⟩ ⟨hm,hS⟩ ?_
  clear H hS hm a;intro xx a bL H hR;obtain⟨m,aA⟩:=xx;simp only [ent,List.map_cons,List.map_nil] at H;(try dsimp only at hR);obtain⟨hm,hS⟩:=hR
  replace hm:=Qa hm;obtain⟨bC,bM,rfl,hm,aD⟩:=hm;try dsimp only [Kg] at hm
  refine wp_seq (wp_region_lit (n_q H (Xz (i:=aA) (j:=a0.Pages.length) rfl rfl) rfl ?_));clear H a;intro a H
  refine Ze (Za (wp_seq (Zl H rfl (fun aE=>?_) (fun aE=>?_))))
  · replace hm:=Zu hm aE
    have bD : aA < a0.Pages.length:=of_decide_eq_true aE
    refine wp_skip (Za (wp_seq (wp_block (wp_seq (wp_region_lit (n_q H (Zc rfl) rfl ?_))))));clear H a;intro a H
    replace hm:=Zi hm;obtain⟨aN,aH,hm⟩:=hm
    obtain⟨bE,aM⟩:=SlR.adV (aC.ext (Zq.mono _) hS.x) aB aH
    refine n_q H (Jn (i:=aA) Tryz.underlying22 Tk rfl aB aM rfl (Ho aH)) rfl (W_q (Zf rfl (SlR.ldAggV (aC.ext (Zq.mono _) hS.x) aB aM Zk1 Tk aH)) rfl ?_);clear H a;intro a H
    refine Qr H Zfl rfl ?_
    clear H;intro bN bO hN aT hs;clear a;intro a H
    replace hS:=hS.newBlk hN aT hs;clear hN hs
    refine n_q H (Zb rfl) rfl ?_;clear H a;intro a H
    refine Zr H rfl rfl (vs:=[.int .i64 aN.Rights,.string aN.Init]) rfl Tk (hS.blk 0 rfl) rfl (by simp) ?_
    clear H;intro aR hN aU hz;clear a;intro a H;replace hS:=hS.setBlk hN aU;clear hN hz
    refine Ze (Za (wp_seq (wp_seq (wp_region_lit (n_c H (fun HC=>?_))))));clear H
    refine Tn HC (Zd rfl Zeu) rfl (by kernel_rfl) (V_q (Zf rfl ((hS.blk 0 rfl).ld ag3 rfl)) rfl (by kernel_rfl) (V_q (Un rfl rfl) rfl (by kernel_rfl) (V_q (Zc rfl) rfl (by kernel_rfl) (V_g (Zd rfl Zeu) (by kernel_rfl) (by kernel_rfl) (by kernel_rfl) (V_g (Zf rfl ((hS.blk 0 rfl).ld ag3 rfl)) (by kernel_rfl) (by kernel_rfl) (by kernel_rfl) (V_g (Hp rfl rfl) (by kernel_rfl) (by kernel_rfl) (by kernel_rfl) (Zet (j:=3) rfl rfl rfl (by kernel_rfl) (by kernel_rfl) ?_)))))));clear HC a;intro a HC
    have H:=HC.has;clear HC
    refine Ze (Za (Zl H rfl (fun aI=>?_) (fun aI=>?_)))
    · replace hm:=Zu hm aI
      refine wp_seq (wp_region_lit (n_q H (Zc rfl) rfl (W_q (Zf rfl ((hG.ext hS.x).ld Kl (by decide) Hv)) rfl ?_)));clear H a;intro a H
      replace hm:=Zi hm;obtain⟨bP,aV,hm⟩:=hm
      refine Zj H rfl Zp0 (Zbr (A:=A) (Xw.var (by decide) : IsE A aR _ (.v Kl)) aV) rfl ?_
      clear H;intro bQ bR hv;clear a;intro a H;obtain⟨_,rfl,aW⟩:=hv
      replace hS:=hS.new aW;simp only [List.cons_append,List.nil_append] at hS
      refine n_q H (Zb rfl) rfl ?_;clear H a;intro a H
      refine Ze (Za (wp_ret (Zh (Zo (Zh (Zh (Zo (Zh ?_))))))))
      obtain rfl:=Option.some.inj hm;have hz : _=aL:=aD;subst hz;replace hm:=aG;try dsimp only at hm
      obtain rfl:=Option.some.inj hm
      replace hS:=hS.tk1
      refine Je H (.inr rfl) rfl rfl ?_
      exact⟨_,rfl,hS⟩
    replace hm:=Zv hm aI
    refine wp_skip (Za (wp_seq (wp_region_lit (n_q H (Zd rfl Zhs) rfl (W_q (Zf rfl ((hS.blk 0 rfl).ld ag9 rfl)) rfl (W_q (Zs7 Tryz.underlying9 rfl) rfl (W_q (Zdn (i:=aN.Init.size) (j:=64) rfl rfl) rfl ?_)))))));clear H a;intro a H
    refine Ze (Za (Zl H rfl (fun aJ=>?_) (fun aJ=>?_)))
    · replace hm:=Zu hm aJ
      refine wp_seq (wp_region_lit (n_q H (Zc rfl) rfl (W_q (Zf rfl ((hG.ext hS.x).ld Vv (by decide) Hv)) rfl ?_)));clear H a;intro a H
      replace hm:=Zi hm;obtain⟨bS,aX,hm⟩:=hm
      refine Zj H rfl Zp0 (Zbr (A:=A) (Xw.var (by decide) : IsE A aR _ (.v Vv)) aX) rfl ?_
      clear H;intro bT bU hv;clear a;intro a H;obtain⟨_,rfl,aY⟩:=hv
      replace hS:=hS.new aY;simp only [List.cons_append,List.nil_append] at hS
      refine n_q H (Zb rfl) rfl ?_;clear H a;intro a H
      refine Ze (Za (wp_ret (Zo (Zh (Zh (Zo (Zh ?_)))))))
      obtain rfl:=Option.some.inj hm;have hz : _=aL:=aD;subst hz;replace hm:=aG;try dsimp only at hm
      obtain rfl:=Option.some.inj hm
      replace hS:=hS.tk1
      refine Je H (.inr rfl) rfl rfl ?_
      exact⟨_,rfl,hS⟩
    replace hm:=Zv hm aJ
    refine wp_skip (Zm (Za (wp_region_lit (n_q H (Kb (i:=aA) (j:=1) rfl rfl (by omega)) rfl (W_q (Zc rfl) rfl ?_)))));clear H a;intro a H
    refine Ze (Za ?_)
    obtain rfl:=Option.some.inj hm
    replace hS:=hS.tk0
    exact Vh (bC,aA + 1) H ⟨rfl,rfl,rfl,trivial⟩ ⟨aD,hS⟩ (Nat.lt_succ_self _)
  replace hm:=Zv hm aE
  refine wp_exit (Zn (Zn (Zy ?_)))
  obtain rfl:=Option.some.inj hm;have hz : _=aL:=aD;subst hz;replace hm:=aG;try dsimp only at hm
  refine Za (wp_seq (wp_region_lit (n_q H (Zb rfl) rfl ?_)));clear H a;intro a H
  refine Ze (Za (wp_ret ?_))
  obtain rfl:=Option.some.inj hm
  replace hS:=hS.dNil (A:=A)
  refine Je H (.inr rfl) rfl rfl ?_
  exact⟨_,rfl,hS⟩
theorem Zez {w : World} {A : Nat → Addr} {cs0 : List Value} {a0 : GPlan} (hG : EV A w) (h0 : Qw w cs0 a0) {r : ErrM} (hm : Wl a0=some r) :
    Calls Tryz.prog 129 [.agg cs0.toArray].toArray w (Ret fun u w'=>∃ h_0,u=h_0 ∧ St NB w w' [erQ A h_0 r]):=by
  obtain⟨aK,aB,aL,aM,rfl,aV,aI,bE,bF⟩:=h0
  have hS:=St.begin NB w
  unfold Wl at hm
  refine enter Tryz.func129 rfl rfl rfl ?_;intro a H;dsimp only [Qk,Nat.zero_add,Nat.reduceAdd] at H
  refine wp_seq (wp_region_lit (Wt H rfl (cs:=[.int .i64 a0.Id,.bool a0.Mobile,aK,aB,aL,.int .i64 a0.Events,aM]) rfl rfl ?_))
  clear H;intro aT bU hN bA hs;clear a;intro a H
  replace hS:=hS.newBlk hN bA hs;clear hN hs
  refine n_q H (Zb rfl) rfl ?_;clear H a;intro a H
  refine Ze (Za (wp_seq (wp_seq (wp_region_lit (n_c H (fun HC=>?_))))));clear H
  refine Tn HC (Zd rfl Ur) rfl (by kernel_rfl) (V_q (Zf rfl ((hS.blk 0 rfl).ld Zii rfl)) rfl (by kernel_rfl) ?_);clear HC a;intro a HC
  obtain⟨bV,bW,aG,bN,bO⟩:=SlR.formV (aI.ext (Zq.mono _) hS.x)
  refine Tn HC (Qf Tryz.underlying23 rfl aG) rfl (by kernel_rfl) (V_q (Xz (i:=a0.Procs.length) (j:=1) rfl rfl) rfl (by kernel_rfl) (V_q (Zc rfl) rfl (by kernel_rfl) (V_g (Zd rfl Ur) (by kernel_rfl) (by kernel_rfl) (by kernel_rfl) (V_g (Zf rfl ((hS.blk 0 rfl).ld Zii rfl)) (by kernel_rfl) (by kernel_rfl) (by kernel_rfl) (V_g (Qf Tryz.underlying23 rfl aG) (by kernel_rfl) (by kernel_rfl) (by kernel_rfl) (V_g (Zdn (i:=a0.Procs.length) (j:=8) rfl rfl) (by kernel_rfl) (by kernel_rfl) (by kernel_rfl) (Zet (j:=4) rfl rfl rfl (by kernel_rfl) (by kernel_rfl) ?_)))))));clear HC a;intro a HC
  have H:=HC.has;clear HC
  refine Ze (Za (Zl H rfl (fun aQ=>?_) (fun aQ=>?_)))
  · replace hm:=Zu hm aQ
    refine wp_seq (wp_region_lit (n_q H (Zf rfl ((hG.ext hS.x).ld Zaz (by decide) Hv)) rfl (W_q (Zb rfl) rfl ?_)));clear H a;intro a H
    refine Ze (Za (wp_ret (Zh ?_)))
    obtain rfl:=Option.some.inj hm
    replace hS:=hS.dVar (A:=A) (g:=Zaz) (by decide)
    replace hS:=hS.tk1
    refine Je H (.inr rfl) rfl rfl ?_
    exact⟨_,rfl,hS⟩
  replace hm:=Zv hm aQ
  refine wp_skip (Za (wp_seq (wp_seq (wp_region_lit (n_q H (Zd rfl Ur) rfl (W_q (Zf rfl ((hS.blk 0 rfl).ld Zii rfl)) rfl (W_q (Qf Tryz.underlying23 rfl aG) rfl (W_q (Zc rfl) rfl ?_))))))));clear H a;intro a H
  refine Ze (Za (wp_block ?_))
  replace hm:=Zi hm;obtain⟨aW,hm,aX⟩:=hm;replace hm:=Qg hm;obtain⟨bG,hm⟩:=hm
  refine Jd (σ:=Nat × Nat) (fun (m,aA)=>[(1,.pointer (some ⟨aT,0,none⟩)),(17,aB),(18,.int .i64 ((a0.Procs.length : Nat) : Int)),(19,.int .i64 ((aA : Nat) : Int))]) (fun (m,aA) wl=>Js (Kh a0) m aA=some aW ∧ St NB w wl [blkR aT [.int .i64 a0.Id,.bool a0.Mobile,aK,aB,aL,.int .i64 a0.Events,aM] 27]) (fun (m,aA)=>m) (bG,0) H ⟨rfl,rfl,rfl,rfl,trivial⟩ ⟨hm,hS⟩ ?_
  clear H hS hm a;intro xx a bX H hR;obtain⟨m,aA⟩:=xx;simp only [ent,List.map_cons,List.map_nil] at H;(try dsimp only at hR);obtain⟨hm,hS⟩:=hR
  replace hm:=Qa hm;obtain⟨bH,bI,rfl,hm,aR⟩:=hm;try dsimp only [Kh] at hm
  refine wp_seq (wp_region_lit (n_q H (Xz (i:=aA) (j:=a0.Procs.length) rfl rfl) rfl ?_));clear H a;intro a H
  refine Ze (Za (wp_seq (Zl H rfl (fun aN=>?_) (fun aN=>?_))))
  · replace hm:=Zu hm aN
    have bJ : aA < a0.Procs.length:=of_decide_eq_true aN
    refine wp_skip (Za (wp_seq (wp_block (wp_seq (wp_region_lit (n_q H (Zc rfl) rfl ?_))))));clear H a;intro a H
    replace hm:=Zi hm;obtain⟨aH,aS,hm⟩:=hm
    obtain⟨bK,aU⟩:=SlR.adV (aI.ext (Zq.mono _) hS.x) aG aS
    refine n_q H (Jn (i:=aA) Tryz.underlying23 Tl rfl aG aU rfl (Ho aS)) rfl (W_q (Zf rfl (SlR.ldAggV (aI.ext (Zq.mono _) hS.x) aG aU Zjs Tl aS)) rfl ?_);clear H a;intro a H
    refine Qr H Zex rfl ?_
    clear H;intro bY bZ hN bB hs;clear a;intro a H
    replace hS:=hS.newBlk hN bB hs;clear hN hs
    refine n_q H (Zb rfl) rfl ?_;clear H a;intro a H
    refine Zr H rfl rfl (vs:=[.int .i64 aH.Entry,.int .i64 aH.Prio,.bool aH.Auto]) rfl Tl (hS.blk 0 rfl) rfl (by simp) ?_
    clear H;intro b7 hN bC hz;clear a;intro a H;replace hS:=hS.setBlk hN bC;clear hN hz
    refine Ze (Za ?_)
    replace hm:=Zi hm;obtain⟨b8,hm,aJ⟩:=hm
    refine Hj (σ:=Bool) H (fun aO=>[(1,.pointer (some ⟨aT,0,none⟩)),(3,.int .i64 ((aA : Nat) : Int)),(17,aB),(18,.int .i64 ((a0.Procs.length : Nat) : Int)),(19,.int .i64 ((aA : Nat) : Int)),(51,.bool aO)]) (fun aO wl=>(Wd aA) aO=some bI ∧ St NB w wl [blkR aT [.int .i64 a0.Id,.bool a0.Mobile,aK,aB,aL,.int .i64 a0.Events,aM] 27]) ?_ ?_
    · skip
      refine wp_region_lit (n_q H (Zd rfl Zcc) rfl (W_q (Zf rfl ((hS.blk 0 rfl).ld ag3 rfl)) rfl (W_q (Un rfl rfl) rfl (W_q (Zc rfl) rfl ?_))));clear H a;intro a H
      rcases Bool.eq_false_or_eq_true (decide (aH.Entry < 0)) with aC|aC
      · replace H:=H.know 27 rfl aC
        replace hm:=Zu hm aC
        refine Zci H rfl rfl (by decide) rfl (Qn rfl rfl (by decide) rfl (Qn rfl rfl (by decide) rfl (Qn rfl rfl (by decide) rfl (Qn rfl rfl (by decide) rfl (Qn rfl rfl (by decide) rfl (Qn rfl rfl (by decide) rfl (W_q (Qi rfl rfl) rfl (W_q (Zc rfl) rfl (Qn rfl rfl (by decide) rfl (Qn rfl rfl (by decide) rfl (Qn rfl rfl (by decide) rfl ?_)))))))))));clear H a;intro a H
        refine Zci H rfl rfl (by decide) rfl (W_q (Qi rfl rfl) rfl (W_q (Zc rfl) rfl (Qn rfl rfl (by decide) rfl (Qn rfl rfl (by decide) rfl (Qn rfl rfl (by decide) rfl (W_q (Qi rfl rfl) rfl (W_q (Zc rfl) rfl (Qn rfl rfl (by decide) rfl (Qn rfl rfl (by decide) rfl (Qn rfl rfl (by decide) rfl (W_q (Qi rfl rfl) rfl ?_)))))))))));clear H a;intro a H
        refine Ze (Za ?_)
        obtain rfl:=Option.some.inj hm;replace hm:=aJ;try dsimp only at hm
        replace hS:=hS.pk1
        replace hS:=hS.tk1
        exact Wh true H ⟨rfl,rfl,rfl,rfl,rfl,rfl,trivial⟩ ⟨hm,hS⟩
      replace H:=H.know 27 rfl aC
      replace hm:=Zv hm aC
      refine Wb H rfl rfl (n_q H (Zd rfl Zcc) rfl (Xe rfl rfl (W_q (Zf rfl ((hS.blk 0 rfl).ld ag3 rfl)) rfl (Xe rfl rfl (W_q (Zd rfl Vs) rfl (Xe rfl rfl (W_q (Zf rfl ((hS.blk 1 rfl).ld Zgt rfl)) rfl (Xe rfl rfl ?_))))))));clear H a;intro a H
      obtain⟨bP,bQ,aY,bL,bM⟩:=SlR.formV (aV.ext (Zq.mono _) hS.x)
      refine n_q H (Qf Tryz.underlying22 rfl aY) rfl (Xe rfl rfl (W_q (Zav rfl rfl) rfl (Xe rfl rfl (W_q (Zn5 rfl rfl) rfl (W_q (Jf rfl rfl) rfl (W_q (Zc rfl) rfl ?_))))));clear H a;intro a H
      rcases Bool.eq_false_or_eq_true (decide ((IntKind.i64.wrap (64 * ((a0.Pages.length : Nat) : Int))) ≤ aH.Entry)) with aD|aD
      · replace H:=H.know 36 rfl aD
        replace hm:=Zu hm aD
        refine Zci H rfl rfl (by decide) rfl (Qn rfl rfl (by decide) rfl (Qn rfl rfl (by decide) rfl (Qn rfl rfl (by decide) rfl (W_q (Qi rfl rfl) rfl (W_q (Zc rfl) rfl (Qn rfl rfl (by decide) rfl (Qn rfl rfl (by decide) rfl (Qn rfl rfl (by decide) rfl (W_q (Qi rfl rfl) rfl (W_q (Zc rfl) rfl (Qn rfl rfl (by decide) rfl ?_)))))))))));clear H a;intro a H
        refine Zci H rfl rfl (by decide) rfl (Qn rfl rfl (by decide) rfl (W_q (Qi rfl rfl) rfl ?_));clear H a;intro a H
        refine Ze (Za ?_)
        obtain rfl:=Option.some.inj hm;replace hm:=aJ;try dsimp only at hm
        replace hS:=hS.pk1
        replace hS:=hS.tk1
        exact Wh true H ⟨rfl,rfl,rfl,rfl,rfl,rfl,trivial⟩ ⟨hm,hS⟩
      replace H:=H.know 36 rfl aD
      replace hm:=Zv hm aD
      refine Wb H rfl rfl (n_q H (Zd rfl Zcc) rfl (Xe rfl rfl (W_q (Zf rfl ((hS.blk 0 rfl).ld ag3 rfl)) rfl (Xe rfl rfl (W_q (Zo1 rfl rfl (by decide)) rfl (Xe rfl rfl (W_q (Vo rfl rfl) rfl (W_q (Jf rfl rfl) rfl (W_q (Zc rfl) rfl ?_)))))))));clear H a;intro a H
      rcases Bool.eq_false_or_eq_true (!decide ((Int.tmod aH.Entry 4)=0)) with aE|aE
      · replace H:=H.know 42 rfl aE
        replace hm:=Zu hm aE
        refine Zci H rfl rfl (by decide) rfl (Qn rfl rfl (by decide) rfl (Qn rfl rfl (by decide) rfl (W_q (Qi rfl rfl) rfl (W_q (Zc rfl) rfl (Qn rfl rfl (by decide) rfl (Qn rfl rfl (by decide) rfl (Qn rfl rfl (by decide) rfl (W_q (Qi rfl rfl) rfl ?_))))))));clear H a;intro a H
        refine Ze (Za ?_)
        obtain rfl:=Option.some.inj hm;replace hm:=aJ;try dsimp only at hm
        replace hS:=hS.pk1
        replace hS:=hS.tk1
        exact Wh true H ⟨rfl,rfl,rfl,rfl,rfl,rfl,trivial⟩ ⟨hm,hS⟩
      replace H:=H.know 42 rfl aE
      replace hm:=Zv hm aE
      refine Wb H rfl rfl (n_q H (Zd rfl Zev) rfl (Xe rfl rfl (W_q (Zf rfl ((hS.blk 0 rfl).ld ag3 rfl)) rfl (Xe rfl rfl (W_q (Un rfl rfl) rfl (W_q (Jf rfl rfl) rfl (W_q (Zc rfl) rfl ?_)))))));clear H a;intro a H
      rcases Bool.eq_false_or_eq_true (decide (aH.Prio < 0)) with aF|aF
      · replace H:=H.know 47 rfl aF
        replace hm:=Zu hm aF
        refine Zci H rfl rfl (by decide) rfl (Qn rfl rfl (by decide) rfl (Qn rfl rfl (by decide) rfl (W_q (Qi rfl rfl) rfl ?_)));clear H a;intro a H
        refine Ze (Za ?_)
        obtain rfl:=Option.some.inj hm;replace hm:=aJ;try dsimp only at hm
        replace hS:=hS.pk1
        replace hS:=hS.tk1
        exact Wh true H ⟨rfl,rfl,rfl,rfl,rfl,rfl,trivial⟩ ⟨hm,hS⟩
      replace H:=H.know 47 rfl aF
      replace hm:=Zv hm aF
      refine Wb H rfl rfl (n_q H (Zd rfl Zev) rfl (Xe rfl rfl (W_q (Zf rfl ((hS.blk 0 rfl).ld ag3 rfl)) rfl (Xe rfl rfl (W_q (Hp rfl rfl) rfl (W_q (Jf rfl rfl) rfl ?_))))));clear H a;intro a H
      refine Ze (Za ?_)
      obtain rfl:=Option.some.inj hm;replace hm:=aJ;try dsimp only at hm
      replace hS:=hS.pk1
      replace hS:=hS.tk1
      exact Wh (decide (255 < aH.Prio)) H ⟨rfl,rfl,rfl,rfl,rfl,rfl,trivial⟩ ⟨hm,hS⟩
    clear H hS hm a;intro aO a bD H hR
    simp only [ent,List.map_cons,List.map_nil] at H;(try dsimp only at hR);obtain⟨hm,hS⟩:=hR;try dsimp only [Wd] at hm
    refine Zl H rfl (fun aP=>?_) (fun aP=>?_)
    · replace hm:=Zu hm aP
      refine wp_seq (wp_region_lit (n_q H (Zc rfl) rfl (W_q (Zf rfl ((hG.ext hS.x).ld Kl (by decide) Hv)) rfl ?_)));clear H a;intro a H
      replace hm:=Zi hm;obtain⟨bR,aZ,hm⟩:=hm
      refine Zj H rfl Zp0 (Zbr (A:=A) (Xw.var (by decide) : IsE A bD _ (.v Kl)) aZ) rfl ?_
      clear H;intro bS bT hv;clear a;intro a H;obtain⟨_,rfl,a9⟩:=hv
      replace hS:=hS.new a9;simp only [List.cons_append,List.nil_append] at hS
      refine n_q H (Zb rfl) rfl ?_;clear H a;intro a H
      refine Ze (Za (wp_ret (Zo (Zh (Zh (Zo (Zh ?_)))))))
      obtain rfl:=Option.some.inj hm;have hz : _=aW:=aR;subst hz;replace hm:=aX;try dsimp only at hm
      obtain rfl:=Option.some.inj hm
      replace hS:=hS.tk1
      refine Je H (.inr rfl) rfl rfl ?_
      exact⟨_,rfl,hS⟩
    replace hm:=Zv hm aP
    refine wp_skip (Zm (Za (wp_region_lit (n_q H (Kb (i:=aA) (j:=1) rfl rfl (by omega)) rfl (W_q (Zc rfl) rfl ?_)))));clear H a;intro a H
    refine Ze (Za ?_)
    obtain rfl:=Option.some.inj hm
    exact Vh (bH,aA + 1) H ⟨rfl,rfl,rfl,rfl,trivial⟩ ⟨aR,hS⟩ (Nat.lt_succ_self _)
  replace hm:=Zv hm aN
  refine wp_exit (Zn (Zn (Zy ?_)))
  obtain rfl:=Option.some.inj hm;have hz : _=aW:=aR;subst hz;replace hm:=aX;try dsimp only at hm
  refine Za (wp_seq (wp_region_lit (n_q H (Zb rfl) rfl ?_)));clear H a;intro a H
  refine Ze (Za (wp_ret ?_))
  obtain rfl:=Option.some.inj hm
  replace hS:=hS.dNil (A:=A)
  replace hS:=hS.tk1
  refine Je H (.inr rfl) rfl rfl ?_
  exact⟨_,rfl,hS⟩
theorem Zg2 {w : World} {A : Nat → Addr} {a0 : GPortPlan} {r : Bool} (hm : Zaf a0=some r) :
    Calls Tryz.prog 240 [.agg (Zw a0).toArray].toArray w (Ret fun u w'=>u=.bool r ∧ Ext w w'):=by
  have hS:=St.begin NB w
  unfold Zaf at hm
  refine enter Tryz.func240 rfl rfl rfl ?_;intro a H;dsimp only [Qk,Nat.zero_add,Nat.reduceAdd] at H
  refine wp_seq (wp_region_lit (Wt H rfl (cs:=[.int .i64 a0.Kind,.int .i64 a0.Size,.int .i64 a0.Depth,.int .i64 a0.Refresh]) rfl rfl ?_))
  clear H;intro aB aC hN aA hs;clear a;intro a H
  replace hS:=hS.newBlk hN aA hs;clear hN hs
  refine n_q H (Zb rfl) rfl ?_;clear H a;intro a H
  refine Ze (Za (wp_seq (wp_region_lit (n_c H (fun HC=>?_)))));clear H
  refine Tn HC (Zd rfl Tv) rfl (by kernel_rfl) (V_q (Zf rfl ((hS.blk 0 rfl).ld ag3 rfl)) rfl (by kernel_rfl) (V_q (Ky rfl rfl) rfl (by kernel_rfl) (V_q (Zc rfl) rfl (by kernel_rfl) (V_g (Zd rfl Tv) (by kernel_rfl) (by kernel_rfl) (by kernel_rfl) (V_g (Zf rfl ((hS.blk 0 rfl).ld ag3 rfl)) (by kernel_rfl) (by kernel_rfl) (by kernel_rfl) (V_g (Ky rfl rfl) (by kernel_rfl) (by kernel_rfl) (by kernel_rfl) (Zet (j:=3) rfl rfl rfl (by kernel_rfl) (by kernel_rfl) (V_q (Zb rfl) rfl (by kernel_rfl) ?_))))))));clear HC a;intro a HC
  have H:=HC.has;clear HC
  refine Ze (Za (wp_ret ?_))
  obtain rfl:=Option.some.inj hm
  replace hS:=hS.tk0
  refine Je H (.inr rfl) rfl rfl ?_
  exact⟨rfl,hS.x⟩
theorem Zju {w : World} {A : Nat → Addr} {a0 : GPortPlan} {r : Bool} (hm : Zdg a0=some r) :
    Calls Tryz.prog 241 [.agg (Zw a0).toArray].toArray w (Ret fun u w'=>u=.bool r ∧ Ext w w'):=by
  have hS:=St.begin NB w
  unfold Zdg at hm
  refine enter Tryz.func241 rfl rfl rfl ?_;intro a H;dsimp only [Qk,Nat.zero_add,Nat.reduceAdd] at H
  refine wp_seq (wp_region_lit (Wt H rfl (cs:=[.int .i64 a0.Kind,.int .i64 a0.Size,.int .i64 a0.Depth,.int .i64 a0.Refresh]) rfl rfl ?_))
  clear H;intro aB aC hN aA hs;clear a;intro a H
  replace hS:=hS.newBlk hN aA hs;clear hN hs
  refine n_q H (Zb rfl) rfl ?_;clear H a;intro a H
  refine Ze (Za (wp_seq (wp_region_lit (n_c H (fun HC=>?_)))));clear H
  refine Tn HC (Zd rfl Tv) rfl (by kernel_rfl) (V_q (Zf rfl ((hS.blk 0 rfl).ld ag3 rfl)) rfl (by kernel_rfl) (V_q (Ky rfl rfl) rfl (by kernel_rfl) (V_q (Zc rfl) rfl (by kernel_rfl) (V_g (Zd rfl Tv) (by kernel_rfl) (by kernel_rfl) (by kernel_rfl) (V_g (Zf rfl ((hS.blk 0 rfl).ld ag3 rfl)) (by kernel_rfl) (by kernel_rfl) (by kernel_rfl) (V_g (Ky rfl rfl) (by kernel_rfl) (by kernel_rfl) (by kernel_rfl) (Zet (j:=3) rfl rfl rfl (by kernel_rfl) (by kernel_rfl) (V_q (Zb rfl) rfl (by kernel_rfl) ?_))))))));clear HC a;intro a HC
  have H:=HC.has;clear HC
  refine Ze (Za (wp_ret ?_))
  obtain rfl:=Option.some.inj hm
  replace hS:=hS.tk0
  refine Je H (.inr rfl) rfl rfl ?_
  exact⟨rfl,hS.x⟩
theorem Zei {w : World} {A : Nat → Addr} {a0 : GPortPlan} {r : Bool} (hm : Tf a0=some r) :
    Calls Tryz.prog 242 [.agg (Zw a0).toArray].toArray w (Ret fun u w'=>u=.bool r ∧ Ext w w'):=by
  have hS:=St.begin NB w
  unfold Tf at hm
  refine enter Tryz.func242 rfl rfl rfl ?_;intro a H;dsimp only [Qk,Nat.zero_add,Nat.reduceAdd] at H
  refine wp_seq (wp_region_lit (Wt H rfl (cs:=[.int .i64 a0.Kind,.int .i64 a0.Size,.int .i64 a0.Depth,.int .i64 a0.Refresh]) rfl rfl ?_))
  clear H;intro aB aC hN aA hs;clear a;intro a H
  replace hS:=hS.newBlk hN aA hs;clear hN hs
  refine n_q H (Zb rfl) rfl ?_;clear H a;intro a H
  refine Ze (Za (wp_seq (wp_region_lit (n_c H (fun HC=>?_)))));clear H
  refine Tn HC (Zd rfl Tv) rfl (by kernel_rfl) (V_q (Zf rfl ((hS.blk 0 rfl).ld ag3 rfl)) rfl (by kernel_rfl) (V_q (Ky rfl rfl) rfl (by kernel_rfl) (V_q (Zc rfl) rfl (by kernel_rfl) (V_g (Zd rfl Tv) (by kernel_rfl) (by kernel_rfl) (by kernel_rfl) (V_g (Zf rfl ((hS.blk 0 rfl).ld ag3 rfl)) (by kernel_rfl) (by kernel_rfl) (by kernel_rfl) (V_g (Ky rfl rfl) (by kernel_rfl) (by kernel_rfl) (by kernel_rfl) (Zet (j:=3) rfl rfl rfl (by kernel_rfl) (by kernel_rfl) (V_q (Zb rfl) rfl (by kernel_rfl) ?_))))))));clear HC a;intro a HC
  have H:=HC.has;clear HC
  refine Ze (Za (wp_ret ?_))
  obtain rfl:=Option.some.inj hm
  replace hS:=hS.tk0
  refine Je H (.inr rfl) rfl rfl ?_
  exact⟨rfl,hS.x⟩
theorem Zb3 {w : World} {A : Nat → Addr} {a0 : GPortPlan} (hG : EV A w) {r : ErrM} (hm : Vk a0=some r) :
    Calls Tryz.prog 199 [.agg (Zw a0).toArray].toArray w (Ret fun u w'=>∃ h_0,u=h_0 ∧ St NB w w' [erQ A h_0 r]):=by
  have hS:=St.begin NB w
  unfold Vk at hm
  refine enter Tryz.func199 rfl rfl rfl ?_;intro a H;dsimp only [Qk,Nat.zero_add,Nat.reduceAdd] at H
  refine wp_seq (wp_region_lit (Wt H rfl (cs:=[.int .i64 a0.Kind,.int .i64 a0.Size,.int .i64 a0.Depth,.int .i64 a0.Refresh]) rfl rfl ?_))
  clear H;intro aI bH hN aV hs;clear a;intro a H
  replace hS:=hS.newBlk hN aV hs;clear hN hs
  refine n_q H (Zb rfl) rfl ?_;clear H a;intro a H
  refine Ze (Za (wp_seq (wp_region_lit (n_q H (Zb rfl) rfl (W_q (Zb rfl) rfl ?_)))));clear H a;intro a H
  refine Ze (Za ?_)
  replace hm:=Zi hm;obtain⟨bI,hm,aM⟩:=hm
  refine Hj (σ:=Nat) H (fun aA=>[(1,.pointer (some ⟨aI,0,none⟩)),(3,.int .i64 ((aA : Nat) : Int)),(4,.int .i64 0)]) (fun aA wl=>(Wz a0) aA=some r ∧ St NB w wl [blkR aI [.int .i64 a0.Kind,.int .i64 a0.Size,.int .i64 a0.Depth,.int .i64 a0.Refresh] 118]) ?_ ?_
  · skip
    refine wp_seq (wp_region_lit (n_q H (Zf rfl ((hS.blk 0 rfl).ldAll Zdq Us)) rfl ?_));clear H a;intro a H
    replace hm:=Zi hm;obtain⟨bC,aR,hm⟩:=hm
    refine Zj H rfl en240 (Zg2 (A:=A) aR) rfl ?_
    clear H;intro bD bE hv;clear a;intro a H;obtain⟨rfl,aS⟩:=hv
    replace hS:=hS.ext aS
    refine Ze (Za (Zl H rfl (fun aJ=>?_) (fun aJ=>?_)))
    · replace hm:=Zu hm aJ
      refine wp_region_lit (n_q H (Zb rfl) rfl ?_);clear H a;intro a H
      refine Ze (Za ?_)
      obtain rfl:=Option.some.inj hm;replace hm:=aM;try dsimp only at hm
      exact Wh 8 H ⟨rfl,rfl,rfl,trivial⟩ ⟨hm,hS⟩
    replace hm:=Zv hm aJ
    refine wp_skip (Za ?_)
    obtain rfl:=Option.some.inj hm;replace hm:=aM;try dsimp only at hm
    exact Wh 1 H ⟨rfl,rfl,rfl,trivial⟩ ⟨hm,hS⟩
  clear H hS hm a;intro aA a bF H hR
  simp only [ent,List.map_cons,List.map_nil] at H;(try dsimp only at hR);obtain⟨hm,hS⟩:=hR;try dsimp only [Wz] at hm
  replace hm:=Zi hm;obtain⟨bG,hm,aL⟩:=hm
  refine Hj (σ:=Nat) H (fun aC=>[(1,.pointer (some ⟨aI,0,none⟩)),(3,.int .i64 ((aA : Nat) : Int)),(4,.int .i64 ((aC : Nat) : Int))]) (fun aC wl=>(Wy a0 aA) aC=some r ∧ St NB w wl [blkR aI [.int .i64 a0.Kind,.int .i64 a0.Size,.int .i64 a0.Depth,.int .i64 a0.Refresh] 118]) ?_ ?_
  · skip
    refine wp_seq (wp_region_lit (n_q H (Zd rfl Tv) rfl (W_q (Zf rfl ((hS.blk 0 rfl).ld ag3 rfl)) rfl (W_q (Ky rfl rfl) rfl ?_))));clear H a;intro a H
    refine Ze (Za (Zl H rfl (fun aE=>?_) (fun aE=>?_)))
    · replace hm:=Zu hm aE
      refine wp_region_lit (n_q H (Zb rfl) rfl ?_);clear H a;intro a H
      refine Ze (Za ?_)
      obtain rfl:=Option.some.inj hm;replace hm:=aL;try dsimp only at hm
      exact Wh 255 H ⟨rfl,rfl,rfl,trivial⟩ ⟨hm,hS⟩
    replace hm:=Zv hm aE
    refine wp_skip (Za ?_)
    obtain rfl:=Option.some.inj hm;replace hm:=aL;try dsimp only at hm
    exact Wh 0 H ⟨rfl,rfl,rfl,trivial⟩ ⟨hm,hS⟩
  clear H hS hm a;intro aC a aW H hR
  simp only [ent,List.map_cons,List.map_nil] at H;(try dsimp only at hR);obtain⟨hm,hS⟩:=hR;try dsimp only [Wy] at hm
  refine wp_seq (wp_block ?_)
  replace hm:=Zi hm;obtain⟨aX,hm,aK⟩:=hm
  refine Hj (σ:=Bool) H (fun aD=>[(1,.pointer (some ⟨aI,0,none⟩)),(3,.int .i64 ((aA : Nat) : Int)),(4,.int .i64 ((aC : Nat) : Int)),(10,.bool aD)]) (fun aD wl=>(Wx a0 aA aC) aD=some r ∧ St NB w wl [blkR aI [.int .i64 a0.Kind,.int .i64 a0.Size,.int .i64 a0.Depth,.int .i64 a0.Refresh] 118]) ?_ ?_
  · skip
    refine wp_region_lit (n_q H (Zf rfl ((hS.blk 0 rfl).ldAll Zdq Us)) rfl ?_);clear H a;intro a H
    replace hm:=Zi hm;obtain⟨aT,aN,hm⟩:=hm
    refine Zj H rfl en241 (Zju (A:=A) aN) rfl ?_
    clear H;intro aY aZ hv;clear a;intro a H;obtain⟨rfl,aO⟩:=hv
    replace hS:=hS.ext aO
    refine n_q H (Zf5 rfl) rfl (W_q (Zc rfl) rfl ?_);clear H a;intro a H
    rcases Bool.eq_false_or_eq_true (!aT) with aB|aB
    · replace H:=H.know 14 rfl aB
      replace hm:=Zu hm aB
      refine Wb H rfl rfl (n_q H (Zf rfl ((hS.blk 0 rfl).ldAll Zdq Us)) rfl (Xe rfl rfl ?_));clear H a;intro a H
      replace hm:=Zi hm;obtain⟨aU,aP,hm⟩:=hm
      refine Zj H rfl en242 (Zei (A:=A) aP) rfl ?_
      clear H;intro a9 bA hv;clear a;intro a H;obtain⟨rfl,aQ⟩:=hv
      replace hS:=hS.ext aQ
      refine Wb H rfl rfl (n_q H (Zf5 rfl) rfl (W_q (Qi rfl rfl) rfl (W_q (Zb rfl) rfl ?_)));clear H a;intro a H
      refine Ze (Za ?_)
      obtain rfl:=Option.some.inj hm;replace hm:=aK;try dsimp only at hm
      exact Wh (!aU) H ⟨rfl,rfl,rfl,rfl,trivial⟩ ⟨hm,hS⟩
    replace H:=H.know 14 rfl aB
    replace hm:=Zv hm aB
    refine Zci H rfl rfl (by decide) rfl (Qn rfl rfl (by decide) rfl (Qn rfl rfl (by decide) rfl (W_q (Jf rfl rfl) rfl (W_q (Zb rfl) rfl ?_))));clear H a;intro a H
    refine Ze (Za ?_)
    obtain rfl:=Option.some.inj hm;replace hm:=aK;try dsimp only at hm
    exact Wh false H ⟨rfl,rfl,rfl,rfl,trivial⟩ ⟨hm,hS⟩
  clear H hS hm a;intro aD a bB H hR
  simp only [ent,List.map_cons,List.map_nil] at H;(try dsimp only at hR);obtain⟨hm,hS⟩:=hR;try dsimp only [Wx] at hm
  refine Zl H rfl (fun aF=>?_) (fun aF=>?_)
  · replace hm:=Zu hm aF
    refine wp_seq (wp_region_lit (n_q H (Zf rfl ((hG.ext hS.x).ld Zin (by decide) Hv)) rfl (W_q (Zb rfl) rfl ?_)));clear H a;intro a H
    refine Ze (Za (wp_ret (Zo (Zh ?_))))
    obtain rfl:=Option.some.inj hm
    replace hS:=hS.dVar (A:=A) (g:=Zin) (by decide)
    replace hS:=hS.tk1
    refine Je H (.inr rfl) rfl rfl ?_
    exact⟨_,rfl,hS⟩
  replace hm:=Zv hm aF
  refine wp_seq (wp_region_lit (n_c H (fun HC=>?_)));clear H
  refine Tn HC (Zd rfl Zdh) rfl (by kernel_rfl) (V_q (Zf rfl ((hS.blk 0 rfl).ld ag3 rfl)) rfl (by kernel_rfl) (V_q (Un rfl rfl) rfl (by kernel_rfl) (V_q (Zc rfl) rfl (by kernel_rfl) (V_g (Zd rfl Zdh) (by kernel_rfl) (by kernel_rfl) (by kernel_rfl) (V_g (Zf rfl ((hS.blk 0 rfl).ld ag3 rfl)) (by kernel_rfl) (by kernel_rfl) (by kernel_rfl) (V_g (Hp rfl rfl) (by kernel_rfl) (by kernel_rfl) (by kernel_rfl) (Zet (j:=3) rfl rfl rfl (by kernel_rfl) (by kernel_rfl) (V_q (Zb rfl) rfl (by kernel_rfl) ?_))))))));clear HC a;intro a HC
  have H:=HC.has;clear HC
  refine Ze (Za (Zl H rfl (fun aG=>?_) (fun aG=>?_)))
  · replace hm:=Zu hm aG
    refine wp_seq (wp_region_lit (n_q H (Zf rfl ((hG.ext hS.x).ld Zaz (by decide) Hv)) rfl (W_q (Zb rfl) rfl ?_)));clear H a;intro a H
    refine Ze (Za (wp_ret (Zo (Zh ?_))))
    obtain rfl:=Option.some.inj hm
    replace hS:=hS.dVar (A:=A) (g:=Zaz) (by decide)
    replace hS:=hS.tk1
    refine Je H (.inr rfl) rfl rfl ?_
    exact⟨_,rfl,hS⟩
  replace hm:=Zv hm aG
  refine wp_seq (wp_region_lit (n_c H (fun HC=>?_)));clear H
  refine Tn HC (Zd rfl Zdi) rfl (by kernel_rfl) (V_q (Zf rfl ((hS.blk 0 rfl).ld ag3 rfl)) rfl (by kernel_rfl) (V_q (Un rfl rfl) rfl (by kernel_rfl) (V_q (Zc rfl) rfl (by kernel_rfl) (V_g (Zd rfl Zdi) (by kernel_rfl) (by kernel_rfl) (by kernel_rfl) (V_g (Zf rfl ((hS.blk 0 rfl).ld ag3 rfl)) (by kernel_rfl) (by kernel_rfl) (by kernel_rfl) (V_g (Zc rfl) (by kernel_rfl) (by kernel_rfl) (by kernel_rfl) (V_g (Hp rfl rfl) (by kernel_rfl) (by kernel_rfl) (by kernel_rfl) (Zet (j:=3) rfl rfl rfl (by kernel_rfl) (by kernel_rfl) (V_q (Zc rfl) rfl (by kernel_rfl) (V_g (Zd rfl Zew) (by kernel_rfl) (by kernel_rfl) (by kernel_rfl) (V_g (Zf rfl ((hS.blk 0 rfl).ld ag3 rfl)) (by kernel_rfl) (by kernel_rfl) (by kernel_rfl) ?_)))))))))));clear HC a;intro a HC
  refine Zfe HC (Un rfl rfl) (by kernel_rfl) (by kernel_rfl) (by kernel_rfl) (Zet (j:=9) rfl rfl rfl (by kernel_rfl) (by kernel_rfl) (V_q (Zc rfl) rfl (by kernel_rfl) (V_g (Zd rfl Zew) (by kernel_rfl) (by kernel_rfl) (by kernel_rfl) (V_g (Zf rfl ((hS.blk 0 rfl).ld ag3 rfl)) (by kernel_rfl) (by kernel_rfl) (by kernel_rfl) (V_g (Zc rfl) (by kernel_rfl) (by kernel_rfl) (by kernel_rfl) (V_g (Hp rfl rfl) (by kernel_rfl) (by kernel_rfl) (by kernel_rfl) (Zet (j:=14) rfl rfl rfl (by kernel_rfl) (by kernel_rfl) (V_q (Zb rfl) rfl (by kernel_rfl) ?_))))))));clear HC a;intro a HC
  have H:=HC.has;clear HC
  refine Ze (Za (Zl H rfl (fun aH=>?_) (fun aH=>?_)))
  · replace hm:=Zu hm aH
    refine wp_seq (wp_region_lit (n_q H (Zf rfl ((hG.ext hS.x).ld Kl (by decide) Hv)) rfl (W_q (Zb rfl) rfl ?_)));clear H a;intro a H
    refine Ze (Za (wp_ret (Zo (Zh ?_))))
    obtain rfl:=Option.some.inj hm
    replace hS:=hS.dVar (A:=A) (g:=Kl) (by decide)
    replace hS:=hS.tk1
    refine Je H (.inr rfl) rfl rfl ?_
    exact⟨_,rfl,hS⟩
  replace hm:=Zv hm aH
  refine wp_skip (Zm (Za (wp_seq (wp_region_lit (n_q H (Zb rfl) rfl ?_)))));clear H a;intro a H
  refine Ze (Za (wp_ret ?_))
  obtain rfl:=Option.some.inj hm
  replace hS:=hS.dNil (A:=A)
  replace hS:=hS.tk1
  refine Je H (.inr rfl) rfl rfl ?_
  exact⟨_,rfl,hS⟩
theorem Zjv {w : World} {A : Nat → Addr} {a0 : GPortPlan} (hG : EV A w) {r : Int × ErrM} (hm : Zbe a0=some r) :
    Calls Tryz.prog 228 [.agg (Zw a0).toArray].toArray w (Ret fun u w'=>∃ h_0,u=.tuple #[.int .i64 r.1,h_0] ∧ St NB w w' [erQ A h_0 r.2]):=by
  have hS:=St.begin NB w
  unfold Zbe at hm
  refine enter Tryz.func228 rfl rfl rfl ?_;intro a H;dsimp only [Qk,Nat.zero_add,Nat.reduceAdd] at H
  refine wp_seq (wp_region_lit (Wt H rfl (cs:=[.int .i64 a0.Kind,.int .i64 a0.Size,.int .i64 a0.Depth,.int .i64 a0.Refresh]) rfl rfl ?_))
  clear H;intro aL aM hN aF hs;clear a;intro a H
  replace hS:=hS.newBlk hN aF hs;clear hN hs
  refine n_q H (Zb rfl) rfl (W_q (Zb rfl) rfl ?_);clear H a;intro a H
  refine Ze (Za (wp_seq (wp_seq (wp_region_lit (n_q H (Zf rfl ((hS.blk 0 rfl).ldAll Zdq Us)) rfl ?_)))));clear H a;intro a H
  replace hm:=Zi hm;obtain⟨aC,aG,hm⟩:=hm
  refine Zj H rfl en199 (Zb3 (A:=A) (hG.ext hS.x) aG) rfl ?_
  clear H;intro aD aE hv;clear a;intro a H;obtain⟨_,rfl,aH⟩:=hv
  replace hS:=hS.new aH;simp only [List.cons_append,List.nil_append] at hS
  refine n_q H (Qo (Va Tryz.underlying39 rfl rfl (hS.any 0 rfl : IsE A aE aD aC).form) (show _=Value.bool (!decide (aC=.nil)) by rw [Xw.isNil (hS.any 0 rfl : IsE A aE aD aC)])) rfl ?_;clear H a;intro a H
  refine Ze (Za (Zl H rfl (fun aA=>?_) (fun aA=>?_)))
  · replace hm:=Zu hm aA
    refine wp_seq (Ww (by kernel_rfl) (by kernel_rfl) ?_)
    refine Xb H (Zf rfl ((hG.ext hS.x).ld Hr (by decide) Hv)) rfl ?_;clear H a;intro a H
    refine Xb H (Zb rfl) rfl ?_;clear H a;intro a H
    refine Xb H (Zb rfl) rfl ?_;clear H a;intro a H
    refine To ?_;intro aN aI
    replace hS:=hS.ext aI
    refine Za (wp_ret (Zh ?_))
    obtain rfl:=Option.some.inj hm
    replace hS:=hS.dVar (A:=A) (g:=Hr) (by decide)
    replace hS:=hS.tk1
    refine Zda H (.inr rfl) rfl rfl rfl ?_
    exact⟨_,rfl,hS⟩
  replace hm:=Zv hm aA
  refine wp_skip (Za (wp_seq (wp_seq (wp_region_lit (n_q H (Zf rfl ((hS.blk 1 rfl).ldAll Zdq Us)) rfl ?_)))));clear H a;intro a H
  replace hm:=Zi hm;obtain⟨aO,aJ,hm⟩:=hm
  refine Zj H rfl en242 (Zei (A:=A) aJ) rfl ?_
  clear H;intro aP aQ hv;clear a;intro a H;obtain⟨rfl,aK⟩:=hv
  replace hS:=hS.ext aK
  refine Ze (Za (Zl H rfl (fun aB=>?_) (fun aB=>?_)))
  · replace hm:=Zu hm aB
    refine wp_seq (wp_region_lit (n_q H (Zb rfl) rfl (W_q (Zb rfl) rfl ?_)));clear H a;intro a H
    refine Ze (Za (wp_ret (Zh ?_)))
    obtain rfl:=Option.some.inj hm
    replace hS:=hS.dNil (A:=A)
    replace hS:=hS.tk1
    refine Zda H (.inr rfl) rfl rfl rfl ?_
    exact⟨_,rfl,hS⟩
  replace hm:=Zv hm aB
  refine wp_skip (Za (wp_seq (wp_region_lit (n_q H (Zd rfl Zdi) rfl (W_q (Zf rfl ((hS.blk 1 rfl).ld ag3 rfl)) rfl (W_q (Zd rfl Zdh) rfl (W_q (Zf rfl ((hS.blk 1 rfl).ld ag3 rfl)) rfl (W_q (Xv rfl rfl) rfl (W_q (Zav rfl rfl) rfl (W_q (Xv rfl rfl) rfl (W_q (Zb rfl) rfl (W_q (Zb rfl) rfl ?_))))))))))));clear H a;intro a H
  refine Ze (Za (wp_ret ?_))
  obtain rfl:=Option.some.inj hm
  replace hS:=hS.dNil (A:=A)
  replace hS:=hS.tk1
  refine Zda H (.inr rfl) rfl rfl rfl ?_
  exact⟨_,rfl,hS⟩
theorem Zej {w : World} {A : Nat → Addr} {cs0 : List Value} {a0 : GPlan} (hG : EV A w) (h0 : Qw w cs0 a0) {r : Int} (hm : Tg a0=some r) :
    Calls Tryz.prog 140 [.agg cs0.toArray].toArray w (Ret fun u w'=>u=.int .i64 r ∧ Ext w w'):=by
  obtain⟨aN,aO,aG,aP,rfl,aJ,aK,aB,aL⟩:=h0
  have hS:=St.begin NB w
  unfold Tg at hm
  refine enter Tryz.func140 rfl rfl rfl ?_;intro a H;dsimp only [Qk,Nat.zero_add,Nat.reduceAdd] at H
  refine wp_seq (wp_region_lit (Wt H rfl (cs:=[.int .i64 a0.Id,.bool a0.Mobile,aN,aO,aG,.int .i64 a0.Events,aP]) rfl rfl ?_))
  clear H;intro bM bN hN aR hs;clear a;intro a H
  replace hS:=hS.newBlk hN aR hs;clear hN hs
  refine n_q H (Zb rfl) rfl ?_;clear H a;intro a H
  refine Ze (Za (wp_seq (wp_region_lit (n_q H (Zd rfl Ur) rfl (W_q (Zf rfl ((hS.blk 0 rfl).ld Zii rfl)) rfl ?_)))));clear H a;intro a H
  obtain⟨bO,bP,aS,bE,bF⟩:=SlR.formV (aK.ext (Zq.mono _) hS.x)
  refine n_q H (Qf Tryz.underlying23 rfl aS) rfl (W_q (Zav rfl rfl) rfl (W_q (Xv rfl rfl) rfl (W_q (Zd rfl Vs) rfl (W_q (Zf rfl ((hS.blk 0 rfl).ld Zgt rfl)) rfl ?_))));clear H a;intro a H
  obtain⟨bQ,bR,aT,bG,bH⟩:=SlR.formV (aJ.ext (Zq.mono _) hS.x)
  refine n_q H (Qf Tryz.underlying22 rfl aT) rfl (W_q (Zav rfl rfl) rfl (W_q (Xv rfl rfl) rfl (W_q (Zd rfl Zc2) rfl (W_q (Zf rfl ((hS.blk 0 rfl).ld ag3 rfl)) rfl (W_q (Xv rfl rfl) rfl (W_q (Zd rfl Gq) rfl (W_q (Zf rfl ((hS.blk 0 rfl).ld Zij rfl)) rfl ?_)))))));clear H a;intro a H
  obtain⟨bS,bT,aU,bI,bJ⟩:=SlR.formV (aL.ext (Zq.mono _) hS.x)
  refine n_q H (Qf Tryz.underlying25 rfl aU) rfl (W_q (Xv rfl rfl) rfl (W_q (Zb rfl) rfl ?_));clear H a;intro a H
  refine Ze (Za (wp_seq (wp_seq (wp_region_lit (n_q H (Zd rfl Gp) rfl (W_q (Zf rfl ((hS.blk 0 rfl).ld Zi7 rfl)) rfl ?_))))));clear H a;intro a H
  obtain⟨bU,bV,aD,bK,bL⟩:=SlR.formV (aB.ext (Zq.mono _) hS.x)
  refine n_q H (Qf Tryz.underlying24 rfl aD) rfl (W_q (Zc rfl) rfl ?_);clear H a;intro a H
  refine Ze (Za (wp_block ?_))
  replace hS:=hS.tk0
  replace hm:=Zi hm;obtain⟨aQ,hm,aV⟩:=hm;replace hm:=Qg hm;obtain⟨a9,hm⟩:=hm
  refine Jd (σ:=Nat × Int × Nat) (fun (m,aC,aA)=>[(3,.int .i64 aC),(26,aG),(27,.int .i64 ((a0.Ports.length : Nat) : Int)),(28,.int .i64 ((aA : Nat) : Int))]) (fun (m,aC,aA) wl=>Js (Wm a0) m (aC,aA)=some aQ ∧ St NB w wl []) (fun (m,aC,aA)=>m) (a9,(IntKind.i64.wrap ((IntKind.i64.wrap ((IntKind.i64.wrap ((IntKind.i64.wrap (58 + (IntKind.i64.wrap (76 * ((a0.Procs.length : Nat) : Int))))) + (IntKind.i64.wrap (68 * ((a0.Pages.length : Nat) : Int))))) + a0.Events)) + ((a0.Sems.length : Nat) : Int))),0) H ⟨rfl,rfl,rfl,rfl,trivial⟩ ⟨hm,hS⟩ ?_
  clear H hS hm a;intro xx a bW H hR;obtain⟨m,aC,aA⟩:=xx;simp only [ent,List.map_cons,List.map_nil] at H;(try dsimp only at hR);obtain⟨hm,hS⟩:=hR
  replace hm:=Qa hm;obtain⟨bA,bX,rfl,hm,aM⟩:=hm;try dsimp only [Wm] at hm
  refine wp_seq (wp_region_lit (n_q H (Xz (i:=aA) (j:=a0.Ports.length) rfl rfl) rfl ?_));clear H a;intro a H
  refine Ze (Za (wp_seq (Zl H rfl (fun aE=>?_) (fun aE=>?_))))
  · replace hm:=Zu hm aE
    have bC : aA < a0.Ports.length:=of_decide_eq_true aE
    refine wp_skip (Za (wp_seq (wp_block (wp_seq (wp_region_lit ?_)))))
    replace hm:=Zi hm;obtain⟨aH,aF,hm⟩:=hm
    obtain⟨bD,aI⟩:=SlR.adV (aB.ext (Zq.mono _) hS.x) aD aF
    refine n_q H (Jn (i:=aA) Tryz.underlying24 Us rfl aD aI rfl (Ho aF)) rfl (W_q (Zf rfl (SlR.ldAggV (aB.ext (Zq.mono _) hS.x) aD aI Zdq Us aF)) rfl ?_);clear H a;intro a H
    refine Qr H Zfm rfl ?_
    clear H;intro bY bZ hN aW hs;clear a;intro a H
    replace hS:=hS.newBlk hN aW hs;clear hN hs
    refine Zr H rfl rfl (vs:=[.int .i64 aH.Kind,.int .i64 aH.Size,.int .i64 aH.Depth,.int .i64 aH.Refresh]) rfl Us (hS.blk 0 rfl) rfl (by simp) ?_
    clear H;intro b7 hN aX hz;clear a;intro a H;replace hS:=hS.setBlk hN aX;clear hN hz
    refine Ze (Za (wp_seq (wp_region_lit (n_q H (Zf rfl ((hS.blk 0 rfl).ldAll Zdq Us)) rfl ?_))));clear H a;intro a H
    replace hm:=Zi hm;obtain⟨bB,aY,hm⟩:=hm
    refine Zj H rfl en228 (Zjv (A:=A) (hG.ext hS.x) aY) rfl ?_
    clear H;intro b8 b9 hv;clear a;intro a H;obtain⟨cA,rfl,aZ⟩:=hv
    replace hS:=hS.new aZ;simp only [List.cons_append,List.nil_append] at hS
    refine n_q H (Zc rfl) rfl (W_q (Zk rfl rfl) rfl (W_q (Zk rfl rfl) rfl (W_q (Zb rfl) rfl (W_q (Zb rfl) rfl ?_))));clear H a;intro a H
    refine Ze (Za (wp_region_lit (n_q H (Zc rfl) rfl (W_q (Zc rfl) rfl (W_q (Xv rfl rfl) rfl (W_q (Xv rfl rfl) rfl (W_q (Zb rfl) rfl ?_)))))));clear H a;intro a H
    refine Ze (Zm (Za (wp_region_lit (n_q H (Kb (i:=aA) (j:=1) rfl rfl (by omega)) rfl (W_q (Zc rfl) rfl ?_)))));clear H a;intro a H
    refine Ze (Za ?_)
    obtain rfl:=Option.some.inj hm
    replace hS:=hS.tk0
    exact Vh (bA,(IntKind.i64.wrap (aC + (IntKind.i64.wrap (3 + bB.1)))),aA + 1) H ⟨rfl,rfl,rfl,rfl,trivial⟩ ⟨aM,hS⟩ (Nat.lt_succ_self _)
  replace hm:=Zv hm aE
  refine wp_exit (Zn (Zn (Zy ?_)))
  obtain rfl:=Option.some.inj hm;have hz : _=aQ:=aM;subst hz;replace hm:=aV;try dsimp only at hm
  refine Za (wp_seq (wp_region_lit (n_q H (Zc rfl) rfl (W_q (Zb rfl) rfl ?_))));clear H a;intro a H
  refine Ze (Za (wp_ret ?_))
  obtain rfl:=Option.some.inj hm
  refine Je H (.inr rfl) rfl rfl ?_
  exact⟨rfl,hS.x⟩
theorem Zfn {w : World} {A : Nat → Addr} {cs0 : List Value} {a0 : GPlan} (hG : EV A w) (h0 : Qw w cs0 a0) {r : ErrM} (hm : Uq a0=some r) :
    Calls Tryz.prog 130 [.agg cs0.toArray].toArray w (Ret fun u w'=>∃ h_0,u=h_0 ∧ St NB w w' [erQ A h_0 r]):=by
  obtain⟨aG,aH,aC,aD,rfl,bA,bB,aE,aF⟩:=h0
  have hS:=St.begin NB w
  unfold Uq at hm
  refine enter Tryz.func130 rfl rfl rfl ?_;intro a H;dsimp only [Qk,Nat.zero_add,Nat.reduceAdd] at H
  refine wp_seq (wp_region_lit (Wt H rfl (cs:=[.int .i64 a0.Id,.bool a0.Mobile,aG,aH,aC,.int .i64 a0.Events,aD]) rfl rfl ?_))
  clear H;intro aW cD hN bI hs;clear a;intro a H
  replace hS:=hS.newBlk hN bI hs;clear hN hs
  refine n_q H (Zb rfl) rfl ?_;clear H a;intro a H
  refine Ze (Za (wp_seq (wp_seq (wp_region_lit (n_q H (Zd rfl Gp) rfl (W_q (Zf rfl ((hS.blk 0 rfl).ld Zi7 rfl)) rfl ?_))))));clear H a;intro a H
  obtain⟨cF,cG,aI,b9,cA⟩:=SlR.formV (aE.ext (Zq.mono _) hS.x)
  refine n_q H (Qf Tryz.underlying24 rfl aI) rfl (W_q (Zdn (i:=a0.Ports.length) (j:=8) rfl rfl) rfl ?_);clear H a;intro a H
  refine Ze (Za (Zl H rfl (fun aM=>?_) (fun aM=>?_)))
  · replace hm:=Zu hm aM
    refine wp_seq (wp_region_lit (n_q H (Zf rfl ((hG.ext hS.x).ld Zaz (by decide) Hv)) rfl (W_q (Zb rfl) rfl ?_)));clear H a;intro a H
    refine Ze (Za (wp_ret (Zh ?_)))
    obtain rfl:=Option.some.inj hm
    replace hS:=hS.dVar (A:=A) (g:=Zaz) (by decide)
    replace hS:=hS.tk1
    refine Je H (.inr rfl) rfl rfl ?_
    exact⟨_,rfl,hS⟩
  replace hm:=Zv hm aM
  refine wp_skip (Za (wp_seq (wp_seq (wp_region_lit (n_q H (Zd rfl Gp) rfl (W_q (Zf rfl ((hS.blk 0 rfl).ld Zi7 rfl)) rfl (W_q (Qf Tryz.underlying24 rfl aI) rfl (W_q (Zc rfl) rfl ?_))))))));clear H a;intro a H
  refine Ze (Za (wp_block ?_))
  replace hm:=Zi hm;obtain⟨bC,hm,bD⟩:=hm;replace hm:=Qg hm;obtain⟨bT,hm⟩:=hm
  refine Jd (σ:=Nat × Nat) (fun (m,aA)=>[(1,.pointer (some ⟨aW,0,none⟩)),(14,aC),(15,.int .i64 ((a0.Ports.length : Nat) : Int)),(16,.int .i64 ((aA : Nat) : Int))]) (fun (m,aA) wl=>Js (Kp a0) m aA=some bC ∧ St NB w wl [blkR aW [.int .i64 a0.Id,.bool a0.Mobile,aG,aH,aC,.int .i64 a0.Events,aD] 27]) (fun (m,aA)=>m) (bT,0) H ⟨rfl,rfl,rfl,rfl,trivial⟩ ⟨hm,hS⟩ ?_
  clear H hS hm a;intro xx a cH H hR;obtain⟨m,aA⟩:=xx;simp only [ent,List.map_cons,List.map_nil] at H;(try dsimp only at hR);obtain⟨hm,hS⟩:=hR
  replace hm:=Qa hm;obtain⟨bU,cI,rfl,hm,aN⟩:=hm;try dsimp only [Kp] at hm
  refine wp_seq (wp_region_lit (n_q H (Xz (i:=aA) (j:=a0.Ports.length) rfl rfl) rfl ?_));clear H a;intro a H
  refine Ze (Za (wp_seq (Zl H rfl (fun aK=>?_) (fun aK=>?_))))
  · replace hm:=Zu hm aK
    have bY : aA < a0.Ports.length:=of_decide_eq_true aK
    refine wp_skip (Za (wp_seq (wp_block (wp_seq (wp_region_lit (n_q H (Zc rfl) rfl ?_))))));clear H a;intro a H
    replace hm:=Zi hm;obtain⟨aX,aO,hm⟩:=hm
    obtain⟨bZ,aY⟩:=SlR.adV (aE.ext (Zq.mono _) hS.x) aI aO
    refine n_q H (Jn (i:=aA) Tryz.underlying24 Us rfl aI aY rfl (Ho aO)) rfl (W_q (Zf rfl (SlR.ldAggV (aE.ext (Zq.mono _) hS.x) aI aY Zdq Us aO)) rfl ?_);clear H a;intro a H
    refine Qr H Zfm rfl ?_
    clear H;intro cJ cK hN bJ hs;clear a;intro a H
    replace hS:=hS.newBlk hN bJ hs;clear hN hs
    refine n_q H (Zb rfl) rfl ?_;clear H a;intro a H
    refine Zr H rfl rfl (vs:=[.int .i64 aX.Kind,.int .i64 aX.Size,.int .i64 aX.Depth,.int .i64 aX.Refresh]) rfl Us (hS.blk 0 rfl) rfl (by simp) ?_
    clear H;intro cL hN bK hz;clear a;intro a H;replace hS:=hS.setBlk hN bK;clear hN hz
    refine Ze (Za (wp_seq (wp_region_lit (n_q H (Zf rfl ((hS.blk 0 rfl).ldAll Zdq Us)) rfl ?_))));clear H a;intro a H
    replace hm:=Zi hm;obtain⟨aZ,bL,hm⟩:=hm
    refine Zj H rfl en199 (Zb3 (A:=A) (hG.ext hS.x) bL) rfl ?_
    clear H;intro bE bF hv;clear a;intro a H;obtain⟨_,rfl,bM⟩:=hv
    replace hS:=hS.new bM;simp only [List.cons_append,List.nil_append] at hS
    refine n_q H (Zb rfl) rfl ?_;clear H a;intro a H
    refine Ze (Za (wp_seq (wp_region_lit (n_q H (Zc rfl) rfl (W_q (Qo (Va Tryz.underlying39 rfl rfl (hS.any 0 rfl : IsE A bF bE aZ).form) (show _=Value.bool (!decide (aZ=.nil)) by rw [Xw.isNil (hS.any 0 rfl : IsE A bF bE aZ)])) rfl ?_)))));clear H a;intro a H
    refine Ze (Za (Zl H rfl (fun aP=>?_) (fun aP=>?_)))
    · replace hm:=Zu hm aP
      refine wp_seq (wp_region_lit (n_q H (Zc rfl) rfl (W_q (Zc rfl) rfl ?_)));clear H a;intro a H
      replace hm:=Zi hm;obtain⟨cM,bN,hm⟩:=hm
      refine Zj H rfl Zp0 (Zbr (A:=A) (hS.any 0 rfl : IsE A bF bE aZ) bN) rfl ?_
      clear H;intro cN cO hv;clear a;intro a H;obtain⟨_,rfl,bO⟩:=hv
      replace hS:=hS.new bO;simp only [List.cons_append,List.nil_append] at hS
      refine n_q H (Zb rfl) rfl ?_;clear H a;intro a H
      refine Ze (Za (wp_ret (Zo (Zh (Zh (Zo (Zh ?_)))))))
      obtain rfl:=Option.some.inj hm;have hz : _=bC:=aN;subst hz;replace hm:=bD;try dsimp only at hm
      obtain rfl:=Option.some.inj hm
      replace hS:=hS.tk1
      refine Je H (.inr rfl) rfl rfl ?_
      exact⟨_,rfl,hS⟩
    replace hm:=Zv hm aP
    refine wp_skip (Zm (Za (wp_region_lit (n_q H (Kb (i:=aA) (j:=1) rfl rfl (by omega)) rfl (W_q (Zc rfl) rfl ?_)))));clear H a;intro a H
    refine Ze (Za ?_)
    obtain rfl:=Option.some.inj hm
    replace hS:=hS.pk2
    replace hS:=hS.tk1
    exact Vh (bU,aA + 1) H ⟨rfl,rfl,rfl,rfl,trivial⟩ ⟨aN,hS⟩ (Nat.lt_succ_self _)
  replace hm:=Zv hm aK
  refine wp_exit (Zn (Zn (Zy ?_)))
  obtain rfl:=Option.some.inj hm;have hz : _=bC:=aN;subst hz;replace hm:=bD;try dsimp only at hm
  refine Za (wp_seq (wp_seq (wp_region_lit (n_c H (fun HC=>?_)))));clear H
  refine Tn HC (Zd rfl Zc2) rfl (by kernel_rfl) (V_q (Zf rfl ((hS.blk 0 rfl).ld ag3 rfl)) rfl (by kernel_rfl) (V_q (Un rfl rfl) rfl (by kernel_rfl) (V_q (Zc rfl) rfl (by kernel_rfl) (V_g (Zd rfl Zc2) (by kernel_rfl) (by kernel_rfl) (by kernel_rfl) (V_g (Zf rfl ((hS.blk 0 rfl).ld ag3 rfl)) (by kernel_rfl) (by kernel_rfl) (by kernel_rfl) (V_g (Hp rfl rfl) (by kernel_rfl) (by kernel_rfl) (by kernel_rfl) (Zet (j:=3) rfl rfl rfl (by kernel_rfl) (by kernel_rfl) ?_)))))));clear HC a;intro a HC
  have H:=HC.has;clear HC
  refine Ze (Za (Zl H rfl (fun aQ=>?_) (fun aQ=>?_)))
  · replace hm:=Zu hm aQ
    refine wp_seq (wp_region_lit (n_q H (Zf rfl ((hG.ext hS.x).ld Kl (by decide) Hv)) rfl (W_q (Zb rfl) rfl ?_)));clear H a;intro a H
    refine Ze (Za (wp_ret (Zh ?_)))
    obtain rfl:=Option.some.inj hm
    replace hS:=hS.dVar (A:=A) (g:=Kl) (by decide)
    replace hS:=hS.tk1
    refine Je H (.inr rfl) rfl rfl ?_
    exact⟨_,rfl,hS⟩
  replace hm:=Zv hm aQ
  refine wp_skip (Za (wp_seq (wp_seq (wp_region_lit (n_q H (Zd rfl Gq) rfl (W_q (Zf rfl ((hS.blk 0 rfl).ld Zij rfl)) rfl ?_))))));clear H a;intro a H
  obtain⟨cP,cQ,aJ,cB,cC⟩:=SlR.formV (aF.ext (Zq.mono _) hS.x)
  refine n_q H (Qf Tryz.underlying25 rfl aJ) rfl (W_q (Zdn (i:=a0.Sems.length) (j:=8) rfl rfl) rfl ?_);clear H a;intro a H
  refine Ze (Za (Zl H rfl (fun aR=>?_) (fun aR=>?_)))
  · replace hm:=Zu hm aR
    refine wp_seq (wp_region_lit (n_q H (Zf rfl ((hG.ext hS.x).ld Zaz (by decide) Hv)) rfl (W_q (Zb rfl) rfl ?_)));clear H a;intro a H
    refine Ze (Za (wp_ret (Zh ?_)))
    obtain rfl:=Option.some.inj hm
    replace hS:=hS.dVar (A:=A) (g:=Zaz) (by decide)
    replace hS:=hS.tk1
    refine Je H (.inr rfl) rfl rfl ?_
    exact⟨_,rfl,hS⟩
  replace hm:=Zv hm aR
  refine wp_skip (Za (wp_seq (wp_seq (wp_region_lit (n_q H (Zd rfl Gq) rfl (W_q (Zf rfl ((hS.blk 0 rfl).ld Zij rfl)) rfl (W_q (Qf Tryz.underlying25 rfl aJ) rfl (W_q (Zc rfl) rfl ?_))))))));clear H a;intro a H
  refine Ze (Za (wp_block ?_))
  replace hm:=Zi hm;obtain⟨bG,hm,bH⟩:=hm;replace hm:=Qg hm;obtain⟨bV,hm⟩:=hm
  refine Jd (σ:=Nat × Nat) (fun (m,aB)=>[(1,.pointer (some ⟨aW,0,none⟩)),(44,aD),(45,.int .i64 ((a0.Sems.length : Nat) : Int)),(46,.int .i64 ((aB : Nat) : Int))]) (fun (m,aB) wl=>Js (Ko a0) m aB=some bG ∧ St NB w wl [blkR aW [.int .i64 a0.Id,.bool a0.Mobile,aG,aH,aC,.int .i64 a0.Events,aD] 27]) (fun (m,aB)=>m) (bV,0) H ⟨rfl,rfl,rfl,rfl,trivial⟩ ⟨hm,hS⟩ ?_
  clear H hS hm a;intro xx a bW H hR;obtain⟨m,aB⟩:=xx;simp only [ent,List.map_cons,List.map_nil] at H;(try dsimp only at hR);obtain⟨hm,hS⟩:=hR
  replace hm:=Qa hm;obtain⟨bX,cR,rfl,hm,aS⟩:=hm;try dsimp only [Ko] at hm
  refine wp_seq (wp_region_lit (n_q H (Xz (i:=aB) (j:=a0.Sems.length) rfl rfl) rfl ?_));clear H a;intro a H
  refine Ze (Za (wp_seq (Zl H rfl (fun aL=>?_) (fun aL=>?_))))
  · replace hm:=Zu hm aL
    have b7 : aB < a0.Sems.length:=of_decide_eq_true aL
    refine wp_skip (Za (wp_seq (wp_block (wp_seq (wp_region_lit (n_q H (Zc rfl) rfl ?_))))));clear H a;intro a H
    replace hm:=Zi hm;obtain⟨cT,aT,hm⟩:=hm
    obtain⟨b8,a9⟩:=SlR.adV (aF.ext (Zq.mono _) hS.x) aJ aT
    refine n_q H (Jn (i:=aB) Tryz.underlying25 sz3 rfl aJ a9 rfl (Ho aT)) rfl (W_q (Zf rfl (SlR.ldOneV (aF.ext (Zq.mono _) hS.x) aJ a9 ag3 aT rfl)) rfl (W_q (Zb rfl) rfl (W_q (Zb rfl) rfl ?_)));clear H a;intro a H
    refine Ze (Za (wp_seq (wp_region_lit (n_c H (fun HC=>?_)))));clear H
    refine Tn HC (Zc rfl) rfl (by kernel_rfl) (V_q (Un rfl rfl) rfl (by kernel_rfl) (V_q (Zc rfl) rfl (by kernel_rfl) (V_g (Zc rfl) (by kernel_rfl) (by kernel_rfl) (by kernel_rfl) (V_g (Hp rfl rfl) (by kernel_rfl) (by kernel_rfl) (by kernel_rfl) (Zet (j:=2) rfl rfl rfl (by kernel_rfl) (by kernel_rfl) ?_)))));clear HC a;intro a HC
    have H:=HC.has;clear HC
    refine Ze (Za (Zl H rfl (fun aU=>?_) (fun aU=>?_)))
    · replace hm:=Zu hm aU
      refine wp_seq (wp_region_lit (n_q H (Zc rfl) rfl (W_q (Zf rfl ((hG.ext hS.x).ld Kl (by decide) Hv)) rfl ?_)));clear H a;intro a H
      replace hm:=Zi hm;obtain⟨cU,bP,hm⟩:=hm
      refine Zj H rfl Zp0 (Zbr (A:=A) (Xw.var (by decide) : IsE A bW _ (.v Kl)) bP) rfl ?_
      clear H;intro u64 cV hv;clear a;intro a H;obtain⟨_,rfl,bQ⟩:=hv
      replace hS:=hS.new bQ;simp only [List.cons_append,List.nil_append] at hS
      refine n_q H (Zb rfl) rfl ?_;clear H a;intro a H
      refine Ze (Za (wp_ret (Zo (Zh (Zh (Zo (Zh ?_)))))))
      obtain rfl:=Option.some.inj hm;have hz : _=bG:=aS;subst hz;replace hm:=bH;try dsimp only at hm
      obtain rfl:=Option.some.inj hm
      replace hS:=hS.tk1
      refine Je H (.inr rfl) rfl rfl ?_
      exact⟨_,rfl,hS⟩
    replace hm:=Zv hm aU
    refine wp_skip (Zm (Za (wp_region_lit (n_q H (Kb (i:=aB) (j:=1) rfl rfl (by omega)) rfl (W_q (Zc rfl) rfl ?_)))));clear H a;intro a H
    refine Ze (Za ?_)
    obtain rfl:=Option.some.inj hm
    exact Vh (bX,aB + 1) H ⟨rfl,rfl,rfl,rfl,trivial⟩ ⟨aS,hS⟩ (Nat.lt_succ_self _)
  replace hm:=Zv hm aL
  refine wp_exit (Zn (Zn (Zy ?_)))
  obtain rfl:=Option.some.inj hm;have hz : _=bG:=aS;subst hz;replace hm:=bH;try dsimp only at hm
  refine Za (wp_seq (wp_seq (wp_region_lit (n_q H (Zf rfl ((hS.blk 0 rfl).ldAll Zap Ut)) rfl ?_))));clear H a;intro a H
  replace hm:=Zi hm;obtain⟨cW,bR,hm⟩:=hm
  refine Zj H rfl en140 (Zej (A:=A) (hG.ext hS.x) (⟨_,_,_,_,rfl,(bA.ext (Zq.mono _) hS.x),(bB.ext (Zq.mono _) hS.x),(aE.ext (Zq.mono _) hS.x),(aF.ext (Zq.mono _) hS.x)⟩ : Qw _ [.int .i64 a0.Id,.bool a0.Mobile,aG,aH,aC,.int .i64 a0.Events,aD] a0) bR) rfl ?_
  clear H;intro cX cY hv;clear a;intro a H;obtain⟨rfl,bS⟩:=hv
  replace hS:=hS.ext bS
  refine n_q H (Hp rfl rfl) rfl ?_;clear H a;intro a H
  refine Ze (Za (Zl H rfl (fun aV=>?_) (fun aV=>?_)))
  · replace hm:=Zu hm aV
    refine wp_seq (wp_region_lit (n_q H (Zf rfl ((hG.ext hS.x).ld Zaz (by decide) Hv)) rfl (W_q (Zb rfl) rfl ?_)));clear H a;intro a H
    refine Ze (Za (wp_ret (Zh ?_)))
    obtain rfl:=Option.some.inj hm
    replace hS:=hS.dVar (A:=A) (g:=Zaz) (by decide)
    replace hS:=hS.tk1
    refine Je H (.inr rfl) rfl rfl ?_
    exact⟨_,rfl,hS⟩
  replace hm:=Zv hm aV
  refine wp_skip (Za (wp_seq (wp_region_lit (n_q H (Zb rfl) rfl ?_))));clear H a;intro a H
  refine Ze (Za (wp_ret ?_))
  obtain rfl:=Option.some.inj hm
  replace hS:=hS.dNil (A:=A)
  replace hS:=hS.tk1
  refine Je H (.inr rfl) rfl rfl ?_
  exact⟨_,rfl,hS⟩
theorem Ht {w : World} {A : Nat → Addr} {cs0 : List Value} {a0 : GPlan} (hG : EV A w) (h0 : Qw w cs0 a0) {r : ErrM} (hm : Kz a0=some r) :
    Calls Tryz.prog 57 [.agg cs0.toArray].toArray w (Ret fun u w'=>∃ h_0,u=h_0 ∧ St NB w w' [erQ A h_0 r]):=by
  obtain⟨aA,aB,aC,aD,rfl,aE,aF,aG,aH⟩:=h0
  have hS:=St.begin NB w
  unfold Kz at hm
  refine enter Tryz.func57 rfl rfl rfl ?_;intro a H;dsimp only [Qk,Nat.zero_add,Nat.reduceAdd] at H
  refine wp_seq (wp_region_lit (Wt H rfl (cs:=[.int .i64 a0.Id,.bool a0.Mobile,aA,aB,aC,.int .i64 a0.Events,aD]) rfl rfl ?_))
  clear H;intro bD bE hN aW hs;clear a;intro a H
  replace hS:=hS.newBlk hN aW hs;clear hN hs
  refine n_q H (Zb rfl) rfl ?_;clear H a;intro a H
  refine Ze (Za (wp_seq (wp_seq (wp_region_lit (n_c H (fun HC=>?_))))));clear H
  refine Tn HC (Zd rfl Zeh) rfl (by kernel_rfl) (V_q (Zf rfl ((hS.blk 0 rfl).ld ag3 rfl)) rfl (by kernel_rfl) (V_q (Un rfl rfl) rfl (by kernel_rfl) (V_q (Zc rfl) rfl (by kernel_rfl) (V_g (Zd rfl Zeh) (by kernel_rfl) (by kernel_rfl) (by kernel_rfl) (V_g (Zf rfl ((hS.blk 0 rfl).ld ag3 rfl)) (by kernel_rfl) (by kernel_rfl) (by kernel_rfl) (V_g (Hp rfl rfl) (by kernel_rfl) (by kernel_rfl) (by kernel_rfl) (Zet (j:=3) rfl rfl rfl (by kernel_rfl) (by kernel_rfl) ?_)))))));clear HC a;intro a HC
  have H:=HC.has;clear HC
  refine Ze (Za (Zl H rfl (fun aI=>?_) (fun aI=>?_)))
  · replace hm:=Zu hm aI
    refine wp_seq (wp_region_lit (n_q H (Zf rfl ((hG.ext hS.x).ld Kl (by decide) Hv)) rfl (W_q (Zb rfl) rfl ?_)));clear H a;intro a H
    refine Ze (Za (wp_ret (Zh ?_)))
    obtain rfl:=Option.some.inj hm
    replace hS:=hS.dVar (A:=A) (g:=Kl) (by decide)
    replace hS:=hS.tk1
    refine Je H (.inr rfl) rfl rfl ?_
    exact⟨_,rfl,hS⟩
  replace hm:=Zv hm aI
  refine wp_skip (Za (wp_seq (wp_seq (wp_region_lit (Qd H Tryz.underlying206 Zr2 ze130 rfl rfl rfl (cs:=[.func (.func 128) [].toArray [].toArray,.func (.func 129) [].toArray [].toArray,.func (.func 130) [].toArray [].toArray]) (by kernel_rfl) rfl ?_)))))
  clear H;intro aM bF hN aX hs;clear a;intro a H
  replace hS:=hS.newBlk hN aX hs;clear hN hs
  refine n_q H (Zma Tryz.underlying206 rfl) rfl (W_q (Zc rfl) rfl ?_);clear H a;intro a H
  refine Ze (Za (wp_block (wp_loop_rounds 4 ?_)))
  refine Eq.mpr (rounds_succ (n:=3)) ?_
  refine wp_seq (wp_region_lit (n_q H (Qo (Un rfl rfl) (show _=Value.bool true from rfl)) rfl ?_));clear H a;intro a H
  refine Ze (Za (wp_seq (Zjm H rfl ?_)))
  refine wp_skip (Za (wp_seq (wp_block (wp_seq (wp_region_lit (n_q H (Qo (Zbc Tryz.underlying206 Zr2 rfl rfl (by decide) (by decide)) (show _=Value.pointer (some ⟨aM,0,none⟩) by simp [Yy])) rfl (W_q (Zf rfl ((hS.blk 0 rfl).ld Zt1 rfl)) rfl (W_q (Zb rfl) rfl ?_))))))));clear H a;intro a H
  refine Ze (Za (wp_seq (wp_region_lit (n_q H (Zc rfl) rfl (W_q (Zf rfl ((hS.blk 1 rfl).ldAll Zap Ut)) rfl ?_)))));clear H a;intro a H
  replace hm:=Zi hm;obtain⟨aN,aY,hm⟩:=hm
  refine Zjg H rfl rfl en128 (Zey (A:=A) (hG.ext hS.x) (⟨_,_,_,_,rfl,(aE.ext (Zq.mono _) hS.x),(aF.ext (Zq.mono _) hS.x),(aG.ext (Zq.mono _) hS.x),(aH.ext (Zq.mono _) hS.x)⟩ : Qw _ [.int .i64 a0.Id,.bool a0.Mobile,aA,aB,aC,.int .i64 a0.Events,aD] a0) aY) rfl ?_
  clear H;intro aQ aR hv;clear a;intro a H;obtain⟨_,rfl,aZ⟩:=hv
  replace hS:=hS.new aZ;simp only [List.cons_append,List.nil_append] at hS
  refine n_q H (Zb rfl) rfl ?_;clear H a;intro a H
  refine Ze (Za (wp_seq (wp_region_lit (n_q H (Zc rfl) rfl (W_q (Qo (Va Tryz.underlying39 rfl rfl (hS.any 0 rfl : IsE A aR aQ aN).form) (show _=Value.bool (!decide (aN=.nil)) by rw [Xw.isNil (hS.any 0 rfl : IsE A aR aQ aN)])) rfl ?_)))));clear H a;intro a H
  refine Ze (Za (Zl H rfl (fun aJ=>?_) (fun aJ=>?_)))
  · replace hm:=Zu hm aJ
    refine wp_seq (wp_region_lit (n_q H (Zc rfl) rfl (W_q (Zb rfl) rfl ?_)));clear H a;intro a H
    refine Ze (Za (wp_ret (Zo (Zh (Zh (Zo (Zh ?_)))))))
    obtain rfl:=Option.some.inj hm
    replace hS:=hS.tk1
    refine Je H (.inr rfl) rfl rfl ?_
    exact⟨_,rfl,hS⟩
  replace hm:=Zv hm aJ
  refine wp_skip (Zm (Za (wp_region_lit (n_q H (Qo (Xv rfl rfl) (show _=Value.int .i64 1 from rfl)) rfl (W_q (Zc rfl) rfl ?_)))));clear H a;intro a H
  refine Ze (Za (Eq.mpr (rounds_succ (n:=2)) ?_))
  refine wp_seq (wp_region_lit (n_q H (Qo (Un rfl rfl) (show _=Value.bool true from rfl)) rfl ?_));clear H a;intro a H
  refine Ze (Za (wp_seq (Zjm H rfl ?_)))
  refine wp_skip (Za (wp_seq (wp_block (wp_seq (wp_region_lit (n_q H (Qo (Zbc Tryz.underlying206 Zr2 rfl rfl (by decide) (by decide)) (show _=Value.pointer (some ⟨aM,1,none⟩) by simp [Yy])) rfl (W_q (Zf rfl ((hS.blk 1 rfl).ld Zt1 rfl)) rfl (W_q (Zb rfl) rfl ?_))))))));clear H a;intro a H
  refine Ze (Za (wp_seq (wp_region_lit (n_q H (Zc rfl) rfl (W_q (Zf rfl ((hS.blk 2 rfl).ldAll Zap Ut)) rfl ?_)))));clear H a;intro a H
  replace hm:=Zi hm;obtain⟨aO,a9,hm⟩:=hm
  refine Zjg H rfl rfl en129 (Zez (A:=A) (hG.ext hS.x) (⟨_,_,_,_,rfl,(aE.ext (Zq.mono _) hS.x),(aF.ext (Zq.mono _) hS.x),(aG.ext (Zq.mono _) hS.x),(aH.ext (Zq.mono _) hS.x)⟩ : Qw _ [.int .i64 a0.Id,.bool a0.Mobile,aA,aB,aC,.int .i64 a0.Events,aD] a0) a9) rfl ?_
  clear H;intro aS aT hv;clear a;intro a H;obtain⟨_,rfl,bA⟩:=hv
  replace hS:=hS.new bA;simp only [List.cons_append,List.nil_append] at hS
  refine n_q H (Zb rfl) rfl ?_;clear H a;intro a H
  refine Ze (Za (wp_seq (wp_region_lit (n_q H (Zc rfl) rfl (W_q (Qo (Va Tryz.underlying39 rfl rfl (hS.any 0 rfl : IsE A aT aS aO).form) (show _=Value.bool (!decide (aO=.nil)) by rw [Xw.isNil (hS.any 0 rfl : IsE A aT aS aO)])) rfl ?_)))));clear H a;intro a H
  refine Ze (Za (Zl H rfl (fun aK=>?_) (fun aK=>?_)))
  · replace hm:=Zu hm aK
    refine wp_seq (wp_region_lit (n_q H (Zc rfl) rfl (W_q (Zb rfl) rfl ?_)));clear H a;intro a H
    refine Ze (Za (wp_ret (Zo (Zh (Zh (Zo (Zh ?_)))))))
    obtain rfl:=Option.some.inj hm
    replace hS:=hS.tk1
    refine Je H (.inr rfl) rfl rfl ?_
    exact⟨_,rfl,hS⟩
  replace hm:=Zv hm aK
  refine wp_skip (Zm (Za (wp_region_lit (n_q H (Qo (Xv rfl rfl) (show _=Value.int .i64 2 from rfl)) rfl (W_q (Zc rfl) rfl ?_)))));clear H a;intro a H
  refine Ze (Za (Eq.mpr (rounds_succ (n:=1)) ?_))
  refine wp_seq (wp_region_lit (n_q H (Qo (Un rfl rfl) (show _=Value.bool true from rfl)) rfl ?_));clear H a;intro a H
  refine Ze (Za (wp_seq (Zjm H rfl ?_)))
  refine wp_skip (Za (wp_seq (wp_block (wp_seq (wp_region_lit (n_q H (Qo (Zbc Tryz.underlying206 Zr2 rfl rfl (by decide) (by decide)) (show _=Value.pointer (some ⟨aM,2,none⟩) by simp [Yy])) rfl (W_q (Zf rfl ((hS.blk 2 rfl).ld Zt1 rfl)) rfl (W_q (Zb rfl) rfl ?_))))))));clear H a;intro a H
  refine Ze (Za (wp_seq (wp_region_lit (n_q H (Zc rfl) rfl (W_q (Zf rfl ((hS.blk 3 rfl).ldAll Zap Ut)) rfl ?_)))));clear H a;intro a H
  replace hm:=Zi hm;obtain⟨aP,bB,hm⟩:=hm
  refine Zjg H rfl rfl en130 (Zfn (A:=A) (hG.ext hS.x) (⟨_,_,_,_,rfl,(aE.ext (Zq.mono _) hS.x),(aF.ext (Zq.mono _) hS.x),(aG.ext (Zq.mono _) hS.x),(aH.ext (Zq.mono _) hS.x)⟩ : Qw _ [.int .i64 a0.Id,.bool a0.Mobile,aA,aB,aC,.int .i64 a0.Events,aD] a0) bB) rfl ?_
  clear H;intro aU aV hv;clear a;intro a H;obtain⟨_,rfl,bC⟩:=hv
  replace hS:=hS.new bC;simp only [List.cons_append,List.nil_append] at hS
  refine n_q H (Zb rfl) rfl ?_;clear H a;intro a H
  refine Ze (Za (wp_seq (wp_region_lit (n_q H (Zc rfl) rfl (W_q (Qo (Va Tryz.underlying39 rfl rfl (hS.any 0 rfl : IsE A aV aU aP).form) (show _=Value.bool (!decide (aP=.nil)) by rw [Xw.isNil (hS.any 0 rfl : IsE A aV aU aP)])) rfl ?_)))));clear H a;intro a H
  refine Ze (Za (Zl H rfl (fun aL=>?_) (fun aL=>?_)))
  · replace hm:=Zu hm aL
    refine wp_seq (wp_region_lit (n_q H (Zc rfl) rfl (W_q (Zb rfl) rfl ?_)));clear H a;intro a H
    refine Ze (Za (wp_ret (Zo (Zh (Zh (Zo (Zh ?_)))))))
    obtain rfl:=Option.some.inj hm
    replace hS:=hS.tk1
    refine Je H (.inr rfl) rfl rfl ?_
    exact⟨_,rfl,hS⟩
  replace hm:=Zv hm aL
  refine wp_skip (Zm (Za (wp_region_lit (n_q H (Qo (Xv rfl rfl) (show _=Value.int .i64 3 from rfl)) rfl (W_q (Zc rfl) rfl ?_)))));clear H a;intro a H
  refine Ze (Za (Eq.mpr (rounds_succ (n:=0)) ?_))
  refine wp_seq (wp_region_lit (n_q H (Qo (Un rfl rfl) (show _=Value.bool false from rfl)) rfl ?_));clear H a;intro a H
  refine Ze (Za (wp_seq (Zrr H rfl ?_)))
  refine wp_exit (Zn (Zn (Zy (Za (wp_seq (wp_region_lit (n_q H (Zb rfl) rfl ?_)))))));clear H a;intro a H
  refine Ze (Za (wp_ret ?_))
  obtain rfl:=Option.some.inj hm
  replace hS:=hS.dNil (A:=A)
  replace hS:=hS.tk1
  refine Je H (.inr rfl) rfl rfl ?_
  exact⟨_,rfl,hS⟩
theorem Tw {w : World} {A : Nat → Addr} {r : GWireWriter} (hm : Kj=some r) :
    Calls Tryz.prog 93 [].toArray w (Ret fun u w'=>∃ (h_0 : Nat) (h_1 : Value) (h_2 : Value),u=.pointer (some ⟨h_0,0,none⟩) ∧ St NB w w' [blkR h_0 [h_1,h_2] 244,ownR 5 1 h_1 r.buf_.length (r.buf_.flatMap eB),erQ A h_2 r.err_]):=by
  have hS:=St.begin NB w
  unfold Kj at hm
  refine enter Tryz.func93 rfl rfl rfl ?_;intro a H;dsimp only [Qk,Nat.zero_add,Nat.reduceAdd] at H
  refine wp_seq (wp_region_lit (n_q H (Zb rfl) rfl ?_));clear H a;intro a H
  refine Ze (Za (wp_seq (wp_region_lit (n_q H (Zz (cs:=[.slice none 0 0,.nilIface]) ze244 bd244 pl244 rfl (by kernel_rfl)) rfl ?_))));clear H a;intro a H
  refine Wt H rfl (cs:=[.slice none 0 0,.nilIface]) rfl rfl ?_
  clear H;intro aB aC hN aA hs;clear a;intro a H
  replace hS:=hS.newBlk hN aA hs;clear hN hs
  refine n_q H (Zb rfl) rfl ?_;clear H a;intro a H
  refine Ze (Za (wp_ret ?_))
  obtain rfl:=Option.some.inj hm
  replace hS:=hS.nilOwn 5 1
  replace hS:=hS.dNil (A:=A)
  replace hS:=hS.pk1
  replace hS:=hS.pk2
  refine Je H (.inr rfl) rfl rfl ?_
  exact⟨_,_,_,rfl,hS⟩
theorem Gr {w : World} {A : Nat → Addr} {v0 : Value} {a0 : List UInt8} (h0 : SlR w 1 (Zq eB) v0 a0) {r : List UInt8} (hm : Xl a0=some r) :
    Calls Tryz.prog 168 [v0].toArray w (Ret fun u w'=>∃ h_0,u=h_0 ∧ St NB w w' [ownR 5 1 h_0 r.length (r.flatMap eB)]):=by
  have hS:=St.begin NB w
  unfold Xl at hm
  refine enter Tryz.func168 rfl rfl rfl ?_;intro a H;dsimp only [Qk,Nat.zero_add,Nat.reduceAdd] at H
  refine wp_seq (wp_region_lit (n_q H (Zb rfl) rfl ?_));clear H a;intro a H
  refine Ze (Za (wp_seq (wp_seq (wp_region_lit (n_q H (Zc rfl) rfl ?_)))));clear H a;intro a H
  obtain⟨aH,aI,aA,aF,aG⟩:=SlR.formV (h0.ext (Zq.mono _) hS.x)
  refine n_q H (Zpn Tryz.underlying100 rfl aA rfl) rfl ?_;clear H a;intro a H
  refine Ze (Za (Zl H rfl (fun aB=>?_) (fun aB=>?_)))
  · obtain rfl:=SlR.nilV (h0.ext (Zq.mono _) hS.x) aA aB;replace hm:=Tj hm;obtain⟨_,hm⟩:=hm
    refine wp_seq (wp_region_lit (n_q H (Zb rfl) rfl ?_));clear H a;intro a H
    refine Ze (Za (wp_ret (Zh ?_)))
    obtain rfl:=Option.some.inj hm
    replace hS:=hS.nilOwn 5 1
    refine Je H (.inr rfl) rfl rfl ?_
    exact⟨_,rfl,hS⟩
  refine wp_skip (Za (wp_seq (wp_region_lit (Qd H Tryz.underlying100 sz5 ze5 rfl rfl rfl (cs:=[]) rfl rfl ?_))))
  clear H;intro aJ aK hN aC hs;clear a;intro a H
  replace hS:=hS.newBlk hN aC hs;clear hN hs
  replace hS:=hS.blkOwnL (e:=eB) (k:=1) ([] : List UInt8) rfl rfl (by simp [maxLen])
  refine n_q H (Zc rfl) rfl ?_;clear H a;intro a H
  replace hm:=Tj hm;obtain⟨aD,hm⟩:=hm
  refine Zb1 (e:=eB) H rfl rfl Tryz.underlying100 Tryz.underlying100 (by simp) el5 (hS.own 0 rfl) ((h0.ext (Zq.mono _) hS.x).src (fun _ _=>rfl)) Zal aD (by simp only [maxLen];omega) rfl ?_
  clear H;intro aL aM hN aE hb;clear a;intro a H;replace hS:=hS.setOwn hN aE hb;clear hN hb
  refine n_q H (Zb rfl) rfl ?_;clear H a;intro a H
  refine Ze (Za (wp_ret ?_))
  obtain rfl:=Option.some.inj hm
  refine Je H (.inr rfl) rfl rfl ?_
  exact⟨_,rfl,hS⟩
theorem Hk {w : World} {A : Nat → Addr} {fp : Nat → Prop} {b0 : Nat} {v0_0 : Value} {v0_1 : Value} {a0 : GWireWriter} (hP : Sep w fp [blkR b0 [v0_0,v0_1] 244,ownR 5 1 v0_0 a0.buf_.length (a0.buf_.flatMap eB),erQ A v0_1 a0.err_]) {r : List UInt8 × ErrM × GWireWriter} (hm : Kc a0=some r) :
    Calls Tryz.prog 92 [.pointer (some ⟨b0,0,none⟩)].toArray w (Ret fun u w'=>∃ h_0 h_1 h_2 h_3,u=.tuple #[h_0,h_1] ∧ St fp w w' [blkR b0 [h_2,h_3] 244,ownR 5 1 h_2 r.2.2.buf_.length (r.2.2.buf_.flatMap eB),ownR 5 1 h_0 r.1.length (r.1.flatMap eB),erQ A h_1 r.2.1]):=by
  have hS:=St.init hP
  unfold Kc at hm
  refine enter Tryz.func92 rfl rfl rfl ?_;intro a H;dsimp only [Qk,Nat.zero_add,Nat.reduceAdd] at H
  refine wp_seq (wp_region_lit (n_q H (Zb rfl) rfl (W_q (Zb rfl) rfl ?_)));clear H a;intro a H
  refine Ze (Za (wp_seq (wp_seq (wp_region_lit (n_q H (Zc rfl) rfl (W_q (Zp rfl) rfl (W_q (Zd rfl Zht) rfl (W_q (Zf rfl ((hS.blk 0 rfl).ld Hv rfl)) rfl (W_q (Qo (Va Tryz.underlying39 rfl rfl (hS.any 2 rfl : IsE A w v0_1 a0.err_).form) (show _=Value.bool (!decide (a0.err_=.nil)) by rw [Xw.isNil (hS.any 2 rfl : IsE A w v0_1 a0.err_)])) rfl ?_)))))))));clear H a;intro a H
  refine Ze (Za (Zl H rfl (fun aA=>?_) (fun aA=>?_)))
  · replace hm:=Zu hm aA
    refine wp_seq (Ww (by kernel_rfl) (by kernel_rfl) ?_)
    refine Xb H (Zc rfl) rfl ?_;clear H a;intro a H
    refine Xb H (Zp rfl) rfl ?_;clear H a;intro a H
    refine Xb H (Zd rfl Zht) rfl ?_;clear H a;intro a H
    refine Xb H (Zf rfl ((hS.blk 0 rfl).ld Hv rfl)) rfl ?_;clear H a;intro a H
    refine Xb H (Zb rfl) rfl ?_;clear H a;intro a H
    refine Xb H (Zb rfl) rfl ?_;clear H a;intro a H
    refine To ?_;intro aE aB
    replace hS:=hS.ext aB
    refine Za (wp_ret (Zh ?_))
    obtain rfl:=Option.some.inj hm
    replace hS:=hS.nilOwn 5 1
    replace hS:=hS.pk3
    replace hS:=hS.pk1
    replace hS:=hS.pk3
    replace hS:=hS.pk3
    refine Zda H (.inr rfl) rfl rfl rfl ?_
    exact⟨_,_,_,_,rfl,hS⟩
  replace hm:=Zv hm aA
  refine wp_skip (Za (wp_seq (wp_region_lit (n_q H (Zc rfl) rfl (W_q (Zp rfl) rfl (W_q (Zd rfl Zjt) rfl (W_q (Zf rfl ((hS.blk 0 rfl).ld Zdx rfl)) rfl ?_)))))));clear H a;intro a H
  replace hm:=Zi hm;obtain⟨aF,aC,hm⟩:=hm
  refine Zj H rfl Zt3 (Gr (A:=A) ((hS.own 1 rfl).slr rfl (fun _ _=>rfl)) aC) rfl ?_
  clear H;intro aG aH hv;clear a;intro a H;obtain⟨_,rfl,aD⟩:=hv
  replace hS:=hS.new aD;simp only [List.cons_append,List.nil_append] at hS
  refine n_q H (Zb rfl) rfl (W_q (Zb rfl) rfl ?_);clear H a;intro a H
  refine Ze (Za (wp_ret ?_))
  obtain rfl:=Option.some.inj hm
  replace hS:=hS.dNil (A:=A)
  replace hS:=hS.pk1
  replace hS:=hS.pk3
  replace hS:=hS.pk3
  replace hS:=hS.tk4
  refine Zda H (.inr rfl) rfl rfl rfl ?_
  exact⟨_,_,_,_,rfl,hS⟩
theorem Ve {w : World} {A : Nat → Addr} {fp : Nat → Prop} {b0 : Nat} {v0_0 : Value} {v0_1 : Value} {a0 : GWireWriter} {v1 : Value} {a1 : List UInt8} (hP : Sep w fp [blkR b0 [v0_0,v0_1] 244,ownR 5 1 v0_0 a0.buf_.length (a0.buf_.flatMap eB),erQ A v0_1 a0.err_]) (h1 : ∀ w',ChgP fp w w' → SlR w' 1 (Zq eB) v1 a1) {r : GWireWriter} (hm : Xr a0 a1=some r) :
    Calls Tryz.prog 169 [.pointer (some ⟨b0,0,none⟩),v1].toArray w (Ret fun u w'=>∃ h_0 h_1,u=.tuple #[] ∧ St fp w w' [blkR b0 [h_0,h_1] 244,ownR 5 1 h_0 r.buf_.length (r.buf_.flatMap eB),erQ A h_1 r.err_]):=by
  have hS:=St.init hP
  unfold Xr at hm
  refine enter Tryz.func169 rfl rfl rfl ?_;intro a H;dsimp only [Qk,Nat.zero_add,Nat.reduceAdd] at H
  refine wp_seq (wp_region_lit (n_q H (Zc rfl) rfl (W_q (Zp rfl) rfl (W_q (Zd rfl Zht) rfl (W_q (Zf rfl ((hS.blk 0 rfl).ld Hv rfl)) rfl (W_q (Qo (Zef Tryz.underlying39 rfl rfl (hS.any 2 rfl : IsE A w v0_1 a0.err_).form) (show _=Value.bool (decide (a0.err_=.nil)) by rw [Xw.isNil (hS.any 2 rfl : IsE A w v0_1 a0.err_)])) rfl ?_))))));clear H a;intro a H
  refine Ze (Za (Zl H rfl (fun aA=>?_) (fun aA=>?_)))
  · replace hm:=Zu hm aA
    refine wp_region_lit (n_q H (Zc rfl) rfl (W_q (Zc rfl) rfl (W_q (Zp rfl) rfl (W_q (Zd rfl Zjt) rfl (W_q (Zf rfl ((hS.blk 0 rfl).ld Zdx rfl)) rfl (W_q (Zc rfl) rfl ?_))))));clear H a;intro a H
    replace hS:=hS.pk1
    replace hm:=Tj hm;obtain⟨aB,hm⟩:=hm
    refine Zb1 (e:=eB) H rfl rfl Tryz.underlying100 Tryz.underlying100 (by simp) el5 (hS.own 0 rfl) ((h1 _ hS.chg).src (fun _ _=>rfl)) Zal aB (by simp only [maxLen];omega) rfl ?_
    clear H;intro aE aF hN aC hb;clear a;intro a H;replace hS:=hS.setOwn hN aC hb;clear hN hb
    refine n_q H (Zp rfl) rfl (W_q (Zd rfl Zjt) rfl ?_);clear H a;intro a H
    replace hS:=hS.pk1
    refine Jz H rfl rfl Zok (hS.blk 0 rfl) (by simp) (((hS.own 1 rfl).slr rfl (fun _ _=>rfl))).one ?_
    clear H;intro aG hN aD hz;clear a;intro a H;replace hS:=hS.setBlk hN aD;clear hN hz
    try simp only [List.set_cons_succ,List.set_cons_zero] at hS
    refine Ze ?_
    obtain rfl:=Option.some.inj hm
    refine Ze8 H (.inl rfl) rfl ?_
    exact⟨_,_,rfl,hS⟩
  replace hm:=Zv hm aA
  refine wp_skip ?_
  obtain rfl:=Option.some.inj hm
  refine Ze8 H (.inl rfl) rfl ?_
  exact⟨_,_,rfl,hS⟩
theorem Za2 {w : World} {A : Nat → Addr} {a0 : Int} {r : Int} (hm : Kq a0=some r) :
    Calls Tryz.prog 176 [.int .i64 a0].toArray w (Ret fun u w'=>u=.int .i64 r ∧ Ext w w'):=by
  have hS:=St.begin NB w
  unfold Kq at hm
  refine enter Tryz.func176 rfl rfl rfl ?_;intro a H;dsimp only [Qk,Nat.zero_add,Nat.reduceAdd] at H
  refine wp_seq (wp_region_lit (n_q H (Zb rfl) rfl ?_));clear H a;intro a H
  refine Ze (Za (wp_seq (wp_region_lit (n_q H (Zc rfl) rfl (W_q (Zav rfl rfl) rfl ?_)))));clear H a;intro a H
  replace hm:=Tj hm;obtain⟨aA,hm⟩:=hm
  refine n_q H (q_shl rfl rfl aA) rfl (W_q (Zcj rfl rfl) rfl (W_q (Zb rfl) rfl ?_));clear H a;intro a H
  refine Ze (Za (wp_ret ?_))
  obtain rfl:=Option.some.inj hm
  refine Je H (.inr rfl) rfl rfl ?_
  exact⟨rfl,hS.x⟩
theorem Gs {w : World} {A : Nat → Addr} {a0 : Int} {v1 : Value} {a1 : ErrM} (h1 : IsE A w v1 a1) {r : ErrM} (hm : Ya a0 a1=some r) :
    Calls Tryz.prog 174 [.int .i64 a0,v1].toArray w (Ret fun u w'=>∃ h_0,u=h_0 ∧ St NB w w' [erQ A h_0 r]):=by
  have hS:=St.begin NB w
  unfold Ya at hm
  refine enter Tryz.func174 rfl rfl rfl ?_;intro a H;dsimp only [Qk,Nat.zero_add,Nat.reduceAdd] at H
  refine wp_seq (wp_region_lit (n_q H (Zb rfl) rfl ?_));clear H a;intro a H
  refine Ze (Za (wp_seq (wp_region_lit (n_q H (Zc rfl) rfl (W_q (Zc rfl) rfl (W_q (Zz (cs:=[.int .i64 a0,v1]) ze214 bd214 pl214 rfl ((Qh rfl rfl (by simp)).trans ((Qh (Xw.ext h1 hS.x).one rfl (by simp)).trans rfl))) rfl ?_))))));clear H a;intro a H
  refine Wt H rfl (cs:=[.int .i64 a0,v1]) rfl rfl ?_
  clear H;intro aD aE hN aB hs;clear a;intro a H
  replace hS:=hS.newBlk hN aB hs;clear hN hs
  replace hm:=Zi hm;obtain⟨aF,aC,hm⟩:=hm
  have aA:=(Xw.ext h1 hS.x)
  refine n_q H (Zbd Tryz.underlying210 (by simp) rfl) rfl ?_;clear H a;intro a H
  replace hS:=hS.dAtE aA aC
  refine n_q H (Zb rfl) rfl ?_;clear H a;intro a H
  refine Ze (Za (wp_ret ?_))
  obtain rfl:=Option.some.inj hm
  refine Je H (.inr rfl) rfl rfl ?_
  exact⟨_,rfl,hS⟩
theorem Gt {w : World} {A : Nat → Addr} {fp : Nat → Prop} {b0 : Nat} {v0_0 : Value} {v0_1 : Value} {a0 : GWireWriter} {v1 : Value} {a1 : ErrM} (hP : Sep w fp [blkR b0 [v0_0,v0_1] 244,ownR 5 1 v0_0 a0.buf_.length (a0.buf_.flatMap eB),erQ A v0_1 a0.err_]) (h1 : ∀ w',ChgP fp w w' → IsE A w' v1 a1) {r : GWireWriter} (hm : Vc a0 a1=some r) :
    Calls Tryz.prog 237 [.pointer (some ⟨b0,0,none⟩),v1].toArray w (Ret fun u w'=>∃ h_0 h_1,u=.tuple #[] ∧ St fp w w' [blkR b0 [h_0,h_1] 244,ownR 5 1 h_0 r.buf_.length (r.buf_.flatMap eB),erQ A h_1 r.err_]):=by
  have hS:=St.init hP
  unfold Vc at hm
  refine enter Tryz.func237 rfl rfl rfl ?_;intro a H;dsimp only [Qk,Nat.zero_add,Nat.reduceAdd] at H
  refine wp_seq (wp_region_lit (n_q H (Zc rfl) rfl (W_q (Zp rfl) rfl (W_q (Zd rfl Zht) rfl (W_q (Zf rfl ((hS.blk 0 rfl).ld Hv rfl)) rfl (W_q (Qo (Zef Tryz.underlying39 rfl rfl (hS.any 2 rfl : IsE A w v0_1 a0.err_).form) (show _=Value.bool (decide (a0.err_=.nil)) by rw [Xw.isNil (hS.any 2 rfl : IsE A w v0_1 a0.err_)])) rfl ?_))))));clear H a;intro a H
  refine Ze (Za (Zl H rfl (fun aA=>?_) (fun aA=>?_)))
  · replace hm:=Zu hm aA
    refine wp_region_lit (n_q H (Zc rfl) rfl (W_q (Zc rfl) rfl (W_q (Zp rfl) rfl (W_q (Zd rfl Zjt) rfl (W_q (Zf rfl ((hS.blk 0 rfl).ld Zdx rfl)) rfl ?_)))));clear H a;intro a H
    obtain⟨aK,aL,aB,aI,aJ⟩:=SlR.formV ((hS.own 1 rfl).slr rfl (fun _ _=>rfl))
    refine n_q H (Qf Tryz.underlying100 rfl aB) rfl (W_q (Zc rfl) rfl ?_);clear H a;intro a H
    replace hm:=Zi hm;obtain⟨aF,aC,hm⟩:=hm
    refine Zj H rfl Zk3 (Gs (A:=A) (h1 _ hS.chg) aC) rfl ?_
    clear H;intro aG aH hv;clear a;intro a H;obtain⟨_,rfl,aD⟩:=hv
    replace hS:=hS.new aD;simp only [List.cons_append,List.nil_append] at hS
    refine n_q H (Zp rfl) rfl (W_q (Zd rfl Zht) rfl ?_);clear H a;intro a H
    replace hS:=hS.pk1
    refine Jz H rfl rfl sz39 (hS.blk 0 rfl) (by simp) (hS.any 1 rfl : IsE A aH aG aF).one ?_
    clear H;intro aM hN aE hz;clear a;intro a H;replace hS:=hS.setBlk hN aE;clear hN hz
    try simp only [List.set_cons_succ,List.set_cons_zero] at hS
    refine Ze ?_
    obtain rfl:=Option.some.inj hm
    replace hS:=hS.pk1
    replace hS:=hS.pk2
    replace hS:=hS.pk2
    replace hS:=hS.tk3
    refine Ze8 H (.inl rfl) rfl ?_
    exact⟨_,_,rfl,hS⟩
  replace hm:=Zv hm aA
  refine wp_skip ?_
  obtain rfl:=Option.some.inj hm
  refine Ze8 H (.inl rfl) rfl ?_
  exact⟨_,_,rfl,hS⟩
theorem Vf {w : World} {A : Nat → Addr} {fp : Nat → Prop} {b0 : Nat} {v0_0 : Value} {v0_1 : Value} {a0 : GWireWriter} {a1 : Int} {a2 : Int} (hG : ∀ w',ChgP fp w w' → EV A w') (hP : Sep w fp [blkR b0 [v0_0,v0_1] 244,ownR 5 1 v0_0 a0.buf_.length (a0.buf_.flatMap eB),erQ A v0_1 a0.err_]) {r : GWireWriter} (hm : Qq a0 a1 a2=some r) :
    Calls Tryz.prog 170 [.pointer (some ⟨b0,0,none⟩),.int .i64 a1,.int .i64 a2].toArray w (Ret fun u w'=>∃ h_0 h_1,u=.tuple #[] ∧ St fp w w' [blkR b0 [h_0,h_1] 244,ownR 5 1 h_0 r.buf_.length (r.buf_.flatMap eB),erQ A h_1 r.err_]):=by
  have hS:=St.init hP
  unfold Qq at hm
  refine enter Tryz.func170 rfl rfl rfl ?_;intro a H;dsimp only [Qk,Nat.zero_add,Nat.reduceAdd] at H
  refine wp_seq ?_
  replace hm:=Zi hm;obtain⟨bY,hm,aP⟩:=hm
  refine Hj (σ:=Bool) H (fun aG=>[(0,.pointer (some ⟨b0,0,none⟩)),(1,.int .i64 a1),(2,.int .i64 a2),(14,.bool aG)]) (fun aG wl=>(We a0 a1 a2) aG=some r ∧ St fp w wl [blkR b0 [v0_0,v0_1] 244,ownR 5 1 v0_0 a0.buf_.length (a0.buf_.flatMap eB),erQ A v0_1 a0.err_]) ?_ ?_
  · skip
    refine wp_region_lit (n_q H (Zc rfl) rfl (W_q (Un rfl rfl) rfl (W_q (Zc rfl) rfl ?_)));clear H a;intro a H
    rcases Bool.eq_false_or_eq_true (decide (a1 < 0)) with aE|aE
    · replace H:=H.know 9 rfl aE
      replace hm:=Zu hm aE
      refine Zci H rfl rfl (by decide) rfl (Qn rfl rfl (by decide) rfl (Qn rfl rfl (by decide) rfl (Qn rfl rfl (by decide) rfl (W_q (Qi rfl rfl) rfl ?_))));clear H a;intro a H
      refine Ze (Za ?_)
      obtain rfl:=Option.some.inj hm;replace hm:=aP;try dsimp only at hm
      exact Wh true H ⟨rfl,rfl,rfl,rfl,trivial⟩ ⟨hm,hS⟩
    replace H:=H.know 9 rfl aE
    replace hm:=Zv hm aE
    refine Wb H rfl rfl (n_q H (Zc rfl) rfl (Xe rfl rfl (W_q (Zc rfl) rfl (Xe rfl rfl ?_))));clear H a;intro a H
    replace hm:=Zi hm;obtain⟨bD,aS,hm⟩:=hm
    refine Zj H rfl Zr1 (Za2 (A:=A) aS) rfl ?_
    clear H;intro bK bL hv;clear a;intro a H;obtain⟨rfl,aT⟩:=hv
    replace hS:=hS.ext aT
    refine Wb H rfl rfl (n_q H (Hp rfl rfl) rfl (W_q (Jf rfl rfl) rfl ?_));clear H a;intro a H
    refine Ze (Za ?_)
    obtain rfl:=Option.some.inj hm;replace hm:=aP;try dsimp only at hm
    exact Wh (decide (bD < a1)) H ⟨rfl,rfl,rfl,rfl,trivial⟩ ⟨hm,hS⟩
  clear H hS hm a;intro aG a bM H hR
  simp only [ent,List.map_cons,List.map_nil] at H;(try dsimp only at hR);obtain⟨hm,hS⟩:=hR;try dsimp only [We] at hm
  refine Zl H rfl (fun aH=>?_) (fun aH=>?_)
  · replace hm:=Zu hm aH
    refine wp_seq (wp_region_lit (n_q H (Zc rfl) rfl (W_q (Zf rfl ((hG _ hS.chg).ld Kl (by decide) Hv)) rfl ?_)));clear H a;intro a H
    replace hS:=hS.pk2
    replace hS:=hS.pk2
    replace hS:=hS.pk2
    obtain⟨bI,aJ,aU,aV,aK⟩:=hS.frame (rs1:=[blkR b0 [v0_0,v0_1] 244,ownR 5 1 v0_0 a0.buf_.length (a0.buf_.flatMap eB),erQ A v0_1 a0.err_])
    replace hm:=Zi hm;obtain⟨bN,aW,hm⟩:=hm
    refine Zj H rfl Zt4 (Gt (A:=A) aJ (fun w' hw=>(Xw.var (by decide) : IsE A w' _ (.v Kl))) aW) rfl ?_
    clear H;intro bO bP hv;clear a;intro a H;obtain⟨bQ,bR,rfl,aX⟩:=hv
    replace hS:=aK _ _ aX;simp only [List.cons_append,List.nil_append] at hS;clear aJ aU aV aK
    refine Ze (Za (wp_ret (Zh ?_)))
    obtain rfl:=Option.some.inj hm
    refine Ze8 H (.inr rfl) rfl ?_
    exact⟨_,_,rfl,hS⟩
  replace hm:=Zv hm aH
  refine wp_skip (Za (wp_seq (wp_region_lit (n_q H (Zc rfl) rfl (W_q (Zcj rfl rfl) rfl (W_q (Zb rfl) rfl ?_))))));clear H a;intro a H
  refine Ze (Za (wp_block ?_))
  replace hm:=Zi hm;obtain⟨aQ,hm,aY⟩:=hm;replace hm:=Qg hm;obtain⟨bE,hm⟩:=hm
  refine Jd (σ:=Nat × Int × (List UInt8) × ErrM × Value × Value) (fun (m,aA,aB,aF,aC,aD)=>[(0,.pointer (some ⟨b0,0,none⟩)),(1,.int .i64 a1),(6,.int .i64 aA)]) (fun (m,aA,aB,aF,aC,aD) wl=>Js (Jg a1) m (aA,aB,aF)=some aQ ∧ St fp w wl [blkR b0 [aC,aD] 244,ownR 5 1 aC aB.length (aB.flatMap eB),erQ A aD aF]) (fun (m,aA,aB,aF,aC,aD)=>m) (bE,(IntKind.i64.wrap (a2 - 1)),a0.buf_,a0.err_,v0_0,v0_1) H ⟨rfl,rfl,rfl,trivial⟩ ⟨hm,hS⟩ ?_
  clear H hS hm a;intro xx a bS H hR;obtain⟨m,aA,aB,aF,aC,aD⟩:=xx;simp only [ent,List.map_cons,List.map_nil] at H;(try dsimp only at hR);obtain⟨hm,hS⟩:=hR
  replace hm:=Qa hm;obtain⟨bF,bT,rfl,hm,aL⟩:=hm;try dsimp only [Jg] at hm
  refine wp_seq (wp_seq (wp_region_lit (n_q H (Zc rfl) rfl (W_q (Zn5 rfl rfl) rfl ?_))));clear H a;intro a H
  refine Ze (Za (Zl H rfl (fun aI=>?_) (fun aI=>?_)))
  · replace hm:=Zu hm aI
    refine wp_skip (Za (wp_seq (wp_block (wp_region_lit (n_q H (Zc rfl) rfl (W_q (Zc rfl) rfl (W_q (Zc rfl) rfl (W_q (Zav rfl rfl) rfl ?_))))))));clear H a;intro a H
    replace hm:=Tj hm;obtain⟨aZ,hm⟩:=hm
    refine n_q H (Zil rfl rfl aZ) rfl (W_q (Xn Tryz.underlying3 Tryz.underlying5 ⟨_,rfl⟩ rfl) rfl ?_);clear H a;intro a H
    refine Qd H Tryz.underlying100 sz5 ze5 rfl rfl rfl (cs:=[.int .u8 (IntKind.u8.wrap (shR .i64 a1 (IntKind.i64.wrap (8 * aA))))]) (by kernel_rfl) rfl ?_
    clear H;intro bU bV hN a9 hs;clear a;intro a H
    replace hS:=hS.newBlk hN a9 hs;clear hN hs
    replace hS:=hS.blkOwnL (e:=eB) (k:=1) [(Zt (shR .i64 a1 (IntKind.i64.wrap (8 * aA))))] (by simp [Zb8,Zeg]) rfl (by simp [maxLen])
    replace hS:=hS.pk3
    replace hS:=hS.pk3
    replace hS:=hS.pk3
    obtain⟨bJ,aM,bA,aN,aO⟩:=hS.frame (rs1:=[blkR b0 [aC,aD] 244,ownR 5 1 aC aB.length (aB.flatMap eB),erQ A aD aF])
    replace hm:=Zi hm;obtain⟨aR,bB,hm⟩:=hm
    refine Zj H rfl Zpy (Ve (A:=A) aM (fun w' hw=>(Kn (aN 0 _ rfl _ hw)).slr rfl (fun _ _=>rfl)) bB) rfl ?_
    clear H;intro bW bX hv;clear a;intro a H;obtain⟨bG,bH,rfl,bC⟩:=hv
    replace hS:=aO _ _ bC;simp only [List.cons_append,List.nil_append] at hS;clear aM bA aN aO
    refine Ze (Zm (Za (wp_region_lit (n_q H (Zc rfl) rfl (W_q (Zcj rfl rfl) rfl (W_q (Zb rfl) rfl ?_))))));clear H a;intro a H
    refine Ze (Za ?_)
    obtain rfl:=Option.some.inj hm
    replace hS:=hS.tk3
    exact Vh (bF,(IntKind.i64.wrap (aA - 1)),aR.buf_,aR.err_,bG,bH) H ⟨rfl,rfl,rfl,trivial⟩ ⟨aL,hS⟩ (Nat.lt_succ_self _)
  replace hm:=Zv hm aI
  refine wp_exit (Zn (Zn (Zy ?_)))
  obtain rfl:=Option.some.inj hm;have hz : _=aQ:=aL;subst hz;replace hm:=aY;try dsimp only at hm
  obtain rfl:=Option.some.inj hm
  refine Ze8 H (.inl rfl) rfl ?_
  exact⟨_,_,rfl,hS⟩
theorem Zdr {w : World} {A : Nat → Addr} {fp : Nat → Prop} {b0 : Nat} {v0_0 : Value} {v0_1 : Value} {a0 : GWireWriter} {a1 : Int} {v2 : Value} {a2 : List UInt8} (hG : ∀ w',ChgP fp w w' → EV A w') (hP : Sep w fp [blkR b0 [v0_0,v0_1] 244,ownR 5 1 v0_0 a0.buf_.length (a0.buf_.flatMap eB),erQ A v0_1 a0.err_]) (h2 : ∀ w',ChgP fp w w' → SlR w' 1 (Zq eB) v2 a2) {r : GWireWriter} (hm : Yp a0 a1 a2=some r) :
    Calls Tryz.prog 236 [.pointer (some ⟨b0,0,none⟩),.int .i64 a1,v2].toArray w (Ret fun u w'=>∃ h_0 h_1,u=.tuple #[] ∧ St fp w w' [blkR b0 [h_0,h_1] 244,ownR 5 1 h_0 r.buf_.length (r.buf_.flatMap eB),erQ A h_1 r.err_]):=by
  have hS:=St.init hP
  unfold Yp at hm
  refine enter Tryz.func236 rfl rfl rfl ?_;intro a H;dsimp only [Qk,Nat.zero_add,Nat.reduceAdd] at H
  refine wp_block ?_
  replace hm:=Zi hm;obtain⟨cW,hm,aU⟩:=hm
  refine Hj (σ:=Bool) H (fun aB=>[(0,.pointer (some ⟨b0,0,none⟩)),(1,.int .i64 a1),(2,v2),(16,.bool aB)]) (fun aB wl=>(Yq a0 a1 a2) aB=some r ∧ St fp w wl [blkR b0 [v0_0,v0_1] 244,ownR 5 1 v0_0 a0.buf_.length (a0.buf_.flatMap eB),erQ A v0_1 a0.err_]) ?_ ?_
  · skip
    refine wp_region_lit (n_q H (Zc rfl) rfl (W_q (Un rfl rfl) rfl (W_q (Zc rfl) rfl ?_)));clear H a;intro a H
    rcases Bool.eq_false_or_eq_true (decide (a1 < 1)) with aA|aA
    · replace H:=H.know 19 rfl aA
      replace hm:=Zu hm aA
      refine Zci H rfl rfl (by decide) rfl (Qn rfl rfl (by decide) rfl (Qn rfl rfl (by decide) rfl (W_q (Qi rfl rfl) rfl (W_q (Zb rfl) rfl ?_))));clear H a;intro a H
      refine Ze (Za ?_)
      obtain rfl:=Option.some.inj hm;replace hm:=aU;try dsimp only at hm
      exact Wh true H ⟨rfl,rfl,rfl,rfl,trivial⟩ ⟨hm,hS⟩
    replace H:=H.know 19 rfl aA
    replace hm:=Zv hm aA
    refine Wb H rfl rfl (n_q H (Zc rfl) rfl (Xe rfl rfl ?_));clear H a;intro a H
    replace hm:=Zi hm;obtain⟨bR,aZ,hm⟩:=hm
    refine Zj H rfl Zr1 (Za2 (A:=A) aZ) rfl ?_
    clear H;intro bZ b7 hv;clear a;intro a H;obtain⟨rfl,a9⟩:=hv
    replace hS:=hS.ext a9
    refine Wb H rfl rfl (n_q H (Hp rfl rfl) rfl (W_q (Jf rfl rfl) rfl (W_q (Zb rfl) rfl ?_)));clear H a;intro a H
    refine Ze (Za ?_)
    obtain rfl:=Option.some.inj hm;replace hm:=aU;try dsimp only at hm
    exact Wh (decide (bR < a1)) H ⟨rfl,rfl,rfl,rfl,trivial⟩ ⟨hm,hS⟩
  clear H hS hm a;intro aB a b8 H hR
  simp only [ent,List.map_cons,List.map_nil] at H;(try dsimp only at hR);obtain⟨hm,hS⟩:=hR;try dsimp only [Yq] at hm
  refine Zl H rfl (fun aC=>?_) (fun aC=>?_)
  · replace hm:=Zu hm aC
    refine wp_region_lit (n_q H (Zc rfl) rfl (W_q (Zf rfl ((hG _ hS.chg).ld Zoj (by decide) Hv)) rfl ?_));clear H a;intro a H
    replace hS:=hS.pk2
    replace hS:=hS.pk2
    replace hS:=hS.pk2
    obtain⟨bS,aG,bA,bB,aH⟩:=hS.frame (rs1:=[blkR b0 [v0_0,v0_1] 244,ownR 5 1 v0_0 a0.buf_.length (a0.buf_.flatMap eB),erQ A v0_1 a0.err_])
    replace hm:=Zi hm;obtain⟨b9,bC,hm⟩:=hm
    refine Zj H rfl Zt4 (Gt (A:=A) aG (fun w' hw=>(Xw.var (by decide) : IsE A w' _ (.v Zoj))) bC) rfl ?_
    clear H;intro cA cB hv;clear a;intro a H;obtain⟨cC,cD,rfl,bD⟩:=hv
    replace hS:=aH _ _ bD;simp only [List.cons_append,List.nil_append] at hS;clear aG bA bB aH
    refine Ze (Zm ?_)
    obtain rfl:=Option.some.inj hm
    refine Ze8 H (.inl rfl) rfl ?_
    exact⟨_,_,rfl,hS⟩
  replace hm:=Zv hm aC
  refine wp_seq (wp_region_lit (n_q H (Zc rfl) rfl ?_));clear H a;intro a H
  obtain⟨cF,cG,aI,bT,bU⟩:=SlR.formV (h2 _ hS.chg)
  refine n_q H (Qf Tryz.underlying100 rfl aI) rfl (W_q (Zdn (i:=a2.length) (j:=65535) rfl rfl) rfl (W_q (Zb rfl) rfl ?_));clear H a;intro a H
  refine Ze (Za (Zl H rfl (fun aD=>?_) (fun aD=>?_)))
  · replace hm:=Zu hm aD
    refine wp_region_lit (n_q H (Zc rfl) rfl (W_q (Zf rfl ((hG _ hS.chg).ld Vv (by decide) Hv)) rfl ?_));clear H a;intro a H
    replace hS:=hS.pk2
    replace hS:=hS.pk2
    replace hS:=hS.pk2
    obtain⟨bV,aJ,bE,bF,aK⟩:=hS.frame (rs1:=[blkR b0 [v0_0,v0_1] 244,ownR 5 1 v0_0 a0.buf_.length (a0.buf_.flatMap eB),erQ A v0_1 a0.err_])
    replace hm:=Zi hm;obtain⟨cH,bG,hm⟩:=hm
    refine Zj H rfl Zt4 (Gt (A:=A) aJ (fun w' hw=>(Xw.var (by decide) : IsE A w' _ (.v Vv))) bG) rfl ?_
    clear H;intro cI cJ hv;clear a;intro a H;obtain⟨cK,cL,rfl,bH⟩:=hv
    replace hS:=aK _ _ bH;simp only [List.cons_append,List.nil_append] at hS;clear aJ bE bF aK
    refine Ze (Zm ?_)
    obtain rfl:=Option.some.inj hm
    refine Ze8 H (.inl rfl) rfl ?_
    exact⟨_,_,rfl,hS⟩
  replace hm:=Zv hm aD
  refine wp_seq (wp_region_lit (n_q H (Zc rfl) rfl (W_q (Zc rfl) rfl ?_)));clear H a;intro a H
  replace hS:=hS.pk2
  replace hS:=hS.pk2
  replace hS:=hS.pk2
  obtain⟨bW,aL,aM,bI,aN⟩:=hS.frame (rs1:=[blkR b0 [v0_0,v0_1] 244,ownR 5 1 v0_0 a0.buf_.length (a0.buf_.flatMap eB),erQ A v0_1 a0.err_])
  replace hm:=Zi hm;obtain⟨aE,bJ,hm⟩:=hm
  refine Zj H rfl Zpz (Vf (A:=A) (fun w' hw=>hG _ (aM _ hw)) aL bJ) rfl ?_
  clear H;intro cM cN hv;clear a;intro a H;obtain⟨aV,aW,rfl,bK⟩:=hv
  replace hS:=aN _ _ bK;simp only [List.cons_append,List.nil_append] at hS;clear aL aM bI aN
  refine Ze (Za (wp_seq (wp_region_lit (n_q H (Zc rfl) rfl (W_q (Zc rfl) rfl (W_q (Qf Tryz.underlying100 rfl aI) rfl ?_))))));clear H a;intro a H
  replace hS:=hS.pk2
  replace hS:=hS.pk2
  replace hS:=hS.pk2
  obtain⟨bX,aO,aP,bL,aQ⟩:=hS.frame (rs1:=[blkR b0 [aV,aW] 244,ownR 5 1 aV aE.buf_.length (aE.buf_.flatMap eB),erQ A aW aE.err_])
  replace hm:=Zi hm;obtain⟨aF,bM,hm⟩:=hm
  refine Zj H rfl Zpz (Vf (A:=A) (fun w' hw=>hG _ (aP _ hw)) aO bM) rfl ?_
  clear H;intro cO cP hv;clear a;intro a H;obtain⟨aX,aY,rfl,bN⟩:=hv
  replace hS:=aQ _ _ bN;simp only [List.cons_append,List.nil_append] at hS;clear aO aP bL aQ
  refine Ze (Za (wp_region_lit (n_q H (Zc rfl) rfl (W_q (Zc rfl) rfl ?_))));clear H a;intro a H
  replace hS:=hS.pk2
  replace hS:=hS.pk2
  replace hS:=hS.pk2
  obtain⟨bY,aR,aS,bO,aT⟩:=hS.frame (rs1:=[blkR b0 [aX,aY] 244,ownR 5 1 aX aF.buf_.length (aF.buf_.flatMap eB),erQ A aY aF.err_])
  replace hm:=Zi hm;obtain⟨cQ,bP,hm⟩:=hm
  refine Zj H rfl Zpy (Ve (A:=A) aR (fun w' hw=>h2 _ (aS _ hw)) bP) rfl ?_
  clear H;intro cR cT hv;clear a;intro a H;obtain⟨cU,cV,rfl,bQ⟩:=hv
  replace hS:=aT _ _ bQ;simp only [List.cons_append,List.nil_append] at hS;clear aR aS bO aT
  refine Ze (Zm ?_)
  obtain rfl:=Option.some.inj hm
  refine Ze8 H (.inl rfl) rfl ?_
  exact⟨_,_,rfl,hS⟩
theorem Gu {w : World} {A : Nat → Addr} {fp : Nat → Prop} {b0 : Nat} {v0_0 : Value} {v0_1 : Value} {a0 : GWireWriter} {a1 : Int} {g2 : Nat} {fs2 : List Value} {cp2 : List Value} {Gd2 : World → Prop} {a2 : GWireWriter → Option GWireWriter} (hG : ∀ w',ChgP fp w w' → EV A w') (hP : Sep w fp [blkR b0 [v0_0,v0_1] 244,ownR 5 1 v0_0 a0.buf_.length (a0.buf_.flatMap eB),erQ A v0_1 a0.err_]) (he2 : Zs Tryz.prog g2=true) (hd2 : ∀ w',ChgP fp w w' → Gd2 w') (hf2 : ∀ (w1 : World) (g : Nat → Prop) (b_0 : Nat) (v_0_0 : Value) (v_0_1 : Value) (x_0 : GWireWriter) (r : GWireWriter),(∀ w',ChgP g w1 w' → Gd2 w') → Sep w1 g [blkR b_0 [v_0_0,v_0_1] 244,ownR 5 1 v_0_0 x_0.buf_.length (x_0.buf_.flatMap eB),erQ A v_0_1 x_0.err_] → a2 x_0=some r → Calls Tryz.prog g2 (fs2 ++ [Value.pointer (some ⟨b_0,0,none⟩)] ++ cp2).toArray w1 (Ret fun u w'=>∃ h_0 h_1,u=.tuple #[] ∧ St g w1 w' [blkR b_0 [h_0,h_1] 244,ownR 5 1 h_0 r.buf_.length (r.buf_.flatMap eB),erQ A h_1 r.err_])) {r : GWireWriter} (hm : Yr a0 a1 a2=some r) :
    Calls Tryz.prog 161 [.pointer (some ⟨b0,0,none⟩),.int .i64 a1,.func (.func g2) fs2.toArray cp2.toArray].toArray w (Ret fun u w'=>∃ h_0 h_1,u=.tuple #[] ∧ St fp w w' [blkR b0 [h_0,h_1] 244,ownR 5 1 h_0 r.buf_.length (r.buf_.flatMap eB),erQ A h_1 r.err_]):=by
  have hS:=St.init hP
  unfold Yr at hm
  refine enter Tryz.func161 rfl rfl rfl ?_;intro a H;dsimp only [Qk,Nat.zero_add,Nat.reduceAdd] at H
  refine wp_seq (wp_region_lit ?_)
  replace hm:=Zi hm;obtain⟨aA,aP,hm⟩:=hm
  refine Zj H rfl en93 (Tw (A:=A) aP) rfl ?_
  clear H;intro bC bD hv;clear a;intro a H;obtain⟨aL,aM,aN,rfl,aQ⟩:=hv
  replace hS:=hS.new aQ;simp only [List.cons_append,List.nil_append] at hS
  refine n_q H (Zb rfl) rfl ?_;clear H a;intro a H
  refine Ze (Za (wp_seq (wp_region_lit (n_q H (Zc rfl) rfl (W_q (Zc rfl) rfl ?_)))));clear H a;intro a H
  replace hS:=hS.pk2
  replace hS:=hS.pk2
  replace hS:=hS.pk2
  obtain⟨a9,aB,aC,aR,aD⟩:=hS.frame (rs1:=[blkR aL [aM,aN] 244,ownR 5 1 aM aA.buf_.length (aA.buf_.flatMap eB),erQ A aN aA.err_])
  replace hm:=Zi hm;obtain⟨aE,aS,hm⟩:=hm
  refine Zjg H rfl rfl he2 (hf2 _ _ _ _ _ _ _ (fun w' hw=>hd2 _ (aC _ hw)) aB aS) rfl ?_
  clear H;intro bE bF hv;clear a;intro a H;obtain⟨aO,u32,rfl,aT⟩:=hv
  replace hS:=aD _ _ aT;simp only [List.cons_append,List.nil_append] at hS;clear aB aC aR aD
  refine Ze (Za (wp_seq (wp_region_lit (n_q H (Zc rfl) rfl ?_))));clear H a;intro a H
  replace hS:=hS.pk2
  replace hS:=hS.pk2
  replace hS:=hS.pk2
  obtain⟨bA,aF,aU,aV,aG⟩:=hS.frame (rs1:=[blkR aL [aO,u32] 244,ownR 5 1 aO aE.buf_.length (aE.buf_.flatMap eB),erQ A u32 aE.err_])
  replace hm:=Zi hm;obtain⟨bG,aW,hm⟩:=hm
  refine Zj H rfl en92 (Hk (A:=A) aF aW) rfl ?_
  clear H;intro bH bI hv;clear a;intro a H;obtain⟨bJ,bK,bL,bM,rfl,aX⟩:=hv
  replace hS:=aG _ _ aX;simp only [List.cons_append,List.nil_append] at hS;clear aF aU aV aG
  refine n_q H (Zc rfl) rfl (W_q (Zk rfl rfl) rfl (W_q (Zk rfl rfl) rfl (W_q (Zb rfl) rfl (W_q (Zb rfl) rfl ?_))));clear H a;intro a H
  refine Ze (Za (wp_region_lit (n_q H (Zc rfl) rfl (W_q (Zc rfl) rfl (W_q (Zc rfl) rfl ?_)))));clear H a;intro a H
  replace hS:=hS.pk6
  replace hS:=hS.pk6
  replace hS:=hS.pk6
  obtain⟨bB,aH,aI,aJ,aK⟩:=hS.frame (rs1:=[blkR b0 [v0_0,v0_1] 244,ownR 5 1 v0_0 a0.buf_.length (a0.buf_.flatMap eB),erQ A v0_1 a0.err_])
  replace hm:=Zi hm;obtain⟨bN,aY,hm⟩:=hm
  refine Zj H rfl en236 (Zdr (A:=A) (fun w' hw=>hG _ (aI _ hw)) aH (fun w' hw=>(Kn (aJ 2 _ rfl _ hw)).slr rfl (fun _ _=>rfl)) aY) rfl ?_
  clear H;intro bO bP hv;clear a;intro a H;obtain⟨bQ,bR,rfl,aZ⟩:=hv
  replace hS:=aK _ _ aZ;simp only [List.cons_append,List.nil_append] at hS;clear aH aI aJ aK
  refine Ze ?_
  obtain rfl:=Option.some.inj hm
  replace hS:=hS.tk3
  refine Ze8 H (.inl rfl) rfl ?_
  exact⟨_,_,rfl,hS⟩
theorem Hz {w : World} {A : Nat → Addr} {fp : Nat → Prop} {b0 : Nat} {v0_0 : Value} {v0_1 : Value} {a0 : GWireWriter} {v1 : Value} {a1 : List UInt8} (hP : Sep w fp [blkR b0 [v0_0,v0_1] 244,ownR 5 1 v0_0 a0.buf_.length (a0.buf_.flatMap eB),erQ A v0_1 a0.err_]) (h1 : ∀ w',ChgP fp w w' → SlR w' 1 (Zq eB) v1 a1) {r : GWireWriter} (hm : Kr a0 a1=some r) :
    Calls Tryz.prog 94 [.pointer (some ⟨b0,0,none⟩),v1].toArray w (Ret fun u w'=>∃ h_0 h_1,u=.tuple #[] ∧ St fp w w' [blkR b0 [h_0,h_1] 244,ownR 5 1 h_0 r.buf_.length (r.buf_.flatMap eB),erQ A h_1 r.err_]):=by
  have hS:=St.init hP
  unfold Kr at hm
  refine enter Tryz.func94 rfl rfl rfl ?_;intro a H;dsimp only [Qk,Nat.zero_add,Nat.reduceAdd] at H
  refine wp_region_lit (n_q H (Zc rfl) rfl (W_q (Zc rfl) rfl ?_));clear H a;intro a H
  replace hS:=hS.pk2
  replace hS:=hS.pk2
  replace hS:=hS.pk2
  obtain⟨aG,aA,aB,aD,aC⟩:=hS.frame (rs1:=[blkR b0 [v0_0,v0_1] 244,ownR 5 1 v0_0 a0.buf_.length (a0.buf_.flatMap eB),erQ A v0_1 a0.err_])
  replace hm:=Zi hm;obtain⟨aH,aE,hm⟩:=hm
  refine Zj H rfl Zpy (Ve (A:=A) aA (fun w' hw=>h1 _ (aB _ hw)) aE) rfl ?_
  clear H;intro aI aJ hv;clear a;intro a H;obtain⟨aK,aL,rfl,aF⟩:=hv
  replace hS:=aC _ _ aF;simp only [List.cons_append,List.nil_append] at hS;clear aA aB aD aC
  refine Ze ?_
  obtain rfl:=Option.some.inj hm
  refine Ze8 H (.inl rfl) rfl ?_
  exact⟨_,_,rfl,hS⟩
theorem Jl {w : World} {A : Nat → Addr} {fp : Nat → Prop} {b0 : Nat} {v0_0 : Value} {v0_1 : Value} {a0 : GWireWriter} {a1 : Int} (hG : ∀ w',ChgP fp w w' → EV A w') (hP : Sep w fp [blkR b0 [v0_0,v0_1] 244,ownR 5 1 v0_0 a0.buf_.length (a0.buf_.flatMap eB),erQ A v0_1 a0.err_]) {r : GWireWriter} (hm : Xc a0 a1=some r) :
    Calls Tryz.prog 163 [.pointer (some ⟨b0,0,none⟩),.int .i64 a1].toArray w (Ret fun u w'=>∃ h_0 h_1,u=.tuple #[] ∧ St fp w w' [blkR b0 [h_0,h_1] 244,ownR 5 1 h_0 r.buf_.length (r.buf_.flatMap eB),erQ A h_1 r.err_]):=by
  have hS:=St.init hP
  unfold Xc at hm
  refine enter Tryz.func163 rfl rfl rfl ?_;intro a H;dsimp only [Qk,Nat.zero_add,Nat.reduceAdd] at H
  refine wp_region_lit (n_q H (Zc rfl) rfl (W_q (Zc rfl) rfl ?_));clear H a;intro a H
  replace hS:=hS.pk2
  replace hS:=hS.pk2
  replace hS:=hS.pk2
  obtain⟨aG,aA,aB,aD,aC⟩:=hS.frame (rs1:=[blkR b0 [v0_0,v0_1] 244,ownR 5 1 v0_0 a0.buf_.length (a0.buf_.flatMap eB),erQ A v0_1 a0.err_])
  replace hm:=Zi hm;obtain⟨aH,aE,hm⟩:=hm
  refine Zj H rfl Zpz (Vf (A:=A) (fun w' hw=>hG _ (aB _ hw)) aA aE) rfl ?_
  clear H;intro aI aJ hv;clear a;intro a H;obtain⟨aK,aL,rfl,aF⟩:=hv
  replace hS:=aC _ _ aF;simp only [List.cons_append,List.nil_append] at hS;clear aA aB aD aC
  refine Ze ?_
  obtain rfl:=Option.some.inj hm
  refine Ze8 H (.inl rfl) rfl ?_
  exact⟨_,_,rfl,hS⟩
theorem Zfo {w : World} {A : Nat → Addr} {fp : Nat → Prop} {b0 : Nat} {v0_0 : Value} {v0_1 : Value} {a0 : GWireWriter} {b1 : Nat} {a1 : GPagePlan} (hG : ∀ w',ChgP fp w w' → EV A w') (hP : Sep w fp [blkR b0 [v0_0,v0_1] 244,ownR 5 1 v0_0 a0.buf_.length (a0.buf_.flatMap eB),erQ A v0_1 a0.err_]) (hc1_0 : ∀ w',ChgP fp w w' → Blk w' b1 [.int .i64 a1.Rights,.string a1.Init] 114) {r : GWireWriter} (hm : Yk a0 a1=some r) :
    Calls Tryz.prog 162 [.pointer (some ⟨b0,0,none⟩),.pointer (some ⟨b1,0,none⟩)].toArray w (Ret fun u w'=>∃ h_0 h_1,u=.tuple #[] ∧ St fp w w' [blkR b0 [h_0,h_1] 244,ownR 5 1 h_0 r.buf_.length (r.buf_.flatMap eB),erQ A h_1 r.err_]):=by
  have hS:=St.init hP
  unfold Yk at hm
  refine enter Tryz.func162 rfl rfl rfl ?_;intro a H;dsimp only [Qk,Nat.zero_add,Nat.reduceAdd] at H
  refine wp_seq (wp_region_lit (n_q H (Zc rfl) rfl (W_q (Zd rfl Zeu) rfl (W_q (Zf rfl ((hc1_0 _ hS.chg).ld ag3 rfl)) rfl ?_))));clear H a;intro a H
  replace hS:=hS.pk2
  replace hS:=hS.pk2
  replace hS:=hS.pk2
  obtain⟨aR,aA,aB,aJ,aC⟩:=hS.frame (rs1:=[blkR b0 [v0_0,v0_1] 244,ownR 5 1 v0_0 a0.buf_.length (a0.buf_.flatMap eB),erQ A v0_1 a0.err_])
  replace hm:=Zi hm;obtain⟨aD,aK,hm⟩:=hm
  refine Zj H rfl Zk2 (Jl (A:=A) (fun w' hw=>hG _ (aB _ hw)) aA aK) rfl ?_
  clear H;intro aT aU hv;clear a;intro a H;obtain⟨aH,aI,rfl,aL⟩:=hv
  replace hS:=aC _ _ aL;simp only [List.cons_append,List.nil_append] at hS;clear aA aB aJ aC
  refine Ze (Za (wp_region_lit (n_q H (Zc rfl) rfl (W_q (Zd rfl Zhs) rfl (W_q (Zf rfl ((hc1_0 _ hS.chg).ld ag9 rfl)) rfl ?_)))));clear H a;intro a H
  replace hm:=Tj hm;obtain⟨aM,hm⟩:=hm
  refine Ztm H Tryz.underlying9 Tryz.underlying100 Tryz.underlying5 rfl (by simp only [maxLen];exact aM) rfl ?_
  clear H;intro aV aW hN aN hs;clear a;intro a H
  replace hS:=hS.newOwn hN aN (by rw [hs];intro c hc;rw [List.mem_singleton.1 hc];exact Nat.le_refl _);clear hN hs
  replace hS:=hS.pk3
  replace hS:=hS.pk3
  replace hS:=hS.pk3
  obtain⟨aS,aE,aO,aF,aG⟩:=hS.frame (rs1:=[blkR b0 [aH,aI] 244,ownR 5 1 aH aD.buf_.length (aD.buf_.flatMap eB),erQ A aI aD.err_])
  replace hm:=Zi hm;obtain⟨aX,aP,hm⟩:=hm
  refine Zj H rfl en94 (Hz (A:=A) aE (fun w' hw=>(Kn (aF 0 _ rfl _ hw)).slr rfl (fun _ _=>rfl)) aP) rfl ?_
  clear H;intro aY aZ hv;clear a;intro a H;obtain⟨a9,bA,rfl,aQ⟩:=hv
  replace hS:=aG _ _ aQ;simp only [List.cons_append,List.nil_append] at hS;clear aE aO aF aG
  refine Ze ?_
  obtain rfl:=Option.some.inj hm
  replace hS:=hS.tk3
  refine Ze8 H (.inl rfl) rfl ?_
  exact⟨_,_,rfl,hS⟩
theorem Ta {w : World} {A : Nat → Addr} {fp : Nat → Prop} {b0 : Nat} {v0_0 : Value} {v0_1 : Value} {a0 : GWireWriter} {a1 : Int} (hG : ∀ w',ChgP fp w w' → EV A w') (hP : Sep w fp [blkR b0 [v0_0,v0_1] 244,ownR 5 1 v0_0 a0.buf_.length (a0.buf_.flatMap eB),erQ A v0_1 a0.err_]) {r : GWireWriter} (hm : Ks a0 a1=some r) :
    Calls Tryz.prog 96 [.pointer (some ⟨b0,0,none⟩),.int .i64 a1].toArray w (Ret fun u w'=>∃ h_0 h_1,u=.tuple #[] ∧ St fp w w' [blkR b0 [h_0,h_1] 244,ownR 5 1 h_0 r.buf_.length (r.buf_.flatMap eB),erQ A h_1 r.err_]):=by
  have hS:=St.init hP
  unfold Ks at hm
  refine enter Tryz.func96 rfl rfl rfl ?_;intro a H;dsimp only [Qk,Nat.zero_add,Nat.reduceAdd] at H
  refine wp_region_lit (n_q H (Zc rfl) rfl (W_q (Zc rfl) rfl ?_));clear H a;intro a H
  replace hS:=hS.pk2
  replace hS:=hS.pk2
  replace hS:=hS.pk2
  obtain⟨aG,aA,aB,aD,aC⟩:=hS.frame (rs1:=[blkR b0 [v0_0,v0_1] 244,ownR 5 1 v0_0 a0.buf_.length (a0.buf_.flatMap eB),erQ A v0_1 a0.err_])
  replace hm:=Zi hm;obtain⟨aH,aE,hm⟩:=hm
  refine Zj H rfl Zpz (Vf (A:=A) (fun w' hw=>hG _ (aB _ hw)) aA aE) rfl ?_
  clear H;intro aI aJ hv;clear a;intro a H;obtain⟨aK,aL,rfl,aF⟩:=hv
  replace hS:=aC _ _ aF;simp only [List.cons_append,List.nil_append] at hS;clear aA aB aD aC
  refine Ze ?_
  obtain rfl:=Option.some.inj hm
  refine Ze8 H (.inl rfl) rfl ?_
  exact⟨_,_,rfl,hS⟩
theorem Zaw {w : World} {A : Nat → Addr} {fp : Nat → Prop} {b0 : Nat} {v0_0 : Value} {v0_1 : Value} {a0 : GWireWriter} {a1 : Bool} (hP : Sep w fp [blkR b0 [v0_0,v0_1] 244,ownR 5 1 v0_0 a0.buf_.length (a0.buf_.flatMap eB),erQ A v0_1 a0.err_]) {r : GWireWriter} (hm : Yf a0 a1=some r) :
    Calls Tryz.prog 97 [.pointer (some ⟨b0,0,none⟩),.bool a1].toArray w (Ret fun u w'=>∃ h_0 h_1,u=.tuple #[] ∧ St fp w w' [blkR b0 [h_0,h_1] 244,ownR 5 1 h_0 r.buf_.length (r.buf_.flatMap eB),erQ A h_1 r.err_]):=by
  have hS:=St.init hP
  unfold Yf at hm
  refine enter Tryz.func97 rfl rfl rfl ?_;intro a H;dsimp only [Qk,Nat.zero_add,Nat.reduceAdd] at H
  refine wp_seq (wp_region_lit (n_q H (Zc rfl) rfl ?_));clear H a;intro a H
  refine Ze (Za (Zl H rfl (fun aA=>?_) (fun aA=>?_)))
  · replace hm:=Zu hm aA
    refine wp_region_lit (n_q H (Zc rfl) rfl ?_);clear H a;intro a H
    refine Qd H Tryz.underlying100 sz5 ze5 rfl rfl rfl (cs:=[.int .u8 1]) (by kernel_rfl) rfl ?_
    clear H;intro aR aS hN aH hs;clear a;intro a H
    replace hS:=hS.newBlk hN aH hs;clear hN hs
    replace hS:=hS.blkOwnL (e:=eB) (k:=1) [(Zt 1)] (by kernel_rfl) rfl (by simp [maxLen])
    replace hS:=hS.pk3
    replace hS:=hS.pk3
    replace hS:=hS.pk3
    obtain⟨aP,aB,aI,aC,aD⟩:=hS.frame (rs1:=[blkR b0 [v0_0,v0_1] 244,ownR 5 1 v0_0 a0.buf_.length (a0.buf_.flatMap eB),erQ A v0_1 a0.err_])
    replace hm:=Zi hm;obtain⟨aT,aJ,hm⟩:=hm
    refine Zj H rfl Zpy (Ve (A:=A) aB (fun w' hw=>(Kn (aC 0 _ rfl _ hw)).slr rfl (fun _ _=>rfl)) aJ) rfl ?_
    clear H;intro aU aV hv;clear a;intro a H;obtain⟨aW,aX,rfl,aK⟩:=hv
    replace hS:=aD _ _ aK;simp only [List.cons_append,List.nil_append] at hS;clear aB aI aC aD
    refine Ze ?_
    obtain rfl:=Option.some.inj hm
    replace hS:=hS.tk3
    refine Ze8 H (.inl rfl) rfl ?_
    exact⟨_,_,rfl,hS⟩
  replace hm:=Zv hm aA
  refine wp_region_lit (n_q H (Zc rfl) rfl ?_);clear H a;intro a H
  refine Qd H Tryz.underlying100 sz5 ze5 rfl rfl rfl (cs:=[.int .u8 0]) (by kernel_rfl) rfl ?_
  clear H;intro aY aZ hN aL hs;clear a;intro a H
  replace hS:=hS.newBlk hN aL hs;clear hN hs
  replace hS:=hS.blkOwnL (e:=eB) (k:=1) [(Zt 0)] (by kernel_rfl) rfl (by simp [maxLen])
  replace hS:=hS.pk3
  replace hS:=hS.pk3
  replace hS:=hS.pk3
  obtain⟨aQ,aE,aM,aF,aG⟩:=hS.frame (rs1:=[blkR b0 [v0_0,v0_1] 244,ownR 5 1 v0_0 a0.buf_.length (a0.buf_.flatMap eB),erQ A v0_1 a0.err_])
  replace hm:=Zi hm;obtain⟨a9,aN,hm⟩:=hm
  refine Zj H rfl Zpy (Ve (A:=A) aE (fun w' hw=>(Kn (aF 0 _ rfl _ hw)).slr rfl (fun _ _=>rfl)) aN) rfl ?_
  clear H;intro bA bB hv;clear a;intro a H;obtain⟨bC,bD,rfl,aO⟩:=hv
  replace hS:=aG _ _ aO;simp only [List.cons_append,List.nil_append] at hS;clear aE aM aF aG
  refine Ze ?_
  obtain rfl:=Option.some.inj hm
  replace hS:=hS.tk3
  refine Ze8 H (.inl rfl) rfl ?_
  exact⟨_,_,rfl,hS⟩
theorem Zfp {w : World} {A : Nat → Addr} {fp : Nat → Prop} {b0 : Nat} {v0_0 : Value} {v0_1 : Value} {a0 : GWireWriter} {b1 : Nat} {a1 : GProcPlan} (hG : ∀ w',ChgP fp w w' → EV A w') (hP : Sep w fp [blkR b0 [v0_0,v0_1] 244,ownR 5 1 v0_0 a0.buf_.length (a0.buf_.flatMap eB),erQ A v0_1 a0.err_]) (hc1_0 : ∀ w',ChgP fp w w' → Blk w' b1 [.int .i64 a1.Entry,.int .i64 a1.Prio,.bool a1.Auto] 116) {r : GWireWriter} (hm : Yl a0 a1=some r) :
    Calls Tryz.prog 164 [.pointer (some ⟨b0,0,none⟩),.pointer (some ⟨b1,0,none⟩)].toArray w (Ret fun u w'=>∃ h_0 h_1,u=.tuple #[] ∧ St fp w w' [blkR b0 [h_0,h_1] 244,ownR 5 1 h_0 r.buf_.length (r.buf_.flatMap eB),erQ A h_1 r.err_]):=by
  have hS:=St.init hP
  unfold Yl at hm
  refine enter Tryz.func164 rfl rfl rfl ?_;intro a H;dsimp only [Qk,Nat.zero_add,Nat.reduceAdd] at H
  refine wp_seq (wp_region_lit (n_q H (Zc rfl) rfl (W_q (Zd rfl Zcc) rfl (W_q (Zf rfl ((hc1_0 _ hS.chg).ld ag3 rfl)) rfl ?_))));clear H a;intro a H
  replace hS:=hS.pk2
  replace hS:=hS.pk2
  replace hS:=hS.pk2
  obtain⟨aX,aA,aB,aN,aC⟩:=hS.frame (rs1:=[blkR b0 [v0_0,v0_1] 244,ownR 5 1 v0_0 a0.buf_.length (a0.buf_.flatMap eB),erQ A v0_1 a0.err_])
  replace hm:=Zi hm;obtain⟨aD,aO,hm⟩:=hm
  refine Zj H rfl en96 (Ta (A:=A) (fun w' hw=>hG _ (aB _ hw)) aA aO) rfl ?_
  clear H;intro a9 bA hv;clear a;intro a H;obtain⟨aK,aL,rfl,aP⟩:=hv
  replace hS:=aC _ _ aP;simp only [List.cons_append,List.nil_append] at hS;clear aA aB aN aC
  refine Ze (Za (wp_seq (wp_region_lit (n_q H (Zc rfl) rfl (W_q (Zd rfl Zev) rfl (W_q (Zf rfl ((hc1_0 _ hS.chg).ld ag3 rfl)) rfl ?_))))));clear H a;intro a H
  replace hS:=hS.pk2
  replace hS:=hS.pk2
  replace hS:=hS.pk2
  obtain⟨aY,aE,aF,aQ,aG⟩:=hS.frame (rs1:=[blkR b0 [aK,aL] 244,ownR 5 1 aK aD.buf_.length (aD.buf_.flatMap eB),erQ A aL aD.err_])
  replace hm:=Zi hm;obtain⟨aH,aR,hm⟩:=hm
  refine Zj H rfl Zk2 (Jl (A:=A) (fun w' hw=>hG _ (aF _ hw)) aE aR) rfl ?_
  clear H;intro bB bC hv;clear a;intro a H;obtain⟨aM,u32,rfl,aS⟩:=hv
  replace hS:=aG _ _ aS;simp only [List.cons_append,List.nil_append] at hS;clear aE aF aQ aG
  refine Ze (Za (wp_region_lit (n_q H (Zc rfl) rfl (W_q (Zd rfl Zmi) rfl (W_q (Zf rfl ((hc1_0 _ hS.chg).ld ag4 rfl)) rfl ?_)))));clear H a;intro a H
  replace hS:=hS.pk2
  replace hS:=hS.pk2
  replace hS:=hS.pk2
  obtain⟨aZ,aI,aT,aU,aJ⟩:=hS.frame (rs1:=[blkR b0 [aM,u32] 244,ownR 5 1 aM aH.buf_.length (aH.buf_.flatMap eB),erQ A u32 aH.err_])
  replace hm:=Zi hm;obtain⟨bD,aV,hm⟩:=hm
  refine Zj H rfl en97 (Zaw (A:=A) aI aV) rfl ?_
  clear H;intro bE bF hv;clear a;intro a H;obtain⟨bG,bH,rfl,aW⟩:=hv
  replace hS:=aJ _ _ aW;simp only [List.cons_append,List.nil_append] at hS;clear aI aT aU aJ
  refine Ze ?_
  obtain rfl:=Option.some.inj hm
  refine Ze8 H (.inl rfl) rfl ?_
  exact⟨_,_,rfl,hS⟩
theorem Zfq {w : World} {A : Nat → Addr} {fp : Nat → Prop} {b0 : Nat} {v0_0 : Value} {v0_1 : Value} {a0 : GWireWriter} {b1 : Nat} {a1 : GPortPlan} (hG : ∀ w',ChgP fp w w' → EV A w') (hP : Sep w fp [blkR b0 [v0_0,v0_1] 244,ownR 5 1 v0_0 a0.buf_.length (a0.buf_.flatMap eB),erQ A v0_1 a0.err_]) (hc1_0 : ∀ w',ChgP fp w w' → Blk w' b1 [.int .i64 a1.Kind,.int .i64 a1.Size,.int .i64 a1.Depth,.int .i64 a1.Refresh] 118) {r : GWireWriter} (hm : Ym a0 a1=some r) :
    Calls Tryz.prog 165 [.pointer (some ⟨b0,0,none⟩),.pointer (some ⟨b1,0,none⟩)].toArray w (Ret fun u w'=>∃ h_0 h_1,u=.tuple #[] ∧ St fp w w' [blkR b0 [h_0,h_1] 244,ownR 5 1 h_0 r.buf_.length (r.buf_.flatMap eB),erQ A h_1 r.err_]):=by
  have hS:=St.init hP
  unfold Ym at hm
  refine enter Tryz.func165 rfl rfl rfl ?_;intro a H;dsimp only [Qk,Nat.zero_add,Nat.reduceAdd] at H
  refine wp_seq (wp_region_lit (n_q H (Zc rfl) rfl (W_q (Zd rfl Tv) rfl (W_q (Zf rfl ((hc1_0 _ hS.chg).ld ag3 rfl)) rfl ?_))));clear H a;intro a H
  replace hS:=hS.pk2
  replace hS:=hS.pk2
  replace hS:=hS.pk2
  obtain⟨bF,aA,aB,aU,aC⟩:=hS.frame (rs1:=[blkR b0 [v0_0,v0_1] 244,ownR 5 1 v0_0 a0.buf_.length (a0.buf_.flatMap eB),erQ A v0_1 a0.err_])
  replace hm:=Zi hm;obtain⟨aD,aV,hm⟩:=hm
  refine Zj H rfl Zk2 (Jl (A:=A) (fun w' hw=>hG _ (aB _ hw)) aA aV) rfl ?_
  clear H;intro bJ bK hv;clear a;intro a H;obtain⟨aP,aQ,rfl,aW⟩:=hv
  replace hS:=aC _ _ aW;simp only [List.cons_append,List.nil_append] at hS;clear aA aB aU aC
  refine Ze (Za (wp_seq (wp_region_lit (n_q H (Zc rfl) rfl (W_q (Zd rfl Zdh) rfl (W_q (Zf rfl ((hc1_0 _ hS.chg).ld ag3 rfl)) rfl ?_))))));clear H a;intro a H
  replace hS:=hS.pk2
  replace hS:=hS.pk2
  replace hS:=hS.pk2
  obtain⟨bG,aE,aF,aX,aG⟩:=hS.frame (rs1:=[blkR b0 [aP,aQ] 244,ownR 5 1 aP aD.buf_.length (aD.buf_.flatMap eB),erQ A aQ aD.err_])
  replace hm:=Zi hm;obtain⟨aH,aY,hm⟩:=hm
  refine Zj H rfl Zk2 (Jl (A:=A) (fun w' hw=>hG _ (aF _ hw)) aE aY) rfl ?_
  clear H;intro bL bM hv;clear a;intro a H;obtain⟨aR,u32,rfl,aZ⟩:=hv
  replace hS:=aG _ _ aZ;simp only [List.cons_append,List.nil_append] at hS;clear aE aF aX aG
  refine Ze (Za (wp_seq (wp_region_lit (n_q H (Zc rfl) rfl (W_q (Zd rfl Zdi) rfl (W_q (Zf rfl ((hc1_0 _ hS.chg).ld ag3 rfl)) rfl ?_))))));clear H a;intro a H
  replace hS:=hS.pk2
  replace hS:=hS.pk2
  replace hS:=hS.pk2
  obtain⟨bH,aI,aJ,a9,aK⟩:=hS.frame (rs1:=[blkR b0 [aR,u32] 244,ownR 5 1 aR aH.buf_.length (aH.buf_.flatMap eB),erQ A u32 aH.err_])
  replace hm:=Zi hm;obtain⟨aL,bA,hm⟩:=hm
  refine Zj H rfl Zk2 (Jl (A:=A) (fun w' hw=>hG _ (aJ _ hw)) aI bA) rfl ?_
  clear H;intro bN bO hv;clear a;intro a H;obtain⟨aS,aT,rfl,bB⟩:=hv
  replace hS:=aK _ _ bB;simp only [List.cons_append,List.nil_append] at hS;clear aI aJ a9 aK
  refine Ze (Za (wp_region_lit (n_q H (Zc rfl) rfl (W_q (Zd rfl Zew) rfl (W_q (Zf rfl ((hc1_0 _ hS.chg).ld ag3 rfl)) rfl ?_)))));clear H a;intro a H
  replace hS:=hS.pk2
  replace hS:=hS.pk2
  replace hS:=hS.pk2
  obtain⟨bI,aM,aN,bC,aO⟩:=hS.frame (rs1:=[blkR b0 [aS,aT] 244,ownR 5 1 aS aL.buf_.length (aL.buf_.flatMap eB),erQ A aT aL.err_])
  replace hm:=Zi hm;obtain⟨bP,bD,hm⟩:=hm
  refine Zj H rfl Zk2 (Jl (A:=A) (fun w' hw=>hG _ (aN _ hw)) aM bD) rfl ?_
  clear H;intro bQ bR hv;clear a;intro a H;obtain⟨bS,bT,rfl,bE⟩:=hv
  replace hS:=aO _ _ bE;simp only [List.cons_append,List.nil_append] at hS;clear aM aN bC aO
  refine Ze ?_
  obtain rfl:=Option.some.inj hm
  refine Ze8 H (.inl rfl) rfl ?_
  exact⟨_,_,rfl,hS⟩
theorem Zfr {w : World} {A : Nat → Addr} {fp : Nat → Prop} {b0 : Nat} {v0_0 : Value} {v0_1 : Value} {a0 : GWireWriter} {b1 : Nat} {v1_0 : Value} {v1_1 : Value} {v1_2 : Value} {v1_3 : Value} {a1 : GPlan} (hG : ∀ w',ChgP fp w w' → EV A w') (hP : Sep w fp [blkR b0 [v0_0,v0_1] 244,ownR 5 1 v0_0 a0.buf_.length (a0.buf_.flatMap eB),erQ A v0_1 a0.err_]) (hc1_0 : ∀ w',ChgP fp w w' → Blk w' b1 [.int .i64 a1.Id,.bool a1.Mobile,v1_0,v1_1,v1_2,.int .i64 a1.Events,v1_3] 27) (hc1_1 : ∀ w',ChgP fp w w' → SlR w' 2 (Zq Qc) v1_0 a1.Pages) (hc1_2 : ∀ w',ChgP fp w w' → SlR w' 3 (Zq Zx) v1_1 a1.Procs) (hc1_3 : ∀ w',ChgP fp w w' → SlR w' 4 (Zq Zw) v1_2 a1.Ports) (hc1_4 : ∀ w',ChgP fp w w' → SlR w' 1 (Zq eI) v1_3 a1.Sems) {r : GWireWriter} (hm : Yn a0 a1=some r) :
    Calls Tryz.prog 166 [.pointer (some ⟨b0,0,none⟩),.pointer (some ⟨b1,0,none⟩)].toArray w (Ret fun u w'=>∃ h_0 h_1,u=.tuple #[] ∧ St fp w w' [blkR b0 [h_0,h_1] 244,ownR 5 1 h_0 r.buf_.length (r.buf_.flatMap eB),erQ A h_1 r.err_]):=by
  have hS:=St.init hP
  unfold Yn at hm
  refine enter Tryz.func166 rfl rfl rfl ?_;intro a H;dsimp only [Qk,Nat.zero_add,Nat.reduceAdd] at H
  refine wp_region_lit (n_q H (Zc rfl) rfl (W_q (Zd rfl Zc2) rfl (W_q (Zf rfl ((hc1_0 _ hS.chg).ld ag3 rfl)) rfl ?_)));clear H a;intro a H
  replace hS:=hS.pk2
  replace hS:=hS.pk2
  replace hS:=hS.pk2
  obtain⟨aG,aA,aB,aD,aC⟩:=hS.frame (rs1:=[blkR b0 [v0_0,v0_1] 244,ownR 5 1 v0_0 a0.buf_.length (a0.buf_.flatMap eB),erQ A v0_1 a0.err_])
  replace hm:=Zi hm;obtain⟨aH,aE,hm⟩:=hm
  refine Zj H rfl Zk2 (Jl (A:=A) (fun w' hw=>hG _ (aB _ hw)) aA aE) rfl ?_
  clear H;intro aI aJ hv;clear a;intro a H;obtain⟨aK,aL,rfl,aF⟩:=hv
  replace hS:=aC _ _ aF;simp only [List.cons_append,List.nil_append] at hS;clear aA aB aD aC
  refine Ze ?_
  obtain rfl:=Option.some.inj hm
  refine Ze8 H (.inl rfl) rfl ?_
  exact⟨_,_,rfl,hS⟩
theorem Zfs {w : World} {A : Nat → Addr} {fp : Nat → Prop} {b0 : Nat} {v0_0 : Value} {v0_1 : Value} {a0 : GWireWriter} {b1 : Nat} {v1_0 : Value} {v1_1 : Value} {v1_2 : Value} {v1_3 : Value} {a1 : GPlan} (hG : ∀ w',ChgP fp w w' → EV A w') (hP : Sep w fp [blkR b0 [v0_0,v0_1] 244,ownR 5 1 v0_0 a0.buf_.length (a0.buf_.flatMap eB),erQ A v0_1 a0.err_]) (hc1_0 : ∀ w',ChgP fp w w' → Blk w' b1 [.int .i64 a1.Id,.bool a1.Mobile,v1_0,v1_1,v1_2,.int .i64 a1.Events,v1_3] 27) (hc1_1 : ∀ w',ChgP fp w w' → SlR w' 2 (Zq Qc) v1_0 a1.Pages) (hc1_2 : ∀ w',ChgP fp w w' → SlR w' 3 (Zq Zx) v1_1 a1.Procs) (hc1_3 : ∀ w',ChgP fp w w' → SlR w' 4 (Zq Zw) v1_2 a1.Ports) (hc1_4 : ∀ w',ChgP fp w w' → SlR w' 1 (Zq eI) v1_3 a1.Sems) {r : GWireWriter} (hm : Yo a0 a1=some r) :
    Calls Tryz.prog 167 [.pointer (some ⟨b0,0,none⟩),.pointer (some ⟨b1,0,none⟩)].toArray w (Ret fun u w'=>∃ h_0 h_1,u=.tuple #[] ∧ St fp w w' [blkR b0 [h_0,h_1] 244,ownR 5 1 h_0 r.buf_.length (r.buf_.flatMap eB),erQ A h_1 r.err_]):=by
  have hS:=St.init hP
  unfold Yo at hm
  refine enter Tryz.func167 rfl rfl rfl ?_;intro a H;dsimp only [Qk,Nat.zero_add,Nat.reduceAdd] at H
  refine wp_seq (wp_region_lit (n_q H (Zd rfl Gq) rfl (W_q (Zf rfl ((hc1_0 _ hS.chg).ld Zij rfl)) rfl ?_)));clear H a;intro a H
  obtain⟨bB,bC,aF,aZ,a9⟩:=SlR.formV (hc1_4 _ hS.chg)
  refine n_q H (Qf Tryz.underlying25 rfl aF) rfl (W_q (Zc rfl) rfl ?_);clear H a;intro a H
  refine Ze (Za (wp_block ?_))
  replace hm:=Zi hm;obtain⟨aN,hm,aP⟩:=hm;replace hm:=Qg hm;obtain⟨aT,hm⟩:=hm
  refine Jd (σ:=Nat × Nat × (List UInt8) × ErrM × Value × Value) (fun (m,aA,aB,aE,aC,aD)=>[(0,.pointer (some ⟨b0,0,none⟩)),(6,v1_3),(7,.int .i64 ((a1.Sems.length : Nat) : Int)),(8,.int .i64 ((aA : Nat) : Int))]) (fun (m,aA,aB,aE,aC,aD) wl=>Js (Kt a1) m (aA,aB,aE)=some aN ∧ St fp w wl [blkR b0 [aC,aD] 244,ownR 5 1 aC aB.length (aB.flatMap eB),erQ A aD aE]) (fun (m,aA,aB,aE,aC,aD)=>m) (aT,0,a0.buf_,a0.err_,v0_0,v0_1) H ⟨rfl,rfl,rfl,rfl,trivial⟩ ⟨hm,hS⟩ ?_
  clear H hS hm a;intro xx a bD H hR;obtain⟨m,aA,aB,aE,aC,aD⟩:=xx;simp only [ent,List.map_cons,List.map_nil] at H;(try dsimp only at hR);obtain⟨hm,hS⟩:=hR
  replace hm:=Qa hm;obtain⟨aU,bE,rfl,hm,aJ⟩:=hm;try dsimp only [Kt] at hm
  refine wp_seq (wp_region_lit (n_q H (Xz (i:=aA) (j:=a1.Sems.length) rfl rfl) rfl ?_));clear H a;intro a H
  refine Ze (Za (wp_seq (Zl H rfl (fun aG=>?_) (fun aG=>?_))))
  · replace hm:=Zu hm aG
    have aX : aA < a1.Sems.length:=of_decide_eq_true aG
    refine wp_skip (Za (wp_seq (wp_block (wp_seq (wp_region_lit ?_)))))
    replace hm:=Zi hm;obtain⟨bF,aH,hm⟩:=hm
    obtain⟨aY,aI⟩:=SlR.adV (hc1_4 _ hS.chg) aF aH
    refine n_q H (Jn (i:=aA) Tryz.underlying25 sz3 rfl aF aI rfl (Ho aH)) rfl (W_q (Zf rfl (SlR.ldOneV (hc1_4 _ hS.chg) aF aI ag3 aH rfl)) rfl (W_q (Zb rfl) rfl ?_));clear H a;intro a H
    refine Ze (Za (wp_region_lit (n_q H (Zc rfl) rfl (W_q (Zc rfl) rfl ?_))));clear H a;intro a H
    replace hS:=hS.pk2
    replace hS:=hS.pk2
    replace hS:=hS.pk2
    obtain⟨bA,aK,aL,aQ,aM⟩:=hS.frame (rs1:=[blkR b0 [aC,aD] 244,ownR 5 1 aC aB.length (aB.flatMap eB),erQ A aD aE])
    replace hm:=Zi hm;obtain⟨aO,aR,hm⟩:=hm
    refine Zj H rfl Zk2 (Jl (A:=A) (fun w' hw=>hG _ (aL _ hw)) aK aR) rfl ?_
    clear H;intro bG bH hv;clear a;intro a H;obtain⟨aV,aW,rfl,aS⟩:=hv
    replace hS:=aM _ _ aS;simp only [List.cons_append,List.nil_append] at hS;clear aK aL aQ aM
    refine Ze (Zm (Za (wp_region_lit (n_q H (Kb (i:=aA) (j:=1) rfl rfl (by omega)) rfl (W_q (Zc rfl) rfl ?_)))));clear H a;intro a H
    refine Ze (Za ?_)
    obtain rfl:=Option.some.inj hm
    exact Vh (aU,aA + 1,aO.buf_,aO.err_,aV,aW) H ⟨rfl,rfl,rfl,rfl,trivial⟩ ⟨aJ,hS⟩ (Nat.lt_succ_self _)
  replace hm:=Zv hm aG
  refine wp_exit (Zn (Zn (Zy ?_)))
  obtain rfl:=Option.some.inj hm;have hz : _=aN:=aJ;subst hz;replace hm:=aP;try dsimp only at hm
  obtain rfl:=Option.some.inj hm
  refine Ze8 H (.inl rfl) rfl ?_
  exact⟨_,_,rfl,hS⟩
theorem Zg3 {w : World} {A : Nat → Addr} {cs0 : List Value} {a0 : GPlan} (hG : EV A w) (h0 : Qw w cs0 a0) {r : GWireWriter} (hm : Hs a0=some r) :
    Calls Tryz.prog 91 [.agg cs0.toArray].toArray w (Ret fun u w'=>∃ (h_0 : Nat) (h_1 : Value) (h_2 : Value),u=.pointer (some ⟨h_0,0,none⟩) ∧ St NB w w' [blkR h_0 [h_1,h_2] 244,ownR 5 1 h_1 r.buf_.length (r.buf_.flatMap eB),erQ A h_2 r.err_]):=by
  obtain⟨aA,aB,aC,aD,rfl,aH,aI,aJ,bI⟩:=h0
  have hS:=St.begin NB w
  unfold Hs at hm
  refine enter Tryz.func91 rfl rfl rfl ?_;intro a H;dsimp only [Qk,Nat.zero_add,Nat.reduceAdd] at H
  refine wp_seq (wp_region_lit (Wt H rfl (cs:=[.int .i64 a0.Id,.bool a0.Mobile,aA,aB,aC,.int .i64 a0.Events,aD]) rfl rfl ?_))
  clear H;intro aG fG hN dD hs;clear a;intro a H
  replace hS:=hS.newBlk hN dD hs;clear hN hs
  refine n_q H (Zb rfl) rfl ?_;clear H a;intro a H
  refine Ze (Za (wp_seq (wp_region_lit ?_)))
  replace hm:=Zi hm;obtain⟨cX,dE,hm⟩:=hm
  refine Zj H rfl en93 (Tw (A:=A) dE) rfl ?_
  clear H;intro fH fI hv;clear a;intro a H;obtain⟨aK,dU,dV,rfl,dF⟩:=hv
  replace hS:=hS.new dF;simp only [List.cons_append,List.nil_append] at hS
  refine n_q H (Zb rfl) rfl ?_;clear H a;intro a H
  refine Ze (Za (wp_seq (wp_seq (wp_region_lit (n_q H (Zd rfl Vs) rfl (W_q (Zf rfl ((hS.blk 3 rfl).ld Zgt rfl)) rfl ?_))))));clear H a;intro a H
  obtain⟨fJ,fK,bB,eO,eP⟩:=SlR.formV (aH.ext (Zq.mono _) hS.x)
  refine n_q H (Qf Tryz.underlying22 rfl bB) rfl (W_q (Zc rfl) rfl ?_);clear H a;intro a H
  refine Ze (Za (wp_block ?_))
  replace hS:=hS.pk2
  replace hS:=hS.pk2
  replace hS:=hS.pk2
  replace hS:=hS.pk3
  replace hm:=Zi hm;obtain⟨cY,hm,dG⟩:=hm;replace hm:=Qg hm;obtain⟨dW,hm⟩:=hm
  refine Jd (σ:=Nat × Nat × (List UInt8) × ErrM × Value × Value) (fun (m,aL,aP,aY,aU,aV)=>[(1,.pointer (some ⟨aG,0,none⟩)),(3,.pointer (some ⟨aK,0,none⟩)),(12,aA),(13,.int .i64 ((a0.Pages.length : Nat) : Int)),(14,.int .i64 ((aL : Nat) : Int))]) (fun (m,aL,aP,aY,aU,aV) wl=>Js (Yx a0) m (aL,aP,aY)=some cY ∧ St NB w wl [blkR aG [.int .i64 a0.Id,.bool a0.Mobile,aA,aB,aC,.int .i64 a0.Events,aD] 27,blkR aK [aU,aV] 244,ownR 5 1 aU aP.length (aP.flatMap eB),erQ A aV aY]) (fun (m,aL,aP,aY,aU,aV)=>m) (dW,0,cX.buf_,cX.err_,dU,dV) H ⟨rfl,rfl,rfl,rfl,rfl,trivial⟩ ⟨hm,hS⟩ ?_
  clear H hS hm a;intro xx a fL H hR;obtain⟨m,aL,aP,aY,aU,aV⟩:=xx;simp only [ent,List.map_cons,List.map_nil] at H;(try dsimp only at hR);obtain⟨hm,hS⟩:=hR
  replace hm:=Qa hm;obtain⟨dX,fM,rfl,hm,b9⟩:=hm;try dsimp only [Yx] at hm
  refine wp_seq (wp_region_lit (n_q H (Xz (i:=aL) (j:=a0.Pages.length) rfl rfl) rfl ?_));clear H a;intro a H
  refine Ze (Za (wp_seq (Zl H rfl (fun bC=>?_) (fun bC=>?_))))
  · replace hm:=Zu hm bC
    have eD : aL < a0.Pages.length:=of_decide_eq_true bC
    refine wp_skip (Za (wp_seq (wp_block (wp_seq (wp_region_lit ?_)))))
    replace hm:=Zi hm;obtain⟨bJ,bK,hm⟩:=hm
    obtain⟨eE,bQ⟩:=SlR.adV (aH.ext (Zq.mono _) hS.x) bB bK
    refine n_q H (Jn (i:=aL) Tryz.underlying22 Tk rfl bB bQ rfl (Ho bK)) rfl (W_q (Zf rfl (SlR.ldAggV (aH.ext (Zq.mono _) hS.x) bB bQ Zk1 Tk bK)) rfl ?_);clear H a;intro a H
    refine Qr H Zfl rfl ?_
    clear H;intro cA fN hN dH hs;clear a;intro a H
    replace hS:=hS.newBlk hN dH hs;clear hN hs
    refine Zr H rfl rfl (vs:=[.int .i64 bJ.Rights,.string bJ.Init]) rfl Tk (hS.blk 0 rfl) rfl (by simp) ?_
    clear H;intro fO hN dI hz;clear a;intro a H;replace hS:=hS.setBlk hN dI;clear hN hz
    refine Ze (Za (wp_region_lit (n_q H (Zc rfl) rfl (W_q (Zcl (f:=[]) (c:=[.pointer (some ⟨cA,0,none⟩)]) rfl rfl) rfl ?_))));clear H a;intro a H
    replace hS:=hS.pk4
    replace hS:=hS.pk4
    replace hS:=hS.pk4
    obtain⟨eQ,cB,bL,cC,cD⟩:=hS.frame (rs1:=[blkR aK [aU,aV] 244,ownR 5 1 aU aP.length (aP.flatMap eB),erQ A aV aY])
    replace hm:=Zi hm;obtain⟨cZ,dJ,hm⟩:=hm
    refine Zj H rfl Zpx (Gu (A:=A) (fun w' hw=>hG.ext (bL _ hw).ext) cB (g2:=162) (fs2:=[]) (cp2:=[.pointer (some ⟨cA,0,none⟩)]) (Gd2:=(fun w'=>EV A w' ∧ Blk w' cA [.int .i64 bJ.Rights,.string bJ.Init] 114)) (a2:=(fun x0=>Yk x0 bJ)) en162 (fun w' hw=>⟨hG.ext (bL _ hw).ext,Zhm (cC 0 _ rfl _ hw)⟩) (fun w1 g _ _ _ _ r hgd hp hr=>Zfo (A:=A) (fun w' hw=>(hgd w' hw).1) hp (fun w' hw=>(hgd w' hw).2) hr) dJ) rfl ?_
    clear H;intro fP fQ hv;clear a;intro a H;obtain⟨dY,dZ,rfl,dK⟩:=hv
    replace hS:=cD _ _ dK;simp only [List.cons_append,List.nil_append] at hS;clear cB bL cC cD
    refine Ze (Zm (Za (wp_region_lit (n_q H (Kb (i:=aL) (j:=1) rfl rfl (by omega)) rfl (W_q (Zc rfl) rfl ?_)))));clear H a;intro a H
    refine Ze (Za ?_)
    obtain rfl:=Option.some.inj hm
    replace hS:=hS.pk2
    replace hS:=hS.pk2
    replace hS:=hS.pk2
    replace hS:=hS.pk4
    replace hS:=hS.tk4
    exact Vh (dX,aL + 1,cZ.buf_,cZ.err_,dY,dZ) H ⟨rfl,rfl,rfl,rfl,rfl,trivial⟩ ⟨b9,hS⟩ (Nat.lt_succ_self _)
  replace hm:=Zv hm bC
  refine wp_exit (Zn (Zn (Zy ?_)))
  obtain rfl:=Option.some.inj hm;have hz : _=cY:=b9;subst hz;replace hm:=dG;try dsimp only at hm
  refine Za (wp_seq (wp_seq (wp_region_lit (n_q H (Zd rfl Ur) rfl (W_q (Zf rfl ((hS.blk 0 rfl).ld Zii rfl)) rfl ?_)))));clear H a;intro a H
  obtain⟨fR,fS,bD,eT,eU⟩:=SlR.formV (aI.ext (Zq.mono _) hS.x)
  refine n_q H (Qf Tryz.underlying23 rfl bD) rfl (W_q (Zc rfl) rfl ?_);clear H a;intro a H
  refine Ze (Za (wp_block ?_))
  replace hm:=Zi hm;obtain⟨dA,hm,dL⟩:=hm;replace hm:=Qg hm;obtain⟨d5,hm⟩:=hm
  refine Jd (σ:=Nat × Nat × (List UInt8) × ErrM × Value × Value) (fun (m,aM,aQ,aZ,aW,aX)=>[(1,.pointer (some ⟨aG,0,none⟩)),(3,.pointer (some ⟨aK,0,none⟩)),(23,aB),(24,.int .i64 ((a0.Procs.length : Nat) : Int)),(25,.int .i64 ((aM : Nat) : Int))]) (fun (m,aM,aQ,aZ,aW,aX) wl=>Js (Yw a0) m (aM,aQ,aZ)=some dA ∧ St NB w wl [blkR aG [.int .i64 a0.Id,.bool a0.Mobile,aA,aB,aC,.int .i64 a0.Events,aD] 27,blkR aK [aW,aX] 244,ownR 5 1 aW aQ.length (aQ.flatMap eB),erQ A aX aZ]) (fun (m,aM,aQ,aZ,aW,aX)=>m) (d5,0,aP,aY,aU,aV) H ⟨rfl,rfl,rfl,rfl,rfl,trivial⟩ ⟨hm,hS⟩ ?_
  clear H hS hm a;intro xx a fT H hR;obtain⟨m,aM,aQ,aZ,aW,aX⟩:=xx;simp only [ent,List.map_cons,List.map_nil] at H;(try dsimp only at hR);obtain⟨hm,hS⟩:=hR
  replace hm:=Qa hm;obtain⟨d7,fU,rfl,hm,cF⟩:=hm;try dsimp only [Yw] at hm
  refine wp_seq (wp_region_lit (n_q H (Xz (i:=aM) (j:=a0.Procs.length) rfl rfl) rfl ?_));clear H a;intro a H
  refine Ze (Za (wp_seq (Zl H rfl (fun bE=>?_) (fun bE=>?_))))
  · replace hm:=Zu hm bE
    have eG : aM < a0.Procs.length:=of_decide_eq_true bE
    refine wp_skip (Za (wp_seq (wp_block (wp_seq (wp_region_lit ?_)))))
    replace hm:=Zi hm;obtain⟨a9,bM,hm⟩:=hm
    obtain⟨eH,bR⟩:=SlR.adV (aI.ext (Zq.mono _) hS.x) bD bM
    refine n_q H (Jn (i:=aM) Tryz.underlying23 Tl rfl bD bR rfl (Ho bM)) rfl (W_q (Zf rfl (SlR.ldAggV (aI.ext (Zq.mono _) hS.x) bD bR Zjs Tl bM)) rfl ?_);clear H a;intro a H
    refine Qr H Zex rfl ?_
    clear H;intro cG fV hN dM hs;clear a;intro a H
    replace hS:=hS.newBlk hN dM hs;clear hN hs
    refine Zr H rfl rfl (vs:=[.int .i64 a9.Entry,.int .i64 a9.Prio,.bool a9.Auto]) rfl Tl (hS.blk 0 rfl) rfl (by simp) ?_
    clear H;intro fW hN dN hz;clear a;intro a H;replace hS:=hS.setBlk hN dN;clear hN hz
    refine Ze (Za (wp_region_lit (n_q H (Zc rfl) rfl (W_q (Zcl (f:=[]) (c:=[.pointer (some ⟨cG,0,none⟩)]) rfl rfl) rfl ?_))));clear H a;intro a H
    replace hS:=hS.pk4
    replace hS:=hS.pk4
    replace hS:=hS.pk4
    obtain⟨eV,cH,bN,cI,cJ⟩:=hS.frame (rs1:=[blkR aK [aW,aX] 244,ownR 5 1 aW aQ.length (aQ.flatMap eB),erQ A aX aZ])
    replace hm:=Zi hm;obtain⟨dB,dO,hm⟩:=hm
    refine Zj H rfl Zpx (Gu (A:=A) (fun w' hw=>hG.ext (bN _ hw).ext) cH (g2:=164) (fs2:=[]) (cp2:=[.pointer (some ⟨cG,0,none⟩)]) (Gd2:=(fun w'=>EV A w' ∧ Blk w' cG [.int .i64 a9.Entry,.int .i64 a9.Prio,.bool a9.Auto] 116)) (a2:=(fun x0=>Yl x0 a9)) en164 (fun w' hw=>⟨hG.ext (bN _ hw).ext,Zhm (cI 0 _ rfl _ hw)⟩) (fun w1 g _ _ _ _ r hgd hp hr=>Zfp (A:=A) (fun w' hw=>(hgd w' hw).1) hp (fun w' hw=>(hgd w' hw).2) hr) dO) rfl ?_
    clear H;intro fX fY hv;clear a;intro a H;obtain⟨d8,d9,rfl,dP⟩:=hv
    replace hS:=cJ _ _ dP;simp only [List.cons_append,List.nil_append] at hS;clear cH bN cI cJ
    refine Ze (Zm (Za (wp_region_lit (n_q H (Kb (i:=aM) (j:=1) rfl rfl (by omega)) rfl (W_q (Zc rfl) rfl ?_)))));clear H a;intro a H
    refine Ze (Za ?_)
    obtain rfl:=Option.some.inj hm
    replace hS:=hS.pk2
    replace hS:=hS.pk2
    replace hS:=hS.pk2
    replace hS:=hS.pk4
    replace hS:=hS.tk4
    exact Vh (d7,aM + 1,dB.buf_,dB.err_,d8,d9) H ⟨rfl,rfl,rfl,rfl,rfl,trivial⟩ ⟨cF,hS⟩ (Nat.lt_succ_self _)
  replace hm:=Zv hm bE
  refine wp_exit (Zn (Zn (Zy ?_)))
  obtain rfl:=Option.some.inj hm;have hz : _=dA:=cF;subst hz;replace hm:=dL;try dsimp only at hm
  refine Za (wp_seq (wp_seq (wp_region_lit (n_q H (Zd rfl Gp) rfl (W_q (Zf rfl ((hS.blk 0 rfl).ld Zi7 rfl)) rfl ?_)))));clear H a;intro a H
  obtain⟨fZ,gA,bF,eW,eX⟩:=SlR.formV (aJ.ext (Zq.mono _) hS.x)
  refine n_q H (Qf Tryz.underlying24 rfl bF) rfl (W_q (Zc rfl) rfl ?_);clear H a;intro a H
  refine Ze (Za (wp_block ?_))
  replace hm:=Zi hm;obtain⟨dC,hm,dQ⟩:=hm;replace hm:=Qg hm;obtain⟨eA,hm⟩:=hm
  refine Jd (σ:=Nat × Nat × (List UInt8) × ErrM × Value × Value) (fun (m,aN,aO,bA,aR,aS)=>[(1,.pointer (some ⟨aG,0,none⟩)),(3,.pointer (some ⟨aK,0,none⟩)),(34,aC),(35,.int .i64 ((a0.Ports.length : Nat) : Int)),(36,.int .i64 ((aN : Nat) : Int))]) (fun (m,aN,aO,bA,aR,aS) wl=>Js (Yv a0) m (aN,aO,bA)=some dC ∧ St NB w wl [blkR aG [.int .i64 a0.Id,.bool a0.Mobile,aA,aB,aC,.int .i64 a0.Events,aD] 27,blkR aK [aR,aS] 244,ownR 5 1 aR aO.length (aO.flatMap eB),erQ A aS bA]) (fun (m,aN,aO,bA,aR,aS)=>m) (eA,0,aQ,aZ,aW,aX) H ⟨rfl,rfl,rfl,rfl,rfl,trivial⟩ ⟨hm,hS⟩ ?_
  clear H hS hm a;intro xx a gB H hR;obtain⟨m,aN,aO,bA,aR,aS⟩:=xx;simp only [ent,List.map_cons,List.map_nil] at H;(try dsimp only at hR);obtain⟨hm,hS⟩:=hR
  replace hm:=Qa hm;obtain⟨eC,gC,rfl,hm,cK⟩:=hm;try dsimp only [Yv] at hm
  refine wp_seq (wp_region_lit (n_q H (Xz (i:=aN) (j:=a0.Ports.length) rfl rfl) rfl ?_));clear H a;intro a H
  refine Ze (Za (wp_seq (Zl H rfl (fun bG=>?_) (fun bG=>?_))))
  · replace hm:=Zu hm bG
    have eJ : aN < a0.Ports.length:=of_decide_eq_true bG
    refine wp_skip (Za (wp_seq (wp_block (wp_seq (wp_region_lit ?_)))))
    replace hm:=Zi hm;obtain⟨aT,bO,hm⟩:=hm
    obtain⟨eK,bS⟩:=SlR.adV (aJ.ext (Zq.mono _) hS.x) bF bO
    refine n_q H (Jn (i:=aN) Tryz.underlying24 Us rfl bF bS rfl (Ho bO)) rfl (W_q (Zf rfl (SlR.ldAggV (aJ.ext (Zq.mono _) hS.x) bF bS Zdq Us bO)) rfl ?_);clear H a;intro a H
    refine Qr H Zfm rfl ?_
    clear H;intro cL gD hN dR hs;clear a;intro a H
    replace hS:=hS.newBlk hN dR hs;clear hN hs
    refine Zr H rfl rfl (vs:=[.int .i64 aT.Kind,.int .i64 aT.Size,.int .i64 aT.Depth,.int .i64 aT.Refresh]) rfl Us (hS.blk 0 rfl) rfl (by simp) ?_
    clear H;intro eY hN cP hz;clear a;intro a H;replace hS:=hS.setBlk hN cP;clear hN hz
    refine Ze (Za (wp_region_lit (n_q H (Zc rfl) rfl (W_q (Zcl (f:=[]) (c:=[.pointer (some ⟨cL,0,none⟩)]) rfl rfl) rfl ?_))));clear H a;intro a H
    replace hS:=hS.pk4
    replace hS:=hS.pk4
    replace hS:=hS.pk4
    obtain⟨eL,bT,bH,bU,bV⟩:=hS.frame (rs1:=[blkR aK [aR,aS] 244,ownR 5 1 aR aO.length (aO.flatMap eB),erQ A aS bA])
    replace hm:=Zi hm;obtain⟨cM,cQ,hm⟩:=hm
    refine Zj H rfl Zpx (Gu (A:=A) (fun w' hw=>hG.ext (bH _ hw).ext) bT (g2:=165) (fs2:=[]) (cp2:=[.pointer (some ⟨cL,0,none⟩)]) (Gd2:=(fun w'=>EV A w' ∧ Blk w' cL [.int .i64 aT.Kind,.int .i64 aT.Size,.int .i64 aT.Depth,.int .i64 aT.Refresh] 118)) (a2:=(fun x0=>Ym x0 aT)) en165 (fun w' hw=>⟨hG.ext (bH _ hw).ext,Zhm (bU 0 _ rfl _ hw)⟩) (fun w1 g _ _ _ _ r hgd hp hr=>Zfq (A:=A) (fun w' hw=>(hgd w' hw).1) hp (fun w' hw=>(hgd w' hw).2) hr) cQ) rfl ?_
    clear H;intro eZ e8 hv;clear a;intro a H;obtain⟨dS,dT,rfl,cR⟩:=hv
    replace hS:=bV _ _ cR;simp only [List.cons_append,List.nil_append] at hS;clear bT bH bU bV
    refine Ze (Zm (Za (wp_region_lit (n_q H (Kb (i:=aN) (j:=1) rfl rfl (by omega)) rfl (W_q (Zc rfl) rfl ?_)))));clear H a;intro a H
    refine Ze (Za ?_)
    obtain rfl:=Option.some.inj hm
    replace hS:=hS.pk2
    replace hS:=hS.pk2
    replace hS:=hS.pk2
    replace hS:=hS.pk4
    replace hS:=hS.tk4
    exact Vh (eC,aN + 1,cM.buf_,cM.err_,dS,dT) H ⟨rfl,rfl,rfl,rfl,rfl,trivial⟩ ⟨cK,hS⟩ (Nat.lt_succ_self _)
  replace hm:=Zv hm bG
  refine wp_exit (Zn (Zn (Zy ?_)))
  obtain rfl:=Option.some.inj hm;have hz : _=dC:=cK;subst hz;replace hm:=dQ;try dsimp only at hm
  refine Za (wp_seq (wp_region_lit (n_q H (Zc rfl) rfl (W_q (Zcl (f:=[]) (c:=[.pointer (some ⟨aG,0,none⟩)]) rfl rfl) rfl ?_))));clear H a;intro a H
  replace hS:=hS.pk3
  replace hS:=hS.pk3
  replace hS:=hS.pk3
  obtain⟨eM,bW,aE,bX,bY⟩:=hS.frame (rs1:=[blkR aK [aR,aS] 244,ownR 5 1 aR aO.length (aO.flatMap eB),erQ A aS bA])
  replace hm:=Zi hm;obtain⟨bP,cT,hm⟩:=hm
  refine Zj H rfl Zpx (Gu (A:=A) (fun w' hw=>hG.ext (aE _ hw).ext) bW (g2:=166) (fs2:=[]) (cp2:=[.pointer (some ⟨aG,0,none⟩)]) (Gd2:=(fun w'=>EV A w' ∧ Blk w' aG [.int .i64 a0.Id,.bool a0.Mobile,aA,aB,aC,.int .i64 a0.Events,aD] 27 ∧ SlR w' 2 (Zq Qc) aA a0.Pages ∧ SlR w' 3 (Zq Zx) aB a0.Procs ∧ SlR w' 4 (Zq Zw) aC a0.Ports ∧ SlR w' 1 (Zq eI) aD a0.Sems)) (a2:=(fun x0=>Yn x0 a0)) en166 (fun w' hw=>⟨hG.ext (aE _ hw).ext,Zhm (bX 0 _ rfl _ hw),(fun w' hw=>aH.ext (Zq.mono _) (aE _ hw).ext) w' hw,(fun w' hw=>aI.ext (Zq.mono _) (aE _ hw).ext) w' hw,(fun w' hw=>aJ.ext (Zq.mono _) (aE _ hw).ext) w' hw,(fun w' hw=>bI.ext (Zq.mono _) (aE _ hw).ext) w' hw⟩) (fun w1 g _ _ _ _ r hgd hp hr=>Zfr (A:=A) (fun w' hw=>(hgd w' hw).1) hp (fun w' hw=>(hgd w' hw).2.1) (fun w' hw=>(hgd w' hw).2.2.1) (fun w' hw=>(hgd w' hw).2.2.2.1) (fun w' hw=>(hgd w' hw).2.2.2.2.1) (fun w' hw=>(hgd w' hw).2.2.2.2.2) hr) cT) rfl ?_
  clear H;intro e9 fA hv;clear a;intro a H;obtain⟨cN,cO,rfl,cU⟩:=hv
  replace hS:=bY _ _ cU;simp only [List.cons_append,List.nil_append] at hS;clear bW aE bX bY
  refine Ze (Za (wp_seq (wp_region_lit (n_q H (Zc rfl) rfl (W_q (Zcl (f:=[]) (c:=[.pointer (some ⟨aG,0,none⟩)]) rfl rfl) rfl ?_)))));clear H a;intro a H
  replace hS:=hS.pk2
  replace hS:=hS.pk2
  replace hS:=hS.pk2
  obtain⟨eN,bZ,aF,b7,b8⟩:=hS.frame (rs1:=[blkR aK [cN,cO] 244,ownR 5 1 cN bP.buf_.length (bP.buf_.flatMap eB),erQ A cO bP.err_])
  replace hm:=Zi hm;obtain⟨fB,cV,hm⟩:=hm
  refine Zj H rfl Zpx (Gu (A:=A) (fun w' hw=>hG.ext (aF _ hw).ext) bZ (g2:=167) (fs2:=[]) (cp2:=[.pointer (some ⟨aG,0,none⟩)]) (Gd2:=(fun w'=>EV A w' ∧ Blk w' aG [.int .i64 a0.Id,.bool a0.Mobile,aA,aB,aC,.int .i64 a0.Events,aD] 27 ∧ SlR w' 2 (Zq Qc) aA a0.Pages ∧ SlR w' 3 (Zq Zx) aB a0.Procs ∧ SlR w' 4 (Zq Zw) aC a0.Ports ∧ SlR w' 1 (Zq eI) aD a0.Sems)) (a2:=(fun x0=>Yo x0 a0)) en167 (fun w' hw=>⟨hG.ext (aF _ hw).ext,Zhm (b7 0 _ rfl _ hw),(fun w' hw=>aH.ext (Zq.mono _) (aF _ hw).ext) w' hw,(fun w' hw=>aI.ext (Zq.mono _) (aF _ hw).ext) w' hw,(fun w' hw=>aJ.ext (Zq.mono _) (aF _ hw).ext) w' hw,(fun w' hw=>bI.ext (Zq.mono _) (aF _ hw).ext) w' hw⟩) (fun w1 g _ _ _ _ r hgd hp hr=>Zfs (A:=A) (fun w' hw=>(hgd w' hw).1) hp (fun w' hw=>(hgd w' hw).2.1) (fun w' hw=>(hgd w' hw).2.2.1) (fun w' hw=>(hgd w' hw).2.2.2.1) (fun w' hw=>(hgd w' hw).2.2.2.2.1) (fun w' hw=>(hgd w' hw).2.2.2.2.2) hr) cV) rfl ?_
  clear H;intro fC fD hv;clear a;intro a H;obtain⟨fE,fF,rfl,cW⟩:=hv
  replace hS:=b8 _ _ cW;simp only [List.cons_append,List.nil_append] at hS;clear bZ aF b7 b8
  refine Ze (Za (wp_seq (wp_region_lit (n_q H (Zc rfl) rfl (W_q (Zb rfl) rfl ?_)))));clear H a;intro a H
  refine Ze (Za (wp_ret ?_))
  obtain rfl:=Option.some.inj hm
  replace hS:=hS.tk3
  refine Je H (.inr rfl) rfl rfl ?_
  exact⟨_,_,_,rfl,hS⟩
theorem Ze0 {w : World} {A : Nat → Addr} {fp : Nat → Prop} {b0 : Nat} {v0_0 : Value} {v0_1 : Value} {a0 : GWireWriter} {a1 : Int} (hG : ∀ w',ChgP fp w w' → EV A w') (hP : Sep w fp [blkR b0 [v0_0,v0_1] 244,ownR 5 1 v0_0 a0.buf_.length (a0.buf_.flatMap eB),erQ A v0_1 a0.err_]) {r : GWireWriter} (hm : Wn a0 a1=some r) :
    Calls Tryz.prog 95 [.pointer (some ⟨b0,0,none⟩),.int .i64 a1].toArray w (Ret fun u w'=>∃ h_0 h_1,u=.tuple #[] ∧ St fp w w' [blkR b0 [h_0,h_1] 244,ownR 5 1 h_0 r.buf_.length (r.buf_.flatMap eB),erQ A h_1 r.err_]):=by
  have hS:=St.init hP
  unfold Wn at hm
  refine enter Tryz.func95 rfl rfl rfl ?_;intro a H;dsimp only [Qk,Nat.zero_add,Nat.reduceAdd] at H
  refine wp_region_lit (n_q H (Zc rfl) rfl (W_q (Zc rfl) rfl ?_));clear H a;intro a H
  replace hS:=hS.pk2
  replace hS:=hS.pk2
  replace hS:=hS.pk2
  obtain⟨aG,aA,aB,aD,aC⟩:=hS.frame (rs1:=[blkR b0 [v0_0,v0_1] 244,ownR 5 1 v0_0 a0.buf_.length (a0.buf_.flatMap eB),erQ A v0_1 a0.err_])
  replace hm:=Zi hm;obtain⟨aH,aE,hm⟩:=hm
  refine Zj H rfl Zpz (Vf (A:=A) (fun w' hw=>hG _ (aB _ hw)) aA aE) rfl ?_
  clear H;intro aI aJ hv;clear a;intro a H;obtain⟨aK,aL,rfl,aF⟩:=hv
  replace hS:=aC _ _ aF;simp only [List.cons_append,List.nil_append] at hS;clear aA aB aD aC
  refine Ze ?_
  obtain rfl:=Option.some.inj hm
  refine Ze8 H (.inl rfl) rfl ?_
  exact⟨_,_,rfl,hS⟩
theorem Zk5 {w : World} {A : Nat → Addr} {a0 : Int} {r : Int} (hm : Zcr a0=some r) :
    Calls Tryz.prog 264 [.int .u32 a0].toArray w (Ret fun u w'=>u=.int .u32 r ∧ Ext w w'):=by
  have hS:=St.begin NB w
  unfold Zcr at hm
  refine enter Tryz.func264 rfl rfl rfl ?_;intro a H;dsimp only [Qk,Nat.zero_add,Nat.reduceAdd] at H
  refine wp_seq (wp_region_lit (n_q H (Zb rfl) rfl ?_));clear H a;intro a H
  refine Ze (Za (wp_seq (wp_seq (wp_region_lit (n_q H (Zc rfl) rfl (W_q (q_and rfl rfl) rfl (W_q (Ky rfl rfl) rfl ?_)))))));clear H a;intro a H
  refine Ze (Za (Zl H rfl (fun aA=>?_) (fun aA=>?_)))
  · replace hm:=Zu hm aA
    refine wp_seq (wp_region_lit (n_q H (Zc rfl) rfl (W_q (Zil rfl rfl (by decide)) rfl (W_q (Zn8 rfl rfl) rfl (W_q (Zb rfl) rfl ?_)))));clear H a;intro a H
    refine Ze (Za (wp_ret (Zh ?_)))
    obtain rfl:=Option.some.inj hm
    refine Je H (.inr rfl) rfl rfl ?_
    exact⟨rfl,hS.x⟩
  replace hm:=Zv hm aA
  refine wp_skip (Za (wp_seq (wp_region_lit (n_q H (Zc rfl) rfl (W_q (Zil rfl rfl (by decide)) rfl (W_q (Zb rfl) rfl ?_))))));clear H a;intro a H
  refine Ze (Za (wp_ret ?_))
  obtain rfl:=Option.some.inj hm
  refine Je H (.inr rfl) rfl rfl ?_
  exact⟨rfl,hS.x⟩
theorem Zjw {w : World} {A : Nat → Addr} {r : Vector Int 256} (hm : Zbf=some r) :
    Calls Tryz.prog 255 [].toArray w (Ret fun u w'=>∃ (h_0 : Nat),u=.pointer (some ⟨h_0,0,none⟩) ∧ St NB w w' [blkR h_0 (r.toList.map (Value.int .u32)) 337]):=by
  have hS:=St.begin NB w
  unfold Zbf at hm
  refine enter Tryz.func255 rfl rfl rfl ?_;intro a H;dsimp only [Qk,Nat.zero_add,Nat.reduceAdd] at H
  refine wp_seq (wp_region_lit (n_q H (Zb rfl) rfl ?_));clear H a;intro a H
  refine Ze (Za (wp_seq (wp_region_lit ?_)))
  refine n_q H (Zof (cs:=[.int .u32 0,.int .u32 0,.int .u32 0,.int .u32 0,.int .u32 0,.int .u32 0,.int .u32 0,.int .u32 0,.int .u32 0,.int .u32 0,.int .u32 0,.int .u32 0,.int .u32 0,.int .u32 0,.int .u32 0,.int .u32 0,.int .u32 0,.int .u32 0,.int .u32 0,.int .u32 0,.int .u32 0,.int .u32 0,.int .u32 0,.int .u32 0,.int .u32 0,.int .u32 0,.int .u32 0,.int .u32 0,.int .u32 0,.int .u32 0,.int .u32 0,.int .u32 0,.int .u32 0,.int .u32 0,.int .u32 0,.int .u32 0,.int .u32 0,.int .u32 0,.int .u32 0,.int .u32 0,.int .u32 0,.int .u32 0,.int .u32 0,.int .u32 0,.int .u32 0,.int .u32 0,.int .u32 0,.int .u32 0,.int .u32 0,.int .u32 0,.int .u32 0,.int .u32 0,.int .u32 0,.int .u32 0,.int .u32 0,.int .u32 0,.int .u32 0,.int .u32 0,.int .u32 0,.int .u32 0,.int .u32 0,.int .u32 0,.int .u32 0,.int .u32 0,.int .u32 0,.int .u32 0,.int .u32 0,.int .u32 0,.int .u32 0,.int .u32 0,.int .u32 0,.int .u32 0,.int .u32 0,.int .u32 0,.int .u32 0,.int .u32 0,.int .u32 0,.int .u32 0,.int .u32 0,.int .u32 0,.int .u32 0,.int .u32 0,.int .u32 0,.int .u32 0,.int .u32 0,.int .u32 0,.int .u32 0,.int .u32 0,.int .u32 0,.int .u32 0,.int .u32 0,.int .u32 0,.int .u32 0,.int .u32 0,.int .u32 0,.int .u32 0,.int .u32 0,.int .u32 0,.int .u32 0,.int .u32 0,.int .u32 0,.int .u32 0,.int .u32 0,.int .u32 0,.int .u32 0,.int .u32 0,.int .u32 0,.int .u32 0,.int .u32 0,.int .u32 0,.int .u32 0,.int .u32 0,.int .u32 0,.int .u32 0,.int .u32 0,.int .u32 0,.int .u32 0,.int .u32 0,.int .u32 0,.int .u32 0,.int .u32 0,.int .u32 0,.int .u32 0,.int .u32 0,.int .u32 0,.int .u32 0,.int .u32 0,.int .u32 0,.int .u32 0,.int .u32 0,.int .u32 0,.int .u32 0,.int .u32 0,.int .u32 0,.int .u32 0,.int .u32 0,.int .u32 0,.int .u32 0,.int .u32 0,.int .u32 0,.int .u32 0,.int .u32 0,.int .u32 0,.int .u32 0,.int .u32 0,.int .u32 0,.int .u32 0,.int .u32 0,.int .u32 0,.int .u32 0,.int .u32 0,.int .u32 0,.int .u32 0,.int .u32 0,.int .u32 0,.int .u32 0,.int .u32 0,.int .u32 0,.int .u32 0,.int .u32 0,.int .u32 0,.int .u32 0,.int .u32 0,.int .u32 0,.int .u32 0,.int .u32 0,.int .u32 0,.int .u32 0,.int .u32 0,.int .u32 0,.int .u32 0,.int .u32 0,.int .u32 0,.int .u32 0,.int .u32 0,.int .u32 0,.int .u32 0,.int .u32 0,.int .u32 0,.int .u32 0,.int .u32 0,.int .u32 0,.int .u32 0,.int .u32 0,.int .u32 0,.int .u32 0,.int .u32 0,.int .u32 0,.int .u32 0,.int .u32 0,.int .u32 0,.int .u32 0,.int .u32 0,.int .u32 0,.int .u32 0,.int .u32 0,.int .u32 0,.int .u32 0,.int .u32 0,.int .u32 0,.int .u32 0,.int .u32 0,.int .u32 0,.int .u32 0,.int .u32 0,.int .u32 0,.int .u32 0,.int .u32 0,.int .u32 0,.int .u32 0,.int .u32 0,.int .u32 0,.int .u32 0,.int .u32 0,.int .u32 0,.int .u32 0,.int .u32 0,.int .u32 0,.int .u32 0,.int .u32 0,.int .u32 0,.int .u32 0,.int .u32 0,.int .u32 0,.int .u32 0,.int .u32 0,.int .u32 0,.int .u32 0,.int .u32 0,.int .u32 0,.int .u32 0,.int .u32 0,.int .u32 0,.int .u32 0,.int .u32 0,.int .u32 0,.int .u32 0,.int .u32 0,.int .u32 0,.int .u32 0,.int .u32 0,.int .u32 0,.int .u32 0,.int .u32 0,.int .u32 0,.int .u32 0,.int .u32 0,.int .u32 0,.int .u32 0,.int .u32 0,.int .u32 0,.int .u32 0,.int .u32 0,.int .u32 0,.int .u32 0,.int .u32 0]) Tryz.underlying337 Zp1 ze337 rfl (by kernel_rfl)) rfl ?_;clear H a;intro a H
  refine Wt H rfl (cs:=((#v[0,0,0,0,0,0,0,0,0,0,0,0,0,0,0,0,0,0,0,0,0,0,0,0,0,0,0,0,0,0,0,0,0,0,0,0,0,0,0,0,0,0,0,0,0,0,0,0,0,0,0,0,0,0,0,0,0,0,0,0,0,0,0,0,0,0,0,0,0,0,0,0,0,0,0,0,0,0,0,0,0,0,0,0,0,0,0,0,0,0,0,0,0,0,0,0,0,0,0,0,0,0,0,0,0,0,0,0,0,0,0,0,0,0,0,0,0,0,0,0,0,0,0,0,0,0,0,0,0,0,0,0,0,0,0,0,0,0,0,0,0,0,0,0,0,0,0,0,0,0,0,0,0,0,0,0,0,0,0,0,0,0,0,0,0,0,0,0,0,0,0,0,0,0,0,0,0,0,0,0,0,0,0,0,0,0,0,0,0,0,0,0,0,0,0,0,0,0,0,0,0,0,0,0,0,0,0,0,0,0,0,0,0,0,0,0,0,0,0,0,0,0,0,0,0,0,0,0,0,0,0,0,0,0,0,0,0,0,0,0,0,0,0,0,0,0,0,0,0,0,0,0,0,0,0,0]).toList.map (Value.int .u32))) rfl rfl ?_
  clear H;intro aG bA hN aL hs;clear a;intro a H
  replace hS:=hS.newBlk hN aL hs;clear hN hs
  refine n_q H (Zb rfl) rfl ?_;clear H a;intro a H
  refine Ze (Za (wp_seq (wp_seq (wp_region_lit (n_q H (Zc rfl) rfl ?_)))));clear H a;intro a H
  refine Ze (Za (wp_block ?_))
  replace hm:=Zi hm;obtain⟨aJ,hm,aM⟩:=hm;replace hm:=Qg hm;obtain⟨aS,hm⟩:=hm
  refine Jd (σ:=Nat × Nat × (Vector Int 256)) (fun (m,aA,aC)=>[(1,.pointer (some ⟨aG,0,none⟩)),(6,.int .i64 ((aA : Nat) : Int))]) (fun (m,aA,aC) wl=>Js Vx m (aA,aC)=some aJ ∧ St NB w wl [blkR aG (aC.toList.map (Value.int .u32)) 337]) (fun (m,aA,aC)=>m) (aS,0,#v[0,0,0,0,0,0,0,0,0,0,0,0,0,0,0,0,0,0,0,0,0,0,0,0,0,0,0,0,0,0,0,0,0,0,0,0,0,0,0,0,0,0,0,0,0,0,0,0,0,0,0,0,0,0,0,0,0,0,0,0,0,0,0,0,0,0,0,0,0,0,0,0,0,0,0,0,0,0,0,0,0,0,0,0,0,0,0,0,0,0,0,0,0,0,0,0,0,0,0,0,0,0,0,0,0,0,0,0,0,0,0,0,0,0,0,0,0,0,0,0,0,0,0,0,0,0,0,0,0,0,0,0,0,0,0,0,0,0,0,0,0,0,0,0,0,0,0,0,0,0,0,0,0,0,0,0,0,0,0,0,0,0,0,0,0,0,0,0,0,0,0,0,0,0,0,0,0,0,0,0,0,0,0,0,0,0,0,0,0,0,0,0,0,0,0,0,0,0,0,0,0,0,0,0,0,0,0,0,0,0,0,0,0,0,0,0,0,0,0,0,0,0,0,0,0,0,0,0,0,0,0,0,0,0,0,0,0,0,0,0,0,0,0,0,0,0,0,0,0,0,0,0,0,0,0,0]) H ⟨rfl,rfl,trivial⟩ ⟨hm,hS⟩ ?_
  clear H hS hm a;intro xx a bB H hR;obtain⟨m,aA,aC⟩:=xx;simp only [ent,List.map_cons,List.map_nil] at H;(try dsimp only at hR);obtain⟨hm,hS⟩:=hR
  replace hm:=Qa hm;obtain⟨aT,bC,rfl,hm,aH⟩:=hm;try dsimp only [Vx] at hm
  refine wp_seq (wp_region_lit (n_q H (Xz (i:=aA) (j:=256) rfl rfl) rfl ?_));clear H a;intro a H
  refine Ze (Za (wp_seq (Zl H rfl (fun aE=>?_) (fun aE=>?_))))
  · replace hm:=Zu hm aE
    have aY : aA < 256:=of_decide_eq_true aE
    refine wp_skip (Za (wp_seq (wp_block (wp_seq (wp_region_lit (n_q H (Zc rfl) rfl (W_q (Zb rfl) rfl ?_)))))));clear H a;intro a H
    refine Ze (Za (wp_seq (wp_region_lit (n_q H (Zc rfl) rfl (W_q (Xn Tryz.underlying3 Tryz.underlying101 ⟨_,rfl⟩ rfl) rfl (W_q (Zb rfl) rfl ?_))))));clear H a;intro a H
    refine Ze (Za (wp_seq (wp_seq (wp_region_lit (n_q H (Zc rfl) rfl ?_)))));clear H a;intro a H
    refine Ze (Za (wp_block ?_))
    replace hm:=Zi hm;obtain⟨aK,hm,aN⟩:=hm;replace hm:=Qg hm;obtain⟨aU,hm⟩:=hm
    refine Jd (σ:=Nat × Int × Nat) (fun (m,aD,aB)=>[(1,.pointer (some ⟨aG,0,none⟩)),(2,.int .i64 ((aA : Nat) : Int)),(3,.int .u32 aD),(6,.int .i64 ((aA : Nat) : Int)),(11,.int .i64 ((aB : Nat) : Int))]) (fun (m,aD,aB) wl=>Js Vw m (aD,aB)=some aK ∧ St NB w wl [blkR aG (aC.toList.map (Value.int .u32)) 337]) (fun (m,aD,aB)=>m) (aU,(IntKind.u32.wrap ((aA : Nat) : Int)),0) H ⟨rfl,rfl,rfl,rfl,rfl,trivial⟩ ⟨hm,hS⟩ ?_
    clear H hS hm a;intro xx a bD H hR;obtain⟨m,aD,aB⟩:=xx;simp only [ent,List.map_cons,List.map_nil] at H;(try dsimp only at hR);obtain⟨hm,hS⟩:=hR
    replace hm:=Qa hm;obtain⟨aV,bE,rfl,hm,aI⟩:=hm;try dsimp only [Vw] at hm
    refine wp_seq (wp_region_lit (n_q H (Xz (i:=aB) (j:=8) rfl rfl) rfl ?_));clear H a;intro a H
    refine Ze (Za (wp_seq (Zl H rfl (fun aF=>?_) (fun aF=>?_))))
    · replace hm:=Zu hm aF
      have aZ : aB < 8:=of_decide_eq_true aF
      refine wp_skip (Za (wp_seq (wp_block (wp_region_lit (n_q H (Zc rfl) rfl ?_)))));clear H a;intro a H
      replace hm:=Zi hm;obtain⟨aW,aO,hm⟩:=hm
      refine Zj H rfl en264 (Zk5 (A:=A) aO) rfl ?_
      clear H;intro bF bG hv;clear a;intro a H;obtain⟨rfl,aP⟩:=hv
      replace hS:=hS.ext aP
      refine n_q H (Zb rfl) rfl ?_;clear H a;intro a H
      refine Ze (Zm (Za (wp_region_lit (n_q H (Kb (i:=aB) (j:=1) rfl rfl (by omega)) rfl (W_q (Zc rfl) rfl ?_)))));clear H a;intro a H
      refine Ze (Za ?_)
      obtain rfl:=Option.some.inj hm
      exact Vh (aV,aW,aB + 1) H ⟨rfl,rfl,rfl,rfl,rfl,trivial⟩ ⟨aI,hS⟩ (Nat.lt_succ_self _)
    replace hm:=Zv hm aF
    refine wp_exit (Zn (Zn (Zy ?_)))
    obtain rfl:=Option.some.inj hm;have hz : _=aK:=aI;subst hz;replace hm:=aN;try dsimp only at hm
    refine Za (wp_region_lit (n_q H (Zc rfl) rfl (W_q (Zc rfl) rfl (W_q (Zc rfl) rfl (W_q (Zp rfl) rfl ?_)))));clear H a;intro a H
    replace hm:=Zi hm;obtain⟨bH,aQ,hm⟩:=hm
    obtain⟨h0x40,h1x40,a9⟩:=Zjn aQ
    refine n_q H (Znl Tryz.underlying337 Zp1 rfl rfl h0x40 h1x40) rfl ?_;clear H a;intro a H
    refine Jz H rfl rfl Zp1 (hS.blk 0 rfl) (by simp;omega) rfl ?_
    clear H;intro aX hN aR hz;clear a;intro a H;replace hN:=(congrArg (fun z=>Blk aX aG z 337) (Zru aC (Value.int .u32) (((aA : Nat) : Int).toNat) aD)).mp hN;replace hS:=hS.setBlk hN aR;clear hN hz
    refine Ze (Zm (Za (wp_region_lit (n_q H (Kb (i:=aA) (j:=1) rfl rfl (by omega)) rfl (W_q (Zc rfl) rfl ?_)))));clear H a;intro a H
    refine Ze (Za ?_)
    obtain rfl:=Option.some.inj hm
    exact Vh (aT,aA + 1,(aC.setIfInBounds (((aA : Nat) : Int).toNat) aD)) H ⟨rfl,rfl,trivial⟩ ⟨aH,hS⟩ (Nat.lt_succ_self _)
  replace hm:=Zv hm aE
  refine wp_exit (Zn (Zn (Zy ?_)))
  obtain rfl:=Option.some.inj hm;have hz : _=aJ:=aH;subst hz;replace hm:=aM;try dsimp only at hm
  refine Za (wp_seq (wp_region_lit (n_q H (Zc rfl) rfl (W_q (Zb rfl) rfl ?_))));clear H a;intro a H
  refine Ze (Za (wp_ret ?_))
  obtain rfl:=Option.some.inj hm
  refine Je H (.inr rfl) rfl rfl ?_
  exact⟨_,rfl,hS⟩
theorem Zk6 {w : World} {A : Nat → Addr} {a0 : Int} {v1 : Value} {a1 : List UInt8} (h1 : SlR w 1 (Zq eB) v1 a1) {r : Int} (hm : Za7 a0 a1=some r) :
    Calls Tryz.prog 245 [.int .u32 a0,v1].toArray w (Ret fun u w'=>u=.int .u32 r ∧ Ext w w'):=by
  have hS:=St.begin NB w
  unfold Za7 at hm
  refine enter Tryz.func245 rfl rfl rfl ?_;intro a H;dsimp only [Qk,Nat.zero_add,Nat.reduceAdd] at H
  refine wp_seq (wp_region_lit (n_q H (Zb rfl) rfl ?_));clear H a;intro a H
  refine Ze (Za (wp_seq (wp_seq (wp_region_lit (n_q H (Zc rfl) rfl ?_)))));clear H a;intro a H
  obtain⟨aX,aY,aB,aV,aW⟩:=SlR.formV (h1.ext (Zq.mono _) hS.x)
  refine n_q H (Qf Tryz.underlying100 rfl aB) rfl (W_q (Znk (i:=a1.length) (j:=0) rfl rfl) rfl ?_);clear H a;intro a H
  refine Ze (Za (Zl H rfl (fun aE=>?_) (fun aE=>?_)))
  · replace hm:=Zu hm aE
    refine wp_seq (wp_region_lit (n_q H (Zc rfl) rfl (W_q (Zb rfl) rfl ?_)));clear H a;intro a H
    refine Ze (Za (wp_ret (Zh ?_)))
    obtain rfl:=Option.some.inj hm
    refine Je H (.inr rfl) rfl rfl ?_
    exact⟨rfl,hS.x⟩
  replace hm:=Zv hm aE
  refine wp_skip (Za (wp_seq (wp_region_lit ?_)))
  replace hm:=Zi hm;obtain⟨aJ,aM,hm⟩:=hm
  refine Zj H rfl en255 (Zjw (A:=A) aM) rfl ?_
  clear H;intro aZ a9 hv;clear a;intro a H;obtain⟨aK,rfl,aN⟩:=hv
  replace hS:=hS.new aN;simp only [List.cons_append,List.nil_append] at hS
  refine n_q H (Zb rfl) rfl ?_;clear H a;intro a H
  refine Ze (Za (wp_seq (wp_seq (wp_region_lit (n_q H (Zc rfl) rfl (W_q (Qf Tryz.underlying100 rfl aB) rfl (W_q (Zc rfl) rfl ?_)))))));clear H a;intro a H
  refine Ze (Za (wp_block ?_))
  replace hm:=Zi hm;obtain⟨aL,hm,aO⟩:=hm;replace hm:=Qg hm;obtain⟨aQ,hm⟩:=hm
  refine Jd (σ:=Nat × Int × Nat) (fun (m,aC,aA)=>[(0,.int .u32 aC),(5,.pointer (some ⟨aK,0,none⟩)),(13,v1),(14,.int .i64 ((a1.length : Nat) : Int)),(15,.int .i64 ((aA : Nat) : Int))]) (fun (m,aC,aA) wl=>Js (Gy a1 aJ) m (aC,aA)=some aL ∧ St NB w wl [blkR aK (aJ.toList.map (Value.int .u32)) 337]) (fun (m,aC,aA)=>m) (aQ,a0,0) H ⟨rfl,rfl,rfl,rfl,rfl,trivial⟩ ⟨hm,hS⟩ ?_
  clear H hS hm a;intro xx a bA H hR;obtain⟨m,aC,aA⟩:=xx;simp only [ent,List.map_cons,List.map_nil] at H;(try dsimp only at hR);obtain⟨hm,hS⟩:=hR
  replace hm:=Qa hm;obtain⟨aR,bB,rfl,hm,aH⟩:=hm;try dsimp only [Gy] at hm
  refine wp_seq (wp_region_lit (n_q H (Xz (i:=aA) (j:=a1.length) rfl rfl) rfl ?_));clear H a;intro a H
  refine Ze (Za (wp_seq (Zl H rfl (fun aD=>?_) (fun aD=>?_))))
  · replace hm:=Zu hm aD
    have aT : aA < a1.length:=of_decide_eq_true aD
    refine wp_skip (Za (wp_seq (wp_block (wp_seq (wp_region_lit ?_)))))
    replace hm:=Zi hm;obtain⟨bC,aF,hm⟩:=hm
    obtain⟨aU,aG⟩:=SlR.adV (h1.ext (Zq.mono _) hS.x) aB aF
    refine n_q H (Jn (i:=aA) Tryz.underlying100 sz5 rfl aB aG rfl (Ho aF)) rfl (W_q (Zf rfl (SlR.ldOneV (h1.ext (Zq.mono _) hS.x) aB aG ag5 aF rfl)) rfl (W_q (Zb rfl) rfl ?_));clear H a;intro a H
    refine Ze (Za (wp_region_lit (n_q H (Zc rfl) rfl (W_q (Zc rfl) rfl (W_q (Xn Tryz.underlying101 Tryz.underlying5 ⟨_,rfl⟩ rfl) rfl (W_q (Zc rfl) rfl (W_q (Zn8 rfl rfl) rfl (W_q (Zp rfl) rfl ?_))))))));clear H a;intro a H
    replace hm:=Zi hm;obtain⟨aS,aP,hm⟩:=hm
    obtain⟨h0x36,h1x36,aI⟩:=Zjn aP
    refine n_q H (Znl Tryz.underlying337 Zp1 rfl rfl h0x36 h1x36) rfl (W_q (Zf rfl ((hS.blk 0 rfl).ld ag101 (Zrv (f:=(Value.int .u32)) aI))) rfl (W_q (Zc rfl) rfl (W_q (Zil rfl rfl (by decide)) rfl (W_q (Zn8 rfl rfl) rfl (W_q (Zb rfl) rfl ?_)))));clear H a;intro a H
    refine Ze (Zm (Za (wp_region_lit (n_q H (Kb (i:=aA) (j:=1) rfl rfl (by omega)) rfl (W_q (Zc rfl) rfl ?_)))));clear H a;intro a H
    refine Ze (Za ?_)
    obtain rfl:=Option.some.inj hm
    exact Vh (aR,(Uo .u32 aS (shR .u32 aC 8)),aA + 1) H ⟨rfl,rfl,rfl,rfl,rfl,trivial⟩ ⟨aH,hS⟩ (Nat.lt_succ_self _)
  replace hm:=Zv hm aD
  refine wp_exit (Zn (Zn (Zy ?_)))
  obtain rfl:=Option.some.inj hm;have hz : _=aL:=aH;subst hz;replace hm:=aO;try dsimp only at hm
  refine Za (wp_seq (wp_region_lit (n_q H (Zc rfl) rfl (W_q (Zb rfl) rfl ?_))));clear H a;intro a H
  refine Ze (Za (wp_ret ?_))
  obtain rfl:=Option.some.inj hm
  replace hS:=hS.tk0
  refine Je H (.inr rfl) rfl rfl ?_
  exact⟨rfl,hS.x⟩
theorem Zk7 {w : World} {A : Nat → Addr} {a0 : Int} {v1 : Value} {a1 : List UInt8} (h1 : SlR w 1 (Zq eB) v1 a1) {r : Int} (hm : Zd7 a0 a1=some r) :
    Calls Tryz.prog 205 [.int .u32 a0,v1].toArray w (Ret fun u w'=>u=.int .u32 r ∧ Ext w w'):=by
  have hS:=St.begin NB w
  unfold Zd7 at hm
  refine enter Tryz.func205 rfl rfl rfl ?_;intro a H;dsimp only [Qk,Nat.zero_add,Nat.reduceAdd] at H
  refine wp_seq (wp_region_lit (n_q H (Zb rfl) rfl ?_));clear H a;intro a H
  refine Ze (Za (wp_seq (wp_region_lit (n_q H (Zc rfl) rfl (W_q (Zpk rfl) rfl (W_q (Zc rfl) rfl ?_))))));clear H a;intro a H
  replace hm:=Zi hm;obtain⟨aC,aA,hm⟩:=hm
  refine Zj H rfl en245 (Zk6 (A:=A) (h1.ext (Zq.mono _) hS.x) aA) rfl ?_
  clear H;intro aD aE hv;clear a;intro a H;obtain⟨rfl,aB⟩:=hv
  replace hS:=hS.ext aB
  refine n_q H (Zpk rfl) rfl (W_q (Zb rfl) rfl ?_);clear H a;intro a H
  refine Ze (Za (wp_ret ?_))
  obtain rfl:=Option.some.inj hm
  refine Je H (.inr rfl) rfl rfl ?_
  exact⟨rfl,hS.x⟩
theorem Ze1 {w : World} {A : Nat → Addr} {v0 : Value} {a0 : List UInt8} (h0 : SlR w 1 (Zq eB) v0 a0) {r : Int} (hm : Zbg a0=some r) :
    Calls Tryz.prog 137 [v0].toArray w (Ret fun u w'=>u=.int .u32 r ∧ Ext w w'):=by
  have hS:=St.begin NB w
  unfold Zbg at hm
  refine enter Tryz.func137 rfl rfl rfl ?_;intro a H;dsimp only [Qk,Nat.zero_add,Nat.reduceAdd] at H
  refine wp_seq (wp_region_lit (n_q H (Zb rfl) rfl ?_));clear H a;intro a H
  refine Ze (Za (wp_seq (wp_region_lit (n_q H (Zc rfl) rfl ?_))));clear H a;intro a H
  replace hm:=Zi hm;obtain⟨aC,aA,hm⟩:=hm
  refine Zj H rfl en205 (Zk7 (A:=A) (h0.ext (Zq.mono _) hS.x) aA) rfl ?_
  clear H;intro aD aE hv;clear a;intro a H;obtain⟨rfl,aB⟩:=hv
  replace hS:=hS.ext aB
  refine n_q H (Zb rfl) rfl ?_;clear H a;intro a H
  refine Ze (Za (wp_ret ?_))
  obtain rfl:=Option.some.inj hm
  refine Je H (.inr rfl) rfl rfl ?_
  exact⟨rfl,hS.x⟩
theorem Zdy {w : World} {A : Nat → Addr} {v0 : Value} {a0 : List UInt8} (h0 : SlR w 1 (Zq eB) v0 a0) {r : List UInt8} (hm : Ua a0=some r) :
    Calls Tryz.prog 171 [v0].toArray w (Ret fun u w'=>∃ h_0,u=h_0 ∧ St NB w w' [ownR 5 1 h_0 r.length (r.flatMap eB)]):=by
  have hS:=St.begin NB w
  unfold Ua at hm
  refine enter Tryz.func171 rfl rfl rfl ?_;intro a H;dsimp only [Qk,Nat.zero_add,Nat.reduceAdd] at H
  refine wp_seq (wp_region_lit (n_q H (Zb rfl) rfl ?_));clear H a;intro a H
  refine Ze (Za (wp_seq (wp_seq (wp_region_lit (n_q H (Zc rfl) rfl ?_)))));clear H a;intro a H
  obtain⟨aH,aI,aA,aF,aG⟩:=SlR.formV (h0.ext (Zq.mono _) hS.x)
  refine n_q H (Zpn Tryz.underlying100 rfl aA rfl) rfl ?_;clear H a;intro a H
  refine Ze (Za (Zl H rfl (fun aB=>?_) (fun aB=>?_)))
  · obtain rfl:=SlR.nilV (h0.ext (Zq.mono _) hS.x) aA aB;replace hm:=Tj hm;obtain⟨_,hm⟩:=hm
    refine wp_seq (wp_region_lit (n_q H (Zb rfl) rfl ?_));clear H a;intro a H
    refine Ze (Za (wp_ret (Zh ?_)))
    obtain rfl:=Option.some.inj hm
    replace hS:=hS.nilOwn 5 1
    refine Je H (.inr rfl) rfl rfl ?_
    exact⟨_,rfl,hS⟩
  refine wp_skip (Za (wp_seq (wp_region_lit (Qd H Tryz.underlying100 sz5 ze5 rfl rfl rfl (cs:=[]) rfl rfl ?_))))
  clear H;intro aJ aK hN aC hs;clear a;intro a H
  replace hS:=hS.newBlk hN aC hs;clear hN hs
  replace hS:=hS.blkOwnL (e:=eB) (k:=1) ([] : List UInt8) rfl rfl (by simp [maxLen])
  refine n_q H (Zc rfl) rfl ?_;clear H a;intro a H
  replace hm:=Tj hm;obtain⟨aD,hm⟩:=hm
  refine Zb1 (e:=eB) H rfl rfl Tryz.underlying100 Tryz.underlying100 (by simp) el5 (hS.own 0 rfl) ((h0.ext (Zq.mono _) hS.x).src (fun _ _=>rfl)) Zal aD (by simp only [maxLen];omega) rfl ?_
  clear H;intro aL aM hN aE hb;clear a;intro a H;replace hS:=hS.setOwn hN aE hb;clear hN hb
  refine n_q H (Zb rfl) rfl ?_;clear H a;intro a H
  refine Ze (Za (wp_ret ?_))
  obtain rfl:=Option.some.inj hm
  refine Je H (.inr rfl) rfl rfl ?_
  exact⟨_,rfl,hS⟩
theorem Zgu {w : World} {A : Nat → Addr} {a0 : Int} {r : List UInt8} (hm : Za8 a0=some r) :
    Calls Tryz.prog 172 [.int .u32 a0].toArray w (Ret fun u w'=>∃ h_0,u=h_0 ∧ St NB w w' [ownR 5 1 h_0 r.length (r.flatMap eB)]):=by
  have hS:=St.begin NB w
  unfold Za8 at hm
  refine enter Tryz.func172 rfl rfl rfl ?_;intro a H;dsimp only [Qk,Nat.zero_add,Nat.reduceAdd] at H
  refine wp_seq (wp_region_lit (n_q H (Zb rfl) rfl ?_));clear H a;intro a H
  refine Ze (Za (wp_seq (wp_region_lit (n_q H (Zc rfl) rfl (W_q (Xn Tryz.underlying101 Tryz.underlying5 ⟨_,rfl⟩ rfl) rfl (W_q (Zc rfl) rfl (W_q (Zil rfl rfl (by decide)) rfl (W_q (Xn Tryz.underlying101 Tryz.underlying5 ⟨_,rfl⟩ rfl) rfl (W_q (Zc rfl) rfl (W_q (Zil rfl rfl (by decide)) rfl (W_q (Xn Tryz.underlying101 Tryz.underlying5 ⟨_,rfl⟩ rfl) rfl (W_q (Zc rfl) rfl (W_q (Zil rfl rfl (by decide)) rfl (W_q (Xn Tryz.underlying101 Tryz.underlying5 ⟨_,rfl⟩ rfl) rfl ?_))))))))))))));clear H a;intro a H
  refine Qd H Tryz.underlying100 sz5 ze5 rfl rfl rfl (cs:=[.int .u8 (IntKind.u8.wrap a0),.int .u8 (IntKind.u8.wrap (shR .u32 a0 8)),.int .u8 (IntKind.u8.wrap (shR .u32 a0 16)),.int .u8 (IntKind.u8.wrap (shR .u32 a0 24))]) (by kernel_rfl) rfl ?_
  clear H;intro aB aC hN aA hs;clear a;intro a H
  replace hS:=hS.newBlk hN aA hs;clear hN hs
  replace hS:=hS.blkOwnL (e:=eB) (k:=1) [(Zt a0),(Zt (shR .u32 a0 8)),(Zt (shR .u32 a0 16)),(Zt (shR .u32 a0 24))] (by simp [Zb8,Zeg]) rfl (by simp [maxLen])
  refine n_q H (Zb rfl) rfl ?_;clear H a;intro a H
  refine Ze (Za (wp_ret ?_))
  obtain rfl:=Option.some.inj hm
  refine Je H (.inr rfl) rfl rfl ?_
  exact⟨_,rfl,hS⟩
theorem Zk8 {w : World} {A : Nat → Addr} {v0 : Value} {a0 : List UInt8} (h0 : SlR w 1 (Zq eB) v0 a0) {r : List UInt8} (hm : Zcs a0=some r) :
    Calls Tryz.prog 98 [v0].toArray w (Ret fun u w'=>∃ h_0,u=h_0 ∧ St NB w w' [ownR 5 1 h_0 r.length (r.flatMap eB)]):=by
  have hS:=St.begin NB w
  unfold Zcs at hm
  refine enter Tryz.func98 rfl rfl rfl ?_;intro a H;dsimp only [Qk,Nat.zero_add,Nat.reduceAdd] at H
  refine wp_seq (wp_region_lit (n_q H (Zb rfl) rfl ?_));clear H a;intro a H
  refine Ze (Za (wp_seq (wp_region_lit (n_q H (Zc rfl) rfl ?_))));clear H a;intro a H
  replace hm:=Zi hm;obtain⟨aI,aA,hm⟩:=hm
  refine Zj H rfl en171 (Zdy (A:=A) (h0.ext (Zq.mono _) hS.x) aA) rfl ?_
  clear H;intro aJ aK hv;clear a;intro a H;obtain⟨_,rfl,aB⟩:=hv
  replace hS:=hS.new aB;simp only [List.cons_append,List.nil_append] at hS
  refine n_q H (Zc rfl) rfl ?_;clear H a;intro a H
  replace hm:=Zi hm;obtain⟨aL,aC,hm⟩:=hm
  refine Zj H rfl Zt2 (Ze1 (A:=A) (h0.ext (Zq.mono _) hS.x) aC) rfl ?_
  clear H;intro aM aN hv;clear a;intro a H;obtain⟨rfl,aD⟩:=hv
  replace hS:=hS.ext aD
  replace hm:=Zi hm;obtain⟨aO,aE,hm⟩:=hm
  refine Zj H rfl en172 (Zgu (A:=A) aE) rfl ?_
  clear H;intro u32 aP hv;clear a;intro a H;obtain⟨_,rfl,aF⟩:=hv
  replace hS:=hS.new aF;simp only [List.cons_append,List.nil_append] at hS
  replace hS:=hS.pk1
  replace hm:=Tj hm;obtain⟨aG,hm⟩:=hm
  refine Zb1 (e:=eB) H rfl rfl Tryz.underlying100 Tryz.underlying100 (by simp) el5 (hS.own 0 rfl) (((hS.own 1 rfl).slr rfl (fun _ _=>rfl)).src (fun _ _=>rfl)) Zal aG (by simp only [maxLen];omega) rfl ?_
  clear H;intro aQ aR hN aH hb;clear a;intro a H;replace hS:=hS.setOwn hN aH hb;clear hN hb
  refine n_q H (Zb rfl) rfl ?_;clear H a;intro a H
  refine Ze (Za (wp_ret ?_))
  obtain rfl:=Option.some.inj hm
  replace hS:=hS.tk1
  refine Je H (.inr rfl) rfl rfl ?_
  exact⟨_,rfl,hS⟩
theorem Zaj {w : World} {A : Nat → Addr} {cs0 : List Value} {a0 : GPlan} (hG : EV A w) (h0 : Qw w cs0 a0) {r : List UInt8 × ErrM} (hm : Yb a0=some r) :
    Calls Tryz.prog 47 [.agg cs0.toArray].toArray w (Ret fun u w'=>∃ h_0 h_1,u=.tuple #[h_0,h_1] ∧ St NB w w' [ownR 5 1 h_0 r.1.length (r.1.flatMap eB),erQ A h_1 r.2]):=by
  obtain⟨aB,aC,aD,aE,rfl,aG,aH,aI,aJ⟩:=h0
  have hS:=St.begin NB w
  unfold Yb at hm
  refine enter Tryz.func47 rfl rfl rfl ?_;intro a H;dsimp only [Qk,Nat.zero_add,Nat.reduceAdd] at H
  refine wp_seq (wp_region_lit (Wt H rfl (cs:=[.int .i64 a0.Id,.bool a0.Mobile,aB,aC,aD,.int .i64 a0.Events,aE]) rfl rfl ?_))
  clear H;intro eX eY hN dA hs;clear a;intro a H
  replace hS:=hS.newBlk hN dA hs;clear hN hs
  refine n_q H (Zb rfl) rfl (W_q (Zb rfl) rfl ?_);clear H a;intro a H
  refine Ze (Za (wp_seq (wp_seq (wp_region_lit (n_q H (Zf rfl ((hS.blk 0 rfl).ldAll Zap Ut)) rfl ?_)))));clear H a;intro a H
  replace hm:=Zi hm;obtain⟨aW,dB,hm⟩:=hm
  refine Zj H rfl en57 (Ht (A:=A) (hG.ext hS.x) (⟨_,_,_,_,rfl,(aG.ext (Zq.mono _) hS.x),(aH.ext (Zq.mono _) hS.x),(aI.ext (Zq.mono _) hS.x),(aJ.ext (Zq.mono _) hS.x)⟩ : Qw _ [.int .i64 a0.Id,.bool a0.Mobile,aB,aC,aD,.int .i64 a0.Events,aE] a0) dB) rfl ?_
  clear H;intro cJ cK hv;clear a;intro a H;obtain⟨_,rfl,dC⟩:=hv
  replace hS:=hS.new dC;simp only [List.cons_append,List.nil_append] at hS
  refine n_q H (Qo (Va Tryz.underlying39 rfl rfl (hS.any 0 rfl : IsE A cK cJ aW).form) (show _=Value.bool (!decide (aW=.nil)) by rw [Xw.isNil (hS.any 0 rfl : IsE A cK cJ aW)])) rfl ?_;clear H a;intro a H
  refine Ze (Za (Zl H rfl (fun aK=>?_) (fun aK=>?_)))
  · replace hm:=Zu hm aK
    refine wp_seq (Ww (by kernel_rfl) (by kernel_rfl) ?_)
    refine Xb H (Zf rfl ((hG.ext hS.x).ld Hr (by decide) Hv)) rfl ?_;clear H a;intro a H
    refine Xb H (Zb rfl) rfl ?_;clear H a;intro a H
    refine Xb H (Zb rfl) rfl ?_;clear H a;intro a H
    refine To ?_;intro eZ dD
    replace hS:=hS.ext dD
    refine Za (wp_ret (Zh ?_))
    obtain rfl:=Option.some.inj hm
    replace hS:=hS.nilOwn 5 1
    replace hS:=hS.dVar (A:=A) (g:=Hr) (by decide)
    replace hS:=hS.pk1
    replace hS:=hS.tk2
    refine Zda H (.inr rfl) rfl rfl rfl ?_
    exact⟨_,_,rfl,hS⟩
  replace hm:=Zv hm aK
  refine wp_skip (Za (wp_seq (wp_region_lit (n_q H (Zf rfl ((hS.blk 1 rfl).ldAll Zap Ut)) rfl ?_))));clear H a;intro a H
  replace hm:=Zi hm;obtain⟨aX,dE,hm⟩:=hm
  refine Zj H rfl en91 (Zg3 (A:=A) (hG.ext hS.x) (⟨_,_,_,_,rfl,(aG.ext (Zq.mono _) hS.x),(aH.ext (Zq.mono _) hS.x),(aI.ext (Zq.mono _) hS.x),(aJ.ext (Zq.mono _) hS.x)⟩ : Qw _ [.int .i64 a0.Id,.bool a0.Mobile,aB,aC,aD,.int .i64 a0.Events,aE] a0) dE) rfl ?_
  clear H;intro e8 e9 hv;clear a;intro a H;obtain⟨dZ,cL,cM,rfl,dF⟩:=hv
  replace hS:=hS.new dF;simp only [List.cons_append,List.nil_append] at hS
  replace hS:=hS.pk2
  replace hS:=hS.pk2
  replace hS:=hS.pk2
  obtain⟨d9,aY,dG,dH,aZ⟩:=hS.frame (rs1:=[blkR dZ [cL,cM] 244,ownR 5 1 cL aX.buf_.length (aX.buf_.flatMap eB),erQ A cM aX.err_])
  replace hm:=Zi hm;obtain⟨a9,dI,hm⟩:=hm
  refine Zj H rfl en92 (Hk (A:=A) aY dI) rfl ?_
  clear H;intro fA cN hv;clear a;intro a H;obtain⟨fB,cO,fC,fD,rfl,dJ⟩:=hv
  replace hS:=aZ _ _ dJ;simp only [List.cons_append,List.nil_append] at hS;clear aY dG dH aZ
  refine n_q H (Zc rfl) rfl (W_q (Zk rfl rfl) rfl (W_q (Zk rfl rfl) rfl (W_q (Zb rfl) rfl (W_q (Zb rfl) rfl ?_))));clear H a;intro a H
  refine Ze (Za (wp_seq (wp_seq (wp_region_lit (n_q H (Zc rfl) rfl (W_q (Qo (Va Tryz.underlying39 rfl rfl (hS.any 3 rfl : IsE A cN cO a9.2.1).form) (show _=Value.bool (!decide (a9.2.1=.nil)) by rw [Xw.isNil (hS.any 3 rfl : IsE A cN cO a9.2.1)])) rfl ?_))))));clear H a;intro a H
  refine Ze (Za (Zl H rfl (fun aL=>?_) (fun aL=>?_)))
  · replace hm:=Zu hm aL
    refine wp_seq (wp_region_lit (n_q H (Zc rfl) rfl (W_q (Zb rfl) rfl (W_q (Zb rfl) rfl ?_))));clear H a;intro a H
    refine Ze (Za (wp_ret (Zh ?_)))
    obtain rfl:=Option.some.inj hm
    replace hS:=hS.nilOwn 5 1
    replace hS:=hS.pk4
    replace hS:=hS.pk1
    replace hS:=hS.tk2
    refine Zda H (.inr rfl) rfl rfl rfl ?_
    exact⟨_,_,rfl,hS⟩
  replace hm:=Zv hm aL
  refine wp_skip (Za (wp_seq (wp_region_lit ?_)))
  replace hm:=Zi hm;obtain⟨bA,dK,hm⟩:=hm
  refine Zj H rfl en93 (Tw (A:=A) dK) rfl ?_
  clear H;intro fE fF hv;clear a;intro a H;obtain⟨aA,cP,cQ,rfl,dL⟩:=hv
  replace hS:=hS.new dL;simp only [List.cons_append,List.nil_append] at hS
  refine n_q H (Zb rfl) rfl ?_;clear H a;intro a H
  refine Ze (Za (wp_seq (wp_region_lit (n_q H (Zc rfl) rfl ?_))));clear H a;intro a H
  refine Zgr H Tryz.underlying100 Tryz.underlying5 sz5 ze5 rfl rfl rfl (cs:=[.int .u8 70,.int .u8 80,.int .u8 76,.int .u8 78]) (by kernel_rfl) rfl rfl ?_
  clear H;intro fG fH hN dM hs;clear a;intro a H
  replace hS:=hS.newBlk hN dM hs;clear hN hs
  replace hS:=hS.blkOwnL (e:=eB) (k:=1) [(Zt 70),(Zt 80),(Zt 76),(Zt 78)] (by kernel_rfl) rfl (by simp [maxLen])
  replace hS:=hS.pk3
  replace hS:=hS.pk3
  replace hS:=hS.pk3
  obtain⟨eA,bB,dN,bC,bD⟩:=hS.frame (rs1:=[blkR aA [cP,cQ] 244,ownR 5 1 cP bA.buf_.length (bA.buf_.flatMap eB),erQ A cQ bA.err_])
  replace hm:=Zi hm;obtain⟨bE,dO,hm⟩:=hm
  refine Zj H rfl en94 (Hz (A:=A) bB (fun w' hw=>(Kn (bC 0 _ rfl _ hw)).slr rfl (fun _ _=>rfl)) dO) rfl ?_
  clear H;intro fI fJ hv;clear a;intro a H;obtain⟨cR,cT,rfl,dP⟩:=hv
  replace hS:=bD _ _ dP;simp only [List.cons_append,List.nil_append] at hS;clear bB dN bC bD
  refine Ze (Za (wp_seq (wp_region_lit (n_q H (Zc rfl) rfl ?_))));clear H a;intro a H
  replace hS:=hS.pk2
  replace hS:=hS.pk2
  replace hS:=hS.pk2
  obtain⟨eC,bF,bG,dQ,bH⟩:=hS.frame (rs1:=[blkR aA [cR,cT] 244,ownR 5 1 cR bE.buf_.length (bE.buf_.flatMap eB),erQ A cT bE.err_])
  replace hm:=Zi hm;obtain⟨bI,dR,hm⟩:=hm
  refine Zj H rfl en95 (Ze0 (A:=A) (fun w' hw=>hG.ext (bG _ hw).ext) bF dR) rfl ?_
  clear H;intro fK fL hv;clear a;intro a H;obtain⟨cU,cV,rfl,dS⟩:=hv
  replace hS:=bH _ _ dS;simp only [List.cons_append,List.nil_append] at hS;clear bF bG dQ bH
  refine Ze (Za (wp_seq (wp_region_lit (n_q H (Zc rfl) rfl (W_q (Zc rfl) rfl ?_)))));clear H a;intro a H
  obtain⟨fM,fN,dT,eD,eE⟩:=SlR.formV ((hS.own 6 rfl).slr rfl (fun _ _=>rfl))
  refine n_q H (Qf Tryz.underlying100 rfl dT) rfl (W_q (Xv rfl rfl) rfl (W_q (Xv rfl rfl) rfl ?_));clear H a;intro a H
  replace hS:=hS.pk2
  replace hS:=hS.pk2
  replace hS:=hS.pk2
  obtain⟨eG,bJ,bK,dU,bL⟩:=hS.frame (rs1:=[blkR aA [cU,cV] 244,ownR 5 1 cU bI.buf_.length (bI.buf_.flatMap eB),erQ A cV bI.err_])
  replace hm:=Zi hm;obtain⟨bM,dV,hm⟩:=hm
  refine Zj H rfl en96 (Ta (A:=A) (fun w' hw=>hG.ext (bK _ hw).ext) bJ dV) rfl ?_
  clear H;intro fO fP hv;clear a;intro a H;obtain⟨cW,cX,rfl,dW⟩:=hv
  replace hS:=bL _ _ dW;simp only [List.cons_append,List.nil_append] at hS;clear bJ bK dU bL
  refine Ze (Za (wp_seq (wp_region_lit (n_q H (Zc rfl) rfl (W_q (Zd rfl Zeh) rfl (W_q (Zf rfl ((hS.blk 9 rfl).ld ag3 rfl)) rfl ?_))))));clear H a;intro a H
  replace hS:=hS.pk2
  replace hS:=hS.pk2
  replace hS:=hS.pk2
  obtain⟨eH,bN,bO,dX,bP⟩:=hS.frame (rs1:=[blkR aA [cW,cX] 244,ownR 5 1 cW bM.buf_.length (bM.buf_.flatMap eB),erQ A cX bM.err_])
  replace hm:=Zi hm;obtain⟨bQ,dY,hm⟩:=hm
  refine Zj H rfl en96 (Ta (A:=A) (fun w' hw=>hG.ext (bO _ hw).ext) bN dY) rfl ?_
  clear H;intro eJ fQ hv;clear a;intro a H;obtain⟨cY,cZ,rfl,bX⟩:=hv
  replace hS:=bP _ _ bX;simp only [List.cons_append,List.nil_append] at hS;clear bN bO dX bP
  refine Ze (Za (wp_seq (wp_region_lit (n_q H (Zc rfl) rfl (W_q (Zd rfl Zk4) rfl (W_q (Zf rfl ((hS.blk 9 rfl).ld ag4 rfl)) rfl ?_))))));clear H a;intro a H
  replace hS:=hS.pk2
  replace hS:=hS.pk2
  replace hS:=hS.pk2
  obtain⟨d5,aP,bY,bZ,aQ⟩:=hS.frame (rs1:=[blkR aA [cY,cZ] 244,ownR 5 1 cY bQ.buf_.length (bQ.buf_.flatMap eB),erQ A cZ bQ.err_])
  replace hm:=Zi hm;obtain⟨aM,b7,hm⟩:=hm
  refine Zj H rfl en97 (Zaw (A:=A) aP b7) rfl ?_
  clear H;intro eK eL hv;clear a;intro a H;obtain⟨bR,bS,rfl,b8⟩:=hv
  replace hS:=aQ _ _ b8;simp only [List.cons_append,List.nil_append] at hS;clear aP bY bZ aQ
  refine Ze (Za (wp_seq (wp_region_lit (n_q H (Zc rfl) rfl (W_q (Zc rfl) rfl ?_)))));clear H a;intro a H
  replace hS:=hS.pk2
  replace hS:=hS.pk2
  replace hS:=hS.pk2
  obtain⟨d7,aR,b9,aS,aT⟩:=hS.frame (rs1:=[blkR aA [bR,bS] 244,ownR 5 1 bR aM.buf_.length (aM.buf_.flatMap eB),erQ A bS aM.err_])
  replace hm:=Zi hm;obtain⟨aN,cA,hm⟩:=hm
  refine Zj H rfl en94 (Hz (A:=A) aR (fun w' hw=>(Kn (aS 3 _ rfl _ hw)).slr rfl (fun _ _=>rfl)) cA) rfl ?_
  clear H;intro eM eN hv;clear a;intro a H;obtain⟨bT,bU,rfl,cB⟩:=hv
  replace hS:=aT _ _ cB;simp only [List.cons_append,List.nil_append] at hS;clear aR b9 aS aT
  refine Ze (Za (wp_seq (wp_region_lit (n_q H (Zc rfl) rfl ?_))));clear H a;intro a H
  replace hS:=hS.pk2
  replace hS:=hS.pk2
  replace hS:=hS.pk2
  obtain⟨d8,aU,cC,cD,aV⟩:=hS.frame (rs1:=[blkR aA [bT,bU] 244,ownR 5 1 bT aN.buf_.length (aN.buf_.flatMap eB),erQ A bU aN.err_])
  replace hm:=Zi hm;obtain⟨aO,cF,hm⟩:=hm
  refine Zj H rfl en92 (Hk (A:=A) aU cF) rfl ?_
  clear H;intro eO bV hv;clear a;intro a H;obtain⟨eP,bW,eQ,eT,rfl,cG⟩:=hv
  replace hS:=aV _ _ cG;simp only [List.cons_append,List.nil_append] at hS;clear aU cC cD aV
  refine n_q H (Zc rfl) rfl (W_q (Zk rfl rfl) rfl (W_q (Zk rfl rfl) rfl (W_q (Zb rfl) rfl (W_q (Zb rfl) rfl ?_))));clear H a;intro a H
  refine Ze (Za (wp_seq (wp_seq (wp_region_lit (n_q H (Zc rfl) rfl (W_q (Qo (Va Tryz.underlying39 rfl rfl (hS.any 3 rfl : IsE A bV bW aO.2.1).form) (show _=Value.bool (!decide (aO.2.1=.nil)) by rw [Xw.isNil (hS.any 3 rfl : IsE A bV bW aO.2.1)])) rfl ?_))))));clear H a;intro a H
  refine Ze (Za (Zl H rfl (fun aF=>?_) (fun aF=>?_)))
  · replace hm:=Zu hm aF
    refine wp_seq (wp_region_lit (n_q H (Zc rfl) rfl (W_q (Zb rfl) rfl (W_q (Zb rfl) rfl ?_))));clear H a;intro a H
    refine Ze (Za (wp_ret (Zh ?_)))
    obtain rfl:=Option.some.inj hm
    replace hS:=hS.nilOwn 5 1
    replace hS:=hS.pk4
    replace hS:=hS.pk1
    replace hS:=hS.tk2
    refine Zda H (.inr rfl) rfl rfl rfl ?_
    exact⟨_,_,rfl,hS⟩
  replace hm:=Zv hm aF
  refine wp_skip (Za (wp_seq (wp_region_lit (n_q H (Zc rfl) rfl ?_))));clear H a;intro a H
  replace hm:=Zi hm;obtain⟨eU,cH,hm⟩:=hm
  refine Zj H rfl en98 (Zk8 (A:=A) ((hS.own 2 rfl).slr rfl (fun _ _=>rfl)) cH) rfl ?_
  clear H;intro eV eW hv;clear a;intro a H;obtain⟨_,rfl,cI⟩:=hv
  replace hS:=hS.new cI;simp only [List.cons_append,List.nil_append] at hS
  refine n_q H (Zb rfl) rfl (W_q (Zb rfl) rfl ?_);clear H a;intro a H
  refine Ze (Za (wp_ret ?_))
  obtain rfl:=Option.some.inj hm
  replace hS:=hS.dNil (A:=A)
  replace hS:=hS.pk1
  replace hS:=hS.tk2
  refine Zda H (.inr rfl) rfl rfl rfl ?_
  exact⟨_,_,rfl,hS⟩
theorem Qe {w : World} {A : Nat → Addr} {v0 : Value} {a0 : List Int} (h0 : SlR w 1 (Zq eI) v0 a0) {r : List Int} (hm : Gf a0=some r) :
    Calls Tryz.prog 125 [v0].toArray w (Ret fun u w'=>∃ h_0,u=h_0 ∧ St NB w w' [ownR 3 1 h_0 r.length (r.flatMap eI)]):=by
  have hS:=St.begin NB w
  unfold Gf at hm
  refine enter Tryz.func125 rfl rfl rfl ?_;intro a H;dsimp only [Qk,Nat.zero_add,Nat.reduceAdd] at H
  refine wp_seq (wp_region_lit (n_q H (Zb rfl) rfl ?_));clear H a;intro a H
  refine Ze (Za (wp_seq (wp_seq (wp_region_lit (n_q H (Zc rfl) rfl ?_)))));clear H a;intro a H
  obtain⟨aH,aI,aA,aF,aG⟩:=SlR.formV (h0.ext (Zq.mono _) hS.x)
  refine n_q H (Zpn Tryz.underlying25 rfl aA rfl) rfl ?_;clear H a;intro a H
  refine Ze (Za (Zl H rfl (fun aB=>?_) (fun aB=>?_)))
  · obtain rfl:=SlR.nilV (h0.ext (Zq.mono _) hS.x) aA aB;replace hm:=Tj hm;obtain⟨_,hm⟩:=hm
    refine wp_seq (wp_region_lit (n_q H (Zb rfl) rfl ?_));clear H a;intro a H
    refine Ze (Za (wp_ret (Zh ?_)))
    obtain rfl:=Option.some.inj hm
    replace hS:=hS.nilOwn 3 1
    refine Je H (.inr rfl) rfl rfl ?_
    exact⟨_,rfl,hS⟩
  refine wp_skip (Za (wp_seq (wp_region_lit (Qd H Tryz.underlying25 sz3 ze3 rfl rfl rfl (cs:=[]) rfl rfl ?_))))
  clear H;intro aJ aK hN aC hs;clear a;intro a H
  replace hS:=hS.newBlk hN aC hs;clear hN hs
  replace hS:=hS.blkOwnL (e:=eI) (k:=1) ([] : List Int) rfl rfl (by simp [maxLen])
  refine n_q H (Zc rfl) rfl ?_;clear H a;intro a H
  replace hm:=Tj hm;obtain⟨aD,hm⟩:=hm
  refine Zb1 (e:=eI) H rfl rfl Tryz.underlying25 Tryz.underlying25 (by simp) el3 (hS.own 0 rfl) ((h0.ext (Zq.mono _) hS.x).src (fun _ _=>rfl)) Zkt aD (by simp only [maxLen];omega) rfl ?_
  clear H;intro aL aM hN aE hb;clear a;intro a H;replace hS:=hS.setOwn hN aE hb;clear hN hb
  refine n_q H (Zb rfl) rfl ?_;clear H a;intro a H
  refine Ze (Za (wp_ret ?_))
  obtain rfl:=Option.some.inj hm
  refine Je H (.inr rfl) rfl rfl ?_
  exact⟨_,rfl,hS⟩
end Go.Proofs.YtfemfiiagjnhdaaGreatDoor
