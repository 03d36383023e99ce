/- Part of a claim, shortened by a program from its texts: PbE. -/
import Derived.Test.YtfemfiiagjnhdaaGreatDoorQyG
set_option linter.unusedVariables false
set_option linter.unusedSimpArgs false
set_option maxRecDepth 10000
namespace Go.Proofs.YtfemfiiagjnhdaaGreatDoor
open Go Go.RowKit
theorem Zf9 : Za5 Tryz.prog 188=some true:=by kernel_rfl
theorem Zld : bdB Tryz.prog 188=true:=by kernel_rfl
theorem Zle : Gj Tryz.prog 188=some #[(0,1),(1,1)]:=by kernel_rfl
theorem bd190 : bdB Tryz.prog 190=true:=by kernel_rfl
theorem pl190 : Gj Tryz.prog 190=some #[(0,1),(1,2)]:=by kernel_rfl
theorem bd270 : bdB Tryz.prog 270=true:=by kernel_rfl
theorem pl270 : Gj Tryz.prog 270=some #[(0,1),(1,1),(2,1)]:=by kernel_rfl
theorem bd274 : bdB Tryz.prog 274=true:=by kernel_rfl
theorem pl274 : Gj Tryz.prog 274=some #[(0,1),(1,1)]:=by kernel_rfl
theorem el274 : ElemOk Tryz.prog 274 2 32 [.int .i64 0,.slice none 0 0]:=⟨by kernel_rfl,by kernel_rfl,by kernel_rfl,rfl,by decide⟩
theorem en108 : Zs Tryz.prog 108=true:=by kernel_rfl
theorem en109 : Zs Tryz.prog 109=true:=by kernel_rfl
theorem en110 : Zs Tryz.prog 110=true:=by kernel_rfl
theorem Zr3 : Zs Tryz.prog 111=true:=by kernel_rfl
theorem en112 : Zs Tryz.prog 112=true:=by kernel_rfl
theorem en113 : Zs Tryz.prog 113=true:=by kernel_rfl
theorem en114 : Zs Tryz.prog 114=true:=by kernel_rfl
theorem en115 : Zs Tryz.prog 115=true:=by kernel_rfl
theorem en116 : Zs Tryz.prog 116=true:=by kernel_rfl
theorem en117 : Zs Tryz.prog 117=true:=by kernel_rfl
theorem Zui : Zs Tryz.prog 136=true:=by kernel_rfl
theorem en185 : Zs Tryz.prog 185=true:=by kernel_rfl
theorem Zp6 : Zs Tryz.prog 186=true:=by kernel_rfl
theorem Zuj : Zs Tryz.prog 187=true:=by kernel_rfl
theorem Zr4 : Zs Tryz.prog 188=true:=by kernel_rfl
theorem Zol : Zs Tryz.prog 189=true:=by kernel_rfl
theorem en190 : Zs Tryz.prog 190=true:=by kernel_rfl
theorem Zr5 : Zs Tryz.prog 191=true:=by kernel_rfl
theorem en192 : Zs Tryz.prog 192=true:=by kernel_rfl
theorem en193 : Zs Tryz.prog 193=true:=by kernel_rfl
theorem en204 : Zs Tryz.prog 204=true:=by kernel_rfl
theorem en239 : Zs Tryz.prog 239=true:=by kernel_rfl
theorem en33 : Zs Tryz.prog 33=true:=by kernel_rfl
theorem en50 : Zs Tryz.prog 50=true:=by kernel_rfl
theorem en52 : Zs Tryz.prog 52=true:=by kernel_rfl
theorem Zuk : fdB Tryz.prog 124 0=some (false,0,1):=by kernel_rfl
theorem Zmo : Zb2 Tryz.prog 188 0=some 0:=by kernel_rfl
theorem Zhy : Zb2 Tryz.prog 190 0=some 0:=by kernel_rfl
theorem Zp7 : Zb2 Tryz.prog 190 1=some 1:=by kernel_rfl
theorem Zmp : Zb2 Tryz.prog 270 0=some 0:=by kernel_rfl
theorem Hm : Zb2 Tryz.prog 270 1=some 1:=by kernel_rfl
theorem Zp8 : Zb2 Tryz.prog 270 2=some 2:=by kernel_rfl
theorem Zhz : Zb2 Tryz.prog 274 0=some 0:=by kernel_rfl
theorem Zul : Zb2 Tryz.prog 274 1=some 1:=by kernel_rfl
theorem Tm : Xx Tryz.prog 188=some 2:=by kernel_rfl
theorem Zmq : Xx Tryz.prog 274=some 2:=by kernel_rfl
theorem Zd1 : Gc Tryz.prog 188=some [.int .i64 0,.int .i64 0]:=by kernel_rfl
theorem ze190 : Gc Tryz.prog 190=some [.slice none 0 0,.int .i64 0,.int .i64 0]:=by kernel_rfl
theorem ze270 : Gc Tryz.prog 270=some [.slice none 0 0,.int .i64 0,.int .i64 0]:=by kernel_rfl
theorem ze274 : Gc Tryz.prog 274=some [.int .i64 0,.slice none 0 0]:=by kernel_rfl
theorem Zlf {w : World} {A : Nat → Addr} {cs0 : List Value} {a0 : GPlan} (h0 : Qw w cs0 a0) {r : Bool} (hm : Zcv a0=some r) :
    Calls Tryz.prog 33 [.agg cs0.toArray].toArray w (Ret fun u w'=>u=.bool r ∧ Ext w w'):=by
  obtain⟨aA,aB,aC,aD,rfl,aE,aF,aG,aH⟩:=h0
  have hS:=St.begin NB w
  unfold Zcv at hm
  refine enter Tryz.func33 rfl rfl rfl ?_;intro a H;dsimp only [Qk,Nat.zero_add,Nat.reduceAdd] at H
  refine wp_seq (wp_region_lit (Wt H rfl (cs:=[.int .i64 a0.Id,.bool a0.Mobile,aA,aB,aC,.int .i64 a0.Events,aD]) rfl rfl ?_))
  clear H;intro aL aM hN aI hs;clear a;intro a H
  replace hS:=hS.newBlk hN aI hs;clear hN hs
  refine n_q H (Zb rfl) rfl ?_;clear H a;intro a H
  refine Ze (Za (wp_seq (wp_region_lit (n_q H (Zf rfl ((hS.blk 0 rfl).ldAll Zap Ut)) rfl ?_))));clear H a;intro a H
  replace hm:=Zi hm;obtain⟨aN,aJ,hm⟩:=hm
  refine Zj H rfl en52 (Zj6 (A:=A) (⟨_,_,_,_,rfl,(aE.ext (Zq.mono _) hS.x),(aF.ext (Zq.mono _) hS.x),(aG.ext (Zq.mono _) hS.x),(aH.ext (Zq.mono _) hS.x)⟩ : Qw _ [.int .i64 a0.Id,.bool a0.Mobile,aA,aB,aC,.int .i64 a0.Events,aD] a0) aJ) rfl ?_
  clear H;intro aO aP hv;clear a;intro a H;obtain⟨rfl,aK⟩:=hv
  replace hS:=hS.ext aK
  refine n_q H (Zrh Zuk rfl rfl) rfl (W_q (Ky rfl rfl) rfl (W_q (Zb rfl) rfl ?_));clear H a;intro a H
  refine Ze (Za (wp_ret ?_))
  obtain rfl:=Option.some.inj hm
  replace hS:=hS.tk0
  refine Je H (.inr rfl) rfl rfl ?_
  exact⟨rfl,hS.x⟩
theorem Zb4 {w : World} {A : Nat → Addr} {r : GR02Err} (hm : Uz=some r) :
    Calls Tryz.prog 188 [].toArray w (Ret fun u w'=>u=.agg (Zfj r).toArray ∧ Ext w w'):=by
  have hS:=St.begin NB w
  unfold Uz at hm
  refine enter Tryz.func188 rfl rfl rfl ?_;intro a H;dsimp only [Qk,Nat.zero_add,Nat.reduceAdd] at H
  refine wp_seq (wp_region_lit (Qr H Zd1 rfl ?_))
  clear H;intro aC aD hN aA hs;clear a;intro a H
  replace hS:=hS.newBlk hN aA hs;clear hN hs
  refine Ze (Za (wp_seq (wp_region_lit (n_q H (Zz (cs:=[.int .i64 0,.int .i64 (-1)]) Zd1 Zld Zle rfl (by kernel_rfl)) rfl ?_))));clear H a;intro a H
  refine Zr H rfl rfl (vs:=[.int .i64 0,.int .i64 (-1)]) rfl Tm (hS.blk 0 rfl) rfl (by simp) ?_
  clear H;intro aE hN aB hz;clear a;intro a H;replace hS:=hS.setBlk hN aB;clear hN hz
  refine Ze (Za (wp_ret ?_))
  obtain rfl:=Option.some.inj hm
  refine Ti H (.inr rfl) rfl (vs:=[.agg #[.int .i64 0,.int .i64 (-1)]]) (Qm rfl ((hS.blk 0 rfl).ldAll Zf9 Tm) Qv) ?_
  replace hS:=hS.tk0
  exact⟨rfl,hS.x⟩
theorem Zh0 {w : World} {A : Nat → Addr} {r : GR02Writer} (hm : Zcw=some r) :
    Calls Tryz.prog 109 [].toArray w (Ret fun u w'=>∃ (h_0 : Nat) (h_1 : Value),u=.pointer (some ⟨h_0,0,none⟩) ∧ St NB w w' [blkR h_0 [h_1,.int .i64 r.Err.Code,.int .i64 r.Err.Place] 190,ownR 5 1 h_1 r.B.length (r.B.flatMap eB)]):=by
  have hS:=St.begin NB w
  unfold Zcw at hm
  refine enter Tryz.func109 rfl rfl rfl ?_;intro a H;dsimp only [Qk,Nat.zero_add,Nat.reduceAdd] at H
  refine wp_seq (wp_region_lit (n_q H (Zb rfl) rfl ?_));clear H a;intro a H
  refine Ze (Za (wp_seq (wp_region_lit ?_)))
  replace hm:=Zi hm;obtain⟨aA,aB,hm⟩:=hm
  refine Zj H rfl Zr4 (Zb4 (A:=A) aB) rfl ?_
  clear H;intro aE aF hv;clear a;intro a H;obtain⟨rfl,aC⟩:=hv
  replace hS:=hS.ext aC
  refine n_q H (Zz (cs:=[.slice none 0 0,.int .i64 aA.Code,.int .i64 aA.Place]) ze190 bd190 pl190 rfl (by kernel_rfl)) rfl ?_;clear H a;intro a H
  refine Wt H rfl (cs:=[.slice none 0 0,.int .i64 aA.Code,.int .i64 aA.Place]) rfl rfl ?_
  clear H;intro aG aH hN aD hs;clear a;intro a H
  replace hS:=hS.newBlk hN aD hs;clear hN hs
  refine n_q H (Zb rfl) rfl ?_;clear H a;intro a H
  refine Ze (Za (wp_ret ?_))
  obtain rfl:=Option.some.inj hm
  replace hS:=hS.nilOwn 5 1
  replace hS:=hS.pk1
  refine Je H (.inr rfl) rfl rfl ?_
  exact⟨_,_,rfl,hS⟩
theorem Zcg {w : World} {A : Nat → Addr} {a0 : Int} {a1 : Int} {r : List UInt8} (hm : Vq a0 a1=some r) :
    Calls Tryz.prog 187 [.int .i64 a0,.int .i64 a1].toArray w (Ret fun u w'=>∃ h_0,u=h_0 ∧ St NB w w' [ownR 5 1 h_0 r.length (r.flatMap eB)]):=by
  have hS:=St.begin NB w
  unfold Vq at hm
  refine enter Tryz.func187 rfl rfl rfl ?_;intro a H;dsimp only [Qk,Nat.zero_add,Nat.reduceAdd] at H
  refine wp_seq (wp_region_lit (n_q H (Zb rfl) rfl ?_));clear H a;intro a H
  refine Ze (Za (wp_seq (wp_region_lit (n_q H (Zc rfl) rfl ?_))));clear H a;intro a H
  replace hm:=Tj hm;obtain⟨aH,hm⟩:=hm
  replace hm:=Tj hm;obtain⟨aL,hm⟩:=hm
  refine Ztv (e:=eB) (z0:=(Zt 0)) (L:=a1.toNat) (C:=a1.toNat) H Tryz.underlying100 el5 rfl (by show _=some (Value.int .i64 ((Int.toNat a1 : Nat) : Int));rw [Int.toNat_of_nonneg aH];rfl) (by show _=some (Value.int .i64 ((Int.toNat a1 : Nat) : Int));rw [Int.toNat_of_nonneg aH];rfl) (Nat.le_refl _) aL (by simp only [maxLen];omega) rfl ?_
  clear H;intro aJ aV hN aM hs;clear a;intro a H;replace hS:=hS.newOwn hN aM (by simp [Wa];omega);clear hN
  refine n_q H (Zb rfl) rfl ?_;clear H a;intro a H
  refine Ze (Za (wp_seq (wp_seq (wp_region_lit (n_q H (Zc rfl) rfl (W_q (Zcj rfl rfl) rfl (W_q (Zb rfl) rfl ?_)))))));clear H a;intro a H
  refine Ze (Za (wp_block ?_))
  replace hm:=Zi hm;obtain⟨aK,hm,aN⟩:=hm;replace hm:=Qg hm;obtain⟨aQ,hm⟩:=hm
  refine Jd (σ:=Nat × Int × (List UInt8) × Int) (fun (m,aA,aB,aC)=>[(0,.int .i64 aA),(5,.slice (some ⟨aJ,0,none⟩) a1.toNat a1.toNat),(6,.int .i64 aC)]) (fun (m,aA,aB,aC) wl=>Js Wr m (aA,aB,aC)=some aK ∧ St NB w wl [ownR 5 1 (.slice (some ⟨aJ,0,none⟩) a1.toNat a1.toNat) aB.length (aB.flatMap eB)]) (fun (m,aA,aB,aC)=>m) (aQ,a0,(List.replicate a1.toNat (Zt 0)),(IntKind.i64.wrap (a1 - 1))) H ⟨rfl,rfl,rfl,trivial⟩ ⟨hm,hS⟩ ?_
  clear H hS hm a;intro xx a aW H hR;obtain⟨m,aA,aB,aC⟩:=xx;simp only [ent,List.map_cons,List.map_nil] at H;(try dsimp only at hR);obtain⟨hm,hS⟩:=hR
  replace hm:=Qa hm;obtain⟨aR,aX,rfl,hm,aI⟩:=hm;try dsimp only [Wr] at hm
  refine wp_seq (wp_seq (wp_region_lit (n_q H (Zc rfl) rfl (W_q (Zn5 rfl rfl) rfl ?_))));clear H a;intro a H
  refine Ze (Za (Zl H rfl (fun aD=>?_) (fun aD=>?_)))
  · replace hm:=Zu hm aD
    refine wp_skip (Za (wp_seq (wp_block (wp_seq (wp_region_lit (n_q H (Zc rfl) rfl (W_q (Zc rfl) rfl (W_q (Zc rfl) rfl (W_q (Zo1 rfl rfl (by decide)) rfl (W_q (Xn Tryz.underlying3 Tryz.underlying5 ⟨_,rfl⟩ rfl) rfl ?_))))))))));clear H a;intro a H
    obtain⟨aY,aZ,aE,aT,aU⟩:=SlR.formV ((hS.own 0 rfl).slr rfl (fun _ _=>rfl))
    replace hm:=Zi hm;obtain⟨a9,aO,hm⟩:=hm
    obtain⟨h0x36,h1x36,aF⟩:=Zg8 aO
    obtain⟨aS,aG⟩:=SlR.adV ((hS.own 0 rfl).slr rfl (fun _ _=>rfl)) aE aF
    refine n_q H (Znj Tryz.underlying100 sz5 rfl aE aG rfl h0x36 h1x36) rfl ?_;clear H a;intro a H
    refine Zpl (e:=eB) (x':=(Zt (Int.tmod aA 256))) H rfl rfl sz5 (hS.own 0 rfl) aE aG (Ho aF) (by rw [Zb8];rfl) (Zal _) (fun _=>rfl) ?_
    clear H;intro bA hN aP;clear a;intro a H;replace hS:=hS.setOwn hN aP (.inl rfl);clear hN
    refine Ze (Za (wp_region_lit (n_q H (Zc rfl) rfl (W_q (q_quoW rfl rfl (by decide)) rfl (W_q (Zb rfl) rfl ?_)))));clear H a;intro a H
    refine Ze (Zm (Za (wp_region_lit (n_q H (Zc rfl) rfl (W_q (Zcj rfl rfl) rfl (W_q (Zb rfl) rfl ?_))))));clear H a;intro a H
    refine Ze (Za ?_)
    obtain rfl:=Option.some.inj hm
    exact Vh (aR,(IntKind.i64.wrap (Int.tdiv aA 256)),(aB.set aC.toNat (Zt (Int.tmod aA 256))),(IntKind.i64.wrap (aC - 1))) H ⟨rfl,rfl,rfl,trivial⟩ ⟨aI,hS⟩ (Nat.lt_succ_self _)
  replace hm:=Zv hm aD
  refine wp_exit (Zn (Zn (Zy ?_)))
  obtain rfl:=Option.some.inj hm;have hz : _=aK:=aI;subst hz;replace hm:=aN;try dsimp only at hm
  refine Za (wp_seq (wp_region_lit (n_q H (Zc rfl) rfl (W_q (Zb rfl) rfl ?_))));clear H a;intro a H
  refine Ze (Za (wp_ret ?_))
  obtain rfl:=Option.some.inj hm
  refine Je H (.inr rfl) rfl rfl ?_
  exact⟨_,rfl,hS⟩
theorem Yj {w : World} {A : Nat → Addr} {fp : Nat → Prop} {b0 : Nat} {v0_0 : Value} {a0 : GR02Writer} {v1 : Value} {a1 : List UInt8} {a2 : Int} (hP : Sep w fp [blkR b0 [v0_0,.int .i64 a0.Err.Code,.int .i64 a0.Err.Place] 190,ownR 5 1 v0_0 a0.B.length (a0.B.flatMap eB)]) (h1 : ∀ w',ChgP fp w w' → SlR w' 1 (Zq eB) v1 a1) {r : GR02Writer} (hm : Jb a0 a1 a2=some r) :
    Calls Tryz.prog 189 [.pointer (some ⟨b0,0,none⟩),v1,.int .i64 a2].toArray w (Ret fun u w'=>∃ h_0,u=.tuple #[] ∧ St fp w w' [blkR b0 [h_0,.int .i64 r.Err.Code,.int .i64 r.Err.Place] 190,ownR 5 1 h_0 r.B.length (r.B.flatMap eB)]):=by
  have hS:=St.init hP
  unfold Jb at hm
  refine enter Tryz.func189 rfl rfl rfl ?_;intro a H;dsimp only [Qk,Nat.zero_add,Nat.reduceAdd] at H
  refine wp_seq (wp_seq (wp_region_lit (n_q H (Zc rfl) rfl (W_q (Zp rfl) rfl (W_q (Zd rfl Zp7) rfl (W_q (Zkp rfl Zmo) rfl (W_q (Zf rfl ((hS.blk 0 rfl).ld ag3 rfl)) rfl (W_q (Vo rfl rfl) rfl ?_))))))));clear H a;intro a H
  refine Ze (Za (Zl H rfl (fun aA=>?_) (fun aA=>?_)))
  · replace hm:=Zu hm aA
    refine wp_ret (Zh ?_)
    obtain rfl:=Option.some.inj hm
    refine Ze8 H (.inr rfl) rfl ?_
    exact⟨_,rfl,hS⟩
  replace hm:=Zv hm aA
  refine wp_skip (Za (wp_seq (wp_seq (wp_region_lit (n_q H (Zc rfl) rfl (W_q (Vo rfl rfl) rfl ?_))))));clear H a;intro a H
  refine Ze (Za (Zl H rfl (fun aB=>?_) (fun aB=>?_)))
  · replace hm:=Zu hm aB
    refine wp_seq (wp_region_lit (n_q H (Zc rfl) rfl (W_q (Zc rfl) rfl (W_q (Zc rfl) rfl (W_q (Zp rfl) rfl (W_q (Zd rfl Zhy) rfl (W_q (Zf rfl ((hS.blk 0 rfl).ld Zdx rfl)) rfl ?_)))))));clear H a;intro a H
    obtain⟨aJ,aK,aC,aH,aI⟩:=SlR.formV ((hS.own 1 rfl).slr rfl (fun _ _=>rfl))
    refine n_q H (Qf Tryz.underlying100 rfl aC) rfl (W_q (Zz (cs:=[.int .i64 a2,.int .i64 ((a0.B.length : Nat) : Int)]) Zd1 Zld Zle rfl (by kernel_rfl)) rfl (W_q (Zp rfl) rfl (W_q (Zd rfl Zp7) rfl ?_)));clear H a;intro a H
    refine Zje H rfl rfl (vs:=[.int .i64 a2,.int .i64 ((a0.B.length : Nat) : Int)]) rfl Tm (hS.blk 0 rfl) (by simp) (by simp) ?_
    clear H;intro aL hN aD hz;clear a;intro a H;replace hS:=hS.setBlk hN aD;clear hN hz
    try simp only [List.take_zero,List.nil_append,List.take_succ_cons,List.drop_succ_cons,List.drop_zero,List.cons_append,List.length_cons,List.length_nil,Nat.zero_add,Nat.reduceAdd,List.drop_nil,List.append_nil] at hS
    refine Ze (Za (wp_ret (Zh ?_)))
    obtain rfl:=Option.some.inj hm
    refine Ze8 H (.inr rfl) rfl ?_
    exact⟨_,rfl,hS⟩
  replace hm:=Zv hm aB
  refine wp_skip (Za (wp_region_lit (n_q H (Zc rfl) rfl (W_q (Zc rfl) rfl (W_q (Zp rfl) rfl (W_q (Zd rfl Zhy) rfl (W_q (Zf rfl ((hS.blk 0 rfl).ld Zdx rfl)) rfl (W_q (Zc rfl) rfl ?_))))))));clear H a;intro a H
  replace hS:=hS.pk1
  replace hm:=Tj hm;obtain⟨aE,hm⟩:=hm
  refine Zb1 (e:=eB) H rfl rfl Tryz.underlying100 Tryz.underlying100 (by simp) el5 (hS.own 0 rfl) ((h1 _ hS.chg).src (fun _ _=>rfl)) Zal aE (by simp only [maxLen];omega) rfl ?_
  clear H;intro aM aN hN aF hb;clear a;intro a H;replace hS:=hS.setOwn hN aF hb;clear hN hb
  refine n_q H (Zp rfl) rfl (W_q (Zd rfl Zhy) rfl ?_);clear H a;intro a H
  replace hS:=hS.pk1
  refine Jz H rfl rfl Zok (hS.blk 0 rfl) (by simp) (((hS.own 1 rfl).slr rfl (fun _ _=>rfl))).one ?_
  clear H;intro aO hN aG hz;clear a;intro a H;replace hS:=hS.setBlk hN aG;clear hN hz
  try simp only [List.set_cons_succ,List.set_cons_zero] at hS
  refine Ze ?_
  obtain rfl:=Option.some.inj hm
  refine Ze8 H (.inl rfl) rfl ?_
  exact⟨_,rfl,hS⟩
theorem Zgw {w : World} {A : Nat → Addr} {a0 : Int} {r : Int} (hm : Ga a0=some r) :
    Calls Tryz.prog 190 [.int .i64 a0].toArray w (Ret fun u w'=>u=.int .i64 r ∧ Ext w w'):=by
  have hS:=St.begin NB w
  unfold Ga at hm
  refine enter Tryz.func190 rfl rfl rfl ?_;intro a H;dsimp only [Qk,Nat.zero_add,Nat.reduceAdd] at H
  refine wp_seq (wp_region_lit (n_q H (Zb rfl) rfl ?_));clear H a;intro a H
  refine Ze (Za (wp_seq (wp_seq (wp_region_lit (n_q H (Zc rfl) rfl ?_)))));clear H a;intro a H
  refine Ze (Za (wp_block (wp_seq (wp_region_lit (n_q H (Ky rfl rfl) rfl (W_q (Zb rfl) rfl ?_))))));clear H a;intro a H
  refine Ze (Za (Zl H rfl (fun aA=>?_) (fun aA=>?_)))
  · replace hm:=Zu hm aA
    refine wp_seq (wp_region_lit (n_q H (Zb rfl) rfl ?_));clear H a;intro a H
    refine Ze (Za (wp_ret (Zo (Zh ?_))))
    obtain rfl:=Option.some.inj hm
    refine Je H (.inr rfl) rfl rfl ?_
    exact⟨rfl,hS.x⟩
  replace hm:=Zv hm aA
  refine wp_seq (wp_region_lit (n_q H (Ky rfl rfl) rfl (W_q (Zb rfl) rfl ?_)));clear H a;intro a H
  refine Ze (Za (Zl H rfl (fun aB=>?_) (fun aB=>?_)))
  · replace hm:=Zu hm aB
    refine wp_seq (wp_region_lit (n_q H (Zb rfl) rfl ?_));clear H a;intro a H
    refine Ze (Za (wp_ret (Zo (Zh ?_))))
    obtain rfl:=Option.some.inj hm
    refine Je H (.inr rfl) rfl rfl ?_
    exact⟨rfl,hS.x⟩
  replace hm:=Zv hm aB
  refine wp_seq (wp_region_lit (n_q H (Ky rfl rfl) rfl (W_q (Zb rfl) rfl ?_)));clear H a;intro a H
  refine Ze (Za (Zl H rfl (fun aC=>?_) (fun aC=>?_)))
  · replace hm:=Zu hm aC
    refine wp_seq (wp_region_lit (n_q H (Zb rfl) rfl ?_));clear H a;intro a H
    refine Ze (Za (wp_ret (Zo (Zh ?_))))
    obtain rfl:=Option.some.inj hm
    refine Je H (.inr rfl) rfl rfl ?_
    exact⟨rfl,hS.x⟩
  replace hm:=Zv hm aC
  refine wp_skip (Zm (Za (wp_seq (wp_region_lit (n_q H (Zb rfl) rfl ?_)))));clear H a;intro a H
  refine Ze (Za (wp_ret ?_))
  obtain rfl:=Option.some.inj hm
  refine Je H (.inr rfl) rfl rfl ?_
  exact⟨rfl,hS.x⟩
theorem Gg {w : World} {A : Nat → Addr} {fp : Nat → Prop} {b0 : Nat} {v0_0 : Value} {a0 : GR02Writer} {a1 : Int} {a2 : Int} (hP : Sep w fp [blkR b0 [v0_0,.int .i64 a0.Err.Code,.int .i64 a0.Err.Place] 190,ownR 5 1 v0_0 a0.B.length (a0.B.flatMap eB)]) {r : GR02Writer} (hm : Xd a0 a1 a2=some r) :
    Calls Tryz.prog 111 [.pointer (some ⟨b0,0,none⟩),.int .i64 a1,.int .i64 a2].toArray w (Ret fun u w'=>∃ h_0,u=.tuple #[] ∧ St fp w w' [blkR b0 [h_0,.int .i64 r.Err.Code,.int .i64 r.Err.Place] 190,ownR 5 1 h_0 r.B.length (r.B.flatMap eB)]):=by
  have hS:=St.init hP
  unfold Xd at hm
  refine enter Tryz.func111 rfl rfl rfl ?_;intro a H;dsimp only [Qk,Nat.zero_add,Nat.reduceAdd] at H
  refine wp_seq ?_
  replace hm:=Zi hm;obtain⟨bK,hm,aI⟩:=hm
  refine Hj (σ:=Bool) H (fun aB=>[(0,.pointer (some ⟨b0,0,none⟩)),(1,.int .i64 a1),(2,.int .i64 a2),(13,.bool aB)]) (fun aB wl=>(Ud a0 a1 a2) aB=some r ∧ St fp w wl [blkR b0 [v0_0,.int .i64 a0.Err.Code,.int .i64 a0.Err.Place] 190,ownR 5 1 v0_0 a0.B.length (a0.B.flatMap eB)]) ?_ ?_
  · skip
    refine wp_region_lit (n_q H (Zc rfl) rfl (W_q (Un rfl rfl) rfl (W_q (Zc rfl) rfl ?_)));clear H a;intro a H
    rcases Bool.eq_false_or_eq_true (decide (a1 < 0)) with aA|aA
    · replace H:=H.know 8 rfl aA
      replace hm:=Zu hm aA
      refine Zci H rfl rfl (by decide) rfl (Qn rfl rfl (by decide) rfl (Qn rfl rfl (by decide) rfl (Qn rfl rfl (by decide) rfl (W_q (Qi rfl rfl) rfl ?_))));clear H a;intro a H
      refine Ze (Za ?_)
      obtain rfl:=Option.some.inj hm;replace hm:=aI;try dsimp only at hm
      exact Wh true H ⟨rfl,rfl,rfl,rfl,trivial⟩ ⟨hm,hS⟩
    replace H:=H.know 8 rfl aA
    replace hm:=Zv hm aA
    refine Wb H rfl rfl (n_q H (Zc rfl) rfl (Xe rfl rfl (W_q (Zc rfl) rfl (Xe rfl rfl ?_))));clear H a;intro a H
    replace hm:=Zi hm;obtain⟨aU,aJ,hm⟩:=hm
    refine Zj H rfl en190 (Zgw (A:=A) aJ) rfl ?_
    clear H;intro aX aY hv;clear a;intro a H;obtain⟨rfl,aK⟩:=hv
    replace hS:=hS.ext aK
    refine Wb H rfl rfl (n_q H (Hp rfl rfl) rfl (W_q (Jf rfl rfl) rfl ?_));clear H a;intro a H
    refine Ze (Za ?_)
    obtain rfl:=Option.some.inj hm;replace hm:=aI;try dsimp only at hm
    exact Wh (decide (aU < a1)) H ⟨rfl,rfl,rfl,rfl,trivial⟩ ⟨hm,hS⟩
  clear H hS hm a;intro aB a aZ H hR
  simp only [ent,List.map_cons,List.map_nil] at H;(try dsimp only at hR);obtain⟨hm,hS⟩:=hR;try dsimp only [Ud] at hm
  refine Zl H rfl (fun aC=>?_) (fun aC=>?_)
  · replace hm:=Zu hm aC
    refine wp_seq (wp_region_lit (n_q H (Zc rfl) rfl ?_));clear H a;intro a H
    replace hS:=hS.pk1
    replace hS:=hS.pk1
    obtain⟨aV,aD,aL,aM,aE⟩:=hS.frame (rs1:=[blkR b0 [v0_0,.int .i64 a0.Err.Code,.int .i64 a0.Err.Place] 190,ownR 5 1 v0_0 a0.B.length (a0.B.flatMap eB)])
    replace hm:=Zi hm;obtain⟨a9,aN,hm⟩:=hm
    refine Zj H rfl Zol (Yj (A:=A) aD (fun w' hw=>SlR.nil _ 1 (Zq eB)) aN) rfl ?_
    clear H;intro bA bB hv;clear a;intro a H;obtain⟨bC,rfl,aO⟩:=hv
    replace hS:=aE _ _ aO;simp only [List.cons_append,List.nil_append] at hS;clear aD aL aM aE
    refine Ze (Za (wp_ret (Zh ?_)))
    obtain rfl:=Option.some.inj hm
    refine Ze8 H (.inr rfl) rfl ?_
    exact⟨_,rfl,hS⟩
  replace hm:=Zv hm aC
  refine wp_skip (Za (wp_region_lit (n_q H (Zc rfl) rfl (W_q (Zc rfl) rfl (W_q (Zc rfl) rfl ?_)))));clear H a;intro a H
  replace hm:=Zi hm;obtain⟨bD,aP,hm⟩:=hm
  refine Zj H rfl Zuj (Zcg (A:=A) aP) rfl ?_
  clear H;intro bE bF hv;clear a;intro a H;obtain⟨_,rfl,aQ⟩:=hv
  replace hS:=hS.new aQ;simp only [List.cons_append,List.nil_append] at hS
  replace hS:=hS.pk2
  replace hS:=hS.pk2
  obtain⟨aW,aF,aR,aG,aH⟩:=hS.frame (rs1:=[blkR b0 [v0_0,.int .i64 a0.Err.Code,.int .i64 a0.Err.Place] 190,ownR 5 1 v0_0 a0.B.length (a0.B.flatMap eB)])
  replace hm:=Zi hm;obtain⟨bG,aS,hm⟩:=hm
  refine Zj H rfl Zol (Yj (A:=A) aF (fun w' hw=>(Kn (aG 0 _ rfl _ hw)).slr rfl (fun _ _=>rfl)) aS) rfl ?_
  clear H;intro bH bI hv;clear a;intro a H;obtain⟨bJ,rfl,aT⟩:=hv
  replace hS:=aH _ _ aT;simp only [List.cons_append,List.nil_append] at hS;clear aF aR aG aH
  refine Ze ?_
  obtain rfl:=Option.some.inj hm
  replace hS:=hS.tk2
  refine Ze8 H (.inl rfl) rfl ?_
  exact⟨_,rfl,hS⟩
theorem Zgx {w : World} {A : Nat → Addr} {a0 : Bool} {r : Int} (hm : Zcx a0=some r) :
    Calls Tryz.prog 185 [.bool a0].toArray w (Ret fun u w'=>u=.int .i64 r ∧ Ext w w'):=by
  have hS:=St.begin NB w
  unfold Zcx at hm
  refine enter Tryz.func185 rfl rfl rfl ?_;intro a H;dsimp only [Qk,Nat.zero_add,Nat.reduceAdd] at H
  refine wp_seq (wp_region_lit (n_q H (Zb rfl) rfl ?_));clear H a;intro a H
  refine Ze (Za (wp_seq (wp_seq (wp_region_lit (n_q H (Zc rfl) rfl ?_)))));clear H a;intro a H
  refine Ze (Za (Zl H rfl (fun aA=>?_) (fun aA=>?_)))
  · replace hm:=Zu hm aA
    refine wp_seq (wp_region_lit (n_q H (Zb rfl) rfl ?_));clear H a;intro a H
    refine Ze (Za (wp_ret (Zh ?_)))
    obtain rfl:=Option.some.inj hm
    refine Je H (.inr rfl) rfl rfl ?_
    exact⟨rfl,hS.x⟩
  replace hm:=Zv hm aA
  refine wp_skip (Za (wp_seq (wp_region_lit (n_q H (Zb rfl) rfl ?_))));clear H a;intro a H
  refine Ze (Za (wp_ret ?_))
  obtain rfl:=Option.some.inj hm
  refine Je H (.inr rfl) rfl rfl ?_
  exact⟨rfl,hS.x⟩
theorem Ye {w : World} {A : Nat → Addr} {fp : Nat → Prop} {b0 : Nat} {v0_0 : Value} {a0 : GR02Writer} {a1 : Int} {v2 : Value} {a2 : List UInt8} (hP : Sep w fp [blkR b0 [v0_0,.int .i64 a0.Err.Code,.int .i64 a0.Err.Place] 190,ownR 5 1 v0_0 a0.B.length (a0.B.flatMap eB)]) (h2 : ∀ w',ChgP fp w w' → SlR w' 1 (Zq eB) v2 a2) {r : GR02Writer} (hm : Xm a0 a1 a2=some r) :
    Calls Tryz.prog 186 [.pointer (some ⟨b0,0,none⟩),.int .i64 a1,v2].toArray w (Ret fun u w'=>∃ h_0,u=.tuple #[] ∧ St fp w w' [blkR b0 [h_0,.int .i64 r.Err.Code,.int .i64 r.Err.Place] 190,ownR 5 1 h_0 r.B.length (r.B.flatMap eB)]):=by
  have hS:=St.init hP
  unfold Xm at hm
  refine enter Tryz.func186 rfl rfl rfl ?_;intro a H;dsimp only [Qk,Nat.zero_add,Nat.reduceAdd] at H
  refine wp_seq (wp_seq (wp_region_lit (n_c H (fun HC=>?_))));clear H
  refine Tn HC (Zc rfl) rfl (by kernel_rfl) (V_q (Un rfl rfl) rfl (by kernel_rfl) (V_q (Zc rfl) rfl (by kernel_rfl) (V_g (Zc rfl) (by kernel_rfl) (by kernel_rfl) (by kernel_rfl) (V_g (Hp rfl rfl) (by kernel_rfl) (by kernel_rfl) (by kernel_rfl) (Zet (j:=2) rfl rfl rfl (by kernel_rfl) (by kernel_rfl) ?_)))));clear HC a;intro a HC
  have H:=HC.has;clear HC
  refine Ze (Za (Zl H rfl (fun aA=>?_) (fun aA=>?_)))
  · replace hm:=Zu hm aA
    refine wp_seq (wp_region_lit (n_q H (Zc rfl) rfl ?_));clear H a;intro a H
    replace hS:=hS.pk1
    replace hS:=hS.pk1
    obtain⟨bB,aC,aK,aL,aD⟩:=hS.frame (rs1:=[blkR b0 [v0_0,.int .i64 a0.Err.Code,.int .i64 a0.Err.Place] 190,ownR 5 1 v0_0 a0.B.length (a0.B.flatMap eB)])
    replace hm:=Zi hm;obtain⟨bG,aM,hm⟩:=hm
    refine Zj H rfl Zol (Yj (A:=A) aC (fun w' hw=>SlR.nil _ 1 (Zq eB)) aM) rfl ?_
    clear H;intro bH bI hv;clear a;intro a H;obtain⟨bJ,rfl,aN⟩:=hv
    replace hS:=aD _ _ aN;simp only [List.cons_append,List.nil_append] at hS;clear aC aK aL aD
    refine Ze (Za (wp_ret (Zh ?_)))
    obtain rfl:=Option.some.inj hm
    refine Ze8 H (.inr rfl) rfl ?_
    exact⟨_,rfl,hS⟩
  replace hm:=Zv hm aA
  refine wp_skip (Za (wp_seq (wp_seq (wp_region_lit (n_q H (Zc rfl) rfl ?_)))));clear H a;intro a H
  obtain⟨bK,bL,aE,bC,bD⟩:=SlR.formV (h2 _ hS.chg)
  refine n_q H (Qf Tryz.underlying100 rfl aE) rfl (W_q (Zdn (i:=a2.length) (j:=65535) rfl rfl) rfl ?_);clear H a;intro a H
  refine Ze (Za (Zl H rfl (fun aB=>?_) (fun aB=>?_)))
  · replace hm:=Zu hm aB
    refine wp_seq (wp_region_lit (n_q H (Zc rfl) rfl ?_));clear H a;intro a H
    replace hS:=hS.pk1
    replace hS:=hS.pk1
    obtain⟨bE,aF,aO,aP,aG⟩:=hS.frame (rs1:=[blkR b0 [v0_0,.int .i64 a0.Err.Code,.int .i64 a0.Err.Place] 190,ownR 5 1 v0_0 a0.B.length (a0.B.flatMap eB)])
    replace hm:=Zi hm;obtain⟨bM,aQ,hm⟩:=hm
    refine Zj H rfl Zol (Yj (A:=A) aF (fun w' hw=>SlR.nil _ 1 (Zq eB)) aQ) rfl ?_
    clear H;intro bN bO hv;clear a;intro a H;obtain⟨bP,rfl,aR⟩:=hv
    replace hS:=aG _ _ aR;simp only [List.cons_append,List.nil_append] at hS;clear aF aO aP aG
    refine Ze (Za (wp_ret (Zh ?_)))
    obtain rfl:=Option.some.inj hm
    refine Ze8 H (.inr rfl) rfl ?_
    exact⟨_,rfl,hS⟩
  replace hm:=Zv hm aB
  refine wp_skip (Za (wp_seq (wp_region_lit (n_q H (Zc rfl) rfl (W_q (Xn Tryz.underlying3 Tryz.underlying5 ⟨_,rfl⟩ rfl) rfl ?_)))));clear H a;intro a H
  refine Qd H Tryz.underlying100 sz5 ze5 rfl rfl rfl (cs:=[.int .u8 (IntKind.u8.wrap a1)]) (by kernel_rfl) rfl ?_
  clear H;intro bQ bR hN aS hs;clear a;intro a H
  replace hS:=hS.newBlk hN aS hs;clear hN hs
  replace hS:=hS.blkOwnL (e:=eB) (k:=1) [(Zt a1)] (by simp [Zb8,Zeg]) rfl (by simp [maxLen])
  refine n_q H (Zc rfl) rfl (W_q (Qf Tryz.underlying100 rfl aE) rfl ?_);clear H a;intro a H
  replace hm:=Zi hm;obtain⟨bS,aT,hm⟩:=hm
  refine Zj H rfl Zuj (Zcg (A:=A) aT) rfl ?_
  clear H;intro bT bU hv;clear a;intro a H;obtain⟨_,rfl,aU⟩:=hv
  replace hS:=hS.new aU;simp only [List.cons_append,List.nil_append] at hS
  replace hS:=hS.pk1
  replace hm:=Tj hm;obtain⟨aV,hm⟩:=hm
  refine Zb1 (e:=eB) H rfl rfl Tryz.underlying100 Tryz.underlying100 (by simp) el5 (hS.own 0 rfl) (((hS.own 1 rfl).slr rfl (fun _ _=>rfl)).src (fun _ _=>rfl)) Zal aV (by simp only [maxLen];omega) rfl ?_
  clear H;intro bV bW hN aW hb;clear a;intro a H;replace hS:=hS.setOwn hN aW hb;clear hN hb
  refine n_q H (Zb rfl) rfl ?_;clear H a;intro a H
  refine Ze (Za (wp_region_lit (n_q H (Zc rfl) rfl (W_q (Zc rfl) rfl (W_q (Zc rfl) rfl ?_)))));clear H a;intro a H
  replace hm:=Tj hm;obtain⟨aX,hm⟩:=hm
  refine Zb1 (e:=eB) H rfl rfl Tryz.underlying100 Tryz.underlying100 (by simp) el5 (hS.own 0 rfl) ((h2 _ hS.chg).src (fun _ _=>rfl)) Zal aX (by simp only [maxLen];omega) rfl ?_
  clear H;intro bX bY hN aY hb;clear a;intro a H;replace hS:=hS.setOwn hN aY hb;clear hN hb
  replace hS:=hS.pk3
  replace hS:=hS.pk3
  obtain⟨bF,aH,aZ,aI,aJ⟩:=hS.frame (rs1:=[blkR b0 [v0_0,.int .i64 a0.Err.Code,.int .i64 a0.Err.Place] 190,ownR 5 1 v0_0 a0.B.length (a0.B.flatMap eB)])
  replace hm:=Zi hm;obtain⟨bZ,a9,hm⟩:=hm
  refine Zj H rfl Zol (Yj (A:=A) aH (fun w' hw=>(Kn (aI 0 _ rfl _ hw)).slr rfl (fun _ _=>rfl)) a9) rfl ?_
  clear H;intro b7 b8 hv;clear a;intro a H;obtain⟨b9,rfl,bA⟩:=hv
  replace hS:=aJ _ _ bA;simp only [List.cons_append,List.nil_append] at hS;clear aH aZ aI aJ
  refine Ze ?_
  obtain rfl:=Option.some.inj hm
  replace hS:=hS.tk2
  refine Ze8 H (.inl rfl) rfl ?_
  exact⟨_,rfl,hS⟩
set_option maxHeartbeats 1000000 in
theorem Zlg {w : World} {A : Nat → Addr} {cs0 : List Value} {a0 : GPlan} (h0 : Qw w cs0 a0) {r : List UInt8} (hm : Zcy a0=some r) :
    Calls Tryz.prog 108 [.agg cs0.toArray].toArray w (Ret fun u w'=>∃ h_0,u=h_0 ∧ St NB w w' [ownR 5 1 h_0 r.length (r.flatMap eB)]):=by
  obtain⟨aN,aO,aP,aQ,rfl,aH,bB,bC,bD⟩:=h0
  have hS:=St.begin NB w
  unfold Zcy at hm
  refine enter Tryz.func108 rfl rfl rfl ?_;intro a H;dsimp only [Qk,Nat.zero_add,Nat.reduceAdd] at H
  refine wp_seq (wp_region_lit (Wt H rfl (cs:=[.int .i64 a0.Id,.bool a0.Mobile,aN,aO,aP,.int .i64 a0.Events,aQ]) rfl rfl ?_))
  clear H;intro aV i5 hN eT hs;clear a;intro a H
  replace hS:=hS.newBlk hN eT hs;clear hN hs
  refine n_q H (Zb rfl) rfl ?_;clear H a;intro a H
  refine Ze (Za (wp_seq (wp_region_lit ?_)))
  replace hm:=Zi hm;obtain⟨bW,eU,hm⟩:=hm
  refine Zj H rfl en109 (Zh0 (A:=A) eU) rfl ?_
  clear H;intro i6 i7 hv;clear a;intro a H;obtain⟨aB,eG,rfl,eV⟩:=hv
  replace hS:=hS.new eV;simp only [List.cons_append,List.nil_append] at hS
  refine n_q H (Zb rfl) rfl ?_;clear H a;intro a H
  refine Ze (Za (wp_seq (wp_region_lit (n_q H (Zc rfl) rfl (W_q (Zd rfl Zeh) rfl (W_q (Zf rfl ((hS.blk 2 rfl).ld ag3 rfl)) rfl ?_))))));clear H a;intro a H
  replace hS:=hS.pk1
  replace hS:=hS.pk1
  obtain⟨gW,cT,eW,eX,cU⟩:=hS.frame (rs1:=[blkR aB [eG,.int .i64 bW.Err.Code,.int .i64 bW.Err.Place] 190,ownR 5 1 eG bW.B.length (bW.B.flatMap eB)])
  replace hm:=Zi hm;obtain⟨bX,eY,hm⟩:=hm
  refine Zj H rfl Zr3 (Gg (A:=A) cT eY) rfl ?_
  clear H;intro i8 i9 hv;clear a;intro a H;obtain⟨eH,rfl,eZ⟩:=hv
  replace hS:=cU _ _ eZ;simp only [List.cons_append,List.nil_append] at hS;clear cT eW eX cU
  refine Ze (Za (wp_seq (wp_region_lit (n_q H (Zc rfl) rfl (W_q (Zd rfl Zk4) rfl (W_q (Zf rfl ((hS.blk 2 rfl).ld ag4 rfl)) rfl ?_))))));clear H a;intro a H
  replace hm:=Zi hm;obtain⟨jA,e8,hm⟩:=hm
  refine Zj H rfl en185 (Zgx (A:=A) e8) rfl ?_
  clear H;intro jB jC hv;clear a;intro a H;obtain⟨rfl,e9⟩:=hv
  replace hS:=hS.ext e9
  replace hS:=hS.pk1
  replace hS:=hS.pk1
  obtain⟨gX,cV,fA,fB,cW⟩:=hS.frame (rs1:=[blkR aB [eH,.int .i64 bX.Err.Code,.int .i64 bX.Err.Place] 190,ownR 5 1 eH bX.B.length (bX.B.flatMap eB)])
  replace hm:=Zi hm;obtain⟨eJ,fC,hm⟩:=hm
  refine Zj H rfl Zr3 (Gg (A:=A) cV fC) rfl ?_
  clear H;intro jD jE hv;clear a;intro a H;obtain⟨fY,rfl,fD⟩:=hv
  replace hS:=cW _ _ fD;simp only [List.cons_append,List.nil_append] at hS;clear cV fA fB cW
  refine Ze (Za (wp_seq (wp_seq (wp_region_lit (n_q H (Zb rfl) rfl ?_)))));clear H a;intro a H
  refine Ze (Za (wp_block ?_))
  replace hS:=hS.pk1
  replace hS:=hS.pk1
  replace hS:=hS.pk2
  replace hm:=Zi hm;obtain⟨eK,hm,fE⟩:=hm;replace hm:=Qg hm;obtain⟨fZ,hm⟩:=hm
  refine Jd (σ:=Nat × Nat × (List UInt8) × GR02Err × Value) (fun (m,aI,aR,aS,aW)=>[(1,.pointer (some ⟨aV,0,none⟩)),(3,.pointer (some ⟨aB,0,none⟩)),(4,.int .i64 ((aI : Nat) : Int))]) (fun (m,aI,aR,aS,aW) wl=>Js (Hb a0) m (aI,aR,aS)=some eK ∧ St NB w wl [blkR aV [.int .i64 a0.Id,.bool a0.Mobile,aN,aO,aP,.int .i64 a0.Events,aQ] 27,blkR aB [aW,.int .i64 aS.Code,.int .i64 aS.Place] 190,ownR 5 1 aW aR.length (aR.flatMap eB)]) (fun (m,aI,aR,aS,aW)=>m) (fZ,0,eJ.B,eJ.Err,fY) H ⟨rfl,rfl,rfl,trivial⟩ ⟨hm,hS⟩ ?_
  clear H hS hm a;intro xx a eL H hR;obtain⟨m,aI,aR,aS,aW⟩:=xx;simp only [ent,List.map_cons,List.map_nil] at H;(try dsimp only at hR);obtain⟨hm,hS⟩:=hR
  replace hm:=Qa hm;obtain⟨gA,jF,rfl,hm,cX⟩:=hm;try dsimp only [Hb] at hm
  refine wp_seq (wp_seq (wp_region_lit (n_q H (Zc rfl) rfl (W_q (Zd rfl Vs) rfl (W_q (Zf rfl ((hS.blk 0 rfl).ld Zgt rfl)) rfl ?_)))));clear H a;intro a H
  obtain⟨jG,jH,aL,gY,gZ⟩:=SlR.formV (aH.ext (Zq.mono _) hS.x)
  refine n_q H (Qf Tryz.underlying22 rfl aL) rfl (W_q (Xz (i:=aI) (j:=a0.Pages.length) rfl rfl) rfl ?_);clear H a;intro a H
  refine Ze (Za (Zl H rfl (fun bF=>?_) (fun bF=>?_)))
  · replace hm:=Zu hm bF
    have gJ : aI < a0.Pages.length:=of_decide_eq_true bF
    refine wp_skip (Za (wp_seq (wp_block (Gi [] 16 (by kernel_rfl) ?_))))
    obtain⟨cY,bP⟩ : ∃ x,x=eL.drew:=⟨_,rfl⟩;rw [← bP];have fF : Ext eL cY:=by rw [bP];exact Ext.drew' _
    clear bP
    replace hS:=hS.ext fF
    have bG:=hS
    have hW:=Nat.le_refl cY.heap.size
    refine Zg 0 H rfl (Zc rfl) rfl (by kernel_rfl) (by kernel_rfl) (by kernel_rfl) (by kernel_rfl) (fun _ _ _ h=>h) ?_;clear H a;intro a H
    refine Zg 1 H rfl (Zd rfl Vs) rfl (by kernel_rfl) (by kernel_rfl) (by kernel_rfl) (by kernel_rfl) (fun _ _ _ h=>h) ?_;clear H a;intro a H
    refine Wj 2 8 H rfl (Zf rfl (LdC.old ((bG.blk 0 rfl).ld Zgt rfl) Ext.rfl' (Nat.le_refl _) (by simp))) rfl (by kernel_rfl) (by kernel_rfl) (by kernel_rfl) (by kernel_rfl) (fun _ _ _ h=>h) ?_;clear H a;intro a H
    refine Zg 3 H rfl (Zc rfl) rfl (by kernel_rfl) (by kernel_rfl) (by kernel_rfl) (by kernel_rfl) (fun _ _ _ h=>h) ?_;clear H a;intro a H
    replace hm:=Zi hm;obtain⟨eM,bQ,hm⟩:=hm
    obtain⟨gK,bY⟩:=SlR.adV (aH.ext (Zq.mono _) hS.x) aL bQ
    refine Zg 4 H rfl (Jn (i:=aI) Tryz.underlying22 Tk rfl aL bY rfl (Ho bQ)) rfl (by kernel_rfl) (by kernel_rfl) (by kernel_rfl) (by kernel_rfl) (fun _ _ _ h=>h) ?_;clear H a;intro a H
    refine Zg 5 H rfl (Xt rfl Zeu) rfl (by kernel_rfl) (by kernel_rfl) (by kernel_rfl) (by kernel_rfl) (fun _ _ _ h=>h) ?_;clear H a;intro a H
    refine Wj 6 8 H rfl (Zf rfl (LdC.old (SlR.ldCellV (j:=0) (aH.ext (Zq.mono _) bG.x) aL bY ag3 bQ rfl) Ext.rfl' (Nat.le_refl _) (by simp))) rfl (by kernel_rfl) (by kernel_rfl) (by kernel_rfl) (by kernel_rfl) (fun _ _ _ h=>h) ?_;clear H a;intro a H
    refine Zg 7 H rfl (Xn Tryz.underlying3 Tryz.underlying5 ⟨_,rfl⟩ rfl) rfl (by kernel_rfl) (by kernel_rfl) (by kernel_rfl) (by kernel_rfl) (fun _ _ _ h=>h) ?_;clear H a;intro a H
    refine Zg 9 H rfl (Zd rfl Vs) rfl (by kernel_rfl) (by kernel_rfl) (by kernel_rfl) (by kernel_rfl) (fun _ _ _ h=>h) ?_;clear H a;intro a H
    refine Wj 10 8 H rfl (Zf rfl (LdC.old ((bG.blk 0 rfl).ld Zgt rfl) Ext.rfl' (Nat.le_refl _) (by simp))) rfl (by kernel_rfl) (by kernel_rfl) (by kernel_rfl) (by kernel_rfl) (fun _ _ _ h=>h) ?_;clear H a;intro a H
    refine Zg 11 H rfl (Zc rfl) rfl (by kernel_rfl) (by kernel_rfl) (by kernel_rfl) (by kernel_rfl) (fun _ _ _ h=>h) ?_;clear H a;intro a H
    replace hm:=Zi hm;obtain⟨gB,bR,hm⟩:=hm
    obtain⟨gL,bZ⟩:=SlR.adV (aH.ext (Zq.mono _) hS.x) aL bR
    refine Zg 12 H rfl (Jn (i:=aI) Tryz.underlying22 Tk rfl aL bZ rfl (Ho bR)) rfl (by kernel_rfl) (by kernel_rfl) (by kernel_rfl) (by kernel_rfl) (fun _ _ _ h=>h) ?_;clear H a;intro a H
    refine Zg 13 H rfl (Xt rfl Zhs) rfl (by kernel_rfl) (by kernel_rfl) (by kernel_rfl) (by kernel_rfl) (fun _ _ _ h=>h) ?_;clear H a;intro a H
    refine Wj 14 8 H rfl (Zf rfl (LdC.old (SlR.ldCellV (j:=1) (aH.ext (Zq.mono _) bG.x) aL bZ ag9 bR rfl) Ext.rfl' (Nat.le_refl _) (by simp))) rfl (by kernel_rfl) (by kernel_rfl) (by kernel_rfl) (by kernel_rfl) (fun _ _ _ h=>h) ?_;clear H a;intro a H
    refine Ki 8 H rfl Tryz.underlying100 sz5 ze5 rfl rfl rfl (cs:=[.int .u8 (IntKind.u8.wrap eM.Rights)]) (by kernel_rfl) rfl (by kernel_rfl) ?_
    clear H;intro eN jI hN cZ hs;clear a;intro a H
    have cR : cY.heap.size ≤ eN:=hs ▸ hW
    replace hS:=hS.newBlk hN cZ hs;clear hN hs
    replace hW:=Nat.le_trans hW cZ.size
    replace hS:=hS.blkOwnL (e:=eB) (k:=1) [(Zt eM.Rights)] (by simp [Zb8,Zeg]) rfl (by simp [maxLen])
    replace hm:=Tj hm;obtain⟨fG,hm⟩:=hm
    refine Zim (e:=eB) 15 H rfl rfl rfl Tryz.underlying100 Tryz.underlying9 (by simp) el5 (hS.own 0 rfl) (Src.str _ gB.Init) Zal fG (by simp only [maxLen];omega) rfl (by kernel_rfl) (.inl (fun c hc h=>absurd ((show c=eN from List.mem_singleton.1 hc) ▸ h) (Nat.not_lt.2 cR))) ?_
    clear H;intro jJ jK hN dA hb;clear a;intro a H;replace hS:=hS.setOwn hN dA hb;clear hN hb
    replace hW:=Nat.le_trans hW dA.size
    replace hS:=hS.pk3
    replace hS:=hS.pk3
    obtain⟨g6,dB,fH,dC,dD⟩:=hS.frame (rs1:=[blkR aB [aW,.int .i64 aS.Code,.int .i64 aS.Place] 190,ownR 5 1 aW aR.length (aR.flatMap eB)])
    replace hm:=Zi hm;obtain⟨eO,fI,hm⟩:=hm
    refine Xu 16 (by kernel_rfl) ?_
    refine Xy 16 H rfl rfl Zp6 (Ye (A:=A) dB (fun w' hw=>(Kn (dC 0 _ rfl _ hw)).slr rfl (fun _ _=>rfl)) fI) rfl (fun _ _ _=>.inr (by kernel_rfl)) ?_
    clear H;intro jL jM hv;clear a;intro a H;obtain⟨gC,rfl,fJ⟩:=hv
    replace hS:=dD _ _ fJ;simp only [List.cons_append,List.nil_append] at hS;clear dB fH dC dD
    refine Qx (by kernel_rfl) ?_
    refine Zm (Za (wp_region_lit (n_q H (Zc rfl) rfl (W_q (Kb (i:=aI) (j:=1) rfl rfl (by omega)) rfl (W_q (Zb rfl) rfl ?_)))));clear H a;intro a H
    refine Ze (Za ?_)
    obtain rfl:=Option.some.inj hm
    replace hS:=hS.pk1
    replace hS:=hS.pk1
    replace hS:=hS.pk3
    replace hS:=hS.tk3
    exact Vh (gA,aI + 1,eO.B,eO.Err,gC) H ⟨rfl,rfl,rfl,trivial⟩ ⟨cX,hS⟩ (Nat.lt_succ_self _)
  replace hm:=Zv hm bF
  refine wp_exit (Zn (Zn (Zy ?_)))
  obtain rfl:=Option.some.inj hm;have hz : _=eK:=cX;subst hz;replace hm:=fE;try dsimp only at hm
  refine Za (wp_seq (wp_seq (wp_region_lit (n_q H (Zb rfl) rfl ?_))));clear H a;intro a H
  refine Ze (Za (wp_block ?_))
  replace hm:=Zi hm;obtain⟨eP,hm,fK⟩:=hm;replace hm:=Qg hm;obtain⟨gD,hm⟩:=hm
  refine Jd (σ:=Nat × Nat × (List UInt8) × GR02Err × Value) (fun (m,aK,aT,aU,aX)=>[(1,.pointer (some ⟨aV,0,none⟩)),(3,.pointer (some ⟨aB,0,none⟩)),(5,.int .i64 ((aK : Nat) : Int))]) (fun (m,aK,aT,aU,aX) wl=>Js (Ha a0) m (aK,aT,aU)=some eP ∧ St NB w wl [blkR aV [.int .i64 a0.Id,.bool a0.Mobile,aN,aO,aP,.int .i64 a0.Events,aQ] 27,blkR aB [aX,.int .i64 aU.Code,.int .i64 aU.Place] 190,ownR 5 1 aX aT.length (aT.flatMap eB)]) (fun (m,aK,aT,aU,aX)=>m) (gD,0,aR,aS,aW) H ⟨rfl,rfl,rfl,trivial⟩ ⟨hm,hS⟩ ?_
  clear H hS hm a;intro xx a jN H hR;obtain⟨m,aK,aT,aU,aX⟩:=xx;simp only [ent,List.map_cons,List.map_nil] at H;(try dsimp only at hR);obtain⟨hm,hS⟩:=hR
  replace hm:=Qa hm;obtain⟨gE,jO,rfl,hm,dE⟩:=hm;try dsimp only [Ha] at hm
  refine wp_seq (wp_seq (wp_region_lit (n_q H (Zc rfl) rfl (W_q (Zd rfl Ur) rfl (W_q (Zf rfl ((hS.blk 0 rfl).ld Zii rfl)) rfl ?_)))));clear H a;intro a H
  obtain⟨jP,jQ,bH,g7,g8⟩:=SlR.formV (bB.ext (Zq.mono _) hS.x)
  refine n_q H (Qf Tryz.underlying23 rfl bH) rfl (W_q (Xz (i:=aK) (j:=a0.Procs.length) rfl rfl) rfl ?_);clear H a;intro a H
  refine Ze (Za (Zl H rfl (fun bI=>?_) (fun bI=>?_)))
  · replace hm:=Zu hm bI
    have gM : aK < a0.Procs.length:=of_decide_eq_true bI
    refine wp_skip (Za (wp_seq (wp_block (wp_seq (wp_region_lit (n_q H (Zd rfl Ur) rfl (W_q (Zf rfl ((hS.blk 0 rfl).ld Zii rfl)) rfl (W_q (Zc rfl) rfl ?_))))))));clear H a;intro a H
    replace hm:=Zi hm;obtain⟨bM,bS,hm⟩:=hm
    obtain⟨gN,b7⟩:=SlR.adV (bB.ext (Zq.mono _) hS.x) bH bS
    refine n_q H (Jn (i:=aK) Tryz.underlying23 Tl rfl bH b7 rfl (Ho bS)) rfl (W_q (Zf rfl (SlR.ldAggV (bB.ext (Zq.mono _) hS.x) bH b7 Zjs Tl bS)) rfl ?_);clear H a;intro a H
    refine Qr H Zex rfl ?_
    clear H;intro jR jS hN fL hs;clear a;intro a H
    replace hS:=hS.newBlk hN fL hs;clear hN hs
    refine Zr H rfl rfl (vs:=[.int .i64 bM.Entry,.int .i64 bM.Prio,.bool bM.Auto]) rfl Tl (hS.blk 0 rfl) rfl (by simp) ?_
    clear H;intro eQ hN fM hz;clear a;intro a H;replace hS:=hS.setBlk hN fM;clear hN hz
    refine Ze (Za (Gi [] 12 (by kernel_rfl) ?_))
    obtain⟨dF,bT⟩ : ∃ x,x=eQ.drew:=⟨_,rfl⟩;rw [← bT];have fN : Ext eQ dF:=by rw [bT];exact Ext.drew' _
    clear bT
    replace hS:=hS.ext fN
    have bU:=hS
    have hW:=Nat.le_refl dF.heap.size
    refine Zg 0 H rfl (Zc rfl) rfl (by kernel_rfl) (by kernel_rfl) (by kernel_rfl) (by kernel_rfl) (fun _ _ _ h=>h) ?_;clear H a;intro a H
    refine Zg 1 H rfl (Zd rfl Zcc) rfl (by kernel_rfl) (by kernel_rfl) (by kernel_rfl) (by kernel_rfl) (fun _ _ _ h=>h) ?_;clear H a;intro a H
    refine Wj 2 4 H rfl (Zf rfl (LdC.old ((bU.blk 0 rfl).ld ag3 rfl) Ext.rfl' (Nat.le_refl _) (by simp))) rfl (by kernel_rfl) (by kernel_rfl) (by kernel_rfl) (by kernel_rfl) (fun _ _ _ h=>h) ?_;clear H a;intro a H
    refine Zg 4 H rfl (Zd rfl Zev) rfl (by kernel_rfl) (by kernel_rfl) (by kernel_rfl) (by kernel_rfl) (fun _ _ _ h=>h) ?_;clear H a;intro a H
    refine Wj 5 4 H rfl (Zf rfl (LdC.old ((bU.blk 0 rfl).ld ag3 rfl) Ext.rfl' (Nat.le_refl _) (by simp))) rfl (by kernel_rfl) (by kernel_rfl) (by kernel_rfl) (by kernel_rfl) (fun _ _ _ h=>h) ?_;clear H a;intro a H
    refine Zg 6 H rfl (Xn Tryz.underlying3 Tryz.underlying5 ⟨_,rfl⟩ rfl) rfl (by kernel_rfl) (by kernel_rfl) (by kernel_rfl) (by kernel_rfl) (fun _ _ _ h=>h) ?_;clear H a;intro a H
    refine Zg 7 H rfl (Zd rfl Zmi) rfl (by kernel_rfl) (by kernel_rfl) (by kernel_rfl) (by kernel_rfl) (fun _ _ _ h=>h) ?_;clear H a;intro a H
    refine Wj 8 4 H rfl (Zf rfl (LdC.old ((bU.blk 0 rfl).ld ag4 rfl) Ext.rfl' (Nat.le_refl _) (by simp))) rfl (by kernel_rfl) (by kernel_rfl) (by kernel_rfl) (by kernel_rfl) (fun _ _ _ h=>h) ?_;clear H a;intro a H
    replace hm:=Zi hm;obtain⟨jT,fO,hm⟩:=hm
    refine Xu 3 (by kernel_rfl) ?_
    refine Xy 3 H rfl rfl Zuj (Zcg (A:=A) fO) rfl (fun v w hv=>.inl (ChgF.of_ext (by obtain⟨_,_,hE0⟩:=hv;exact hE0.x))) ?_
    clear H;intro g9 hJ hv;clear a;intro a H;obtain⟨_,rfl,b8⟩:=hv
    replace hS:=hS.new b8;simp only [List.cons_append,List.nil_append] at hS
    replace hW:=Nat.le_trans hW b8.x.size
    replace hm:=Zi hm;obtain⟨dG,dL,hm⟩:=hm
    refine Xu 9 (by kernel_rfl) ?_
    refine Xy 9 H rfl rfl en185 (Zgx (A:=A) dL) rfl (fun v w hv=>.inl (ChgF.of_ext (by obtain⟨_,hE0⟩:=hv;exact hE0))) ?_
    clear H;intro hM hU hv;clear a;intro a H;obtain⟨rfl,b9⟩:=hv
    replace hS:=hS.ext b9
    replace hW:=Nat.le_trans hW b9.size
    refine Zg 10 H rfl (Xn Tryz.underlying3 Tryz.underlying5 ⟨_,rfl⟩ rfl) rfl (by kernel_rfl) (by kernel_rfl) (by kernel_rfl) (by kernel_rfl) (fun _ _ _ h=>h) ?_;clear H a;intro a H
    refine Ki 11 H rfl Tryz.underlying100 sz5 ze5 rfl rfl rfl (cs:=[.int .u8 (IntKind.u8.wrap bM.Prio),.int .u8 (IntKind.u8.wrap dG)]) (by kernel_rfl) rfl (by kernel_rfl) ?_
    clear H;intro fP hY hN cA hs;clear a;intro a H
    have fQ : dF.heap.size ≤ fP:=hs ▸ hW
    replace hS:=hS.newBlk hN cA hs;clear hN hs
    replace hW:=Nat.le_trans hW cA.size
    replace hS:=hS.blkOwnL (e:=eB) (k:=1) [(Zt bM.Prio),(Zt dG)] (by simp [Zb8,Zeg]) rfl (by simp [maxLen])
    replace hS:=hS.pk1
    replace hm:=Tj hm;obtain⟨dM,hm⟩:=hm
    refine Zim (e:=eB) 12 H rfl rfl rfl Tryz.underlying100 Tryz.underlying100 (by simp) el5 (hS.own 0 rfl) (((hS.own 1 rfl).slr rfl (fun _ _=>rfl)).src (fun _ _=>rfl)) Zal dM (by simp only [maxLen];omega) rfl (by kernel_rfl) (.inr (by kernel_rfl)) ?_
    clear H;intro hZ iA hN cB hb;clear a;intro a H;replace hS:=hS.setOwn hN cB hb;clear hN hb
    replace hW:=Nat.le_trans hW cB.size
    replace hS:=hS.pk5
    replace hS:=hS.pk5
    obtain⟨gO,cC,dN,cD,cF⟩:=hS.frame (rs1:=[blkR aB [aX,.int .i64 aU.Code,.int .i64 aU.Place] 190,ownR 5 1 aX aT.length (aT.flatMap eB)])
    replace hm:=Zi hm;obtain⟨dH,dO,hm⟩:=hm
    refine Xu 13 (by kernel_rfl) ?_
    refine Xy 13 H rfl rfl Zp6 (Ye (A:=A) cC (fun w' hw=>(Kn (cD 0 _ rfl _ hw)).slr rfl (fun _ _=>rfl)) dO) rfl (fun _ _ _=>.inr (by kernel_rfl)) ?_
    clear H;intro iB iC hv;clear a;intro a H;obtain⟨fR,rfl,dP⟩:=hv
    replace hS:=cF _ _ dP;simp only [List.cons_append,List.nil_append] at hS;clear cC dN cD cF
    refine Qx (by kernel_rfl) ?_
    refine Zm (Za (wp_region_lit (n_q H (Zc rfl) rfl (W_q (Kb (i:=aK) (j:=1) rfl rfl (by omega)) rfl (W_q (Zb rfl) rfl ?_)))));clear H a;intro a H
    refine Ze (Za ?_)
    obtain rfl:=Option.some.inj hm
    replace hS:=hS.pk1
    replace hS:=hS.pk1
    replace hS:=hS.pk5
    replace hS:=hS.tk3
    exact Vh (gE,aK + 1,dH.B,dH.Err,fR) H ⟨rfl,rfl,rfl,trivial⟩ ⟨dE,hS⟩ (Nat.lt_succ_self _)
  replace hm:=Zv hm bI
  refine wp_exit (Zn (Zn (Zy ?_)))
  obtain rfl:=Option.some.inj hm;have hz : _=eP:=dE;subst hz;replace hm:=fK;try dsimp only at hm
  refine Za (wp_seq (wp_seq (wp_region_lit (n_q H (Zb rfl) rfl ?_))));clear H a;intro a H
  refine Ze (Za (wp_block ?_))
  replace hm:=Zi hm;obtain⟨dI,hm,dQ⟩:=hm;replace hm:=Qg hm;obtain⟨fS,hm⟩:=hm
  refine Jd (σ:=Nat × Nat × (List UInt8) × GR02Err × Value) (fun (m,aC,aD,aE,aG)=>[(1,.pointer (some ⟨aV,0,none⟩)),(3,.pointer (some ⟨aB,0,none⟩)),(7,.int .i64 ((aC : Nat) : Int))]) (fun (m,aC,aD,aE,aG) wl=>Js (Gz a0) m (aC,aD,aE)=some dI ∧ St NB w wl [blkR aV [.int .i64 a0.Id,.bool a0.Mobile,aN,aO,aP,.int .i64 a0.Events,aQ] 27,blkR aB [aG,.int .i64 aE.Code,.int .i64 aE.Place] 190,ownR 5 1 aG aD.length (aD.flatMap eB)]) (fun (m,aC,aD,aE,aG)=>m) (fS,0,aT,aU,aX) H ⟨rfl,rfl,rfl,trivial⟩ ⟨hm,hS⟩ ?_
  clear H hS hm a;intro xx a iD H hR;obtain⟨m,aC,aD,aE,aG⟩:=xx;simp only [ent,List.map_cons,List.map_nil] at H;(try dsimp only at hR);obtain⟨hm,hS⟩:=hR
  replace hm:=Qa hm;obtain⟨fT,iE,rfl,hm,cG⟩:=hm;try dsimp only [Gz] at hm
  refine wp_seq (wp_seq (wp_region_lit (n_q H (Zc rfl) rfl (W_q (Zd rfl Gp) rfl (W_q (Zf rfl ((hS.blk 0 rfl).ld Zi7 rfl)) rfl ?_)))));clear H a;intro a H
  obtain⟨iF,iG,aY,gP,gQ⟩:=SlR.formV (bC.ext (Zq.mono _) hS.x)
  refine n_q H (Qf Tryz.underlying24 rfl aY) rfl (W_q (Xz (i:=aC) (j:=a0.Ports.length) rfl rfl) rfl ?_);clear H a;intro a H
  refine Ze (Za (Zl H rfl (fun aZ=>?_) (fun aZ=>?_)))
  · replace hm:=Zu hm aZ
    have gF : aC < a0.Ports.length:=of_decide_eq_true aZ
    refine wp_skip (Za (wp_seq (wp_block (wp_seq (wp_region_lit (n_q H (Zd rfl Gp) rfl (W_q (Zf rfl ((hS.blk 0 rfl).ld Zi7 rfl)) rfl (W_q (Zc rfl) rfl ?_))))))));clear H a;intro a H
    replace hm:=Zi hm;obtain⟨aA,bJ,hm⟩:=hm
    obtain⟨gG,bN⟩:=SlR.adV (bC.ext (Zq.mono _) hS.x) aY bJ
    refine n_q H (Jn (i:=aC) Tryz.underlying24 Us rfl aY bN rfl (Ho bJ)) rfl (W_q (Zf rfl (SlR.ldAggV (bC.ext (Zq.mono _) hS.x) aY bN Zdq Us bJ)) rfl ?_);clear H a;intro a H
    refine Qr H Zfm rfl ?_
    clear H;intro iH iI hN dR hs;clear a;intro a H
    replace hS:=hS.newBlk hN dR hs;clear hN hs
    refine Zr H rfl rfl (vs:=[.int .i64 aA.Kind,.int .i64 aA.Size,.int .i64 aA.Depth,.int .i64 aA.Refresh]) rfl Us (hS.blk 0 rfl) rfl (by simp) ?_
    clear H;intro iJ hN dS hz;clear a;intro a H;replace hS:=hS.setBlk hN dS;clear hN hz
    refine Ze (Za (wp_region_lit (n_q H (Zc rfl) rfl (W_q (Zd rfl Tv) rfl (W_q (Zf rfl ((hS.blk 0 rfl).ld ag3 rfl)) rfl (W_q (Xn Tryz.underlying3 Tryz.underlying5 ⟨_,rfl⟩ rfl) rfl (W_q (Zd rfl Zdh) rfl (W_q (Zf rfl ((hS.blk 0 rfl).ld ag3 rfl)) rfl (W_q (Xn Tryz.underlying3 Tryz.underlying5 ⟨_,rfl⟩ rfl) rfl (W_q (Zd rfl Zdi) rfl (W_q (Zf rfl ((hS.blk 0 rfl).ld ag3 rfl)) rfl (W_q (Xn Tryz.underlying3 Tryz.underlying5 ⟨_,rfl⟩ rfl) rfl (W_q (Zd rfl Zew) rfl (W_q (Zf rfl ((hS.blk 0 rfl).ld ag3 rfl)) rfl ?_))))))))))))));clear H a;intro a H
    refine n_q H (Xn Tryz.underlying3 Tryz.underlying5 ⟨_,rfl⟩ rfl) rfl ?_;clear H a;intro a H
    refine Qd H Tryz.underlying100 sz5 ze5 rfl rfl rfl (cs:=[.int .u8 (IntKind.u8.wrap aA.Kind),.int .u8 (IntKind.u8.wrap aA.Size),.int .u8 (IntKind.u8.wrap aA.Depth),.int .u8 (IntKind.u8.wrap aA.Refresh)]) (by kernel_rfl) rfl ?_
    clear H;intro iK iL hN dT hs;clear a;intro a H
    replace hS:=hS.newBlk hN dT hs;clear hN hs
    replace hS:=hS.blkOwnL (e:=eB) (k:=1) [(Zt aA.Kind),(Zt aA.Size),(Zt aA.Depth),(Zt aA.Refresh)] (by simp [Zb8,Zeg]) rfl (by simp [maxLen])
    replace hS:=hS.pk4
    replace hS:=hS.pk4
    obtain⟨gR,cH,dU,cI,cJ⟩:=hS.frame (rs1:=[blkR aB [aG,.int .i64 aE.Code,.int .i64 aE.Place] 190,ownR 5 1 aG aD.length (aD.flatMap eB)])
    replace hm:=Zi hm;obtain⟨dJ,dV,hm⟩:=hm
    refine Zj H rfl Zp6 (Ye (A:=A) cH (fun w' hw=>(Kn (cI 0 _ rfl _ hw)).slr rfl (fun _ _=>rfl)) dV) rfl ?_
    clear H;intro iM iN hv;clear a;intro a H;obtain⟨fU,rfl,dW⟩:=hv
    replace hS:=cJ _ _ dW;simp only [List.cons_append,List.nil_append] at hS;clear cH dU cI cJ
    refine Ze (Zm (Za (wp_region_lit (n_q H (Zc rfl) rfl (W_q (Kb (i:=aC) (j:=1) rfl rfl (by omega)) rfl (W_q (Zb rfl) rfl ?_))))));clear H a;intro a H
    refine Ze (Za ?_)
    obtain rfl:=Option.some.inj hm
    replace hS:=hS.pk1
    replace hS:=hS.pk1
    replace hS:=hS.pk4
    replace hS:=hS.tk3
    exact Vh (fT,aC + 1,dJ.B,dJ.Err,fU) H ⟨rfl,rfl,rfl,trivial⟩ ⟨cG,hS⟩ (Nat.lt_succ_self _)
  replace hm:=Zv hm aZ
  refine wp_exit (Zn (Zn (Zy ?_)))
  obtain rfl:=Option.some.inj hm;have hz : _=dI:=cG;subst hz;replace hm:=dQ;try dsimp only at hm
  refine Za (wp_seq (wp_region_lit (n_q H (Zc rfl) rfl (W_q (Zd rfl Zc2) rfl (W_q (Zf rfl ((hS.blk 0 rfl).ld ag3 rfl)) rfl (W_q (Xn Tryz.underlying3 Tryz.underlying5 ⟨_,rfl⟩ rfl) rfl ?_))))));clear H a;intro a H
  refine Qd H Tryz.underlying100 sz5 ze5 rfl rfl rfl (cs:=[.int .u8 (IntKind.u8.wrap a0.Events)]) (by kernel_rfl) rfl ?_
  clear H;intro iO iP hN dX hs;clear a;intro a H
  replace hS:=hS.newBlk hN dX hs;clear hN hs
  replace hS:=hS.blkOwnL (e:=eB) (k:=1) [(Zt a0.Events)] (by simp [Zb8,Zeg]) rfl (by simp [maxLen])
  replace hS:=hS.pk3
  replace hS:=hS.pk3
  obtain⟨gS,cK,dY,cL,cM⟩:=hS.frame (rs1:=[blkR aB [aG,.int .i64 aE.Code,.int .i64 aE.Place] 190,ownR 5 1 aG aD.length (aD.flatMap eB)])
  replace hm:=Zi hm;obtain⟨aJ,dZ,hm⟩:=hm
  refine Zj H rfl Zp6 (Ye (A:=A) cK (fun w' hw=>(Kn (cL 0 _ rfl _ hw)).slr rfl (fun _ _=>rfl)) dZ) rfl ?_
  clear H;intro iQ iR hv;clear a;intro a H;obtain⟨bK,rfl,d5⟩:=hv
  replace hS:=cM _ _ d5;simp only [List.cons_append,List.nil_append] at hS;clear cK dY cL cM
  refine Ze (Za (wp_seq (wp_region_lit (n_q H (Zb rfl) rfl ?_))));clear H a;intro a H
  refine Ze (Za (wp_seq (wp_seq (wp_region_lit (n_q H (Zb rfl) rfl ?_)))));clear H a;intro a H
  refine Ze (Za (wp_block ?_))
  replace hS:=hS.nilOwn 5 1
  replace hS:=hS.pk2
  replace hS:=hS.pk2
  replace hS:=hS.pk4
  replace hS:=hS.pk3
  replace hS:=hS.tk4
  replace hm:=Zi hm;obtain⟨dK,hm,d7⟩:=hm;replace hm:=Qg hm;obtain⟨fV,hm⟩:=hm
  refine Jd (σ:=Nat × (List UInt8) × Nat × Value) (fun (m,aM,aF,bE)=>[(1,.pointer (some ⟨aV,0,none⟩)),(3,.pointer (some ⟨aB,0,none⟩)),(9,bE),(10,.int .i64 ((aF : Nat) : Int))]) (fun (m,aM,aF,bE) wl=>Js (Ue a0) m (aM,aF)=some dK ∧ St NB w wl [ownR 5 1 bE aM.length (aM.flatMap eB),blkR aV [.int .i64 a0.Id,.bool a0.Mobile,aN,aO,aP,.int .i64 a0.Events,aQ] 27,blkR aB [bK,.int .i64 aJ.Err.Code,.int .i64 aJ.Err.Place] 190,ownR 5 1 bK aJ.B.length (aJ.B.flatMap eB)]) (fun (m,aM,aF,bE)=>m) (fV,([] : List UInt8),0,.slice none 0 0) H ⟨rfl,rfl,rfl,rfl,trivial⟩ ⟨hm,hS⟩ ?_
  clear H hS hm a;intro xx a iS H hR;obtain⟨m,aM,aF,bE⟩:=xx;simp only [ent,List.map_cons,List.map_nil] at H;(try dsimp only at hR);obtain⟨hm,hS⟩:=hR
  replace hm:=Qa hm;obtain⟨fW,iT,rfl,hm,cN⟩:=hm;try dsimp only [Ue] at hm
  refine wp_seq (wp_seq (wp_region_lit (n_q H (Zc rfl) rfl (W_q (Zd rfl Gq) rfl (W_q (Zf rfl ((hS.blk 1 rfl).ld Zij rfl)) rfl ?_)))));clear H a;intro a H
  obtain⟨iU,iV,a9,gT,gU⟩:=SlR.formV (bD.ext (Zq.mono _) hS.x)
  refine n_q H (Qf Tryz.underlying25 rfl a9) rfl (W_q (Xz (i:=aF) (j:=a0.Sems.length) rfl rfl) rfl ?_);clear H a;intro a H
  refine Ze (Za (Zl H rfl (fun bA=>?_) (fun bA=>?_)))
  · replace hm:=Zu hm bA
    have gH : aF < a0.Sems.length:=of_decide_eq_true bA
    refine wp_skip (Za (wp_seq (wp_block (wp_region_lit (n_q H (Zc rfl) rfl (W_q (Zd rfl Gq) rfl (W_q (Zf rfl ((hS.blk 1 rfl).ld Zij rfl)) rfl (W_q (Zc rfl) rfl ?_))))))));clear H a;intro a H
    replace hm:=Zi hm;obtain⟨bV,bL,hm⟩:=hm
    obtain⟨gI,bO⟩:=SlR.adV (bD.ext (Zq.mono _) hS.x) a9 bL
    refine n_q H (Jn (i:=aF) Tryz.underlying25 sz3 rfl a9 bO rfl (Ho bL)) rfl (W_q (Zf rfl (SlR.ldOneV (bD.ext (Zq.mono _) hS.x) a9 bO ag3 bL rfl)) rfl (W_q (Xn Tryz.underlying3 Tryz.underlying5 ⟨_,rfl⟩ rfl) rfl ?_));clear H a;intro a H
    refine Qd H Tryz.underlying100 sz5 ze5 rfl rfl rfl (cs:=[.int .u8 (IntKind.u8.wrap bV)]) (by kernel_rfl) rfl ?_
    clear H;intro iW iX hN d8 hs;clear a;intro a H
    replace hS:=hS.newBlk hN d8 hs;clear hN hs
    replace hS:=hS.blkOwnL (e:=eB) (k:=1) [(Zt bV)] (by simp [Zb8,Zeg]) rfl (by simp [maxLen])
    replace hS:=hS.pk1
    replace hm:=Tj hm;obtain⟨d9,hm⟩:=hm
    refine Zb1 (e:=eB) H rfl rfl Tryz.underlying100 Tryz.underlying100 (by simp) el5 (hS.own 0 rfl) (((hS.own 1 rfl).slr rfl (fun _ _=>rfl)).src (fun _ _=>rfl)) Zal d9 (by simp only [maxLen];omega) rfl ?_
    clear H;intro fX iY hN eA hb;clear a;intro a H;replace hS:=hS.setOwn hN eA hb;clear hN hb
    refine n_q H (Zb rfl) rfl ?_;clear H a;intro a H
    refine Ze (Zm (Za (wp_region_lit (n_q H (Zc rfl) rfl (W_q (Kb (i:=aF) (j:=1) rfl rfl (by omega)) rfl (W_q (Zb rfl) rfl ?_))))));clear H a;intro a H
    refine Ze (Za ?_)
    obtain rfl:=Option.some.inj hm
    replace hS:=hS.pk4
    replace hS:=hS.pk4
    replace hS:=hS.pk4
    replace hS:=hS.pk3
    replace hS:=hS.tk4
    exact Vh (fW,(aM ++ [(Zt bV)]),aF + 1,fX) H ⟨rfl,rfl,rfl,rfl,trivial⟩ ⟨cN,hS⟩ (Nat.lt_succ_self _)
  replace hm:=Zv hm bA
  refine wp_exit (Zn (Zn (Zy ?_)))
  obtain rfl:=Option.some.inj hm;have hz : _=dK:=cN;subst hz;replace hm:=d7;try dsimp only at hm
  refine Za (wp_seq (wp_region_lit (n_q H (Zc rfl) rfl (W_q (Zc rfl) rfl ?_))));clear H a;intro a H
  replace hS:=hS.pk3
  replace hS:=hS.pk3
  obtain⟨gV,cO,eC,cP,cQ⟩:=hS.frame (rs1:=[blkR aB [bK,.int .i64 aJ.Err.Code,.int .i64 aJ.Err.Place] 190,ownR 5 1 bK aJ.B.length (aJ.B.flatMap eB)])
  replace hm:=Zi hm;obtain⟨iZ,eD,hm⟩:=hm
  refine Zj H rfl Zp6 (Ye (A:=A) cO (fun w' hw=>(Kn (cP 0 _ rfl _ hw)).slr rfl (fun _ _=>rfl)) eD) rfl ?_
  clear H;intro i2 i3 hv;clear a;intro a H;obtain⟨i4,rfl,eE⟩:=hv
  replace hS:=cQ _ _ eE;simp only [List.cons_append,List.nil_append] at hS;clear cO eC cP cQ
  refine Ze (Za (wp_seq (wp_region_lit (n_q H (Zc rfl) rfl (W_q (Zp rfl) rfl (W_q (Zd rfl Zhy) rfl (W_q (Zf rfl ((hS.blk 0 rfl).ld Zdx rfl)) rfl (W_q (Zb rfl) rfl ?_))))))));clear H a;intro a H
  refine Ze (Za (wp_ret ?_))
  obtain rfl:=Option.some.inj hm
  replace hS:=hS.pk1
  replace hS:=hS.tk1
  refine Je H (.inr rfl) rfl rfl ?_
  exact⟨_,rfl,hS⟩
theorem Zb5 {w : World} {A : Nat → Addr} {fp : Nat → Prop} {b0 : Nat} {v0_0 : Value} {a0 : GR02Writer} {v1 : Value} {a1 : List UInt8} (hP : Sep w fp [blkR b0 [v0_0,.int .i64 a0.Err.Code,.int .i64 a0.Err.Place] 190,ownR 5 1 v0_0 a0.B.length (a0.B.flatMap eB)]) (h1 : ∀ w',ChgP fp w w' → SlR w' 1 (Zq eB) v1 a1) {r : GR02Writer} (hm : Vm a0 a1=some r) :
    Calls Tryz.prog 110 [.pointer (some ⟨b0,0,none⟩),v1].toArray w (Ret fun u w'=>∃ h_0,u=.tuple #[] ∧ St fp w w' [blkR b0 [h_0,.int .i64 r.Err.Code,.int .i64 r.Err.Place] 190,ownR 5 1 h_0 r.B.length (r.B.flatMap eB)]):=by
  have hS:=St.init hP
  unfold Vm at hm
  refine enter Tryz.func110 rfl rfl rfl ?_;intro a H;dsimp only [Qk,Nat.zero_add,Nat.reduceAdd] at H
  refine wp_region_lit (n_q H (Zc rfl) rfl (W_q (Zc rfl) rfl ?_));clear H a;intro a H
  replace hS:=hS.pk1
  replace hS:=hS.pk1
  obtain⟨aG,aA,aB,aD,aC⟩:=hS.frame (rs1:=[blkR b0 [v0_0,.int .i64 a0.Err.Code,.int .i64 a0.Err.Place] 190,ownR 5 1 v0_0 a0.B.length (a0.B.flatMap eB)])
  replace hm:=Zi hm;obtain⟨aH,aE,hm⟩:=hm
  refine Zj H rfl Zol (Yj (A:=A) aA (fun w' hw=>h1 _ (aB _ hw)) aE) rfl ?_
  clear H;intro aI aJ hv;clear a;intro a H;obtain⟨aK,rfl,aF⟩:=hv
  replace hS:=aC _ _ aF;simp only [List.cons_append,List.nil_append] at hS;clear aA aB aD aC
  refine Ze ?_
  obtain rfl:=Option.some.inj hm
  refine Ze8 H (.inl rfl) rfl ?_
  exact⟨_,rfl,hS⟩
theorem Zlh {w : World} {A : Nat → Addr} {a0 : Int} {a1 : Int} {r : Int} (hm : Zcz a0 a1=some r) :
    Calls Tryz.prog 204 [.int .u32 a0,.int .u8 a1].toArray w (Ret fun u w'=>u=.int .u32 r ∧ Ext w w'):=by
  have hS:=St.begin NB w
  unfold Zcz at hm
  refine enter Tryz.func204 rfl rfl rfl ?_;intro a H;dsimp only [Qk,Nat.zero_add,Nat.reduceAdd] at H
  refine wp_seq (wp_region_lit (n_q H (Zb rfl) rfl ?_));clear H a;intro a H
  refine Ze (Za (wp_seq (wp_region_lit (n_q H (Zc rfl) rfl (W_q (Zc rfl) rfl (W_q (Xn Tryz.underlying5 Tryz.underlying101 ⟨_,rfl⟩ rfl) rfl (W_q (Zn8 rfl rfl) rfl (W_q (Zb rfl) rfl ?_))))))));clear H a;intro a H
  refine Ze (Za (wp_seq (wp_seq (wp_region_lit (n_q H (Zb rfl) rfl ?_)))));clear H a;intro a H
  refine Ze (Za (wp_block ?_))
  replace hm:=Zi hm;obtain⟨aH,hm,aI⟩:=hm;replace hm:=Qg hm;obtain⟨aJ,hm⟩:=hm
  refine Jd (σ:=Nat × Int × Nat) (fun (m,aB,aA)=>[(0,.int .u32 aB),(5,.int .i64 ((aA : Nat) : Int))]) (fun (m,aB,aA) wl=>Js Vr m (aB,aA)=some aH ∧ St NB w wl []) (fun (m,aB,aA)=>m) (aJ,(Uo .u32 a0 (IntKind.u32.wrap a1)),0) H ⟨rfl,rfl,trivial⟩ ⟨hm,hS⟩ ?_
  clear H hS hm a;intro xx a aO H hR;obtain⟨m,aB,aA⟩:=xx;simp only [ent,List.map_cons,List.map_nil] at H;(try dsimp only at hR);obtain⟨hm,hS⟩:=hR
  replace hm:=Qa hm;obtain⟨aK,aL,rfl,hm,aF⟩:=hm;try dsimp only [Vr] at hm
  refine wp_seq (wp_seq (wp_region_lit (n_q H (Zc rfl) rfl (W_q (Xz (i:=aA) (j:=8) rfl rfl) rfl ?_))));clear H a;intro a H
  refine Ze (Za (Zl H rfl (fun aD=>?_) (fun aD=>?_)))
  · replace hm:=Zu hm aD
    have aM : aA < 8:=of_decide_eq_true aD
    refine wp_skip (Za ?_)
    replace hm:=Zi hm;obtain⟨aP,hm,aG⟩:=hm
    refine Hj (σ:=Int) H (fun aC=>[(0,.int .u32 aC),(5,.int .i64 ((aA : Nat) : Int))]) (fun aC wl=>(Tu aA) aC=some aL ∧ St NB w wl []) ?_ ?_
    · skip
      refine wp_block (wp_seq (wp_region_lit (n_q H (Zc rfl) rfl (W_q (q_and rfl rfl) rfl (W_q (Zb rfl) rfl ?_)))));clear H a;intro a H
      refine Ze (Za (wp_seq (wp_region_lit (n_q H (Zc rfl) rfl (W_q (Zil rfl rfl (by decide)) rfl (W_q (Zb rfl) rfl ?_))))));clear H a;intro a H
      refine Ze (Za (wp_seq (wp_region_lit (n_q H (Zc rfl) rfl (W_q (Ky rfl rfl) rfl ?_)))));clear H a;intro a H
      refine Ze (Za (Zl H rfl (fun aE=>?_) (fun aE=>?_)))
      · replace hm:=Zu hm aE
        refine wp_region_lit (n_q H (Zc rfl) rfl (W_q (Zn8 rfl rfl) rfl (W_q (Zb rfl) rfl ?_)));clear H a;intro a H
        refine Ze (Zm (Za ?_))
        obtain rfl:=Option.some.inj hm;replace hm:=aG;try dsimp only at hm
        exact Wh (Uo .u32 (shR .u32 aB 1) 3988292384) H ⟨rfl,rfl,trivial⟩ ⟨hm,hS⟩
      replace hm:=Zv hm aE
      refine wp_skip (Zm (Za ?_))
      obtain rfl:=Option.some.inj hm;replace hm:=aG;try dsimp only at hm
      exact Wh (shR .u32 aB 1) H ⟨rfl,rfl,trivial⟩ ⟨hm,hS⟩
    clear H hS hm a;intro aC a aN H hR
    simp only [ent,List.map_cons,List.map_nil] at H;(try dsimp only at hR);obtain⟨hm,hS⟩:=hR;try dsimp only [Tu] at hm
    refine wp_region_lit (n_q H (Zc rfl) rfl (W_q (Kb (i:=aA) (j:=1) rfl rfl (by omega)) rfl (W_q (Zb rfl) rfl ?_)));clear H a;intro a H
    refine Ze (Za ?_)
    obtain rfl:=Option.some.inj hm
    exact Vh (aK,aC,aA + 1) H ⟨rfl,rfl,trivial⟩ ⟨aF,hS⟩ (Nat.lt_succ_self _)
  replace hm:=Zv hm aD
  refine wp_exit (Zn (Zn (Zy ?_)))
  obtain rfl:=Option.some.inj hm;have hz : _=aH:=aF;subst hz;replace hm:=aI;try dsimp only at hm
  refine Za (wp_seq (wp_region_lit (n_q H (Zc rfl) rfl (W_q (Zb rfl) rfl ?_))));clear H a;intro a H
  refine Ze (Za (wp_ret ?_))
  obtain rfl:=Option.some.inj hm
  refine Je H (.inr rfl) rfl rfl ?_
  exact⟨rfl,hS.x⟩
theorem Ze3 {w : World} {A : Nat → Addr} {v0 : Value} {a0 : List UInt8} (h0 : SlR w 1 (Zq eB) v0 a0) {r : Int} (hm : Zbp a0=some r) :
    Calls Tryz.prog 136 [v0].toArray w (Ret fun u w'=>u=.int .u32 r ∧ Ext w w'):=by
  have hS:=St.begin NB w
  unfold Zbp at hm
  refine enter Tryz.func136 rfl rfl rfl ?_;intro a H;dsimp only [Qk,Nat.zero_add,Nat.reduceAdd] at H
  refine wp_seq (wp_region_lit (n_q H (Zb rfl) rfl ?_));clear H a;intro a H
  refine Ze (Za (wp_seq (wp_region_lit (n_q H (Zb rfl) rfl ?_))));clear H a;intro a H
  refine Ze (Za (wp_seq (wp_seq (wp_region_lit (n_q H (Zb rfl) rfl ?_)))));clear H a;intro a H
  refine Ze (Za (wp_block ?_))
  replace hm:=Zi hm;obtain⟨aH,hm,aI⟩:=hm;replace hm:=Qg hm;obtain⟨aL,hm⟩:=hm
  refine Jd (σ:=Nat × Int × Nat) (fun (m,aD,aA)=>[(0,v0),(3,.int .u32 aD),(4,.int .i64 ((aA : Nat) : Int))]) (fun (m,aD,aA) wl=>Js (Gn a0) m (aD,aA)=some aH ∧ St NB w wl []) (fun (m,aD,aA)=>m) (aL,4294967295,0) H ⟨rfl,rfl,rfl,trivial⟩ ⟨hm,hS⟩ ?_
  clear H hS hm a;intro xx a aS H hR;obtain⟨m,aD,aA⟩:=xx;simp only [ent,List.map_cons,List.map_nil] at H;(try dsimp only at hR);obtain⟨hm,hS⟩:=hR
  replace hm:=Qa hm;obtain⟨aM,aT,rfl,hm,aG⟩:=hm;try dsimp only [Gn] at hm
  refine wp_seq (wp_seq (wp_region_lit (n_q H (Zc rfl) rfl (W_q (Zc rfl) rfl ?_))));clear H a;intro a H
  obtain⟨aU,aV,aB,aQ,aR⟩:=SlR.formV (h0.ext (Zq.mono _) hS.x)
  refine n_q H (Qf Tryz.underlying100 rfl aB) rfl (W_q (Xz (i:=aA) (j:=a0.length) rfl rfl) rfl ?_);clear H a;intro a H
  refine Ze (Za (Zl H rfl (fun aC=>?_) (fun aC=>?_)))
  · replace hm:=Zu hm aC
    have aO : aA < a0.length:=of_decide_eq_true aC
    refine wp_skip (Za (wp_seq (wp_block (wp_region_lit (n_q H (Zc rfl) rfl (W_q (Zc rfl) rfl (W_q (Zc rfl) rfl ?_)))))));clear H a;intro a H
    replace hm:=Zi hm;obtain⟨aW,aE,hm⟩:=hm
    obtain⟨aP,aF⟩:=SlR.adV (h0.ext (Zq.mono _) hS.x) aB aE
    refine n_q H (Jn (i:=aA) Tryz.underlying100 sz5 rfl aB aF rfl (Ho aE)) rfl (W_q (Zf rfl (SlR.ldOneV (h0.ext (Zq.mono _) hS.x) aB aF ag5 aE rfl)) rfl ?_);clear H a;intro a H
    replace hm:=Zi hm;obtain⟨aN,aJ,hm⟩:=hm
    refine Zj H rfl en204 (Zlh (A:=A) aJ) rfl ?_
    clear H;intro aX aY hv;clear a;intro a H;obtain⟨rfl,aK⟩:=hv
    replace hS:=hS.ext aK
    refine n_q H (Zb rfl) rfl ?_;clear H a;intro a H
    refine Ze (Zm (Za (wp_region_lit (n_q H (Zc rfl) rfl (W_q (Kb (i:=aA) (j:=1) rfl rfl (by omega)) rfl (W_q (Zb rfl) rfl ?_))))));clear H a;intro a H
    refine Ze (Za ?_)
    obtain rfl:=Option.some.inj hm
    exact Vh (aM,aN,aA + 1) H ⟨rfl,rfl,rfl,trivial⟩ ⟨aG,hS⟩ (Nat.lt_succ_self _)
  replace hm:=Zv hm aC
  refine wp_exit (Zn (Zn (Zy ?_)))
  obtain rfl:=Option.some.inj hm;have hz : _=aH:=aG;subst hz;replace hm:=aI;try dsimp only at hm
  refine Za (wp_seq (wp_region_lit (n_q H (Zc rfl) rfl (W_q (Zn8 rfl rfl) rfl (W_q (Zb rfl) rfl ?_)))));clear H a;intro a H
  refine Ze (Za (wp_ret ?_))
  obtain rfl:=Option.some.inj hm
  refine Je H (.inr rfl) rfl rfl ?_
  exact⟨rfl,hS.x⟩
theorem Zli {w : World} {A : Nat → Addr} {v0 : Value} {a0 : List UInt8} (h0 : SlR w 1 (Zq eB) v0 a0) {r : List UInt8} (hm : Zc0 a0=some r) :
    Calls Tryz.prog 112 [v0].toArray w (Ret fun u w'=>∃ h_0,u=h_0 ∧ St NB w w' [ownR 5 1 h_0 r.length (r.flatMap eB)]):=by
  have hS:=St.begin NB w
  unfold Zc0 at hm
  refine enter Tryz.func112 rfl rfl rfl ?_;intro a H;dsimp only [Qk,Nat.zero_add,Nat.reduceAdd] at H
  refine wp_seq (wp_region_lit (n_q H (Zb rfl) rfl ?_));clear H a;intro a H
  refine Ze (Za (wp_seq (wp_region_lit (Qd H Tryz.underlying100 sz5 ze5 rfl rfl rfl (cs:=[]) rfl rfl ?_))))
  clear H;intro aW aX hN aH hs;clear a;intro a H
  replace hS:=hS.newBlk hN aH hs;clear hN hs
  replace hS:=hS.blkOwnL (e:=eB) (k:=1) ([] : List UInt8) rfl rfl (by simp [maxLen])
  refine n_q H (Zc rfl) rfl ?_;clear H a;intro a H
  replace hm:=Tj hm;obtain⟨aI,hm⟩:=hm
  refine Zb1 (e:=eB) H rfl rfl Tryz.underlying100 Tryz.underlying100 (by simp) el5 (hS.own 0 rfl) ((h0.ext (Zq.mono _) hS.x).src (fun _ _=>rfl)) Zal aI (by simp only [maxLen];omega) rfl ?_
  clear H;intro aR aY hN aJ hb;clear a;intro a H;replace hS:=hS.setOwn hN aJ hb;clear hN hb
  refine n_q H (Zb rfl) rfl ?_;clear H a;intro a H
  refine Ze (Za (wp_seq (wp_region_lit (n_q H (Zc rfl) rfl ?_))));clear H a;intro a H
  replace hm:=Zi hm;obtain⟨aD,aK,hm⟩:=hm
  refine Zj H rfl Zui (Ze3 (A:=A) (h0.ext (Zq.mono _) hS.x) aK) rfl ?_
  clear H;intro aZ a9 hv;clear a;intro a H;obtain⟨rfl,aL⟩:=hv
  replace hS:=hS.ext aL
  refine n_q H (Zb rfl) rfl ?_;clear H a;intro a H
  refine Ze (Za (wp_seq (wp_seq (wp_region_lit (n_q H (Zb rfl) rfl ?_)))));clear H a;intro a H
  refine Ze (Za (wp_block ?_))
  replace hm:=Zi hm;obtain⟨aG,hm,aM⟩:=hm;replace hm:=Qg hm;obtain⟨aS,hm⟩:=hm
  refine Jd (σ:=Nat × (List UInt8) × Nat × Value) (fun (m,aB,aA,aE)=>[(3,aE),(4,.int .u32 aD),(5,.int .i64 ((aA : Nat) : Int))]) (fun (m,aB,aA,aE) wl=>Js (Uf aD) m (aB,aA)=some aG ∧ St NB w wl [ownR 5 1 aE aB.length (aB.flatMap eB)]) (fun (m,aB,aA,aE)=>m) (aS,(([] : List UInt8) ++ a0),0,aR) H ⟨rfl,rfl,rfl,trivial⟩ ⟨hm,hS⟩ ?_
  clear H hS hm a;intro xx a bA H hR;obtain⟨m,aB,aA,aE⟩:=xx;simp only [ent,List.map_cons,List.map_nil] at H;(try dsimp only at hR);obtain⟨hm,hS⟩:=hR
  replace hm:=Qa hm;obtain⟨aT,bB,rfl,hm,aF⟩:=hm;try dsimp only [Uf] at hm
  refine wp_seq (wp_seq (wp_region_lit (n_q H (Zc rfl) rfl (W_q (Xz (i:=aA) (j:=4) rfl rfl) rfl ?_))));clear H a;intro a H
  refine Ze (Za (Zl H rfl (fun aC=>?_) (fun aC=>?_)))
  · replace hm:=Zu hm aC
    have aV : aA < 4:=of_decide_eq_true aC
    refine wp_skip (Za (wp_seq (wp_block (wp_region_lit (n_q H (Zc rfl) rfl (W_q (Zc rfl) rfl (W_q (Zc rfl) rfl (W_q (Zav rfl rfl) rfl ?_))))))));clear H a;intro a H
    replace hm:=Tj hm;obtain⟨aN,hm⟩:=hm
    refine n_q H (Zil rfl rfl aN) rfl (W_q (Xn Tryz.underlying101 Tryz.underlying5 ⟨_,rfl⟩ rfl) rfl ?_);clear H a;intro a H
    refine Qd H Tryz.underlying100 sz5 ze5 rfl rfl rfl (cs:=[.int .u8 (IntKind.u8.wrap (shR .u32 aD (IntKind.i64.wrap (8 * ((aA : Nat) : Int)))))]) (by kernel_rfl) rfl ?_
    clear H;intro bC bD hN aO hs;clear a;intro a H
    replace hS:=hS.newBlk hN aO hs;clear hN hs
    replace hS:=hS.blkOwnL (e:=eB) (k:=1) [(Zt (shR .u32 aD (IntKind.i64.wrap (8 * ((aA : Nat) : Int)))))] (by simp [Zb8,Zeg]) rfl (by simp [maxLen])
    replace hS:=hS.pk1
    replace hm:=Tj hm;obtain⟨aP,hm⟩:=hm
    refine Zb1 (e:=eB) H rfl rfl Tryz.underlying100 Tryz.underlying100 (by simp) el5 (hS.own 0 rfl) (((hS.own 1 rfl).slr rfl (fun _ _=>rfl)).src (fun _ _=>rfl)) Zal aP (by simp only [maxLen];omega) rfl ?_
    clear H;intro aU bE hN aQ hb;clear a;intro a H;replace hS:=hS.setOwn hN aQ hb;clear hN hb
    refine n_q H (Zb rfl) rfl ?_;clear H a;intro a H
    refine Ze (Zm (Za (wp_region_lit (n_q H (Zc rfl) rfl (W_q (Kb (i:=aA) (j:=1) rfl rfl (by omega)) rfl (W_q (Zb rfl) rfl ?_))))));clear H a;intro a H
    refine Ze (Za ?_)
    obtain rfl:=Option.some.inj hm
    replace hS:=hS.tk1
    exact Vh (aT,(aB ++ [(Zt (shR .u32 aD (IntKind.i64.wrap (8 * ((aA : Nat) : Int)))))]),aA + 1,aU) H ⟨rfl,rfl,rfl,trivial⟩ ⟨aF,hS⟩ (Nat.lt_succ_self _)
  replace hm:=Zv hm aC
  refine wp_exit (Zn (Zn (Zy ?_)))
  obtain rfl:=Option.some.inj hm;have hz : _=aG:=aF;subst hz;replace hm:=aM;try dsimp only at hm
  refine Za (wp_seq (wp_region_lit (n_q H (Zc rfl) rfl (W_q (Zb rfl) rfl ?_))));clear H a;intro a H
  refine Ze (Za (wp_ret ?_))
  obtain rfl:=Option.some.inj hm
  refine Je H (.inr rfl) rfl rfl ?_
  exact⟨_,rfl,hS⟩
theorem Zdj {w : World} {A : Nat → Addr} {cs0 : List Value} {a0 : GPlan} (h0 : Qw w cs0 a0) {r : List UInt8 × Int} (hm : Ug a0=some r) :
    Calls Tryz.prog 50 [.agg cs0.toArray].toArray w (Ret fun u w'=>∃ h_0,u=.tuple #[h_0,.int .i64 r.2] ∧ St NB w w' [ownR 5 1 h_0 r.1.length (r.1.flatMap eB)]):=by
  obtain⟨aA,aB,aC,aD,rfl,aE,aF,aG,aH⟩:=h0
  have hS:=St.begin NB w
  unfold Ug at hm
  refine enter Tryz.func50 rfl rfl rfl ?_;intro a H;dsimp only [Qk,Nat.zero_add,Nat.reduceAdd] at H
  refine wp_seq (wp_region_lit (Wt H rfl (cs:=[.int .i64 a0.Id,.bool a0.Mobile,aA,aB,aC,.int .i64 a0.Events,aD]) rfl rfl ?_))
  clear H;intro cC cD hN bA hs;clear a;intro a H
  replace hS:=hS.newBlk hN bA hs;clear hN hs
  refine n_q H (Zb rfl) rfl (W_q (Zb rfl) rfl ?_);clear H a;intro a H
  refine Ze (Za (wp_seq (wp_seq (wp_region_lit (n_q H (Zf rfl ((hS.blk 0 rfl).ldAll Zap Ut)) rfl ?_)))));clear H a;intro a H
  replace hm:=Zi hm;obtain⟨cF,bB,hm⟩:=hm
  refine Zj H rfl en33 (Zlf (A:=A) (⟨_,_,_,_,rfl,(aE.ext (Zq.mono _) hS.x),(aF.ext (Zq.mono _) hS.x),(aG.ext (Zq.mono _) hS.x),(aH.ext (Zq.mono _) hS.x)⟩ : Qw _ [.int .i64 a0.Id,.bool a0.Mobile,aA,aB,aC,.int .i64 a0.Events,aD] a0) bB) rfl ?_
  clear H;intro cG cH hv;clear a;intro a H;obtain⟨rfl,bC⟩:=hv
  replace hS:=hS.ext bC
  refine n_q H (Zf5 rfl) rfl ?_;clear H a;intro a H
  refine Ze (Za (Zl H rfl (fun aI=>?_) (fun aI=>?_)))
  · replace hm:=Zu hm aI
    refine wp_seq (wp_region_lit (n_q H (Zb rfl) rfl (W_q (Zb rfl) rfl ?_)));clear H a;intro a H
    refine Ze (Za (wp_ret (Zh ?_)))
    obtain rfl:=Option.some.inj hm
    replace hS:=hS.nilOwn 5 1
    replace hS:=hS.tk1
    refine Zda H (.inr rfl) rfl rfl rfl ?_
    exact⟨_,rfl,hS⟩
  replace hm:=Zv hm aI
  refine wp_skip (Za (wp_seq (wp_region_lit (n_q H (Zf rfl ((hS.blk 0 rfl).ldAll Zap Ut)) rfl ?_))));clear H a;intro a H
  replace hm:=Zi hm;obtain⟨cI,bD,hm⟩:=hm
  refine Zj H rfl en108 (Zlg (A:=A) (⟨_,_,_,_,rfl,(aE.ext (Zq.mono _) hS.x),(aF.ext (Zq.mono _) hS.x),(aG.ext (Zq.mono _) hS.x),(aH.ext (Zq.mono _) hS.x)⟩ : Qw _ [.int .i64 a0.Id,.bool a0.Mobile,aA,aB,aC,.int .i64 a0.Events,aD] a0) bD) rfl ?_
  clear H;intro cJ cK hv;clear a;intro a H;obtain⟨_,rfl,bE⟩:=hv
  replace hS:=hS.new bE;simp only [List.cons_append,List.nil_append] at hS
  refine n_q H (Zb rfl) rfl ?_;clear H a;intro a H
  refine Ze (Za (wp_seq (wp_region_lit ?_)))
  replace hm:=Zi hm;obtain⟨aJ,bF,hm⟩:=hm
  refine Zj H rfl en109 (Zh0 (A:=A) bF) rfl ?_
  clear H;intro cL cM hv;clear a;intro a H;obtain⟨aK,aY,rfl,bG⟩:=hv
  replace hS:=hS.new bG;simp only [List.cons_append,List.nil_append] at hS
  refine n_q H (Zb rfl) rfl ?_;clear H a;intro a H
  refine Ze (Za (wp_seq (wp_region_lit (n_q H (Zc rfl) rfl ?_))));clear H a;intro a H
  refine Zgr H Tryz.underlying100 Tryz.underlying5 sz5 ze5 rfl rfl rfl (cs:=[.int .u8 70,.int .u8 80,.int .u8 76,.int .u8 78]) (by kernel_rfl) rfl rfl ?_
  clear H;intro cN cO hN bH hs;clear a;intro a H
  replace hS:=hS.newBlk hN bH hs;clear hN hs
  replace hS:=hS.blkOwnL (e:=eB) (k:=1) [(Zt 70),(Zt 80),(Zt 76),(Zt 78)] (by kernel_rfl) rfl (by simp [maxLen])
  replace hS:=hS.pk2
  replace hS:=hS.pk2
  obtain⟨bZ,aO,bI,aP,aQ⟩:=hS.frame (rs1:=[blkR aK [aY,.int .i64 aJ.Err.Code,.int .i64 aJ.Err.Place] 190,ownR 5 1 aY aJ.B.length (aJ.B.flatMap eB)])
  replace hm:=Zi hm;obtain⟨aL,bJ,hm⟩:=hm
  refine Zj H rfl en110 (Zb5 (A:=A) aO (fun w' hw=>(Kn (aP 0 _ rfl _ hw)).slr rfl (fun _ _=>rfl)) bJ) rfl ?_
  clear H;intro cP cQ hv;clear a;intro a H;obtain⟨aZ,rfl,bK⟩:=hv
  replace hS:=aQ _ _ bK;simp only [List.cons_append,List.nil_append] at hS;clear aO bI aP aQ
  refine Ze (Za (wp_seq (wp_region_lit (n_q H (Zc rfl) rfl ?_))));clear H a;intro a H
  replace hS:=hS.pk1
  replace hS:=hS.pk1
  obtain⟨b7,aR,bL,bM,aS⟩:=hS.frame (rs1:=[blkR aK [aZ,.int .i64 aL.Err.Code,.int .i64 aL.Err.Place] 190,ownR 5 1 aZ aL.B.length (aL.B.flatMap eB)])
  replace hm:=Zi hm;obtain⟨aM,bN,hm⟩:=hm
  refine Zj H rfl Zr3 (Gg (A:=A) aR bN) rfl ?_
  clear H;intro cR cT hv;clear a;intro a H;obtain⟨a9,rfl,bO⟩:=hv
  replace hS:=aS _ _ bO;simp only [List.cons_append,List.nil_append] at hS;clear aR bL bM aS
  refine Ze (Za (wp_seq (wp_region_lit (n_q H (Zc rfl) rfl (W_q (Zc rfl) rfl ?_)))));clear H a;intro a H
  obtain⟨cU,cV,bP,b8,b9⟩:=SlR.formV ((hS.own 3 rfl).slr rfl (fun _ _=>rfl))
  refine n_q H (Qf Tryz.underlying100 rfl bP) rfl (W_q (Xv rfl rfl) rfl ?_);clear H a;intro a H
  replace hS:=hS.pk1
  replace hS:=hS.pk1
  obtain⟨cA,aT,bQ,bR,aU⟩:=hS.frame (rs1:=[blkR aK [a9,.int .i64 aM.Err.Code,.int .i64 aM.Err.Place] 190,ownR 5 1 a9 aM.B.length (aM.B.flatMap eB)])
  replace hm:=Zi hm;obtain⟨aN,bS,hm⟩:=hm
  refine Zj H rfl Zr3 (Gg (A:=A) aT bS) rfl ?_
  clear H;intro cW cX hv;clear a;intro a H;obtain⟨u64,rfl,bT⟩:=hv
  replace hS:=aU _ _ bT;simp only [List.cons_append,List.nil_append] at hS;clear aT bQ bR aU
  refine Ze (Za (wp_seq (wp_region_lit (n_q H (Zc rfl) rfl (W_q (Zc rfl) rfl ?_)))));clear H a;intro a H
  replace hS:=hS.pk1
  replace hS:=hS.pk1
  obtain⟨cB,aV,bU,aW,aX⟩:=hS.frame (rs1:=[blkR aK [u64,.int .i64 aN.Err.Code,.int .i64 aN.Err.Place] 190,ownR 5 1 u64 aN.B.length (aN.B.flatMap eB)])
  replace hm:=Zi hm;obtain⟨cY,bV,hm⟩:=hm
  refine Zj H rfl en110 (Zb5 (A:=A) aV (fun w' hw=>(Kn (aW 1 _ rfl _ hw)).slr rfl (fun _ _=>rfl)) bV) rfl ?_
  clear H;intro cZ dA hv;clear a;intro a H;obtain⟨dB,rfl,bW⟩:=hv
  replace hS:=aX _ _ bW;simp only [List.cons_append,List.nil_append] at hS;clear aV bU aW aX
  refine Ze (Za (wp_seq (wp_region_lit (n_q H (Zc rfl) rfl (W_q (Zp rfl) rfl (W_q (Zd rfl Zhy) rfl (W_q (Zf rfl ((hS.blk 0 rfl).ld Zdx rfl)) rfl ?_)))))));clear H a;intro a H
  replace hm:=Zi hm;obtain⟨dC,bX,hm⟩:=hm
  refine Zj H rfl en112 (Zli (A:=A) ((hS.own 1 rfl).slr rfl (fun _ _=>rfl)) bX) rfl ?_
  clear H;intro dD dE hv;clear a;intro a H;obtain⟨_,rfl,bY⟩:=hv
  replace hS:=hS.new bY;simp only [List.cons_append,List.nil_append] at hS
  refine n_q H (Zb rfl) rfl (W_q (Zb rfl) rfl ?_);clear H a;intro a H
  refine Ze (Za (wp_ret ?_))
  obtain rfl:=Option.some.inj hm
  replace hS:=hS.tk1
  refine Zda H (.inr rfl) rfl rfl rfl ?_
  exact⟨_,rfl,hS⟩
theorem Zlj {w : World} {A : Nat → Addr} {v0 : Value} {a0 : List UInt8} (h0 : SlR w 1 (Zq eB) v0 a0) {r : List UInt8 × Int} (hm : Zac a0=some r) :
    Calls Tryz.prog 113 [v0].toArray w (Ret fun u w'=>∃ h_0,u=.tuple #[h_0,.int .i64 r.2] ∧ St NB w w' [ownR 5 1 h_0 r.1.length (r.1.flatMap eB)]):=by
  have hS:=St.begin NB w
  unfold Zac at hm
  refine enter Tryz.func113 rfl rfl rfl ?_;intro a H;dsimp only [Qk,Nat.zero_add,Nat.reduceAdd] at H
  refine wp_seq (wp_region_lit (n_q H (Zb rfl) rfl (W_q (Zb rfl) rfl ?_)));clear H a;intro a H
  refine Ze (Za (wp_seq (wp_seq (wp_region_lit (n_q H (Zc rfl) rfl ?_)))));clear H a;intro a H
  obtain⟨aM,aN,aA,bB,bC⟩:=SlR.formV (h0.ext (Zq.mono _) hS.x)
  refine n_q H (Qf Tryz.underlying100 rfl aA) rfl (W_q (Xz (i:=a0.length) (j:=4) rfl rfl) rfl ?_);clear H a;intro a H
  refine Ze (Za (Zl H rfl (fun aC=>?_) (fun aC=>?_)))
  · replace hm:=Zu hm aC
    have aZ : a0.length < 4:=of_decide_eq_true aC
    refine wp_seq (wp_region_lit (n_q H (Zb rfl) rfl (W_q (Zb rfl) rfl ?_)));clear H a;intro a H
    refine Ze (Za (wp_ret (Zh ?_)))
    obtain rfl:=Option.some.inj hm
    replace hS:=hS.nilOwn 5 1
    refine Zda H (.inr rfl) rfl rfl rfl ?_
    exact⟨_,rfl,hS⟩
  replace hm:=Zv hm aC
  refine wp_skip (Za (wp_seq (wp_region_lit (n_q H (Zc rfl) rfl (W_q (Qf Tryz.underlying100 rfl aA) rfl (W_q (Zcj rfl rfl) rfl (W_q (Zb rfl) rfl ?_)))))));clear H a;intro a H
  refine Ze (Za (wp_seq (wp_region_lit (n_q H (Zc rfl) rfl (W_q (Zc rfl) rfl ?_)))));clear H a;intro a H
  replace hm:=Tj hm;obtain⟨aE,hm⟩:=hm
  refine n_q H (Zak Tryz.underlying100 sz5 (show _=some (Value.slice aM a0.length aN) by rw [← aA];rfl) rfl aE.1 (by omega)) rfl ?_;clear H a;intro a H
  replace hm:=Zi hm;obtain⟨aO,aP,hm⟩:=hm
  refine Zj H rfl Zui (Ze3 (A:=A) (SlR.takeV (h0.ext (Zq.mono _) hS.x) aA aE.1 aE.2) aP) rfl ?_
  clear H;intro bD bE hv;clear a;intro a H;obtain⟨rfl,aQ⟩:=hv
  replace hS:=hS.ext aQ
  refine n_q H (Zb rfl) rfl ?_;clear H a;intro a H
  refine Ze (Za (wp_seq (wp_seq (wp_region_lit (n_q H (Zb rfl) rfl ?_)))));clear H a;intro a H
  refine Ze (Za (wp_block ?_))
  replace hm:=Zi hm;obtain⟨aK,hm,aL⟩:=hm;replace hm:=Qg hm;obtain⟨aX,hm⟩:=hm
  refine Jd (σ:=Nat × Nat) (fun (m,aB)=>[(0,v0),(4,.int .i64 (IntKind.i64.wrap (((a0.length : Nat) : Int) - 4))),(5,.int .u32 aO),(6,.int .i64 ((aB : Nat) : Int))]) (fun (m,aB) wl=>Js (Hc a0 aO) m aB=some aK ∧ St NB w wl []) (fun (m,aB)=>m) (aX,0) H ⟨rfl,rfl,rfl,rfl,trivial⟩ ⟨hm,hS⟩ ?_
  clear H hS hm a;intro xx a bF H hR;obtain⟨m,aB⟩:=xx;simp only [ent,List.map_cons,List.map_nil] at H;(try dsimp only at hR);obtain⟨hm,hS⟩:=hR
  replace hm:=Qa hm;obtain⟨aY,bG,rfl,hm,aF⟩:=hm;try dsimp only [Hc] at hm
  refine wp_seq (wp_seq (wp_region_lit (n_q H (Zc rfl) rfl (W_q (Xz (i:=aB) (j:=4) rfl rfl) rfl ?_))));clear H a;intro a H
  refine Ze (Za (Zl H rfl (fun aD=>?_) (fun aD=>?_)))
  · replace hm:=Zu hm aD
    have a9 : aB < 4:=of_decide_eq_true aD
    refine wp_skip (Za (wp_seq (wp_block (wp_seq (Ww (by kernel_rfl) (by kernel_rfl) ?_)))))
    refine Xb H (Zc rfl) rfl ?_;clear H a;intro a H
    refine Xb H (Zc rfl) rfl ?_;clear H a;intro a H
    refine Xb H (Zc rfl) rfl ?_;clear H a;intro a H
    refine Xb H (Xv rfl rfl) rfl ?_;clear H a;intro a H
    replace hm:=Zi hm;obtain⟨bH,aR,hm⟩:=hm
    obtain⟨h0x36,h1x36,aI⟩:=Zg8 aR
    obtain⟨bA,aJ⟩:=SlR.adV (h0.ext (Zq.mono _) hS.x) aA aI
    refine Xb H (Znj Tryz.underlying100 sz5 rfl aA aJ rfl h0x36 h1x36) rfl ?_;clear H a;intro a H
    refine Xb H (Zf rfl (SlR.ldOneV (h0.ext (Zq.mono _) hS.x) aA aJ ag5 aI rfl)) rfl ?_;clear H a;intro a H
    refine Xb H (Zc rfl) rfl ?_;clear H a;intro a H
    refine Xb H (Zc rfl) rfl ?_;clear H a;intro a H
    refine Xb H (Zav rfl rfl) rfl ?_;clear H a;intro a H
    replace hm:=Tj hm;obtain⟨aS,hm⟩:=hm
    refine Xb H (Zil rfl rfl aS) rfl ?_;clear H a;intro a H
    refine Xb H (Xn Tryz.underlying101 Tryz.underlying5 ⟨_,rfl⟩ rfl) rfl ?_;clear H a;intro a H
    refine Xb H (Vo rfl rfl) rfl ?_;clear H a;intro a H
    refine To ?_;intro bI aT
    replace hS:=hS.ext aT
    refine Za (Zl H rfl (fun aG=>?_) (fun aG=>?_))
    · replace hm:=Zu hm aG
      refine wp_seq (wp_region_lit (n_q H (Zb rfl) rfl (W_q (Zb rfl) rfl ?_)));clear H a;intro a H
      refine Ze (Za (wp_ret (Zo (Zh (Zh (Zo (Zh ?_)))))))
      obtain rfl:=Option.some.inj hm;have hz : _=aK:=aF;subst hz;replace hm:=aL;try dsimp only at hm
      obtain rfl:=Option.some.inj hm
      replace hS:=hS.nilOwn 5 1
      refine Zda H (.inr rfl) rfl rfl rfl ?_
      exact⟨_,rfl,hS⟩
    replace hm:=Zv hm aG
    refine wp_skip (Zm (Za (wp_region_lit (n_q H (Zc rfl) rfl (W_q (Kb (i:=aB) (j:=1) rfl rfl (by omega)) rfl (W_q (Zb rfl) rfl ?_))))));clear H a;intro a H
    refine Ze (Za ?_)
    obtain rfl:=Option.some.inj hm
    exact Vh (aY,aB + 1) H ⟨rfl,rfl,rfl,rfl,trivial⟩ ⟨aF,hS⟩ (Nat.lt_succ_self _)
  replace hm:=Zv hm aD
  refine wp_exit (Zn (Zn (Zy ?_)))
  obtain rfl:=Option.some.inj hm;have hz : _=aK:=aF;subst hz;replace hm:=aL;try dsimp only at hm
  refine Za (wp_seq (wp_region_lit (Qd H Tryz.underlying100 sz5 ze5 rfl rfl rfl (cs:=[]) rfl rfl ?_)))
  clear H;intro bJ bK hN aU hs;clear a;intro a H
  replace hS:=hS.newBlk hN aU hs;clear hN hs
  replace hS:=hS.blkOwnL (e:=eB) (k:=1) ([] : List UInt8) rfl rfl (by simp [maxLen])
  refine n_q H (Zc rfl) rfl (W_q (Zc rfl) rfl ?_);clear H a;intro a H
  replace hm:=Tj hm;obtain⟨aH,hm⟩:=hm
  refine n_q H (Zak Tryz.underlying100 sz5 (show _=some (Value.slice aM a0.length aN) by rw [← aA];rfl) rfl aH.1 (by omega)) rfl ?_;clear H a;intro a H
  replace hm:=Tj hm;obtain⟨aV,hm⟩:=hm
  refine Zb1 (e:=eB) H rfl rfl Tryz.underlying100 Tryz.underlying100 (by simp) el5 (hS.own 0 rfl) ((SlR.takeV (h0.ext (Zq.mono _) hS.x) aA aH.1 aH.2).src (fun _ _=>rfl)) Zal aV (by simp only [maxLen];omega) rfl ?_
  clear H;intro bL bM hN aW hb;clear a;intro a H;replace hS:=hS.setOwn hN aW hb;clear hN hb
  refine n_q H (Zb rfl) rfl (W_q (Zb rfl) rfl ?_);clear H a;intro a H
  refine Ze (Za (wp_ret ?_))
  obtain rfl:=Option.some.inj hm
  refine Zda H (.inr rfl) rfl rfl rfl ?_
  exact⟨_,rfl,hS⟩
theorem Zgy {w : World} {A : Nat → Addr} {v0 : Value} {a0 : List UInt8} (h0 : SlR w 1 (Zq eB) v0 a0) {r : GR02Cursor} (hm : Gb a0=some r) :
    Calls Tryz.prog 114 [v0].toArray w (Ret fun u w'=>∃ (h_0 : Nat) (h_1 : Value),u=.pointer (some ⟨h_0,0,none⟩) ∧ St NB w w' [blkR h_0 [h_1,.int .i64 r.At,.int .i64 r.End] 270,ownR 5 1 h_1 r.B.length (r.B.flatMap eB)]):=by
  have hS:=St.begin NB w
  unfold Gb at hm
  refine enter Tryz.func114 rfl rfl rfl ?_;intro a H;dsimp only [Qk,Nat.zero_add,Nat.reduceAdd] at H
  refine wp_seq (wp_region_lit (n_q H (Zb rfl) rfl ?_));clear H a;intro a H
  refine Ze (Za (wp_seq (wp_region_lit (Qd H Tryz.underlying100 sz5 ze5 rfl rfl rfl (cs:=[]) rfl rfl ?_))))
  clear H;intro aI aJ hN aB hs;clear a;intro a H
  replace hS:=hS.newBlk hN aB hs;clear hN hs
  replace hS:=hS.blkOwnL (e:=eB) (k:=1) ([] : List UInt8) rfl rfl (by simp [maxLen])
  refine n_q H (Zc rfl) rfl ?_;clear H a;intro a H
  replace hm:=Tj hm;obtain⟨aC,hm⟩:=hm
  refine Zb1 (e:=eB) H rfl rfl Tryz.underlying100 Tryz.underlying100 (by simp) el5 (hS.own 0 rfl) ((h0.ext (Zq.mono _) hS.x).src (fun _ _=>rfl)) Zal aC (by simp only [maxLen];omega) rfl ?_
  clear H;intro aA aK hN aD hb;clear a;intro a H;replace hS:=hS.setOwn hN aD hb;clear hN hb
  refine n_q H (Zc rfl) rfl ?_;clear H a;intro a H
  obtain⟨aL,aM,aE,aG,aH⟩:=SlR.formV (h0.ext (Zq.mono _) hS.x)
  refine n_q H (Qf Tryz.underlying100 rfl aE) rfl (W_q (Zz (cs:=[aA,.int .i64 0,.int .i64 ((a0.length : Nat) : Int)]) ze270 bd270 pl270 rfl ((Qh (((hS.own 0 rfl).slr rfl (fun _ _=>rfl))).one rfl (by simp)).trans ((Qh rfl rfl (by simp)).trans ((Qh rfl rfl (by simp)).trans rfl)))) rfl ?_);clear H a;intro a H
  refine Wt H rfl (cs:=[aA,.int .i64 0,.int .i64 ((a0.length : Nat) : Int)]) rfl rfl ?_
  clear H;intro aN aO hN aF hs;clear a;intro a H
  replace hS:=hS.newBlk hN aF hs;clear hN hs
  refine n_q H (Zb rfl) rfl ?_;clear H a;intro a H
  refine Ze (Za (wp_ret ?_))
  obtain rfl:=Option.some.inj hm
  refine Je H (.inr rfl) rfl rfl ?_
  exact⟨_,_,rfl,hS⟩
theorem Ul {w : World} {A : Nat → Addr} {fp : Nat → Prop} {b0 : Nat} {v0_0 : Value} {a0 : GR02Cursor} (hP : Sep w fp [blkR b0 [v0_0,.int .i64 a0.At,.int .i64 a0.End] 270]) (ro0_B : ∀ w',ChgP fp w w' → SlR w' 1 (Zq eB) v0_0 a0.B) {r : Int × GR02Cursor} (hm : Jv a0=some r) :
    Calls Tryz.prog 191 [.pointer (some ⟨b0,0,none⟩)].toArray w (Ret fun u w'=>u=.int .i64 r.1 ∧ St fp w w' [blkR b0 [v0_0,.int .i64 r.2.At,.int .i64 r.2.End] 270]):=by
  have hS:=St.init hP
  unfold Jv at hm
  refine enter Tryz.func191 rfl rfl rfl ?_;intro a H;dsimp only [Qk,Nat.zero_add,Nat.reduceAdd] at H
  refine wp_seq (wp_region_lit (n_q H (Zb rfl) rfl ?_));clear H a;intro a H
  refine Ze (Za (wp_seq (Ww (by kernel_rfl) (by kernel_rfl) ?_)))
  refine Xb H (Zc rfl) rfl ?_;clear H a;intro a H
  refine Xb H (Zp rfl) rfl ?_;clear H a;intro a H
  refine Xb H (Zd rfl Zp8) rfl ?_;clear H a;intro a H
  refine Xb H (Zf rfl ((hS.blk 0 rfl).ld ag3 rfl)) rfl ?_;clear H a;intro a H
  refine Xb H (Zc rfl) rfl ?_;clear H a;intro a H
  refine Xb H (Zp rfl) rfl ?_;clear H a;intro a H
  refine Xb H (Zd rfl Hm) rfl ?_;clear H a;intro a H
  refine Xb H (Zf rfl ((hS.blk 0 rfl).ld ag3 rfl)) rfl ?_;clear H a;intro a H
  refine Xb H (Zcj rfl rfl) rfl ?_;clear H a;intro a H
  refine Xb H (Zb rfl) rfl ?_;clear H a;intro a H
  refine To ?_;intro aB aA
  replace hS:=hS.ext aA
  refine Za (wp_ret ?_)
  obtain rfl:=Option.some.inj hm
  refine Je H (.inr rfl) rfl rfl ?_
  exact⟨rfl,hS⟩
theorem Zay {w : World} {A : Nat → Addr} {fp : Nat → Prop} {b0 : Nat} {v0_0 : Value} {a0 : GR02Cursor} {a1 : Int} {a2 : Int} (hP : Sep w fp [blkR b0 [v0_0,.int .i64 a0.At,.int .i64 a0.End] 270]) (ro0_B : ∀ w',ChgP fp w w' → SlR w' 1 (Zq eB) v0_0 a0.B) {r : Int × GR02Cursor} (hm : Jk a0 a1 a2=some r) :
    Calls Tryz.prog 192 [.pointer (some ⟨b0,0,none⟩),.int .i64 a1,.int .i64 a2].toArray w (Ret fun u w'=>u=.int .i64 r.1 ∧ St fp w w' [blkR b0 [v0_0,.int .i64 r.2.At,.int .i64 r.2.End] 270]):=by
  have hS:=St.init hP
  unfold Jk at hm
  refine enter Tryz.func192 rfl rfl rfl ?_;intro a H;dsimp only [Qk,Nat.zero_add,Nat.reduceAdd] at H
  refine wp_seq (wp_region_lit (n_q H (Zb rfl) rfl ?_));clear H a;intro a H
  refine Ze (Za (wp_seq (wp_region_lit (n_q H (Zb rfl) rfl ?_))));clear H a;intro a H
  refine Ze (Za (wp_seq (wp_seq (wp_region_lit (n_q H (Zc rfl) rfl (W_q (Zb rfl) rfl ?_))))));clear H a;intro a H
  refine Ze (Za (wp_block ?_))
  replace hm:=Zi hm;obtain⟨aH,hm,aI⟩:=hm;replace hm:=Qg hm;obtain⟨aK,hm⟩:=hm
  refine Jd (σ:=Nat × Int × Int) (fun (m,aA,aB)=>[(0,.pointer (some ⟨b0,0,none⟩)),(1,.int .i64 a1),(2,.int .i64 a2),(7,.int .i64 aA),(8,.int .i64 aB)]) (fun (m,aA,aB) wl=>Js (Ja a0 a1 a2) m (aA,aB)=some aH ∧ St fp w wl [blkR b0 [v0_0,.int .i64 a0.At,.int .i64 a0.End] 270]) (fun (m,aA,aB)=>m) (aK,0,a1) H ⟨rfl,rfl,rfl,rfl,rfl,trivial⟩ ⟨hm,hS⟩ ?_
  clear H hS hm a;intro xx a aQ H hR;obtain⟨m,aA,aB⟩:=xx;simp only [ent,List.map_cons,List.map_nil] at H;(try dsimp only at hR);obtain⟨hm,hS⟩:=hR
  replace hm:=Qa hm;obtain⟨aL,aR,rfl,hm,aG⟩:=hm;try dsimp only [Ja] at hm
  refine wp_seq (wp_seq (wp_region_lit (n_q H (Zc rfl) rfl (W_q (Zc rfl) rfl (W_q (Zc rfl) rfl (W_q (Xv rfl rfl) rfl (W_q (Un rfl rfl) rfl ?_)))))));clear H a;intro a H
  refine Ze (Za (Zl H rfl (fun aC=>?_) (fun aC=>?_)))
  · replace hm:=Zu hm aC
    refine wp_skip (Za (wp_seq (wp_block (wp_region_lit (n_q H (Zc rfl) rfl (W_q (Zav rfl rfl) rfl (W_q (Zc rfl) rfl (W_q (Zp rfl) rfl (W_q (Zd rfl Zmp) rfl (W_q (Zf rfl ((hS.blk 0 rfl).ld Zdx rfl)) rfl (W_q (Zc rfl) rfl ?_)))))))))));clear H a;intro a H
    obtain⟨aS,aT,aD,aO,aP⟩:=SlR.formV (ro0_B _ hS.chg)
    replace hm:=Zi hm;obtain⟨aM,aJ,hm⟩:=hm
    obtain⟨h0x28,h1x28,aE⟩:=Zg8 aJ
    obtain⟨aN,aF⟩:=SlR.adV (ro0_B _ hS.chg) aD aE
    refine n_q H (Znj Tryz.underlying100 sz5 rfl aD aF rfl h0x28 h1x28) rfl (W_q (Zf rfl (SlR.ldOneV (ro0_B _ hS.chg) aD aF ag5 aE rfl)) rfl (W_q (Qo (Xn Tryz.underlying5 Tryz.underlying3 ⟨_,rfl⟩ rfl) (Xa _)) rfl (W_q (Xv rfl rfl) rfl (W_q (Zb rfl) rfl ?_))));clear H a;intro a H
    refine Ze (Zm (Za (wp_region_lit (n_q H (Zc rfl) rfl (W_q (Xv rfl rfl) rfl (W_q (Zb rfl) rfl ?_))))));clear H a;intro a H
    refine Ze (Za ?_)
    obtain rfl:=Option.some.inj hm
    exact Vh (aL,(IntKind.i64.wrap ((IntKind.i64.wrap (aA * 256)) + (aM.toNat : Int))),(IntKind.i64.wrap (aB + 1))) H ⟨rfl,rfl,rfl,rfl,rfl,trivial⟩ ⟨aG,hS⟩ (Nat.lt_succ_self _)
  replace hm:=Zv hm aC
  refine wp_exit (Zn (Zn (Zy ?_)))
  obtain rfl:=Option.some.inj hm;have hz : _=aH:=aG;subst hz;replace hm:=aI;try dsimp only at hm
  refine Za (wp_seq (wp_region_lit (n_q H (Zc rfl) rfl (W_q (Zb rfl) rfl ?_))));clear H a;intro a H
  refine Ze (Za (wp_ret ?_))
  obtain rfl:=Option.some.inj hm
  refine Je H (.inr rfl) rfl rfl ?_
  exact⟨rfl,hS⟩
theorem Zar {w : World} {A : Nat → Addr} {fp : Nat → Prop} {b0 : Nat} {v0_0 : Value} {a0 : GR02Cursor} {a1 : Int} {a2 : Int} {a3 : Int} (hP : Sep w fp [blkR b0 [v0_0,.int .i64 a0.At,.int .i64 a0.End] 270]) (ro0_B : ∀ w',ChgP fp w w' → SlR w' 1 (Zq eB) v0_0 a0.B) {r : Int × GR02Err × GR02Cursor} (hm : Kw a0 a1 a2 a3=some r) :
    Calls Tryz.prog 115 [.pointer (some ⟨b0,0,none⟩),.int .i64 a1,.int .i64 a2,.int .i64 a3].toArray w (Ret fun u w'=>u=.tuple #[.int .i64 r.1,.agg (Zfj r.2.1).toArray] ∧ St fp w w' [blkR b0 [v0_0,.int .i64 r.2.2.At,.int .i64 r.2.2.End] 270]):=by
  have hS:=St.init hP
  unfold Kw at hm
  refine enter Tryz.func115 rfl rfl rfl ?_;intro a H;dsimp only [Qk,Nat.zero_add,Nat.reduceAdd] at H
  refine wp_seq (wp_region_lit (n_q H (Zb rfl) rfl ?_));clear H a;intro a H
  refine Qr H Zd1 rfl ?_
  clear H;intro bN bO hN aU hs;clear a;intro a H
  replace hS:=hS.newBlk hN aU hs;clear hN hs
  refine Ze (Za (wp_seq (wp_seq (wp_region_lit (n_q H (Zc rfl) rfl ?_)))));clear H a;intro a H
  replace hm:=Zi hm;obtain⟨bP,aV,hm⟩:=hm
  refine Zj H rfl en190 (Zgw (A:=A) aV) rfl ?_
  clear H;intro bQ bR hv;clear a;intro a H;obtain⟨rfl,aW⟩:=hv
  replace hS:=hS.ext aW
  refine n_q H (Un rfl rfl) rfl ?_;clear H a;intro a H
  refine Ze (Za (Zl H rfl (fun aB=>?_) (fun aB=>?_)))
  · replace hm:=Zu hm aB
    refine wp_seq (wp_region_lit (n_q H (Zz (cs:=[.int .i64 12,.int .i64 (-1)]) Zd1 Zld Zle rfl (by kernel_rfl)) rfl (W_q (Zb rfl) rfl ?_)));clear H a;intro a H
    refine Zr H rfl rfl (vs:=[.int .i64 12,.int .i64 (-1)]) rfl Tm (hS.blk 0 rfl) rfl (by simp) ?_
    clear H;intro bS hN aX hz;clear a;intro a H;replace hS:=hS.setBlk hN aX;clear hN hz
    refine Ze (Za (wp_ret (Zh ?_)))
    obtain rfl:=Option.some.inj hm
    replace hS:=hS.pk1
    refine Ti H (.inr rfl) rfl (vs:=[.int .i64 0,.agg #[.int .i64 12,.int .i64 (-1)]]) (Xh rfl (Qm rfl ((hS.blk 1 rfl).ldAll Zf9 Tm) Qv)) ?_
    replace hS:=hS.tk1
    exact⟨rfl,hS⟩
  replace hm:=Zv hm aB
  refine wp_skip (Za (wp_seq (wp_seq (wp_region_lit (n_q H (Zc rfl) rfl ?_)))));clear H a;intro a H
  replace hS:=hS.pk1
  obtain⟨bL,aI,aJ,aY,aK⟩:=hS.frame (rs1:=[blkR b0 [v0_0,.int .i64 a0.At,.int .i64 a0.End] 270])
  replace hm:=Zi hm;obtain⟨aA,aZ,hm⟩:=hm
  refine Zj H rfl Zr5 (Ul (A:=A) aI (a0:=(⟨a0.B,a0.At,a0.End⟩ : GR02Cursor)) (fun w' hw=>ro0_B _ (aJ _ hw)) aZ) rfl ?_
  clear H;intro bT aQ hv;clear a;intro a H;obtain⟨rfl,a9⟩:=hv
  replace hS:=aK _ _ a9;simp only [List.cons_append,List.nil_append] at hS;clear aI aJ aY aK
  refine n_q H (Zc rfl) rfl (W_q (Un rfl rfl) rfl ?_);clear H a;intro a H
  refine Ze (Za (Zl H rfl (fun aC=>?_) (fun aC=>?_)))
  · replace hm:=Zu hm aC
    refine wp_seq (Gi [] 6 (by kernel_rfl) ?_)
    obtain⟨aR,aD⟩ : ∃ x,x=aQ.drew:=⟨_,rfl⟩;rw [← aD];have bA : Ext aQ aR:=by rw [aD];exact Ext.drew' _
    clear aD
    replace hS:=hS.ext bA
    have bB:=hS
    have hW:=Nat.le_refl aR.heap.size
    refine Zg 0 H rfl (Zc rfl) rfl (by kernel_rfl) (by kernel_rfl) (by kernel_rfl) (by kernel_rfl) (fun _ _ _ h=>h) ?_;clear H a;intro a H
    refine Zg 1 H rfl (Zp rfl) rfl (by kernel_rfl) (by kernel_rfl) (by kernel_rfl) (by kernel_rfl) (fun _ _ _ h=>h) ?_;clear H a;intro a H
    refine Zg 2 H rfl (Zd rfl Hm) rfl (by kernel_rfl) (by kernel_rfl) (by kernel_rfl) (by kernel_rfl) (fun _ _ _ h=>h) ?_;clear H a;intro a H
    refine Xo 3 H rfl (Zf rfl (LdC.old ((bB.blk 0 rfl).ld ag3 rfl) Ext.rfl' (Nat.le_refl _) (by simp))) rfl (by kernel_rfl) (by kernel_rfl) (by kernel_rfl) (by kernel_rfl) (fun _ _ _ h=>h) ?_;clear H a;intro a H
    refine Zg 4 H rfl (Zz (cs:=[.int .i64 1,.int .i64 aA.2.At]) Zd1 Zld Zle rfl (by kernel_rfl)) rfl (by kernel_rfl) (by kernel_rfl) (by kernel_rfl) (by kernel_rfl) (fun _ _ _ h=>h) ?_;clear H a;intro a H
    refine Zg 5 H rfl (Zb rfl) rfl (by kernel_rfl) (by kernel_rfl) (by kernel_rfl) (by kernel_rfl) (fun _ _ _ h=>h) ?_;clear H a;intro a H
    replace hS:=hS.pk1
    refine Qj 6 H rfl rfl rfl (vs:=[.int .i64 1,.int .i64 aA.2.At]) rfl Tm (hS.blk 0 rfl) rfl (by simp) (by kernel_rfl) (.inr (by kernel_rfl)) ?_
    clear H;intro bU hN aL hz;clear a;intro a H;replace hS:=hS.setBlk hN aL;clear hN hz;replace hW:=Nat.le_trans hW aL.size
    refine Qx (by kernel_rfl) ?_
    refine Za (wp_ret (Zh ?_))
    obtain rfl:=Option.some.inj hm
    replace hS:=hS.pk1
    refine Ti H (.inr rfl) rfl (vs:=[.int .i64 0,.agg #[.int .i64 1,.int .i64 aA.2.At]]) (Xh rfl (Qm rfl ((hS.blk 1 rfl).ldAll Zf9 Tm) Qv)) ?_
    replace hS:=hS.tk1
    exact⟨rfl,hS⟩
  replace hm:=Zv hm aC
  refine wp_skip (Za (wp_seq (wp_region_lit (n_q H (Zc rfl) rfl (W_q (Zc rfl) rfl (W_q (Zp rfl) rfl (W_q (Zd rfl Hm) rfl (W_q (Zf rfl ((hS.blk 0 rfl).ld ag3 rfl)) rfl (W_q (Zc rfl) rfl ?_)))))))));clear H a;intro a H
  obtain⟨bM,aM,aN,bC,aO⟩:=hS.frame (rs1:=[blkR b0 [v0_0,.int .i64 aA.2.At,.int .i64 aA.2.End] 270])
  replace hm:=Zi hm;obtain⟨aG,bD,hm⟩:=hm
  refine Zj H rfl en192 (Zay (A:=A) aM (a0:=(⟨a0.B,aA.2.At,aA.2.End⟩ : GR02Cursor)) (fun w' hw=>ro0_B _ (aN _ hw)) bD) rfl ?_
  clear H;intro bV aS hv;clear a;intro a H;obtain⟨rfl,bE⟩:=hv
  replace hS:=aO _ _ bE;simp only [List.cons_append,List.nil_append] at hS;clear aM aN bC aO
  refine n_q H (Zb rfl) rfl ?_;clear H a;intro a H
  refine Ze (Za (wp_seq (wp_seq (wp_region_lit (n_c H (fun HC=>?_))))));clear H
  refine Tn HC (Zc rfl) rfl (by kernel_rfl) (V_q (Zc rfl) rfl (by kernel_rfl) (V_q (Un rfl rfl) rfl (by kernel_rfl) (V_q (Zc rfl) rfl (by kernel_rfl) (V_g (Zc rfl) (by kernel_rfl) (by kernel_rfl) (by kernel_rfl) (V_g (Zc rfl) (by kernel_rfl) (by kernel_rfl) (by kernel_rfl) (V_g (Hp rfl rfl) (by kernel_rfl) (by kernel_rfl) (by kernel_rfl) (Zet (j:=3) rfl rfl rfl (by kernel_rfl) (by kernel_rfl) ?_)))))));clear HC a;intro a HC
  have H:=HC.has;clear HC
  refine Ze (Za (Zl H rfl (fun aE=>?_) (fun aE=>?_)))
  · replace hm:=Zu hm aE
    refine wp_seq (Gi [] 6 (by kernel_rfl) ?_)
    obtain⟨aT,aF⟩ : ∃ x,x=aS.drew:=⟨_,rfl⟩;rw [← aF];have bF : Ext aS aT:=by rw [aF];exact Ext.drew' _
    clear aF
    replace hS:=hS.ext bF
    have bG:=hS
    have hW:=Nat.le_refl aT.heap.size
    refine Zg 0 H rfl (Zc rfl) rfl (by kernel_rfl) (by kernel_rfl) (by kernel_rfl) (by kernel_rfl) (fun _ _ _ h=>h) ?_;clear H a;intro a H
    refine Zg 1 H rfl (Zp rfl) rfl (by kernel_rfl) (by kernel_rfl) (by kernel_rfl) (by kernel_rfl) (fun _ _ _ h=>h) ?_;clear H a;intro a H
    refine Zg 2 H rfl (Zd rfl Hm) rfl (by kernel_rfl) (by kernel_rfl) (by kernel_rfl) (by kernel_rfl) (fun _ _ _ h=>h) ?_;clear H a;intro a H
    refine Xo 3 H rfl (Zf rfl (LdC.old ((bG.blk 0 rfl).ld ag3 rfl) Ext.rfl' (Nat.le_refl _) (by simp))) rfl (by kernel_rfl) (by kernel_rfl) (by kernel_rfl) (by kernel_rfl) (fun _ _ _ h=>h) ?_;clear H a;intro a H
    refine Zg 4 H rfl (Zz (cs:=[.int .i64 4,.int .i64 aG.2.At]) Zd1 Zld Zle rfl (by kernel_rfl)) rfl (by kernel_rfl) (by kernel_rfl) (by kernel_rfl) (by kernel_rfl) (fun _ _ _ h=>h) ?_;clear H a;intro a H
    refine Zg 5 H rfl (Zb rfl) rfl (by kernel_rfl) (by kernel_rfl) (by kernel_rfl) (by kernel_rfl) (fun _ _ _ h=>h) ?_;clear H a;intro a H
    replace hS:=hS.pk1
    refine Qj 6 H rfl rfl rfl (vs:=[.int .i64 4,.int .i64 aG.2.At]) rfl Tm (hS.blk 0 rfl) rfl (by simp) (by kernel_rfl) (.inr (by kernel_rfl)) ?_
    clear H;intro bW hN aP hz;clear a;intro a H;replace hS:=hS.setBlk hN aP;clear hN hz;replace hW:=Nat.le_trans hW aP.size
    refine Qx (by kernel_rfl) ?_
    refine Za (wp_ret (Zh ?_))
    obtain rfl:=Option.some.inj hm
    replace hS:=hS.pk1
    refine Ti H (.inr rfl) rfl (vs:=[.int .i64 0,.agg #[.int .i64 4,.int .i64 aG.2.At]]) (Xh rfl (Qm rfl ((hS.blk 1 rfl).ldAll Zf9 Tm) Qv)) ?_
    replace hS:=hS.tk1
    exact⟨rfl,hS⟩
  replace hm:=Zv hm aE
  refine wp_skip (Za (wp_seq (wp_region_lit (n_q H (Zc rfl) rfl (W_q (Zp rfl) rfl (W_q (Zd rfl Hm) rfl (W_q (Zf rfl ((hS.blk 0 rfl).ld ag3 rfl)) rfl (W_q (Zc rfl) rfl (W_q (Xv rfl rfl) rfl (W_q (Zp rfl) rfl (W_q (Zd rfl Hm) rfl ?_)))))))))));clear H a;intro a H
  refine Jz H rfl rfl sz3 (hS.blk 0 rfl) (by simp) rfl ?_
  clear H;intro bX hN bH hz;clear a;intro a H;replace hS:=hS.setBlk hN bH;clear hN hz
  try simp only [List.set_cons_succ,List.set_cons_zero] at hS
  refine Ze (Za (wp_seq (wp_region_lit (n_q H (Zc rfl) rfl ?_))));clear H a;intro a H
  replace hm:=Zi hm;obtain⟨aH,bI,hm⟩:=hm
  refine Zj H rfl Zr4 (Zb4 (A:=A) bI) rfl ?_
  clear H;intro bY bZ hv;clear a;intro a H;obtain⟨rfl,bJ⟩:=hv
  replace hS:=hS.ext bJ
  refine n_q H (Zb rfl) rfl ?_;clear H a;intro a H
  replace hS:=hS.pk1
  refine Zr H rfl rfl (vs:=[.int .i64 aH.Code,.int .i64 aH.Place]) rfl Tm (hS.blk 0 rfl) rfl (by simp) ?_
  clear H;intro b7 hN bK hz;clear a;intro a H;replace hS:=hS.setBlk hN bK;clear hN hz
  refine Ze (Za (wp_ret ?_))
  obtain rfl:=Option.some.inj hm
  replace hS:=hS.pk1
  refine Ti H (.inr rfl) rfl (vs:=[.int .i64 aG.1,.agg #[.int .i64 aH.Code,.int .i64 aH.Place]]) (Xh rfl (Qm rfl ((hS.blk 1 rfl).ldAll Zf9 Tm) Qv)) ?_
  replace hS:=hS.tk1
  exact⟨rfl,hS⟩
theorem Zd2 {w : World} {A : Nat → Addr} {fp : Nat → Prop} {b0 : Nat} {v0_0 : Value} {a0 : GR02Cursor} {a1 : Int} {a2 : Bool} (hP : Sep w fp [blkR b0 [v0_0,.int .i64 a0.At,.int .i64 a0.End] 270]) (ro0_B : ∀ w',ChgP fp w w' → SlR w' 1 (Zq eB) v0_0 a0.B) {r : Int × Option GR02Cursor × GR02Err × GR02Cursor} (hm : Jr a0 a1 a2=some r) :
    Calls Tryz.prog 239 [.pointer (some ⟨b0,0,none⟩),.int .i64 a1,.bool a2].toArray w (Ret fun u w'=>∃ h_0,u=.tuple #[.int .i64 r.1,h_0,.agg (Zfj r.2.2.1).toArray] ∧ St fp w w' [blkR b0 [v0_0,.int .i64 r.2.2.2.At,.int .i64 r.2.2.2.End] 270,optR (fun (x : GR02Cursor) b=>blkR b [v0_0,.int .i64 x.At,.int .i64 x.End] 270) h_0 r.2.1]):=by
  have hS:=St.init hP
  unfold Jr at hm
  refine enter Tryz.func239 rfl rfl rfl ?_;intro a H;dsimp only [Qk,Nat.zero_add,Nat.reduceAdd] at H
  refine wp_seq (wp_region_lit (n_q H (Zb rfl) rfl (W_q (Zb rfl) rfl ?_)));clear H a;intro a H
  refine Qr H Zd1 rfl ?_
  clear H;intro cM cN hN bJ hs;clear a;intro a H
  replace hS:=hS.newBlk hN bJ hs;clear hN hs
  refine Ze (Za (wp_seq (wp_seq (wp_region_lit (n_q H (Zc rfl) rfl ?_)))));clear H a;intro a H
  replace hS:=hS.pk1
  obtain⟨cH,aQ,aR,bK,aS⟩:=hS.frame (rs1:=[blkR b0 [v0_0,.int .i64 a0.At,.int .i64 a0.End] 270])
  replace hm:=Zi hm;obtain⟨aA,bL,hm⟩:=hm
  refine Zj H rfl Zr5 (Ul (A:=A) aQ (a0:=(⟨a0.B,a0.At,a0.End⟩ : GR02Cursor)) (fun w' hw=>ro0_B _ (aR _ hw)) bL) rfl ?_
  clear H;intro cO bD hv;clear a;intro a H;obtain⟨rfl,bM⟩:=hv
  replace hS:=aS _ _ bM;simp only [List.cons_append,List.nil_append] at hS;clear aQ aR bK aS
  refine n_q H (Un rfl rfl) rfl ?_;clear H a;intro a H
  refine Ze (Za (Zl H rfl (fun aD=>?_) (fun aD=>?_)))
  · replace hm:=Zu hm aD
    refine wp_seq (Gi [] 7 (by kernel_rfl) ?_)
    obtain⟨bE,aE⟩ : ∃ x,x=bD.drew:=⟨_,rfl⟩;rw [← aE];have bN : Ext bD bE:=by rw [aE];exact Ext.drew' _
    clear aE
    replace hS:=hS.ext bN
    have bO:=hS
    have hW:=Nat.le_refl bE.heap.size
    refine Zg 0 H rfl (Zc rfl) rfl (by kernel_rfl) (by kernel_rfl) (by kernel_rfl) (by kernel_rfl) (fun _ _ _ h=>h) ?_;clear H a;intro a H
    refine Zg 1 H rfl (Zp rfl) rfl (by kernel_rfl) (by kernel_rfl) (by kernel_rfl) (by kernel_rfl) (fun _ _ _ h=>h) ?_;clear H a;intro a H
    refine Zg 2 H rfl (Zd rfl Hm) rfl (by kernel_rfl) (by kernel_rfl) (by kernel_rfl) (by kernel_rfl) (fun _ _ _ h=>h) ?_;clear H a;intro a H
    refine Xo 3 H rfl (Zf rfl (LdC.old ((bO.blk 0 rfl).ld ag3 rfl) Ext.rfl' (Nat.le_refl _) (by simp))) rfl (by kernel_rfl) (by kernel_rfl) (by kernel_rfl) (by kernel_rfl) (fun _ _ _ h=>h) ?_;clear H a;intro a H
    refine Zg 4 H rfl (Zz (cs:=[.int .i64 1,.int .i64 aA.2.At]) Zd1 Zld Zle rfl (by kernel_rfl)) rfl (by kernel_rfl) (by kernel_rfl) (by kernel_rfl) (by kernel_rfl) (fun _ _ _ h=>h) ?_;clear H a;intro a H
    refine Zg 5 H rfl (Zb rfl) rfl (by kernel_rfl) (by kernel_rfl) (by kernel_rfl) (by kernel_rfl) (fun _ _ _ h=>h) ?_;clear H a;intro a H
    refine Zg 6 H rfl (Zb rfl) rfl (by kernel_rfl) (by kernel_rfl) (by kernel_rfl) (by kernel_rfl) (fun _ _ _ h=>h) ?_;clear H a;intro a H
    replace hS:=hS.pk1
    refine Qj 7 H rfl rfl rfl (vs:=[.int .i64 1,.int .i64 aA.2.At]) rfl Tm (hS.blk 0 rfl) rfl (by simp) (by kernel_rfl) (.inr (by kernel_rfl)) ?_
    clear H;intro cP hN aT hz;clear a;intro a H;replace hS:=hS.setBlk hN aT;clear hN hz;replace hW:=Nat.le_trans hW aT.size
    refine Qx (by kernel_rfl) ?_
    refine Za (wp_ret (Zh ?_))
    obtain rfl:=Option.some.inj hm
    replace hS:=St.optNone (fun (x : GR02Cursor) b=>blkR b [v0_0,.int .i64 x.At,.int .i64 x.End] 270) hS
    replace hS:=hS.pk1
    replace hS:=hS.pk1
    replace hS:=hS.pk2
    refine Ti H (.inr rfl) rfl (vs:=[.int .i64 0,.pointer none,.agg #[.int .i64 1,.int .i64 aA.2.At]]) (Xh rfl (Xh rfl (Qm rfl ((hS.blk 2 rfl).ldAll Zf9 Tm) Qv))) ?_
    replace hS:=hS.tk2
    exact⟨_,rfl,hS⟩
  replace hm:=Zv hm aD
  refine wp_skip (Za (wp_seq (Ww (by kernel_rfl) (by kernel_rfl) ?_)))
  refine Xb H (Zc rfl) rfl ?_;clear H a;intro a H
  refine Xb H (Zp rfl) rfl ?_;clear H a;intro a H
  refine Xb H (Zd rfl Zmp) rfl ?_;clear H a;intro a H
  refine Xb H (Zf rfl ((hS.blk 0 rfl).ld Zdx rfl)) rfl ?_;clear H a;intro a H
  refine Xb H (Zc rfl) rfl ?_;clear H a;intro a H
  refine Xb H (Zp rfl) rfl ?_;clear H a;intro a H
  refine Xb H (Zd rfl Hm) rfl ?_;clear H a;intro a H
  refine Xb H (Zf rfl ((hS.blk 0 rfl).ld ag3 rfl)) rfl ?_;clear H a;intro a H
  obtain⟨cQ,cR,aF,cI,cJ⟩:=SlR.formV (ro0_B _ hS.chg)
  replace hm:=Zi hm;obtain⟨cF,bP,hm⟩:=hm
  obtain⟨h0x38,h1x38,aM⟩:=Zg8 bP
  obtain⟨cG,aN⟩:=SlR.adV (ro0_B _ hS.chg) aF aM
  refine Xb H (Znj Tryz.underlying100 sz5 rfl aF aN rfl h0x38 h1x38) rfl ?_;clear H a;intro a H
  refine Xb H (Zf rfl (SlR.ldOneV (ro0_B _ hS.chg) aF aN ag5 aM rfl)) rfl ?_;clear H a;intro a H
  refine Xb H (Qo (Xn Tryz.underlying5 Tryz.underlying3 ⟨_,rfl⟩ rfl) (Xa _)) rfl ?_;clear H a;intro a H
  refine Xb H (Zb rfl) rfl ?_;clear H a;intro a H
  refine To ?_;intro bF bQ
  replace hS:=hS.ext bQ
  refine Za (wp_seq (wp_seq (wp_region_lit (n_c H (fun HC=>?_)))));clear H
  refine Tn HC (Zc rfl) rfl (by kernel_rfl) (V_q (Zc rfl) rfl (by kernel_rfl) (V_g (Zc rfl) (by kernel_rfl) (by kernel_rfl) (by kernel_rfl) (V_g (Ky rfl rfl) (by kernel_rfl) (by kernel_rfl) (by kernel_rfl) (Zmg (j:=1) rfl rfl rfl (by kernel_rfl) (by kernel_rfl) (V_q (Zc rfl) rfl (by kernel_rfl) (V_g (Zc rfl) (by kernel_rfl) (by kernel_rfl) (by kernel_rfl) (V_g (Zf5 rfl) (by kernel_rfl) (by kernel_rfl) (by kernel_rfl) (V_g (Zc rfl) (by kernel_rfl) (by kernel_rfl) (by kernel_rfl) (V_g (Zc rfl) (by kernel_rfl) (by kernel_rfl) (by kernel_rfl) (V_g (Zc rfl) (by kernel_rfl) (by kernel_rfl) (by kernel_rfl) (V_g (Vo rfl rfl) (by kernel_rfl) (by kernel_rfl) (by kernel_rfl) ?_)))))))))));clear HC a;intro a HC
  refine Zfe HC (Zc rfl) (by kernel_rfl) (by kernel_rfl) (by kernel_rfl) (V_g (Zc rfl) (by kernel_rfl) (by kernel_rfl) (by kernel_rfl) (V_g (Ky rfl rfl) (by kernel_rfl) (by kernel_rfl) (by kernel_rfl) ?_));clear HC a;intro a HC
  refine nc_org (j:=12) HC rfl rfl rfl (by kernel_rfl) (by kernel_rfl) (by kernel_rfl) ?_;clear HC a;intro a HC
  refine Zl8 (j:=8) HC rfl rfl rfl (by kernel_rfl) (by kernel_rfl) (by kernel_rfl) ?_;clear HC a;intro a HC
  refine Zn6 (j:=5) HC rfl rfl rfl (by kernel_rfl) (by kernel_rfl) ?_;clear HC a;intro a HC
  have H:=HC.has;clear HC
  refine Ze (Za (Zl H rfl (fun aG=>?_) (fun aG=>?_)))
  · replace hm:=Zu hm aG
    refine wp_seq (Gi [] 7 (by kernel_rfl) ?_)
    obtain⟨bG,aH⟩ : ∃ x,x=bF.drew:=⟨_,rfl⟩;rw [← aH];have bR : Ext bF bG:=by rw [aH];exact Ext.drew' _
    clear aH
    replace hS:=hS.ext bR
    have bS:=hS
    have hW:=Nat.le_refl bG.heap.size
    refine Zg 0 H rfl (Zc rfl) rfl (by kernel_rfl) (by kernel_rfl) (by kernel_rfl) (by kernel_rfl) (fun _ _ _ h=>h) ?_;clear H a;intro a H
    refine Zg 1 H rfl (Zp rfl) rfl (by kernel_rfl) (by kernel_rfl) (by kernel_rfl) (by kernel_rfl) (fun _ _ _ h=>h) ?_;clear H a;intro a H
    refine Zg 2 H rfl (Zd rfl Hm) rfl (by kernel_rfl) (by kernel_rfl) (by kernel_rfl) (by kernel_rfl) (fun _ _ _ h=>h) ?_;clear H a;intro a H
    refine Xo 3 H rfl (Zf rfl (LdC.old ((bS.blk 0 rfl).ld ag3 rfl) Ext.rfl' (Nat.le_refl _) (by simp))) rfl (by kernel_rfl) (by kernel_rfl) (by kernel_rfl) (by kernel_rfl) (fun _ _ _ h=>h) ?_;clear H a;intro a H
    refine Zg 4 H rfl (Zz (cs:=[.int .i64 3,.int .i64 aA.2.At]) Zd1 Zld Zle rfl (by kernel_rfl)) rfl (by kernel_rfl) (by kernel_rfl) (by kernel_rfl) (by kernel_rfl) (fun _ _ _ h=>h) ?_;clear H a;intro a H
    refine Zg 5 H rfl (Zb rfl) rfl (by kernel_rfl) (by kernel_rfl) (by kernel_rfl) (by kernel_rfl) (fun _ _ _ h=>h) ?_;clear H a;intro a H
    refine Zg 6 H rfl (Zb rfl) rfl (by kernel_rfl) (by kernel_rfl) (by kernel_rfl) (by kernel_rfl) (fun _ _ _ h=>h) ?_;clear H a;intro a H
    replace hS:=hS.pk1
    refine Qj 7 H rfl rfl rfl (vs:=[.int .i64 3,.int .i64 aA.2.At]) rfl Tm (hS.blk 0 rfl) rfl (by simp) (by kernel_rfl) (.inr (by kernel_rfl)) ?_
    clear H;intro cT hN aU hz;clear a;intro a H;replace hS:=hS.setBlk hN aU;clear hN hz;replace hW:=Nat.le_trans hW aU.size
    refine Qx (by kernel_rfl) ?_
    refine Za (wp_ret (Zh ?_))
    obtain rfl:=Option.some.inj hm
    replace hS:=St.optNone (fun (x : GR02Cursor) b=>blkR b [v0_0,.int .i64 x.At,.int .i64 x.End] 270) hS
    replace hS:=hS.pk1
    replace hS:=hS.pk1
    replace hS:=hS.pk2
    refine Ti H (.inr rfl) rfl (vs:=[.int .i64 0,.pointer none,.agg #[.int .i64 3,.int .i64 aA.2.At]]) (Xh rfl (Xh rfl (Qm rfl ((hS.blk 2 rfl).ldAll Zf9 Tm) Qv))) ?_
    replace hS:=hS.tk2
    exact⟨_,rfl,hS⟩
  replace hm:=Zv hm aG
  refine wp_skip (Za (wp_seq (wp_region_lit (n_q H (Zc rfl) rfl (W_q (Zc rfl) rfl (W_q (Zp rfl) rfl (W_q (Zd rfl Hm) rfl (W_q (Zf rfl ((hS.blk 0 rfl).ld ag3 rfl)) rfl (W_q (Xv rfl rfl) rfl ?_)))))))));clear H a;intro a H
  obtain⟨cK,aV,aW,bT,aX⟩:=hS.frame (rs1:=[blkR b0 [v0_0,.int .i64 aA.2.At,.int .i64 aA.2.End] 270])
  replace hm:=Zi hm;obtain⟨aC,bU,hm⟩:=hm
  refine Zj H rfl en192 (Zay (A:=A) aV (a0:=(⟨a0.B,aA.2.At,aA.2.End⟩ : GR02Cursor)) (fun w' hw=>ro0_B _ (aW _ hw)) bU) rfl ?_
  clear H;intro cU cV hv;clear a;intro a H;obtain⟨rfl,bV⟩:=hv
  replace hS:=aX _ _ bV;simp only [List.cons_append,List.nil_append] at hS;clear aV aW bT aX
  refine n_q H (Zb rfl) rfl ?_;clear H a;intro a H
  refine Ze (Za (wp_seq (wp_seq (wp_region_lit (n_q H (Zc rfl) rfl (W_q (Zc rfl) rfl ?_))))));clear H a;intro a H
  obtain⟨cL,aY,aZ,bW,a9⟩:=hS.frame (rs1:=[blkR b0 [v0_0,.int .i64 aC.2.At,.int .i64 aC.2.End] 270])
  replace hm:=Zi hm;obtain⟨aB,bX,hm⟩:=hm
  refine Zj H rfl Zr5 (Ul (A:=A) aY (a0:=(⟨a0.B,aC.2.At,aC.2.End⟩ : GR02Cursor)) (fun w' hw=>ro0_B _ (aZ _ hw)) bX) rfl ?_
  clear H;intro cW aO hv;clear a;intro a H;obtain⟨rfl,bY⟩:=hv
  replace hS:=a9 _ _ bY;simp only [List.cons_append,List.nil_append] at hS;clear aY aZ bW a9
  refine n_q H (Zcj rfl rfl) rfl (W_q (Hp rfl rfl) rfl ?_);clear H a;intro a H
  refine Ze (Za (Zl H rfl (fun aI=>?_) (fun aI=>?_)))
  · replace hm:=Zu hm aI
    refine wp_seq (Gi [] 8 (by kernel_rfl) ?_)
    obtain⟨bH,aJ⟩ : ∃ x,x=aO.drew:=⟨_,rfl⟩;rw [← aJ];have bZ : Ext aO bH:=by rw [aJ];exact Ext.drew' _
    clear aJ
    replace hS:=hS.ext bZ
    have b7:=hS
    have hW:=Nat.le_refl bH.heap.size
    refine Zg 0 H rfl (Zc rfl) rfl (by kernel_rfl) (by kernel_rfl) (by kernel_rfl) (by kernel_rfl) (fun _ _ _ h=>h) ?_;clear H a;intro a H
    refine Zg 1 H rfl (Zp rfl) rfl (by kernel_rfl) (by kernel_rfl) (by kernel_rfl) (by kernel_rfl) (fun _ _ _ h=>h) ?_;clear H a;intro a H
    refine Zg 2 H rfl (Zd rfl Hm) rfl (by kernel_rfl) (by kernel_rfl) (by kernel_rfl) (by kernel_rfl) (fun _ _ _ h=>h) ?_;clear H a;intro a H
    refine Xo 3 H rfl (Zf rfl (LdC.old ((b7.blk 0 rfl).ld ag3 rfl) Ext.rfl' (Nat.le_refl _) (by simp))) rfl (by kernel_rfl) (by kernel_rfl) (by kernel_rfl) (by kernel_rfl) (fun _ _ _ h=>h) ?_;clear H a;intro a H
    refine Zg 4 H rfl (Xv rfl rfl) rfl (by kernel_rfl) (by kernel_rfl) (by kernel_rfl) (by kernel_rfl) (fun _ _ _ h=>h) ?_;clear H a;intro a H
    refine Zg 5 H rfl (Zz (cs:=[.int .i64 5,.int .i64 (IntKind.i64.wrap (aB.2.At + 1))]) Zd1 Zld Zle rfl (by kernel_rfl)) rfl (by kernel_rfl) (by kernel_rfl) (by kernel_rfl) (by kernel_rfl) (fun _ _ _ h=>h) ?_;clear H a;intro a H
    refine Zg 6 H rfl (Zb rfl) rfl (by kernel_rfl) (by kernel_rfl) (by kernel_rfl) (by kernel_rfl) (fun _ _ _ h=>h) ?_;clear H a;intro a H
    refine Zg 7 H rfl (Zb rfl) rfl (by kernel_rfl) (by kernel_rfl) (by kernel_rfl) (by kernel_rfl) (fun _ _ _ h=>h) ?_;clear H a;intro a H
    replace hS:=hS.pk1
    refine Qj 8 H rfl rfl rfl (vs:=[.int .i64 5,.int .i64 (IntKind.i64.wrap (aB.2.At + 1))]) rfl Tm (hS.blk 0 rfl) rfl (by simp) (by kernel_rfl) (.inr (by kernel_rfl)) ?_
    clear H;intro cX hN bA hz;clear a;intro a H;replace hS:=hS.setBlk hN bA;clear hN hz;replace hW:=Nat.le_trans hW bA.size
    refine Qx (by kernel_rfl) ?_
    refine Za (wp_ret (Zh ?_))
    obtain rfl:=Option.some.inj hm
    replace hS:=St.optNone (fun (x : GR02Cursor) b=>blkR b [v0_0,.int .i64 x.At,.int .i64 x.End] 270) hS
    replace hS:=hS.pk1
    replace hS:=hS.pk1
    replace hS:=hS.pk2
    refine Ti H (.inr rfl) rfl (vs:=[.int .i64 0,.pointer none,.agg #[.int .i64 5,.int .i64 (IntKind.i64.wrap (aB.2.At + 1))]]) (Xh rfl (Xh rfl (Qm rfl ((hS.blk 2 rfl).ldAll Zf9 Tm) Qv))) ?_
    replace hS:=hS.tk2
    exact⟨_,rfl,hS⟩
  replace hm:=Zv hm aI
  refine wp_skip (Za (wp_seq (Gi [] 19 (by kernel_rfl) ?_)))
  obtain⟨bB,aK⟩ : ∃ x,x=aO.drew:=⟨_,rfl⟩;rw [← aK];have b8 : Ext aO bB:=by rw [aK];exact Ext.drew' _
  clear aK
  replace hS:=hS.ext b8
  have aL:=hS
  have hW:=Nat.le_refl bB.heap.size
  refine Zg 0 H rfl (Zc rfl) rfl (by kernel_rfl) (by kernel_rfl) (by kernel_rfl) (by kernel_rfl) (fun _ _ _ h=>h) ?_;clear H a;intro a H
  refine Zg 1 H rfl (Zp rfl) rfl (by kernel_rfl) (by kernel_rfl) (by kernel_rfl) (by kernel_rfl) (fun _ _ _ h=>h) ?_;clear H a;intro a H
  refine Zg 2 H rfl (Zd rfl Zmp) rfl (by kernel_rfl) (by kernel_rfl) (by kernel_rfl) (by kernel_rfl) (fun _ _ _ h=>h) ?_;clear H a;intro a H
  refine Xo 3 H rfl (Zf rfl (LdC.old ((aL.blk 0 rfl).ld Zdx rfl) Ext.rfl' (Nat.le_refl _) (by simp))) rfl (by kernel_rfl) (by kernel_rfl) (by kernel_rfl) (by kernel_rfl) (fun _ _ _ h=>h) ?_;clear H a;intro a H
  refine Zg 4 H rfl (Zc rfl) rfl (by kernel_rfl) (by kernel_rfl) (by kernel_rfl) (by kernel_rfl) (fun _ _ _ h=>h) ?_;clear H a;intro a H
  refine Zg 5 H rfl (Zp rfl) rfl (by kernel_rfl) (by kernel_rfl) (by kernel_rfl) (by kernel_rfl) (fun _ _ _ h=>h) ?_;clear H a;intro a H
  refine Zg 6 H rfl (Zd rfl Hm) rfl (by kernel_rfl) (by kernel_rfl) (by kernel_rfl) (by kernel_rfl) (fun _ _ _ h=>h) ?_;clear H a;intro a H
  refine Xo 7 H rfl (Zf rfl (LdC.old ((aL.blk 0 rfl).ld ag3 rfl) Ext.rfl' (Nat.le_refl _) (by simp))) rfl (by kernel_rfl) (by kernel_rfl) (by kernel_rfl) (by kernel_rfl) (fun _ _ _ h=>h) ?_;clear H a;intro a H
  refine Zg 8 H rfl (Xv rfl rfl) rfl (by kernel_rfl) (by kernel_rfl) (by kernel_rfl) (by kernel_rfl) (fun _ _ _ h=>h) ?_;clear H a;intro a H
  refine Zg 9 H rfl (Zc rfl) rfl (by kernel_rfl) (by kernel_rfl) (by kernel_rfl) (by kernel_rfl) (fun _ _ _ h=>h) ?_;clear H a;intro a H
  refine Zg 10 H rfl (Zp rfl) rfl (by kernel_rfl) (by kernel_rfl) (by kernel_rfl) (by kernel_rfl) (fun _ _ _ h=>h) ?_;clear H a;intro a H
  refine Zg 11 H rfl (Zd rfl Hm) rfl (by kernel_rfl) (by kernel_rfl) (by kernel_rfl) (by kernel_rfl) (fun _ _ _ h=>h) ?_;clear H a;intro a H
  refine Xo 12 H rfl (Zf rfl (LdC.old ((aL.blk 0 rfl).ld ag3 rfl) Ext.rfl' (Nat.le_refl _) (by simp))) rfl (by kernel_rfl) (by kernel_rfl) (by kernel_rfl) (by kernel_rfl) (fun _ _ _ h=>h) ?_;clear H a;intro a H
  refine Zg 13 H rfl (Xv rfl rfl) rfl (by kernel_rfl) (by kernel_rfl) (by kernel_rfl) (by kernel_rfl) (fun _ _ _ h=>h) ?_;clear H a;intro a H
  refine Zg 14 H rfl (Zc rfl) rfl (by kernel_rfl) (by kernel_rfl) (by kernel_rfl) (by kernel_rfl) (fun _ _ _ h=>h) ?_;clear H a;intro a H
  refine Zg 15 H rfl (Xv rfl rfl) rfl (by kernel_rfl) (by kernel_rfl) (by kernel_rfl) (by kernel_rfl) (fun _ _ _ h=>h) ?_;clear H a;intro a H
  refine Zg 16 H rfl (Zz (cs:=[v0_0,.int .i64 (IntKind.i64.wrap (aB.2.At + 3)),.int .i64 (IntKind.i64.wrap ((IntKind.i64.wrap (aB.2.At + 3)) + aC.1))]) ze270 bd270 pl270 rfl ((Qh ((ro0_B _ hS.chg)).one rfl (by simp)).trans ((Qh rfl rfl (by simp)).trans ((Qh rfl rfl (by simp)).trans rfl)))) rfl (by kernel_rfl) (by kernel_rfl) (by kernel_rfl) (by kernel_rfl) (fun _ _ _ h=>h) ?_;clear H a;intro a H
  refine k_box 17 H rfl rfl (cs:=[v0_0,.int .i64 (IntKind.i64.wrap (aB.2.At + 3)),.int .i64 (IntKind.i64.wrap ((IntKind.i64.wrap (aB.2.At + 3)) + aC.1))]) rfl rfl (by kernel_rfl) ?_
  clear H;intro bI cY hN bC hs;clear a;intro a H
  have cD : bB.heap.size ≤ bI:=hs ▸ hW
  replace hS:=hS.newBlk hN bC hs;clear hN hs
  replace hW:=Nat.le_trans hW bC.size
  refine Zg 18 H rfl (Zb rfl) rfl (by kernel_rfl) (by kernel_rfl) (by kernel_rfl) (by kernel_rfl) (fun _ _ _ h=>h) ?_;clear H a;intro a H
  refine Qx (by kernel_rfl) ?_
  refine Za (wp_seq (wp_region_lit (n_q H (Zc rfl) rfl (W_q (Zp rfl) rfl (W_q (Zd rfl Hm) rfl (W_q (Zf rfl ((hS.blk 1 rfl).ld ag3 rfl)) rfl (W_q (Zc rfl) rfl (W_q (Xv rfl rfl) rfl (W_q (Xv rfl rfl) rfl (W_q (Zp rfl) rfl (W_q (Zd rfl Hm) rfl ?_)))))))))));clear H a;intro a H
  replace hS:=hS.pk1
  refine Jz H rfl rfl sz3 (hS.blk 0 rfl) (by simp) rfl ?_
  clear H;intro cZ hN b9 hz;clear a;intro a H;replace hS:=hS.setBlk hN b9;clear hN hz
  try simp only [List.set_cons_succ,List.set_cons_zero] at hS
  refine Ze (Za (wp_seq (wp_region_lit (n_q H (Zc rfl) rfl (W_q (Zc rfl) rfl ?_)))));clear H a;intro a H
  replace hm:=Zi hm;obtain⟨aP,cA,hm⟩:=hm
  refine Zj H rfl Zr4 (Zb4 (A:=A) cA) rfl ?_
  clear H;intro dA dB hv;clear a;intro a H;obtain⟨rfl,cB⟩:=hv
  replace hS:=hS.ext cB
  refine n_q H (Zb rfl) rfl (W_q (Zb rfl) rfl ?_);clear H a;intro a H
  replace hS:=hS.pk2
  refine Zr H rfl rfl (vs:=[.int .i64 aP.Code,.int .i64 aP.Place]) rfl Tm (hS.blk 0 rfl) rfl (by simp) ?_
  clear H;intro dC hN cC hz;clear a;intro a H;replace hS:=hS.setBlk hN cC;clear hN hz
  refine Ze (Za (wp_ret ?_))
  obtain rfl:=Option.some.inj hm
  replace hS:=hS.pk2
  replace hS:=St.optSome (g:=(fun (x : GR02Cursor) b=>blkR b [v0_0,.int .i64 x.At,.int .i64 x.End] 270)) (⟨a0.B,(IntKind.i64.wrap (aB.2.At + 3)),(IntKind.i64.wrap ((IntKind.i64.wrap (aB.2.At + 3)) + aC.1))⟩ : GR02Cursor) hS
  replace hS:=hS.pk1
  replace hS:=hS.pk1
  replace hS:=hS.pk2
  refine Ti H (.inr rfl) rfl (vs:=[.int .i64 (cF.toNat : Int),.pointer (some ⟨bI,0,none⟩),.agg #[.int .i64 aP.Code,.int .i64 aP.Place]]) (Xh rfl (Xh rfl (Qm rfl ((hS.blk 2 rfl).ldAll Zf9 Tm) Qv))) ?_
  replace hS:=hS.tk2
  exact⟨_,rfl,hS⟩
theorem Ze4 {w : World} {A : Nat → Addr} {fp : Nat → Prop} {b0 : Nat} {v0_0 : Value} {a0 : GR02Cursor} (hP : Sep w fp [blkR b0 [v0_0,.int .i64 a0.At,.int .i64 a0.End] 270]) (ro0_B : ∀ w',ChgP fp w w' → SlR w' 1 (Zq eB) v0_0 a0.B) {r : Int × Option GR02Cursor × GR02Err × GR02Cursor} (hm : Jw a0=some r) :
    Calls Tryz.prog 193 [.pointer (some ⟨b0,0,none⟩)].toArray w (Ret fun u w'=>∃ h_0,u=.tuple #[.int .i64 r.1,h_0,.agg (Zfj r.2.2.1).toArray] ∧ St fp w w' [blkR b0 [v0_0,.int .i64 r.2.2.2.At,.int .i64 r.2.2.2.End] 270,optR (fun (x : GR02Cursor) b=>blkR b [v0_0,.int .i64 x.At,.int .i64 x.End] 270) h_0 r.2.1]):=by
  have hS:=St.init hP
  unfold Jw at hm
  refine enter Tryz.func193 rfl rfl rfl ?_;intro a H;dsimp only [Qk,Nat.zero_add,Nat.reduceAdd] at H
  refine wp_seq (wp_region_lit (n_q H (Zb rfl) rfl (W_q (Zb rfl) rfl ?_)));clear H a;intro a H
  refine Qr H Zd1 rfl ?_
  clear H;intro aL aM hN aE hs;clear a;intro a H
  replace hS:=hS.newBlk hN aE hs;clear hN hs
  refine Ze (Za (wp_seq (wp_region_lit (n_q H (Zc rfl) rfl ?_))));clear H a;intro a H
  replace hS:=hS.pk1
  obtain⟨aK,aB,aC,aF,aD⟩:=hS.frame (rs1:=[blkR b0 [v0_0,.int .i64 a0.At,.int .i64 a0.End] 270])
  replace hm:=Zi hm;obtain⟨aA,aG,hm⟩:=hm
  refine Zj H rfl en239 (Zd2 (A:=A) aB (a0:=(⟨a0.B,a0.At,a0.End⟩ : GR02Cursor)) (fun w' hw=>ro0_B _ (aC _ hw)) aG) rfl ?_
  clear H;intro aN aO hv;clear a;intro a H;obtain⟨aJ,rfl,aH⟩:=hv
  replace hS:=aD _ _ aH;simp only [List.cons_append,List.nil_append] at hS;clear aB aC aF aD
  refine n_q H (Zk rfl rfl) rfl (W_q (Zk rfl rfl) rfl (W_q (Zk rfl rfl) rfl (W_q (Zb rfl) rfl (W_q (Zb rfl) rfl ?_))));clear H a;intro a H
  replace hS:=hS.pk2
  refine Zr H rfl rfl (vs:=[.int .i64 aA.2.2.1.Code,.int .i64 aA.2.2.1.Place]) rfl Tm (hS.blk 0 rfl) rfl (by simp) ?_
  clear H;intro aP hN aI hz;clear a;intro a H;replace hS:=hS.setBlk hN aI;clear hN hz
  refine Ze (Za (wp_ret ?_))
  obtain rfl:=Option.some.inj hm
  replace hS:=hS.pk2
  replace hS:=hS.pk2
  refine Ti H (.inr rfl) rfl (vs:=[.int .i64 aA.1,aJ,.agg #[.int .i64 aA.2.2.1.Code,.int .i64 aA.2.2.1.Place]]) (Xh rfl (Xh rfl (Qm rfl ((hS.blk 2 rfl).ldAll Zf9 Tm) Qv))) ?_
  replace hS:=hS.tk2
  exact⟨_,rfl,hS⟩
theorem Zj7 {w : World} {A : Nat → Addr} {v0 : Value} {a0 : List UInt8} (h0 : SlR w 1 (Zq eB) v0 a0) {r : List GR02Rec × GR02Err} (hm : Ui a0=some r) :
    Calls Tryz.prog 116 [v0].toArray w (Ret fun u w'=>∃ h_0,u=.tuple #[h_0,.agg (Zfj r.2).toArray] ∧ St NB w w' [deepR 274 2 Uh h_0 r.1]):=by
  have hS:=St.begin NB w
  unfold Ui at hm
  refine enter Tryz.func116 rfl rfl rfl ?_;intro a H;dsimp only [Qk,Nat.zero_add,Nat.reduceAdd] at H
  refine wp_seq (wp_region_lit (n_q H (Zb rfl) rfl ?_));clear H a;intro a H
  refine Qr H Zd1 rfl ?_
  clear H;intro bJ cQ hN bO hs;clear a;intro a H
  replace hS:=hS.newBlk hN bO hs;clear hN hs
  refine Ze (Za (wp_seq (wp_region_lit (n_q H (Zc rfl) rfl ?_))));clear H a;intro a H
  replace hm:=Zi hm;obtain⟨aC,bP,hm⟩:=hm
  refine Zj H rfl en114 (Zgy (A:=A) (h0.ext (Zq.mono _) hS.x) bP) rfl ?_
  clear H;intro cR cT hv;clear a;intro a H;obtain⟨aP,aQ,rfl,bQ⟩:=hv
  replace hS:=hS.new bQ;simp only [List.cons_append,List.nil_append] at hS
  refine n_q H (Zb rfl) rfl ?_;clear H a;intro a H
  refine Ze (Za (wp_seq (wp_region_lit (n_q H (Zb rfl) rfl ?_))));clear H a;intro a H
  refine Ze (Za (wp_seq (wp_block ?_)))
  replace hS:=hS.deepNil 274 2 Uh
  replace hS:=hS.pk2
  replace hS:=hS.pk2
  replace hS:=hS.pk3
  replace hS:=hS.pk3
  replace hm:=Zi hm;obtain⟨aW,hm,aX⟩:=hm;replace hm:=Qg hm;obtain⟨cI,hm⟩:=hm
  refine Jd (σ:=Nat × (List GR02Rec) × Int × Int × Value) (fun (m,aG,aD,aE,aH)=>[(0,v0),(3,.pointer (some ⟨bJ,0,none⟩)),(4,.pointer (some ⟨aP,0,none⟩)),(5,aH)]) (fun (m,aG,aD,aE,aH) wl=>Js (Jc a0 aC) m (aG,aD,aE)=some aW ∧ St NB w wl [deepR 274 2 Uh aH aG,blkR bJ [.int .i64 0,.int .i64 0] 188,blkR aP [aQ,.int .i64 aD,.int .i64 aE] 270,ownR 5 1 aQ aC.B.length (aC.B.flatMap eB)]) (fun (m,aG,aD,aE,aH)=>m) (cI,([] : List GR02Rec),aC.At,aC.End,.slice none 0 0) H ⟨rfl,rfl,rfl,rfl,trivial⟩ ⟨hm,hS⟩ ?_
  clear H hS hm a;intro xx a cU H hR;obtain⟨m,aG,aD,aE,aH⟩:=xx;simp only [ent,List.map_cons,List.map_nil] at H;(try dsimp only at hR);obtain⟨hm,hS⟩:=hR
  replace hm:=Qa hm;obtain⟨cJ,cV,rfl,hm,aK⟩:=hm;try dsimp only [Jc] at hm
  refine wp_seq (wp_seq (wp_region_lit (n_q H (Zc rfl) rfl ?_)));clear H a;intro a H
  replace hS:=hS.pk2
  obtain⟨cM,aY,bR,aZ,a9⟩:=hS.frame (rs1:=[blkR aP [aQ,.int .i64 aD,.int .i64 aE] 270])
  replace hm:=Zi hm;obtain⟨aR,bS,hm⟩:=hm
  refine Zj H rfl Zr5 (Ul (A:=A) aY (a0:=(⟨aC.B,aD,aE⟩ : GR02Cursor)) (fun w' hw=>(Kn (aZ 2 _ rfl _ hw)).slr rfl (fun _ _=>rfl)) bS) rfl ?_
  clear H;intro cW cX hv;clear a;intro a H;obtain⟨rfl,bT⟩:=hv
  replace hS:=a9 _ _ bT;simp only [List.cons_append,List.nil_append] at hS;clear aY bR aZ a9
  refine n_q H (Hp rfl rfl) rfl ?_;clear H a;intro a H
  refine Ze (Za (Zl H rfl (fun aL=>?_) (fun aL=>?_)))
  · replace hm:=Zu hm aL
    refine wp_skip (Za (wp_block (wp_seq (wp_region_lit (n_q H (Zc rfl) rfl ?_)))));clear H a;intro a H
    obtain⟨cN,bA,bU,bB,bC⟩:=hS.frame (rs1:=[blkR aP [aQ,.int .i64 aR.2.At,.int .i64 aR.2.End] 270])
    replace hm:=Zi hm;obtain⟨aA,bV,hm⟩:=hm
    refine Zj H rfl en193 (Ze4 (A:=A) bA (a0:=(⟨aC.B,aR.2.At,aR.2.End⟩ : GR02Cursor)) (fun w' hw=>(Kn (bB 2 _ rfl _ hw)).slr rfl (fun _ _=>rfl)) bV) rfl ?_
    clear H;intro cY cZ hv;clear a;intro a H;obtain⟨dA,rfl,bW⟩:=hv
    replace hS:=bC _ _ bW;simp only [List.cons_append,List.nil_append] at hS;clear bA bU bB bC
    refine n_q H (Zc rfl) rfl (W_q (Zk rfl rfl) rfl (W_q (Zk rfl rfl) rfl (W_q (Zk rfl rfl) rfl ?_)));clear H a;intro a H
    refine Qr H Zd1 rfl ?_
    clear H;intro dB dC hN bX hs;clear a;intro a H
    replace hS:=hS.newBlk hN bX hs;clear hN hs
    refine n_q H (Zb rfl) rfl (W_q (Zb rfl) rfl ?_);clear H a;intro a H
    refine Zr H rfl rfl (vs:=[.int .i64 aA.2.2.1.Code,.int .i64 aA.2.2.1.Place]) rfl Tm (hS.blk 0 rfl) rfl (by simp) ?_
    clear H;intro aS hN bY hz;clear a;intro a H;replace hS:=hS.setBlk hN bY;clear hN hz
    refine Ze (Za (wp_seq (wp_seq (wp_region_lit (n_q H (Zd rfl Zmo) rfl (W_q (Zf rfl ((hS.blk 0 rfl).ld ag3 rfl)) rfl (W_q (Vo rfl rfl) rfl ?_)))))));clear H a;intro a H
    refine Ze (Za (Zl H rfl (fun aM=>?_) (fun aM=>?_)))
    · replace hm:=Zu hm aM
      refine wp_seq (Gi [] 2 (by kernel_rfl) ?_)
      obtain⟨bK,aN⟩ : ∃ x,x=aS.drew:=⟨_,rfl⟩;rw [← aN];have bZ : Ext aS bK:=by rw [aN];exact Ext.drew' _
      clear aN
      replace hS:=hS.ext bZ
      have b7:=hS
      have hW:=Nat.le_refl bK.heap.size
      refine Xo 0 H rfl (Zf rfl (LdC.old ((b7.blk 0 rfl).ldAll Zf9 Tm) Ext.rfl' (Nat.le_refl _) (by simp))) rfl (by kernel_rfl) (by kernel_rfl) (by kernel_rfl) (by kernel_rfl) (fun _ _ _ h=>h) ?_;clear H a;intro a H
      refine Zg 1 H rfl (Zb rfl) rfl (by kernel_rfl) (by kernel_rfl) (by kernel_rfl) (by kernel_rfl) (fun _ _ _ h=>h) ?_;clear H a;intro a H
      replace hS:=hS.pk4
      refine Qj 2 H rfl rfl rfl (vs:=[.int .i64 aA.2.2.1.Code,.int .i64 aA.2.2.1.Place]) rfl Tm (hS.blk 0 rfl) rfl (by simp) (by kernel_rfl) (.inr (by kernel_rfl)) ?_
      clear H;intro dD hN bD hz;clear a;intro a H;replace hS:=hS.setBlk hN bD;clear hN hz;replace hW:=Nat.le_trans hW bD.size
      refine Qx (by kernel_rfl) ?_
      refine Za (wp_ret (Zh (Zo (Zh (Zo (Zh ?_))))))
      obtain rfl:=Option.some.inj hm;have hz : _=aW:=aK;subst hz;replace hm:=aX;try dsimp only at hm
      obtain rfl:=Option.some.inj hm
      replace hS:=hS.deepNil 274 2 Uh
      replace hS:=hS.tk2
      refine Ti H (.inr rfl) rfl (vs:=[.slice none 0 0,.agg #[.int .i64 aA.2.2.1.Code,.int .i64 aA.2.2.1.Place]]) (Xh rfl (Qm rfl ((hS.blk 1 rfl).ldAll Zf9 Tm) Qv)) ?_
      replace hS:=hS.tk1
      exact⟨_,rfl,hS⟩
    replace hm:=Zv hm aM
    refine wp_skip (Za ?_)
    replace hm:=Zi hm;obtain⟨aB,b8,hm⟩:=hm
    replace hS:=hS.pk2
    obtain⟨dE,hv,hS'⟩:=St.optOpen b8 hS;clear hS;subst hv;have hS:=hS';clear hS';try dsimp only at hS
    refine Gi [] 16 (by kernel_rfl) ?_
    obtain⟨aT,aO⟩ : ∃ x,x=aS.drew:=⟨_,rfl⟩;rw [← aO];have b9 : Ext aS aT:=by rw [aO];exact Ext.drew' _
    clear aO
    replace hS:=hS.ext b9
    have bE:=hS
    have hW:=Nat.le_refl aT.heap.size
    refine Zg 0 H rfl (Zc rfl) rfl (by kernel_rfl) (by kernel_rfl) (by kernel_rfl) (by kernel_rfl) (fun _ _ _ h=>h) ?_;clear H a;intro a H
    refine Zg 1 H rfl (Zc rfl) rfl (by kernel_rfl) (by kernel_rfl) (by kernel_rfl) (by kernel_rfl) (fun _ _ _ h=>h) ?_;clear H a;intro a H
    refine Zg 3 H rfl (Zc rfl) rfl (by kernel_rfl) (by kernel_rfl) (by kernel_rfl) (by kernel_rfl) (fun _ _ _ h=>h) ?_;clear H a;intro a H
    refine Zg 4 H rfl (Zc rfl) rfl (by kernel_rfl) (by kernel_rfl) (by kernel_rfl) (by kernel_rfl) (fun _ _ _ h=>h) ?_;clear H a;intro a H
    refine Zg 5 H rfl (Zp rfl) rfl (by kernel_rfl) (by kernel_rfl) (by kernel_rfl) (by kernel_rfl) (fun _ _ _ h=>h) ?_;clear H a;intro a H
    refine Zg 6 H rfl (Zd rfl Hm) rfl (by kernel_rfl) (by kernel_rfl) (by kernel_rfl) (by kernel_rfl) (fun _ _ _ h=>h) ?_;clear H a;intro a H
    refine Wj 7 6 H rfl (Zf rfl (LdC.old ((bE.blk 0 rfl).ld ag3 rfl) Ext.rfl' (Nat.le_refl _) (by simp))) rfl (by kernel_rfl) (by kernel_rfl) (by kernel_rfl) (by kernel_rfl) (fun _ _ _ h=>h) ?_;clear H a;intro a H
    refine Zg 8 H rfl (Zc rfl) rfl (by kernel_rfl) (by kernel_rfl) (by kernel_rfl) (by kernel_rfl) (fun _ _ _ h=>h) ?_;clear H a;intro a H
    refine Zg 9 H rfl (Zp rfl) rfl (by kernel_rfl) (by kernel_rfl) (by kernel_rfl) (by kernel_rfl) (fun _ _ _ h=>h) ?_;clear H a;intro a H
    refine Zg 10 H rfl (Zd rfl Zp8) rfl (by kernel_rfl) (by kernel_rfl) (by kernel_rfl) (by kernel_rfl) (fun _ _ _ h=>h) ?_;clear H a;intro a H
    refine Wj 11 6 H rfl (Zf rfl (LdC.old ((bE.blk 0 rfl).ld ag3 rfl) Ext.rfl' (Nat.le_refl _) (by simp))) rfl (by kernel_rfl) (by kernel_rfl) (by kernel_rfl) (by kernel_rfl) (fun _ _ _ h=>h) ?_;clear H a;intro a H
    obtain⟨bL,bM,bF,cO,cP⟩:=SlR.formV (h0.ext (Zq.mono _) hS.x)
    replace hm:=Tj hm;obtain⟨aF,hm⟩:=hm
    obtain⟨dF,dG,cA,aJ⟩:=Zhl 1 (Zq eB) bL a0.length bM a0 (lo:=aB.At) (hi:=aB.End) aF.1 aF.2.1 aF.2.2
    rw [← bF] at aJ
    refine Zg 12 H rfl (Qo (Zmb Tryz.underlying100 sz5 (show _=some (Value.slice bL a0.length bM) by rw [← bF];rfl) rfl rfl aF.1 aF.2.1 (by omega)) cA) rfl (by kernel_rfl) (by kernel_rfl) (by kernel_rfl) (by kernel_rfl) (fun _ _ _ h=>h) ?_;clear H a;intro a H
    refine Ki 2 H rfl Tryz.underlying100 sz5 ze5 rfl rfl rfl (cs:=[]) rfl rfl (by kernel_rfl) ?_
    clear H;intro bN dH hN bG hs;clear a;intro a H
    have aV : aT.heap.size ≤ bN:=hs ▸ hW
    replace hS:=hS.newBlk hN bG hs;clear hN hs
    replace hW:=Nat.le_trans hW bG.size
    replace hS:=hS.blkOwnL (e:=eB) (k:=1) ([] : List UInt8) rfl rfl (by simp [maxLen])
    replace hm:=Tj hm;obtain⟨cB,hm⟩:=hm
    refine Zim (e:=eB) 13 H rfl rfl rfl Tryz.underlying100 Tryz.underlying100 (by simp) el5 (hS.own 0 rfl) ((aJ _ (h0.ext (Zq.mono _) hS.x)).src (fun _ _=>rfl)) Zal cB (by simp only [maxLen];omega) rfl (by kernel_rfl) (.inl (fun c hc h=>absurd ((show c=bN from List.mem_singleton.1 hc) ▸ h) (Nat.not_lt.2 aV))) ?_
    clear H;intro aI dI hN bH hb;clear a;intro a H;replace hS:=hS.setOwn hN bH hb;clear hN hb
    replace hW:=Nat.le_trans hW bH.size
    refine Zg 14 H rfl (Zz (cs:=[.int .i64 aA.1,aI]) ze274 bd274 pl274 rfl ((Qh rfl rfl (by simp)).trans ((Qh (((hS.own 0 rfl).slr rfl (fun _ _=>rfl))).one rfl (by simp)).trans rfl))) rfl (by kernel_rfl) (by kernel_rfl) (by kernel_rfl) (by kernel_rfl) (fun _ _ _ h=>h) ?_;clear H a;intro a H
    refine Ki 15 H rfl Tryz.underlying196 Zmq ze274 rfl rfl rfl (cs:=[.int .i64 aA.1,aI]) ((fillA (ds:=[.int .i64 aA.1,aI]) rfl rfl rfl (by simp)).trans rfl) rfl (by kernel_rfl) ?_
    clear H;intro cK dJ hN bI hs;clear a;intro a H
    have cH : aT.heap.size ≤ cK:=hs ▸ hW
    replace hS:=hS.newBlk hN bI hs;clear hN hs
    replace hW:=Nat.le_trans hW bI.size
    replace hS:=hS.pk1
    replace hS:=hS.ownAny (F:=(fun w'=>SlR w' 1 (Zq eB) aI (([] : List UInt8) ++ ((a0.drop aB.At.toNat).take (aB.End.toNat - aB.At.toNat))))) (fun w' hO=>hO.slr rfl (fun _ _=>rfl))
    replace hS:=hS.anyMono (G:=DIn 2 Uh [[.int .i64 aA.1,aI]] [(⟨aA.1,(([] : List UInt8) ++ ((a0.drop aB.At.toNat).take (aB.End.toNat - aB.At.toNat)))⟩ : GR02Rec)]) (fun w' hw=>(DIn.cons rfl (by simp [hw.one]) ⟨_,rfl,hw⟩ trivial))
    replace hm:=Tj hm;obtain⟨cC,hm⟩:=hm
    replace hS:=hS.pk5
    refine k_appD (css:=[[.int .i64 aA.1,aI]]) 16 hS H rfl rfl rfl Tryz.underlying196 Tryz.underlying196 (by simp) el274 (Src.blk (k:=2) (hS.blk 2 rfl) rfl) cC (by simp only [maxLen,List.length_cons,List.length_nil];omega) rfl (by kernel_rfl) (fun _ _=>.inr (by kernel_rfl)) ?_
    clear H hS;intro cL dK hS hz;clear a;intro a H;replace hW:=Nat.le_trans hW hz;clear hz
    refine Zg 17 H rfl (Zb rfl) rfl (by kernel_rfl) (by kernel_rfl) (by kernel_rfl) (by kernel_rfl) (fun _ _ _ h=>h) ?_;clear H a;intro a H
    refine Qx (by kernel_rfl) ?_
    refine Zm (Za ?_)
    obtain rfl:=Option.some.inj hm
    replace hS:=hS.pk6
    replace hS:=hS.pk5
    replace hS:=hS.pk6
    replace hS:=hS.pk3
    replace hS:=hS.tk4
    exact Vh (cJ,(aG ++ [(⟨aA.1,(([] : List UInt8) ++ ((a0.drop aB.At.toNat).take (aB.End.toNat - aB.At.toNat)))⟩ : GR02Rec)]),aA.2.2.2.At,aA.2.2.2.End,cL) H ⟨rfl,rfl,rfl,rfl,trivial⟩ ⟨aK,hS⟩ (Nat.lt_succ_self _)
  replace hm:=Zv hm aL
  refine wp_exit (Zn (Zn (Zy ?_)))
  obtain rfl:=Option.some.inj hm;have hz : _=aW:=aK;subst hz;replace hm:=aX;try dsimp only at hm
  refine Za (wp_seq (wp_region_lit (n_q H (Zc rfl) rfl ?_)));clear H a;intro a H
  replace hm:=Zi hm;obtain⟨aU,cD,hm⟩:=hm
  refine Zj H rfl Zr4 (Zb4 (A:=A) cD) rfl ?_
  clear H;intro dL dM hv;clear a;intro a H;obtain⟨rfl,cF⟩:=hv
  replace hS:=hS.ext cF
  refine n_q H (Zb rfl) rfl ?_;clear H a;intro a H
  replace hS:=hS.pk2
  refine Zr H rfl rfl (vs:=[.int .i64 aU.Code,.int .i64 aU.Place]) rfl Tm (hS.blk 0 rfl) rfl (by simp) ?_
  clear H;intro dN hN cG hz;clear a;intro a H;replace hS:=hS.setBlk hN cG;clear hN hz
  refine Ze (Za (wp_ret ?_))
  obtain rfl:=Option.some.inj hm
  replace hS:=hS.pk2
  replace hS:=hS.tk2
  refine Ti H (.inr rfl) rfl (vs:=[aH,.agg #[.int .i64 aU.Code,.int .i64 aU.Place]]) (Xh rfl (Qm rfl ((hS.blk 1 rfl).ldAll Zf9 Tm) Qv)) ?_
  replace hS:=hS.tk1
  exact⟨_,rfl,hS⟩
set_option maxHeartbeats 1000000 in
theorem Zj8 {w : World} {A : Nat → Addr} {a0 : GPlan} {v1 : Value} {a1 : List GR02Rec} (h1 : SlR w 2 Uh v1 a1) {r : GPlan} (hm : Zbq a0 a1=some r) :
    Calls Tryz.prog 117 [.agg #[.int .i64 a0.Id,.bool a0.Mobile,.slice none 0 0,.slice none 0 0,.slice none 0 0,.int .i64 a0.Events,.slice none 0 0],v1].toArray w (Ret fun u w'=>∃ h_0 h_1 h_2 h_3,u=.agg #[.int .i64 r.Id,.bool r.Mobile,h_0,h_1,h_2,.int .i64 r.Events,h_3] ∧ St NB w w' [ownR 114 2 h_0 r.Pages.length (r.Pages.flatMap Qc),ownR 116 3 h_1 r.Procs.length (r.Procs.flatMap Zx),ownR 118 4 h_2 r.Ports.length (r.Ports.flatMap Zw),ownR 3 1 h_3 r.Sems.length (r.Sems.flatMap eI)]):=by
  have hS:=St.begin NB w
  unfold Zbq at hm
  refine enter Tryz.func117 rfl rfl rfl ?_;intro a H;dsimp only [Qk,Nat.zero_add,Nat.reduceAdd] at H
  refine wp_seq (wp_region_lit (Wt H rfl (cs:=[.int .i64 a0.Id,.bool a0.Mobile,.slice none 0 0,.slice none 0 0,.slice none 0 0,.int .i64 a0.Events,.slice none 0 0]) rfl rfl ?_))
  clear H;intro bD jE hN fI hs;clear a;intro a H
  replace hS:=hS.newBlk hN fI hs;clear hN hs
  refine Qr H Zg9 rfl ?_
  clear H;intro bE jF hN fJ hs;clear a;intro a H
  replace hS:=hS.newBlk hN fJ hs;clear hN hs
  refine Ze (Za (wp_seq (wp_seq (wp_region_lit (n_q H (Zb rfl) rfl ?_)))));clear H a;intro a H
  refine Ze (Za (wp_block ?_))
  replace hS:=hS.nilOwn 114 2
  replace hS:=hS.nilOwn 116 3
  replace hS:=hS.nilOwn 118 4
  replace hS:=hS.nilOwn 3 1
  replace hS:=hS.pk4
  replace hS:=hS.pk1
  replace hS:=hS.pk2
  replace hS:=hS.pk3
  replace hS:=hS.pk4
  replace hS:=hS.pk5
  replace hm:=Zi hm;obtain⟨fH,hm,fK⟩:=hm;replace hm:=Qg hm;obtain⟨gS,hm⟩:=hm
  refine Jd (σ:=Nat × Nat × (List GPagePlan) × (List GProcPlan) × (List GPortPlan) × Int × (List Int) × Value × Value × Value × Value) (fun (m,aE,aF,aG,aH,aM,aO,aI,aJ,aK,aN)=>[(1,v1),(2,.pointer (some ⟨bD,0,none⟩)),(4,.pointer (some ⟨bE,0,none⟩)),(5,.int .i64 ((aE : Nat) : Int))]) (fun (m,aE,aF,aG,aH,aM,aO,aI,aJ,aK,aN) wl=>Js (Xq a1) m (aE,aF,aG,aH,aM,aO)=some fH ∧ St NB w wl [blkR bD [.int .i64 a0.Id,.bool a0.Mobile,aI,aJ,aK,.int .i64 aM,aN] 27,ownR 114 2 aI aF.length (aF.flatMap Qc),ownR 116 3 aJ aG.length (aG.flatMap Zx),ownR 118 4 aK aH.length (aH.flatMap Zw),ownR 3 1 aN aO.length (aO.flatMap eI),blkR bE [.int .i64 0,.bool false,.slice none 0 0,.slice none 0 0,.slice none 0 0,.int .i64 0,.slice none 0 0] 27]) (fun (m,aE,aF,aG,aH,aM,aO,aI,aJ,aK,aN)=>m) (gS,0,([] : List GPagePlan),([] : List GProcPlan),([] : List GPortPlan),a0.Events,([] : List Int),.slice none 0 0,.slice none 0 0,.slice none 0 0,.slice none 0 0) H ⟨rfl,rfl,rfl,rfl,trivial⟩ ⟨hm,hS⟩ ?_
  clear H hS hm a;intro xx a dS H hR;obtain⟨m,aE,aF,aG,aH,aM,aO,aI,aJ,aK,aN⟩:=xx;simp only [ent,List.map_cons,List.map_nil] at H;(try dsimp only at hR);obtain⟨hm,hS⟩:=hR
  replace hm:=Qa hm;obtain⟨gT,gU,rfl,hm,eH⟩:=hm;try dsimp only [Xq] at hm
  refine wp_seq (wp_seq (wp_region_lit (n_q H (Zc rfl) rfl (W_q (Zc rfl) rfl ?_))));clear H a;intro a H
  obtain⟨jG,jH,aD,iP,iQ⟩:=SlR.formV (h1.ext Uh.mono hS.x)
  refine n_q H (Qf Tryz.underlying196 rfl aD) rfl (W_q (Xz (i:=aE) (j:=a1.length) rfl rfl) rfl ?_);clear H a;intro a H
  refine Ze (Za (Zl H rfl (fun bG=>?_) (fun bG=>?_)))
  · replace hm:=Zu hm bG
    have iM : aE < a1.length:=of_decide_eq_true bG
    refine wp_skip (Za ?_)
    replace hm:=Zi hm;obtain⟨jI,hm,aR⟩:=hm
    refine Hj (σ:=(List GPagePlan) × (List GProcPlan) × (List GPortPlan) × Int × (List Int) × Value × Value × Value × Value) H (fun (aS,aT,aU,aZ,aV,a9,bA,bB,bC)=>[(1,v1),(2,.pointer (some ⟨bD,0,none⟩)),(4,.pointer (some ⟨bE,0,none⟩)),(5,.int .i64 ((aE : Nat) : Int))]) (fun (aS,aT,aU,aZ,aV,a9,bA,bB,bC) wl=>(Kd aE) (aS,aT,aU,aZ,aV)=some gU ∧ St NB w wl [blkR bD [.int .i64 a0.Id,.bool a0.Mobile,a9,bA,bB,.int .i64 aZ,bC] 27,ownR 114 2 a9 aS.length (aS.flatMap Qc),ownR 116 3 bA aT.length (aT.flatMap Zx),ownR 118 4 bB aU.length (aU.flatMap Zw),ownR 3 1 bC aV.length (aV.flatMap eI),blkR bE [.int .i64 0,.bool false,.slice none 0 0,.slice none 0 0,.slice none 0 0,.int .i64 0,.slice none 0 0] 27]) ?_ ?_
    · skip
      refine wp_block (wp_seq (wp_region_lit (n_q H (Zc rfl) rfl (W_q (Zc rfl) rfl ?_))));clear H a;intro a H
      replace hm:=Zi hm;obtain⟨aC,bH,hm⟩:=hm
      obtain⟨gV,cU⟩:=SlR.adV (h1.ext Uh.mono hS.x) aD bH
      obtain⟨gW,gH,⟨eG,rfl,aB⟩,eJ⟩:=SlR.elV h1 aD cU bH
      refine n_q H (Jn (i:=aE) Tryz.underlying196 Zmq rfl aD cU rfl (Ho bH)) rfl (W_q (Xt rfl Zul) rfl (W_q (Zf rfl (LdX.ext (Zoc (j:=1) Zdx eJ rfl) hS.x)) rfl (W_q (Zb rfl) rfl ?_)));clear H a;intro a H
      refine Ze (Za (wp_block (wp_seq (wp_region_lit (n_c H (fun HC=>?_))))));clear H
      refine Tn HC (Zc rfl) rfl (by kernel_rfl) (V_q (Zc rfl) rfl (by kernel_rfl) ?_);clear HC a;intro a HC
      replace hm:=Zi hm;obtain⟨iR,bI,hm⟩:=hm
      obtain⟨gX,cV⟩:=SlR.adV (h1.ext Uh.mono hS.x) aD bI
      obtain⟨gY,gI,⟨gJ,rfl,fL⟩,eK⟩:=SlR.elV h1 aD cV bI
      refine Tn HC (Jn (i:=aE) Tryz.underlying196 Zmq rfl aD cV rfl (Ho bI)) rfl (by kernel_rfl) (V_q (Xt rfl Zhz) rfl (by kernel_rfl) (V_q (Zf rfl (LdX.ext (Zoc (j:=0) ag3 eK rfl) hS.x)) rfl (by kernel_rfl) (V_q (Ky rfl rfl) rfl (by kernel_rfl) (V_q (Zc rfl) rfl (by kernel_rfl) (V_g (Zc rfl) (by kernel_rfl) (by kernel_rfl) (by kernel_rfl) ?_)))));clear HC a;intro a HC
      obtain⟨eL,eM,aA,iN,iO⟩:=SlR.formV (aB.ext (Zq.mono _) hS.x)
      refine Zfe HC (Qf Tryz.underlying100 rfl aA) (by kernel_rfl) (by kernel_rfl) (by kernel_rfl) (V_g (q_geqN (i:=aC.Body.length) (j:=1) rfl rfl) (by kernel_rfl) (by kernel_rfl) (by kernel_rfl) (Zmg (j:=6) rfl rfl rfl (by kernel_rfl) (by kernel_rfl) (V_q (Zb rfl) rfl (by kernel_rfl) ?_)));clear HC a;intro a HC
      have H:=HC.has;clear HC
      refine Ze (Za (Zl H rfl (fun bJ=>?_) (fun bJ=>?_)))
      · replace hm:=Zu hm bJ
        refine Gi [] 11 (by kernel_rfl) ?_
        obtain⟨dN,bK⟩ : ∃ x,x=dS.drew:=⟨_,rfl⟩;rw [← bK];have eW : Ext dS dN:=by rw [bK];exact Ext.drew' _
        clear bK
        replace hS:=hS.ext eW
        have dT:=hS
        have hW:=Nat.le_refl dN.heap.size
        refine Zg 0 H rfl (Zd rfl Vs) rfl (by kernel_rfl) (by kernel_rfl) (by kernel_rfl) (by kernel_rfl) (fun _ _ _ h=>h) ?_;clear H a;intro a H
        refine Xo 1 H rfl (Zf rfl (LdC.old ((dT.blk 0 rfl).ld Zgt rfl) Ext.rfl' (Nat.le_refl _) (by simp))) rfl (by kernel_rfl) (by kernel_rfl) (by kernel_rfl) (by kernel_rfl) (fun _ _ _ h=>h) ?_;clear H a;intro a H
        refine Zg 2 H rfl (Zc rfl) rfl (by kernel_rfl) (by kernel_rfl) (by kernel_rfl) (by kernel_rfl) (fun _ _ _ h=>h) ?_;clear H a;intro a H
        replace hm:=Zi hm;obtain⟨bL,bM,hm⟩:=hm
        obtain⟨gZ,cW⟩:=SlR.adV (aB.ext (Zq.mono _) hS.x) aA bM
        refine Zg 3 H rfl (Jn (i:=0) Tryz.underlying100 sz5 rfl aA cW rfl (Ho bM)) rfl (by kernel_rfl) (by kernel_rfl) (by kernel_rfl) (by kernel_rfl) (fun _ _ _ h=>h) ?_;clear H a;intro a H
        refine Wj 4 6 H rfl (Zf rfl (LdC.old (SlR.ldOneV (aB.ext (Zq.mono _) dT.x) aA cW ag5 bM rfl) Ext.rfl' (Nat.le_refl _) (by simp))) rfl (by kernel_rfl) (by kernel_rfl) (by kernel_rfl) (by kernel_rfl) (fun _ _ _ h=>h) ?_;clear H a;intro a H
        refine Zg 5 H rfl (Qo (Xn Tryz.underlying5 Tryz.underlying3 ⟨_,rfl⟩ rfl) (Xa _)) rfl (by kernel_rfl) (by kernel_rfl) (by kernel_rfl) (by kernel_rfl) (fun _ _ _ h=>h) ?_;clear H a;intro a H
        refine Zg 6 H rfl (Zc rfl) rfl (by kernel_rfl) (by kernel_rfl) (by kernel_rfl) (by kernel_rfl) (fun _ _ _ h=>h) ?_;clear H a;intro a H
        replace hm:=Tj hm;obtain⟨aX,hm⟩:=hm
        obtain⟨fM,fN,eX,bF⟩:=Zhl 1 (Zq eB) eL aC.Body.length eM aC.Body (lo:=(1 : Int)) (hi:=((aC.Body.length : Nat) : Int)) aX.1 aX.2.1 aX.2.2
        rw [← aA] at bF
        refine Zg 7 H rfl (Qo (Zdb Tryz.underlying100 sz5 (show _=some (Value.slice eL aC.Body.length eM) by rw [← aA];rfl) rfl aX.1 (by omega)) (show _=Value.slice fM (((aC.Body.length : Nat) : Int).toNat - (1 : Int).toNat) fN by rw [← eX];simp)) rfl (by kernel_rfl) (by kernel_rfl) (by kernel_rfl) (by kernel_rfl) (fun _ _ _ h=>h) ?_;clear H a;intro a H
        refine k_q 8 H rfl (Zhj Tryz.underlying100 Tryz.underlying5 Tryz.underlying9 rfl (fun w' hw=>((bF _ (aB.ext (Zq.mono _) hS.x)).ext (Zq.mono _) hw))) rfl (by kernel_rfl) ?_;clear H a;intro a H
        refine Zg 9 H rfl (Zz (cs:=[.int .i64 (bL.toNat : Int),.string (Za6 ((aC.Body.drop (1 : Int).toNat).take (((aC.Body.length : Nat) : Int).toNat - (1 : Int).toNat)))]) Zfl Zpv Zpw rfl (by kernel_rfl)) rfl (by kernel_rfl) (by kernel_rfl) (by kernel_rfl) (by kernel_rfl) (fun _ _ _ h=>h) ?_;clear H a;intro a H
        refine Ki 10 H rfl Tryz.underlying22 Tk Zfl rfl rfl rfl (cs:=[.int .i64 (bL.toNat : Int),.string (Za6 ((aC.Body.drop (1 : Int).toNat).take (((aC.Body.length : Nat) : Int).toNat - (1 : Int).toNat)))]) (by kernel_rfl) rfl (by kernel_rfl) ?_
        clear H;intro fO iS hN dU hs;clear a;intro a H
        have fP : dN.heap.size ≤ fO:=hs ▸ hW
        replace hS:=hS.newBlk hN dU hs;clear hN hs
        replace hW:=Nat.le_trans hW dU.size
        replace hS:=hS.blkOwnL (e:=Qc) (k:=2) [(⟨(bL.toNat : Int),(Za6 ((aC.Body.drop (1 : Int).toNat).take (((aC.Body.length : Nat) : Int).toNat - (1 : Int).toNat)))⟩ : GPagePlan)] rfl rfl (by simp [maxLen])
        replace hS:=hS.pk2
        replace hm:=Tj hm;obtain⟨eY,hm⟩:=hm
        refine Zim (e:=Qc) 11 H rfl rfl rfl Tryz.underlying22 Tryz.underlying22 (by simp) Zt5 (hS.own 0 rfl) (((hS.own 1 rfl).slr rfl (fun _ _=>rfl)).src (fun _ _=>rfl)) Zb9 eY (by simp only [maxLen];omega) rfl (by kernel_rfl) (.inr (by kernel_rfl)) ?_
        clear H;intro fQ iT hN dV hb;clear a;intro a H;replace hS:=hS.setOwn hN dV hb;clear hN hb
        replace hW:=Nat.le_trans hW dV.size
        refine Zg 12 H rfl (Zd rfl Vs) rfl (by kernel_rfl) (by kernel_rfl) (by kernel_rfl) (by kernel_rfl) (fun _ _ _ h=>h) ?_;clear H a;intro a H
        replace hS:=hS.pk2
        refine Zdc 13 H rfl rfl rfl sz22 (hS.blk 0 rfl) (by simp) (((hS.own 1 rfl).slr rfl (fun _ _=>rfl))).one (by kernel_rfl) (.inr (by kernel_rfl)) ?_
        clear H;intro iU hN dW hz;clear a;intro a H;replace hS:=hS.setBlk hN dW;clear hN hz;replace hW:=Nat.le_trans hW dW.size
        try simp only [List.set_cons_succ,List.set_cons_zero] at hS
        refine Qx (by kernel_rfl) ?_
        refine Zm (Zm (Za ?_))
        obtain rfl:=Option.some.inj hm;replace hm:=aR;try dsimp only at hm
        replace hS:=hS.pk6
        replace hS:=hS.pk6
        replace hS:=hS.pk6
        replace hS:=hS.pk6
        replace hS:=hS.pk5
        replace hS:=hS.pk5
        replace hS:=hS.tk6
        exact Wh ((aF ++ [(⟨(bL.toNat : Int),(Za6 ((aC.Body.drop (1 : Int).toNat).take (((aC.Body.length : Nat) : Int).toNat - (1 : Int).toNat)))⟩ : GPagePlan)]),aG,aH,aM,aO,fQ,aJ,aK,aN) H ⟨rfl,rfl,rfl,rfl,trivial⟩ ⟨hm,hS⟩
      replace hm:=Zv hm bJ
      refine wp_seq (wp_region_lit (n_c H (fun HC=>?_)));clear H
      refine Tn HC (Zc rfl) rfl (by kernel_rfl) (V_q (Zc rfl) rfl (by kernel_rfl) ?_);clear HC a;intro a HC
      replace hm:=Zi hm;obtain⟨iV,bN,hm⟩:=hm
      obtain⟨g6,cX⟩:=SlR.adV (h1.ext Uh.mono hS.x) aD bN
      obtain⟨g7,gK,⟨gL,rfl,fR⟩,eN⟩:=SlR.elV h1 aD cX bN
      refine Tn HC (Jn (i:=aE) Tryz.underlying196 Zmq rfl aD cX rfl (Ho bN)) rfl (by kernel_rfl) (V_q (Xt rfl Zhz) rfl (by kernel_rfl) (V_q (Zf rfl (LdX.ext (Zoc (j:=0) ag3 eN rfl) hS.x)) rfl (by kernel_rfl) (V_q (Ky rfl rfl) rfl (by kernel_rfl) (V_q (Zc rfl) rfl (by kernel_rfl) (V_g (Zc rfl) (by kernel_rfl) (by kernel_rfl) (by kernel_rfl) (V_g (Qf Tryz.underlying100 rfl aA) (by kernel_rfl) (by kernel_rfl) (by kernel_rfl) (V_g (Znk (i:=aC.Body.length) (j:=6) rfl rfl) (by kernel_rfl) (by kernel_rfl) (by kernel_rfl) (Zmg (j:=6) rfl rfl rfl (by kernel_rfl) (by kernel_rfl) (V_q (Zb rfl) rfl (by kernel_rfl) ?_)))))))));clear HC a;intro a HC
      have H:=HC.has;clear HC
      refine Ze (Za (Zl H rfl (fun bO=>?_) (fun bO=>?_)))
      · replace hm:=Zu hm bO
        refine wp_seq (Ww (by kernel_rfl) (by kernel_rfl) ?_)
        refine Xb H (Zc rfl) rfl ?_;clear H a;intro a H
        replace hm:=Zi hm;obtain⟨bP,bQ,hm⟩:=hm
        obtain⟨g8,cY⟩:=SlR.adV (aB.ext (Zq.mono _) hS.x) aA bQ
        refine Xb H (Jn (i:=0) Tryz.underlying100 sz5 rfl aA cY rfl (Ho bQ)) rfl ?_;clear H a;intro a H
        refine Xb H (Zf rfl (SlR.ldOneV (aB.ext (Zq.mono _) hS.x) aA cY ag5 bQ rfl)) rfl ?_;clear H a;intro a H
        refine Xb H (Qo (Xn Tryz.underlying5 Tryz.underlying3 ⟨_,rfl⟩ rfl) (Xa _)) rfl ?_;clear H a;intro a H
        refine Xb H (Zav rfl rfl) rfl ?_;clear H a;intro a H
        refine Xb H (Zc rfl) rfl ?_;clear H a;intro a H
        replace hm:=Zi hm;obtain⟨bR,bS,hm⟩:=hm
        obtain⟨g9,cZ⟩:=SlR.adV (aB.ext (Zq.mono _) hS.x) aA bS
        refine Xb H (Jn (i:=1) Tryz.underlying100 sz5 rfl aA cZ rfl (Ho bS)) rfl ?_;clear H a;intro a H
        refine Xb H (Zf rfl (SlR.ldOneV (aB.ext (Zq.mono _) hS.x) aA cZ ag5 bS rfl)) rfl ?_;clear H a;intro a H
        refine Xb H (Qo (Xn Tryz.underlying5 Tryz.underlying3 ⟨_,rfl⟩ rfl) (Xa _)) rfl ?_;clear H a;intro a H
        refine Xb H (Zav rfl rfl) rfl ?_;clear H a;intro a H
        refine Xb H (Xv rfl rfl) rfl ?_;clear H a;intro a H
        refine Xb H (Zc rfl) rfl ?_;clear H a;intro a H
        replace hm:=Zi hm;obtain⟨bT,bU,hm⟩:=hm
        obtain⟨hJ,dA⟩:=SlR.adV (aB.ext (Zq.mono _) hS.x) aA bU
        refine Xb H (Jn (i:=2) Tryz.underlying100 sz5 rfl aA dA rfl (Ho bU)) rfl ?_;clear H a;intro a H
        refine Xb H (Zf rfl (SlR.ldOneV (aB.ext (Zq.mono _) hS.x) aA dA ag5 bU rfl)) rfl ?_;clear H a;intro a H
        refine Xb H (Qo (Xn Tryz.underlying5 Tryz.underlying3 ⟨_,rfl⟩ rfl) (Xa _)) rfl ?_;clear H a;intro a H
        refine Xb H (Zav rfl rfl) rfl ?_;clear H a;intro a H
        refine Xb H (Xv rfl rfl) rfl ?_;clear H a;intro a H
        refine Xb H (Zc rfl) rfl ?_;clear H a;intro a H
        replace hm:=Zi hm;obtain⟨bV,bW,hm⟩:=hm
        obtain⟨hM,dB⟩:=SlR.adV (aB.ext (Zq.mono _) hS.x) aA bW
        refine Xb H (Jn (i:=3) Tryz.underlying100 sz5 rfl aA dB rfl (Ho bW)) rfl ?_;clear H a;intro a H
        refine Xb H (Zf rfl (SlR.ldOneV (aB.ext (Zq.mono _) hS.x) aA dB ag5 bW rfl)) rfl ?_;clear H a;intro a H
        refine Xb H (Qo (Xn Tryz.underlying5 Tryz.underlying3 ⟨_,rfl⟩ rfl) (Xa _)) rfl ?_;clear H a;intro a H
        refine Xb H (Xv rfl rfl) rfl ?_;clear H a;intro a H
        refine Xb H (Zb rfl) rfl ?_;clear H a;intro a H
        refine To ?_;intro eO eZ
        replace hS:=hS.ext eZ
        refine Za (Gi [] 13 (by kernel_rfl) ?_)
        obtain⟨dO,bX⟩ : ∃ x,x=eO.drew:=⟨_,rfl⟩;rw [← bX];have e8 : Ext eO dO:=by rw [bX];exact Ext.drew' _
        clear bX
        replace hS:=hS.ext e8
        have bY:=hS
        have hW:=Nat.le_refl dO.heap.size
        refine Zg 0 H rfl (Zd rfl Ur) rfl (by kernel_rfl) (by kernel_rfl) (by kernel_rfl) (by kernel_rfl) (fun _ _ _ h=>h) ?_;clear H a;intro a H
        refine Xo 1 H rfl (Zf rfl (LdC.old ((bY.blk 0 rfl).ld Zii rfl) Ext.rfl' (Nat.le_refl _) (by simp))) rfl (by kernel_rfl) (by kernel_rfl) (by kernel_rfl) (by kernel_rfl) (fun _ _ _ h=>h) ?_;clear H a;intro a H
        refine Zg 2 H rfl (Zc rfl) rfl (by kernel_rfl) (by kernel_rfl) (by kernel_rfl) (by kernel_rfl) (fun _ _ _ h=>h) ?_;clear H a;intro a H
        refine Zg 3 H rfl (Zc rfl) rfl (by kernel_rfl) (by kernel_rfl) (by kernel_rfl) (by kernel_rfl) (fun _ _ _ h=>h) ?_;clear H a;intro a H
        replace hm:=Zi hm;obtain⟨bZ,b7,hm⟩:=hm
        obtain⟨hU,dC⟩:=SlR.adV (aB.ext (Zq.mono _) hS.x) aA b7
        refine Zg 4 H rfl (Jn (i:=4) Tryz.underlying100 sz5 rfl aA dC rfl (Ho b7)) rfl (by kernel_rfl) (by kernel_rfl) (by kernel_rfl) (by kernel_rfl) (fun _ _ _ h=>h) ?_;clear H a;intro a H
        refine Wj 5 6 H rfl (Zf rfl (LdC.old (SlR.ldOneV (aB.ext (Zq.mono _) bY.x) aA dC ag5 b7 rfl) Ext.rfl' (Nat.le_refl _) (by simp))) rfl (by kernel_rfl) (by kernel_rfl) (by kernel_rfl) (by kernel_rfl) (fun _ _ _ h=>h) ?_;clear H a;intro a H
        refine Zg 6 H rfl (Qo (Xn Tryz.underlying5 Tryz.underlying3 ⟨_,rfl⟩ rfl) (Xa _)) rfl (by kernel_rfl) (by kernel_rfl) (by kernel_rfl) (by kernel_rfl) (fun _ _ _ h=>h) ?_;clear H a;intro a H
        refine Zg 7 H rfl (Zc rfl) rfl (by kernel_rfl) (by kernel_rfl) (by kernel_rfl) (by kernel_rfl) (fun _ _ _ h=>h) ?_;clear H a;intro a H
        replace hm:=Zi hm;obtain⟨b8,b9,hm⟩:=hm
        obtain⟨hY,dD⟩:=SlR.adV (aB.ext (Zq.mono _) hS.x) aA b9
        refine Zg 8 H rfl (Jn (i:=5) Tryz.underlying100 sz5 rfl aA dD rfl (Ho b9)) rfl (by kernel_rfl) (by kernel_rfl) (by kernel_rfl) (by kernel_rfl) (fun _ _ _ h=>h) ?_;clear H a;intro a H
        refine Wj 9 6 H rfl (Zf rfl (LdC.old (SlR.ldOneV (aB.ext (Zq.mono _) bY.x) aA dD ag5 b9 rfl) Ext.rfl' (Nat.le_refl _) (by simp))) rfl (by kernel_rfl) (by kernel_rfl) (by kernel_rfl) (by kernel_rfl) (fun _ _ _ h=>h) ?_;clear H a;intro a H
        refine Zg 10 H rfl (Ky rfl rfl) rfl (by kernel_rfl) (by kernel_rfl) (by kernel_rfl) (by kernel_rfl) (fun _ _ _ h=>h) ?_;clear H a;intro a H
        refine Zg 11 H rfl (Zz (cs:=[.int .i64 (IntKind.i64.wrap ((IntKind.i64.wrap ((IntKind.i64.wrap ((IntKind.i64.wrap ((bP.toNat : Int) * 16777216)) + (IntKind.i64.wrap ((bR.toNat : Int) * 65536)))) + (IntKind.i64.wrap ((bT.toNat : Int) * 256)))) + (bV.toNat : Int))),.int .i64 (bZ.toNat : Int),.bool (decide ((b8.toNat : Int)=1))]) Zex Zrx Zry rfl (by kernel_rfl)) rfl (by kernel_rfl) (by kernel_rfl) (by kernel_rfl) (by kernel_rfl) (fun _ _ _ h=>h) ?_;clear H a;intro a H
        refine Ki 12 H rfl Tryz.underlying23 Tl Zex rfl rfl rfl (cs:=[.int .i64 (IntKind.i64.wrap ((IntKind.i64.wrap ((IntKind.i64.wrap ((IntKind.i64.wrap ((bP.toNat : Int) * 16777216)) + (IntKind.i64.wrap ((bR.toNat : Int) * 65536)))) + (IntKind.i64.wrap ((bT.toNat : Int) * 256)))) + (bV.toNat : Int))),.int .i64 (bZ.toNat : Int),.bool (decide ((b8.toNat : Int)=1))]) (by kernel_rfl) rfl (by kernel_rfl) ?_
        clear H;intro fS iW hN dX hs;clear a;intro a H
        have fT : dO.heap.size ≤ fS:=hs ▸ hW
        replace hS:=hS.newBlk hN dX hs;clear hN hs
        replace hW:=Nat.le_trans hW dX.size
        replace hS:=hS.blkOwnL (e:=Zx) (k:=3) [(⟨(IntKind.i64.wrap ((IntKind.i64.wrap ((IntKind.i64.wrap ((IntKind.i64.wrap ((bP.toNat : Int) * 16777216)) + (IntKind.i64.wrap ((bR.toNat : Int) * 65536)))) + (IntKind.i64.wrap ((bT.toNat : Int) * 256)))) + (bV.toNat : Int))),(bZ.toNat : Int),decide ((b8.toNat : Int)=1)⟩ : GProcPlan)] rfl rfl (by simp [maxLen])
        replace hS:=hS.pk3
        replace hm:=Tj hm;obtain⟨e9,hm⟩:=hm
        refine Zim (e:=Zx) 13 H rfl rfl rfl Tryz.underlying23 Tryz.underlying23 (by simp) Zt6 (hS.own 0 rfl) (((hS.own 1 rfl).slr rfl (fun _ _=>rfl)).src (fun _ _=>rfl)) Zca e9 (by simp only [maxLen];omega) rfl (by kernel_rfl) (.inr (by kernel_rfl)) ?_
        clear H;intro fU iX hN dY hb;clear a;intro a H;replace hS:=hS.setOwn hN dY hb;clear hN hb
        replace hW:=Nat.le_trans hW dY.size
        refine Zg 14 H rfl (Zd rfl Ur) rfl (by kernel_rfl) (by kernel_rfl) (by kernel_rfl) (by kernel_rfl) (fun _ _ _ h=>h) ?_;clear H a;intro a H
        replace hS:=hS.pk2
        refine Zdc 15 H rfl rfl rfl sz23 (hS.blk 0 rfl) (by simp) (((hS.own 1 rfl).slr rfl (fun _ _=>rfl))).one (by kernel_rfl) (.inr (by kernel_rfl)) ?_
        clear H;intro iY hN dZ hz;clear a;intro a H;replace hS:=hS.setBlk hN dZ;clear hN hz;replace hW:=Nat.le_trans hW dZ.size
        try simp only [List.set_cons_succ,List.set_cons_zero] at hS
        refine Qx (by kernel_rfl) ?_
        refine Zm (Zm (Za ?_))
        obtain rfl:=Option.some.inj hm;replace hm:=aR;try dsimp only at hm
        replace hS:=hS.pk6
        replace hS:=hS.pk6
        replace hS:=hS.pk6
        replace hS:=hS.pk4
        replace hS:=hS.pk6
        replace hS:=hS.pk5
        replace hS:=hS.tk6
        exact Wh (aF,(aG ++ [(⟨(IntKind.i64.wrap ((IntKind.i64.wrap ((IntKind.i64.wrap ((IntKind.i64.wrap ((bP.toNat : Int) * 16777216)) + (IntKind.i64.wrap ((bR.toNat : Int) * 65536)))) + (IntKind.i64.wrap ((bT.toNat : Int) * 256)))) + (bV.toNat : Int))),(bZ.toNat : Int),decide ((b8.toNat : Int)=1)⟩ : GProcPlan)]),aH,aM,aO,aI,fU,aK,aN) H ⟨rfl,rfl,rfl,rfl,trivial⟩ ⟨hm,hS⟩
      replace hm:=Zv hm bO
      refine wp_seq (wp_region_lit (n_c H (fun HC=>?_)));clear H
      refine Tn HC (Zc rfl) rfl (by kernel_rfl) (V_q (Zc rfl) rfl (by kernel_rfl) ?_);clear HC a;intro a HC
      replace hm:=Zi hm;obtain⟨iZ,cA,hm⟩:=hm
      obtain⟨hZ,dE⟩:=SlR.adV (h1.ext Uh.mono hS.x) aD cA
      obtain⟨iA,gM,⟨gN,rfl,fV⟩,eP⟩:=SlR.elV h1 aD dE cA
      refine Tn HC (Jn (i:=aE) Tryz.underlying196 Zmq rfl aD dE rfl (Ho cA)) rfl (by kernel_rfl) (V_q (Xt rfl Zhz) rfl (by kernel_rfl) (V_q (Zf rfl (LdX.ext (Zoc (j:=0) ag3 eP rfl) hS.x)) rfl (by kernel_rfl) (V_q (Ky rfl rfl) rfl (by kernel_rfl) (V_q (Zc rfl) rfl (by kernel_rfl) (V_g (Zc rfl) (by kernel_rfl) (by kernel_rfl) (by kernel_rfl) (V_g (Qf Tryz.underlying100 rfl aA) (by kernel_rfl) (by kernel_rfl) (by kernel_rfl) (V_g (Znk (i:=aC.Body.length) (j:=4) rfl rfl) (by kernel_rfl) (by kernel_rfl) (by kernel_rfl) (Zmg (j:=6) rfl rfl rfl (by kernel_rfl) (by kernel_rfl) (V_q (Zb rfl) rfl (by kernel_rfl) ?_)))))))));clear HC a;intro a HC
      have H:=HC.has;clear HC
      refine Ze (Za (Zl H rfl (fun cB=>?_) (fun cB=>?_)))
      · replace hm:=Zu hm cB
        refine Gi [] 20 (by kernel_rfl) ?_
        obtain⟨dP,cC⟩ : ∃ x,x=dS.drew:=⟨_,rfl⟩;rw [← cC];have fA : Ext dS dP:=by rw [cC];exact Ext.drew' _
        clear cC
        replace hS:=hS.ext fA
        have aQ:=hS
        have hW:=Nat.le_refl dP.heap.size
        refine Zg 0 H rfl (Zd rfl Gp) rfl (by kernel_rfl) (by kernel_rfl) (by kernel_rfl) (by kernel_rfl) (fun _ _ _ h=>h) ?_;clear H a;intro a H
        refine Xo 1 H rfl (Zf rfl (LdC.old ((aQ.blk 0 rfl).ld Zi7 rfl) Ext.rfl' (Nat.le_refl _) (by simp))) rfl (by kernel_rfl) (by kernel_rfl) (by kernel_rfl) (by kernel_rfl) (fun _ _ _ h=>h) ?_;clear H a;intro a H
        refine Zg 2 H rfl (Zc rfl) rfl (by kernel_rfl) (by kernel_rfl) (by kernel_rfl) (by kernel_rfl) (fun _ _ _ h=>h) ?_;clear H a;intro a H
        replace hm:=Zi hm;obtain⟨cD,cF,hm⟩:=hm
        obtain⟨iB,dF⟩:=SlR.adV (aB.ext (Zq.mono _) hS.x) aA cF
        refine Zg 3 H rfl (Jn (i:=0) Tryz.underlying100 sz5 rfl aA dF rfl (Ho cF)) rfl (by kernel_rfl) (by kernel_rfl) (by kernel_rfl) (by kernel_rfl) (fun _ _ _ h=>h) ?_;clear H a;intro a H
        refine Wj 4 6 H rfl (Zf rfl (LdC.old (SlR.ldOneV (aB.ext (Zq.mono _) aQ.x) aA dF ag5 cF rfl) Ext.rfl' (Nat.le_refl _) (by simp))) rfl (by kernel_rfl) (by kernel_rfl) (by kernel_rfl) (by kernel_rfl) (fun _ _ _ h=>h) ?_;clear H a;intro a H
        refine Zg 5 H rfl (Qo (Xn Tryz.underlying5 Tryz.underlying3 ⟨_,rfl⟩ rfl) (Xa _)) rfl (by kernel_rfl) (by kernel_rfl) (by kernel_rfl) (by kernel_rfl) (fun _ _ _ h=>h) ?_;clear H a;intro a H
        refine Zg 6 H rfl (Zc rfl) rfl (by kernel_rfl) (by kernel_rfl) (by kernel_rfl) (by kernel_rfl) (fun _ _ _ h=>h) ?_;clear H a;intro a H
        replace hm:=Zi hm;obtain⟨cG,cH,hm⟩:=hm
        obtain⟨iC,dG⟩:=SlR.adV (aB.ext (Zq.mono _) hS.x) aA cH
        refine Zg 7 H rfl (Jn (i:=1) Tryz.underlying100 sz5 rfl aA dG rfl (Ho cH)) rfl (by kernel_rfl) (by kernel_rfl) (by kernel_rfl) (by kernel_rfl) (fun _ _ _ h=>h) ?_;clear H a;intro a H
        refine Wj 8 6 H rfl (Zf rfl (LdC.old (SlR.ldOneV (aB.ext (Zq.mono _) aQ.x) aA dG ag5 cH rfl) Ext.rfl' (Nat.le_refl _) (by simp))) rfl (by kernel_rfl) (by kernel_rfl) (by kernel_rfl) (by kernel_rfl) (fun _ _ _ h=>h) ?_;clear H a;intro a H
        refine Zg 9 H rfl (Qo (Xn Tryz.underlying5 Tryz.underlying3 ⟨_,rfl⟩ rfl) (Xa _)) rfl (by kernel_rfl) (by kernel_rfl) (by kernel_rfl) (by kernel_rfl) (fun _ _ _ h=>h) ?_;clear H a;intro a H
        refine Zg 10 H rfl (Zc rfl) rfl (by kernel_rfl) (by kernel_rfl) (by kernel_rfl) (by kernel_rfl) (fun _ _ _ h=>h) ?_;clear H a;intro a H
        replace hm:=Zi hm;obtain⟨cI,cJ,hm⟩:=hm
        obtain⟨iD,dH⟩:=SlR.adV (aB.ext (Zq.mono _) hS.x) aA cJ
        refine Zg 11 H rfl (Jn (i:=2) Tryz.underlying100 sz5 rfl aA dH rfl (Ho cJ)) rfl (by kernel_rfl) (by kernel_rfl) (by kernel_rfl) (by kernel_rfl) (fun _ _ _ h=>h) ?_;clear H a;intro a H
        refine Wj 12 6 H rfl (Zf rfl (LdC.old (SlR.ldOneV (aB.ext (Zq.mono _) aQ.x) aA dH ag5 cJ rfl) Ext.rfl' (Nat.le_refl _) (by simp))) rfl (by kernel_rfl) (by kernel_rfl) (by kernel_rfl) (by kernel_rfl) (fun _ _ _ h=>h) ?_;clear H a;intro a H
        refine Zg 13 H rfl (Qo (Xn Tryz.underlying5 Tryz.underlying3 ⟨_,rfl⟩ rfl) (Xa _)) rfl (by kernel_rfl) (by kernel_rfl) (by kernel_rfl) (by kernel_rfl) (fun _ _ _ h=>h) ?_;clear H a;intro a H
        refine Zg 14 H rfl (Zc rfl) rfl (by kernel_rfl) (by kernel_rfl) (by kernel_rfl) (by kernel_rfl) (fun _ _ _ h=>h) ?_;clear H a;intro a H
        replace hm:=Zi hm;obtain⟨cK,cL,hm⟩:=hm
        obtain⟨iE,dI⟩:=SlR.adV (aB.ext (Zq.mono _) hS.x) aA cL
        refine Zg 15 H rfl (Jn (i:=3) Tryz.underlying100 sz5 rfl aA dI rfl (Ho cL)) rfl (by kernel_rfl) (by kernel_rfl) (by kernel_rfl) (by kernel_rfl) (fun _ _ _ h=>h) ?_;clear H a;intro a H
        refine Wj 16 6 H rfl (Zf rfl (LdC.old (SlR.ldOneV (aB.ext (Zq.mono _) aQ.x) aA dI ag5 cL rfl) Ext.rfl' (Nat.le_refl _) (by simp))) rfl (by kernel_rfl) (by kernel_rfl) (by kernel_rfl) (by kernel_rfl) (fun _ _ _ h=>h) ?_;clear H a;intro a H
        refine Zg 17 H rfl (Qo (Xn Tryz.underlying5 Tryz.underlying3 ⟨_,rfl⟩ rfl) (Xa _)) rfl (by kernel_rfl) (by kernel_rfl) (by kernel_rfl) (by kernel_rfl) (fun _ _ _ h=>h) ?_;clear H a;intro a H
        refine Zg 18 H rfl (Zz (cs:=[.int .i64 (cD.toNat : Int),.int .i64 (cG.toNat : Int),.int .i64 (cI.toNat : Int),.int .i64 (cK.toNat : Int)]) Zfm Zrz Zr0 rfl (by kernel_rfl)) rfl (by kernel_rfl) (by kernel_rfl) (by kernel_rfl) (by kernel_rfl) (fun _ _ _ h=>h) ?_;clear H a;intro a H
        refine Ki 19 H rfl Tryz.underlying24 Us Zfm rfl rfl rfl (cs:=[.int .i64 (cD.toNat : Int),.int .i64 (cG.toNat : Int),.int .i64 (cI.toNat : Int),.int .i64 (cK.toNat : Int)]) (by kernel_rfl) rfl (by kernel_rfl) ?_
        clear H;intro fW i2 hN d5 hs;clear a;intro a H
        have fX : dP.heap.size ≤ fW:=hs ▸ hW
        replace hS:=hS.newBlk hN d5 hs;clear hN hs
        replace hW:=Nat.le_trans hW d5.size
        replace hS:=hS.blkOwnL (e:=Zw) (k:=4) [(⟨(cD.toNat : Int),(cG.toNat : Int),(cI.toNat : Int),(cK.toNat : Int)⟩ : GPortPlan)] rfl rfl (by simp [maxLen])
        replace hS:=hS.pk4
        replace hm:=Tj hm;obtain⟨fB,hm⟩:=hm
        refine Zim (e:=Zw) 20 H rfl rfl rfl Tryz.underlying24 Tryz.underlying24 (by simp) Zt7 (hS.own 0 rfl) (((hS.own 1 rfl).slr rfl (fun _ _=>rfl)).src (fun _ _=>rfl)) Zcb fB (by simp only [maxLen];omega) rfl (by kernel_rfl) (.inr (by kernel_rfl)) ?_
        clear H;intro fY i3 hN d7 hb;clear a;intro a H;replace hS:=hS.setOwn hN d7 hb;clear hN hb
        replace hW:=Nat.le_trans hW d7.size
        refine Zg 21 H rfl (Zd rfl Gp) rfl (by kernel_rfl) (by kernel_rfl) (by kernel_rfl) (by kernel_rfl) (fun _ _ _ h=>h) ?_;clear H a;intro a H
        replace hS:=hS.pk2
        refine Zdc 22 H rfl rfl rfl sz24 (hS.blk 0 rfl) (by simp) (((hS.own 1 rfl).slr rfl (fun _ _=>rfl))).one (by kernel_rfl) (.inr (by kernel_rfl)) ?_
        clear H;intro i4 hN d8 hz;clear a;intro a H;replace hS:=hS.setBlk hN d8;clear hN hz;replace hW:=Nat.le_trans hW d8.size
        try simp only [List.set_cons_succ,List.set_cons_zero] at hS
        refine Qx (by kernel_rfl) ?_
        refine Zm (Zm (Za ?_))
        obtain rfl:=Option.some.inj hm;replace hm:=aR;try dsimp only at hm
        replace hS:=hS.pk6
        replace hS:=hS.pk6
        replace hS:=hS.pk3
        replace hS:=hS.pk6
        replace hS:=hS.pk6
        replace hS:=hS.pk5
        replace hS:=hS.tk6
        exact Wh (aF,aG,(aH ++ [(⟨(cD.toNat : Int),(cG.toNat : Int),(cI.toNat : Int),(cK.toNat : Int)⟩ : GPortPlan)]),aM,aO,aI,aJ,fY,aN) H ⟨rfl,rfl,rfl,rfl,trivial⟩ ⟨hm,hS⟩
      replace hm:=Zv hm cB
      refine wp_seq (wp_region_lit (n_c H (fun HC=>?_)));clear H
      refine Tn HC (Zc rfl) rfl (by kernel_rfl) (V_q (Zc rfl) rfl (by kernel_rfl) ?_);clear HC a;intro a HC
      replace hm:=Zi hm;obtain⟨i5,cM,hm⟩:=hm
      obtain⟨iF,dJ⟩:=SlR.adV (h1.ext Uh.mono hS.x) aD cM
      obtain⟨iG,gO,⟨gP,rfl,fZ⟩,eQ⟩:=SlR.elV h1 aD dJ cM
      refine Tn HC (Jn (i:=aE) Tryz.underlying196 Zmq rfl aD dJ rfl (Ho cM)) rfl (by kernel_rfl) (V_q (Xt rfl Zhz) rfl (by kernel_rfl) (V_q (Zf rfl (LdX.ext (Zoc (j:=0) ag3 eQ rfl) hS.x)) rfl (by kernel_rfl) (V_q (Ky rfl rfl) rfl (by kernel_rfl) (V_q (Zc rfl) rfl (by kernel_rfl) (V_g (Zc rfl) (by kernel_rfl) (by kernel_rfl) (by kernel_rfl) (V_g (Qf Tryz.underlying100 rfl aA) (by kernel_rfl) (by kernel_rfl) (by kernel_rfl) (V_g (Znk (i:=aC.Body.length) (j:=1) rfl rfl) (by kernel_rfl) (by kernel_rfl) (by kernel_rfl) (Zmg (j:=6) rfl rfl rfl (by kernel_rfl) (by kernel_rfl) (V_q (Zb rfl) rfl (by kernel_rfl) ?_)))))))));clear HC a;intro a HC
      have H:=HC.has;clear HC
      refine Ze (Za (Zl H rfl (fun cN=>?_) (fun cN=>?_)))
      · replace hm:=Zu hm cN
        refine wp_region_lit (n_q H (Zc rfl) rfl ?_);clear H a;intro a H
        replace hm:=Zi hm;obtain⟨gA,cO,hm⟩:=hm
        obtain⟨iH,dK⟩:=SlR.adV (aB.ext (Zq.mono _) hS.x) aA cO
        refine n_q H (Jn (i:=0) Tryz.underlying100 sz5 rfl aA dK rfl (Ho cO)) rfl (W_q (Zf rfl (SlR.ldOneV (aB.ext (Zq.mono _) hS.x) aA dK ag5 cO rfl)) rfl (W_q (Qo (Xn Tryz.underlying5 Tryz.underlying3 ⟨_,rfl⟩ rfl) (Xa _)) rfl (W_q (Zd rfl Zc2) rfl ?_)));clear H a;intro a H
        refine Jz H rfl rfl sz3 (hS.blk 0 rfl) (by simp) rfl ?_
        clear H;intro i6 hN fC hz;clear a;intro a H;replace hS:=hS.setBlk hN fC;clear hN hz
        try simp only [List.set_cons_succ,List.set_cons_zero] at hS
        refine Ze (Zm (Zm (Za ?_)))
        obtain rfl:=Option.some.inj hm;replace hm:=aR;try dsimp only at hm
        exact Wh (aF,aG,aH,(gA.toNat : Int),aO,aI,aJ,aK,aN) H ⟨rfl,rfl,rfl,rfl,trivial⟩ ⟨hm,hS⟩
      replace hm:=Zv hm cN
      refine wp_seq (wp_region_lit (n_q H (Zc rfl) rfl (W_q (Zc rfl) rfl ?_)));clear H a;intro a H
      replace hm:=Zi hm;obtain⟨i7,cP,hm⟩:=hm
      obtain⟨iI,dL⟩:=SlR.adV (h1.ext Uh.mono hS.x) aD cP
      obtain⟨iJ,gQ,⟨gR,rfl,gB⟩,eT⟩:=SlR.elV h1 aD dL cP
      refine n_q H (Jn (i:=aE) Tryz.underlying196 Zmq rfl aD dL rfl (Ho cP)) rfl (W_q (Xt rfl Zhz) rfl (W_q (Zf rfl (LdX.ext (Zoc (j:=0) ag3 eT rfl) hS.x)) rfl (W_q (Ky rfl rfl) rfl (W_q (Zb rfl) rfl ?_))));clear H a;intro a H
      refine Ze (Za (Zl H rfl (fun cQ=>?_) (fun cQ=>?_)))
      · replace hm:=Zu hm cQ
        refine wp_seq (wp_region_lit (n_q H (Zb rfl) rfl ?_));clear H a;intro a H
        refine Ze (Za (wp_block ?_))
        replace hm:=Zi hm;obtain⟨eU,hm,fD⟩:=hm;replace hm:=Qg hm;obtain⟨gC,hm⟩:=hm
        refine Jd (σ:=Nat × Nat × (List Int) × Value) (fun (m,aL,aP,aW)=>[(1,v1),(2,.pointer (some ⟨bD,0,none⟩)),(4,.pointer (some ⟨bE,0,none⟩)),(5,.int .i64 ((aE : Nat) : Int)),(6,eG),(8,.int .i64 ((aL : Nat) : Int))]) (fun (m,aL,aP,aW) wl=>Js (Vd aC) m (aL,aP)=some eU ∧ St NB w wl [blkR bD [.int .i64 a0.Id,.bool a0.Mobile,aI,aJ,aK,.int .i64 aM,aW] 27,ownR 114 2 aI aF.length (aF.flatMap Qc),ownR 116 3 aJ aG.length (aG.flatMap Zx),ownR 118 4 aK aH.length (aH.flatMap Zw),ownR 3 1 aW aP.length (aP.flatMap eI),blkR bE [.int .i64 0,.bool false,.slice none 0 0,.slice none 0 0,.slice none 0 0,.int .i64 0,.slice none 0 0] 27]) (fun (m,aL,aP,aW)=>m) (gC,0,aO,aN) H ⟨rfl,rfl,rfl,rfl,rfl,rfl,trivial⟩ ⟨hm,hS⟩ ?_
        clear H hS hm a;intro xx a eV H hR;obtain⟨m,aL,aP,aW⟩:=xx;simp only [ent,List.map_cons,List.map_nil] at H;(try dsimp only at hR);obtain⟨hm,hS⟩:=hR
        replace hm:=Qa hm;obtain⟨gD,i8,rfl,hm,d9⟩:=hm;try dsimp only [Vd] at hm
        refine wp_seq (wp_seq (wp_region_lit (n_q H (Zc rfl) rfl (W_q (Zc rfl) rfl (W_q (Qf Tryz.underlying100 rfl aA) rfl (W_q (Xz (i:=aL) (j:=aC.Body.length) rfl rfl) rfl ?_))))));clear H a;intro a H
        refine Ze (Za (Zl H rfl (fun aY=>?_) (fun aY=>?_)))
        · replace hm:=Zu hm aY
          have iK : aL < aC.Body.length:=of_decide_eq_true aY
          refine wp_skip (Za (wp_seq (wp_block (Gi [] 8 (by kernel_rfl) ?_))))
          obtain⟨dQ,cR⟩ : ∃ x,x=eV.drew:=⟨_,rfl⟩;rw [← cR];have fE : Ext eV dQ:=by rw [cR];exact Ext.drew' _
          clear cR
          replace hS:=hS.ext fE
          have eA:=hS
          have hW:=Nat.le_refl dQ.heap.size
          refine Zg 0 H rfl (Zd rfl Gq) rfl (by kernel_rfl) (by kernel_rfl) (by kernel_rfl) (by kernel_rfl) (fun _ _ _ h=>h) ?_;clear H a;intro a H
          refine Xo 1 H rfl (Zf rfl (LdC.old ((eA.blk 0 rfl).ld Zij rfl) Ext.rfl' (Nat.le_refl _) (by simp))) rfl (by kernel_rfl) (by kernel_rfl) (by kernel_rfl) (by kernel_rfl) (fun _ _ _ h=>h) ?_;clear H a;intro a H
          refine Zg 2 H rfl (Zc rfl) rfl (by kernel_rfl) (by kernel_rfl) (by kernel_rfl) (by kernel_rfl) (fun _ _ _ h=>h) ?_;clear H a;intro a H
          refine Zg 3 H rfl (Zc rfl) rfl (by kernel_rfl) (by kernel_rfl) (by kernel_rfl) (by kernel_rfl) (fun _ _ _ h=>h) ?_;clear H a;intro a H
          replace hm:=Zi hm;obtain⟨dR,cT,hm⟩:=hm
          obtain⟨iL,dM⟩:=SlR.adV (aB.ext (Zq.mono _) hS.x) aA cT
          refine Zg 4 H rfl (Jn (i:=aL) Tryz.underlying100 sz5 rfl aA dM rfl (Ho cT)) rfl (by kernel_rfl) (by kernel_rfl) (by kernel_rfl) (by kernel_rfl) (fun _ _ _ h=>h) ?_;clear H a;intro a H
          refine Wj 5 5 H rfl (Zf rfl (LdC.old (SlR.ldOneV (aB.ext (Zq.mono _) eA.x) aA dM ag5 cT rfl) Ext.rfl' (Nat.le_refl _) (by simp))) rfl (by kernel_rfl) (by kernel_rfl) (by kernel_rfl) (by kernel_rfl) (fun _ _ _ h=>h) ?_;clear H a;intro a H
          refine Zg 6 H rfl (Qo (Xn Tryz.underlying5 Tryz.underlying3 ⟨_,rfl⟩ rfl) (Xa _)) rfl (by kernel_rfl) (by kernel_rfl) (by kernel_rfl) (by kernel_rfl) (fun _ _ _ h=>h) ?_;clear H a;intro a H
          refine Ki 7 H rfl Tryz.underlying25 sz3 ze3 rfl rfl rfl (cs:=[.int .i64 (dR.toNat : Int)]) (by kernel_rfl) rfl (by kernel_rfl) ?_
          clear H;intro gE i9 hN eC hs;clear a;intro a H
          have gF : dQ.heap.size ≤ gE:=hs ▸ hW
          replace hS:=hS.newBlk hN eC hs;clear hN hs
          replace hW:=Nat.le_trans hW eC.size
          replace hS:=hS.blkOwnL (e:=eI) (k:=1) [(dR.toNat : Int)] rfl rfl (by simp [maxLen])
          replace hS:=hS.pk5
          replace hm:=Tj hm;obtain⟨fF,hm⟩:=hm
          refine Zim (e:=eI) 8 H rfl rfl rfl Tryz.underlying25 Tryz.underlying25 (by simp) el3 (hS.own 0 rfl) (((hS.own 1 rfl).slr rfl (fun _ _=>rfl)).src (fun _ _=>rfl)) Zkt fF (by simp only [maxLen];omega) rfl (by kernel_rfl) (.inr (by kernel_rfl)) ?_
          clear H;intro gG jA hN eD hb;clear a;intro a H;replace hS:=hS.setOwn hN eD hb;clear hN hb
          replace hW:=Nat.le_trans hW eD.size
          refine Zg 9 H rfl (Zd rfl Gq) rfl (by kernel_rfl) (by kernel_rfl) (by kernel_rfl) (by kernel_rfl) (fun _ _ _ h=>h) ?_;clear H a;intro a H
          replace hS:=hS.pk2
          refine Zdc 10 H rfl rfl rfl sz25 (hS.blk 0 rfl) (by simp) (((hS.own 1 rfl).slr rfl (fun _ _=>rfl))).one (by kernel_rfl) (.inr (by kernel_rfl)) ?_
          clear H;intro jB hN eE hz;clear a;intro a H;replace hS:=hS.setBlk hN eE;clear hN hz;replace hW:=Nat.le_trans hW eE.size
          try simp only [List.set_cons_succ,List.set_cons_zero] at hS
          refine Qx (by kernel_rfl) ?_
          refine Zm (Za (wp_region_lit (n_q H (Zc rfl) rfl (W_q (Kb (i:=aL) (j:=1) rfl rfl (by omega)) rfl (W_q (Zb rfl) rfl ?_)))));clear H a;intro a H
          refine Ze (Za ?_)
          obtain rfl:=Option.some.inj hm
          replace hS:=hS.pk6
          replace hS:=hS.pk2
          replace hS:=hS.pk6
          replace hS:=hS.pk6
          replace hS:=hS.pk6
          replace hS:=hS.pk5
          replace hS:=hS.tk6
          exact Vh (gD,aL + 1,(aP ++ [(dR.toNat : Int)]),gG) H ⟨rfl,rfl,rfl,rfl,rfl,rfl,trivial⟩ ⟨d9,hS⟩ (Nat.lt_succ_self _)
        replace hm:=Zv hm aY
        refine wp_exit (Zn (Zn (Zy ?_)))
        obtain rfl:=Option.some.inj hm;have hz : _=eU:=d9;subst hz;replace hm:=fD;try dsimp only at hm
        refine Zm (Zm (Za ?_))
        obtain rfl:=Option.some.inj hm;replace hm:=aR;try dsimp only at hm
        exact Wh (aF,aG,aH,aM,aP,aI,aJ,aK,aW) H ⟨rfl,rfl,rfl,rfl,trivial⟩ ⟨hm,hS⟩
      replace hm:=Zv hm cQ
      refine wp_skip (Zm (Zm (Za ?_)))
      obtain rfl:=Option.some.inj hm;replace hm:=aR;try dsimp only at hm
      exact Wh (aF,aG,aH,aM,aO,aI,aJ,aK,aN) H ⟨rfl,rfl,rfl,rfl,trivial⟩ ⟨hm,hS⟩
    clear H hS hm a;intro xx a jC H hR
    obtain⟨aS,aT,aU,aZ,aV,a9,bA,bB,bC⟩:=xx
    simp only [ent,List.map_cons,List.map_nil] at H;(try dsimp only at hR);obtain⟨hm,hS⟩:=hR;try dsimp only [Kd] at hm
    refine wp_region_lit (n_q H (Zc rfl) rfl (W_q (Kb (i:=aE) (j:=1) rfl rfl (by omega)) rfl (W_q (Zb rfl) rfl ?_)));clear H a;intro a H
    refine Ze (Za ?_)
    obtain rfl:=Option.some.inj hm
    exact Vh (gT,aE + 1,aS,aT,aU,aZ,aV,a9,bA,bB,bC) H ⟨rfl,rfl,rfl,rfl,trivial⟩ ⟨eH,hS⟩ (Nat.lt_succ_self _)
  replace hm:=Zv hm bG
  refine wp_exit (Zn (Zn (Zy ?_)))
  obtain rfl:=Option.some.inj hm;have hz : _=fH:=eH;subst hz;replace hm:=fK;try dsimp only at hm
  refine Za (wp_seq (wp_region_lit (n_q H (Zf rfl ((hS.blk 0 rfl).ldAll Zap Ut)) rfl ?_)));clear H a;intro a H
  replace hS:=hS.pk5
  refine Zr H rfl rfl (vs:=[.int .i64 a0.Id,.bool a0.Mobile,aI,aJ,aK,.int .i64 aM,aN]) rfl Ut (hS.blk 0 rfl) rfl (by simp [(((hS.own 2 rfl).slr rfl (fun _ _=>rfl))).one,(((hS.own 3 rfl).slr rfl (fun _ _=>rfl))).one,(((hS.own 4 rfl).slr rfl (fun _ _=>rfl))).one,(((hS.own 5 rfl).slr rfl (fun _ _=>rfl))).one]) ?_
  clear H;intro jD hN fG hz;clear a;intro a H;replace hS:=hS.setBlk hN fG;clear hN hz
  refine Ze (Za (wp_ret ?_))
  obtain rfl:=Option.some.inj hm
  replace hS:=hS.pk5
  replace hS:=hS.pk5
  replace hS:=hS.pk5
  replace hS:=hS.pk5
  replace hS:=hS.tk5
  refine Ti H (.inr rfl) rfl (vs:=[.agg #[.int .i64 a0.Id,.bool a0.Mobile,aI,aJ,aK,.int .i64 aM,aN]]) (Qm rfl ((hS.blk 4 rfl).ldAll Zap Ut) Qv) ?_
  replace hS:=hS.tk4
  exact⟨_,_,_,_,rfl,hS⟩
theorem Zlk {w : World} {A : Nat → Addr} {v0 : Value} {a0 : List UInt8} (h0 : SlR w 1 (Zq eB) v0 a0) {r : GPlan × Int} (hm : Yi a0=some r) :
    Calls Tryz.prog 51 [v0].toArray w (Ret fun u w'=>∃ h_0 h_1 h_2 h_3,u=.tuple #[.agg #[.int .i64 r.1.Id,.bool r.1.Mobile,h_0,h_1,h_2,.int .i64 r.1.Events,h_3],.int .i64 r.2] ∧ St NB w w' [ownR 114 2 h_0 r.1.Pages.length (r.1.Pages.flatMap Qc),ownR 116 3 h_1 r.1.Procs.length (r.1.Procs.flatMap Zx),ownR 118 4 h_2 r.1.Ports.length (r.1.Ports.flatMap Zw),ownR 3 1 h_3 r.1.Sems.length (r.1.Sems.flatMap eI)]):=by
  have hS:=St.begin NB w
  unfold Yi at hm
  refine enter Tryz.func51 rfl rfl rfl ?_;intro a H;dsimp only [Qk,Nat.zero_add,Nat.reduceAdd] at H
  refine wp_seq (wp_region_lit (Qr H Zg9 rfl ?_))
  clear H;intro bW dY hN b7 hs;clear a;intro a H
  replace hS:=hS.newBlk hN b7 hs;clear hN hs
  refine n_q H (Zb rfl) rfl ?_;clear H a;intro a H
  refine Ze (Za (wp_seq (wp_region_lit (n_q H (Zc rfl) rfl ?_))));clear H a;intro a H
  replace hm:=Zi hm;obtain⟨aB,b8,hm⟩:=hm
  refine Zj H rfl en113 (Zlj (A:=A) (h0.ext (Zq.mono _) hS.x) b8) rfl ?_
  clear H;intro dZ d5 hv;clear a;intro a H;obtain⟨d7,rfl,b9⟩:=hv
  replace hS:=hS.new b9;simp only [List.cons_append,List.nil_append] at hS
  refine n_q H (Zc rfl) rfl (W_q (Zk rfl rfl) rfl (W_q (Zk rfl rfl) rfl (W_q (Zb rfl) rfl (W_q (Zb rfl) rfl ?_))));clear H a;intro a H
  refine Ze (Za (wp_seq (wp_seq (wp_region_lit (n_q H (Zc rfl) rfl (W_q (Vo rfl rfl) rfl ?_))))));clear H a;intro a H
  refine Ze (Za (Zl H rfl (fun aW=>?_) (fun aW=>?_)))
  · replace hm:=Zu hm aW
    refine wp_seq (wp_region_lit (n_q H (Zz (cs:=[.int .i64 0,.bool false,.slice none 0 0,.slice none 0 0,.slice none 0 0,.int .i64 0,.slice none 0 0]) Zg9 Zno Znp rfl (by kernel_rfl)) rfl (W_q (Zc rfl) rfl ?_)));clear H a;intro a H
    replace hS:=hS.pk1
    refine Zr H rfl rfl (vs:=[.int .i64 0,.bool false,.slice none 0 0,.slice none 0 0,.slice none 0 0,.int .i64 0,.slice none 0 0]) rfl Ut (hS.blk 0 rfl) rfl (by simp) ?_
    clear H;intro d8 hN cA hz;clear a;intro a H;replace hS:=hS.setBlk hN cA;clear hN hz
    refine n_q H (Zb rfl) rfl ?_;clear H a;intro a H
    refine Ze (Za (wp_ret (Zh ?_)))
    obtain rfl:=Option.some.inj hm
    replace hS:=hS.nilOwn 114 2
    replace hS:=hS.nilOwn 116 3
    replace hS:=hS.nilOwn 118 4
    replace hS:=hS.nilOwn 3 1
    replace hS:=hS.pk4
    replace hS:=hS.pk1
    replace hS:=hS.pk2
    replace hS:=hS.pk3
    replace hS:=hS.pk4
    replace hS:=hS.tk5
    refine Ti H (.inr rfl) rfl (vs:=[.agg #[.int .i64 0,.bool false,.slice none 0 0,.slice none 0 0,.slice none 0 0,.int .i64 0,.slice none 0 0],.int .i64 aB.2]) (Qm rfl ((hS.blk 4 rfl).ldAll Zap Ut) (Xh rfl Qv)) ?_
    replace hS:=hS.tk4
    exact⟨_,_,_,_,rfl,hS⟩
  replace hm:=Zv hm aW
  refine wp_skip (Za (wp_seq (wp_seq (wp_region_lit (n_q H (Zc rfl) rfl ?_)))));clear H a;intro a H
  obtain⟨aR,aS,aC,dC,dD⟩:=SlR.formV ((hS.own 0 rfl).slr rfl (fun _ _=>rfl))
  refine n_q H (Qf Tryz.underlying100 rfl aC) rfl (W_q (Xz (i:=aB.1.length) (j:=15) rfl rfl) rfl ?_);clear H a;intro a H
  refine Ze (Za (Zl H rfl (fun aK=>?_) (fun aK=>?_)))
  · replace hm:=Zu hm aK
    have dB : aB.1.length < 15:=of_decide_eq_true aK
    refine wp_seq (wp_region_lit (n_q H (Zz (cs:=[.int .i64 0,.bool false,.slice none 0 0,.slice none 0 0,.slice none 0 0,.int .i64 0,.slice none 0 0]) Zg9 Zno Znp rfl (by kernel_rfl)) rfl ?_));clear H a;intro a H
    replace hS:=hS.pk1
    refine Zr H rfl rfl (vs:=[.int .i64 0,.bool false,.slice none 0 0,.slice none 0 0,.slice none 0 0,.int .i64 0,.slice none 0 0]) rfl Ut (hS.blk 0 rfl) rfl (by simp) ?_
    clear H;intro d9 hN cB hz;clear a;intro a H;replace hS:=hS.setBlk hN cB;clear hN hz
    refine n_q H (Zb rfl) rfl ?_;clear H a;intro a H
    refine Ze (Za (wp_ret (Zh ?_)))
    obtain rfl:=Option.some.inj hm
    replace hS:=hS.nilOwn 114 2
    replace hS:=hS.nilOwn 116 3
    replace hS:=hS.nilOwn 118 4
    replace hS:=hS.nilOwn 3 1
    replace hS:=hS.pk4
    replace hS:=hS.pk1
    replace hS:=hS.pk2
    replace hS:=hS.pk3
    replace hS:=hS.pk4
    replace hS:=hS.tk5
    refine Ti H (.inr rfl) rfl (vs:=[.agg #[.int .i64 0,.bool false,.slice none 0 0,.slice none 0 0,.slice none 0 0,.int .i64 0,.slice none 0 0],.int .i64 1]) (Qm rfl ((hS.blk 4 rfl).ldAll Zap Ut) (Xh rfl Qv)) ?_
    replace hS:=hS.tk4
    exact⟨_,_,_,_,rfl,hS⟩
  replace hm:=Zv hm aK
  refine wp_skip (Za (wp_seq (wp_seq (wp_region_lit (n_q H (Zc rfl) rfl ?_)))));clear H a;intro a H
  replace hm:=Tj hm;obtain⟨aX,hm⟩:=hm
  refine n_q H (Zak Tryz.underlying100 sz5 (show _=some (Value.slice aR aB.1.length aS) by rw [← aC];rfl) rfl aX.1 (by omega)) rfl (W_q (Zhj Tryz.underlying100 Tryz.underlying5 Tryz.underlying9 rfl (fun w' hw=>((SlR.takeV ((hS.own 0 rfl).slr rfl (fun _ _=>rfl)) aC aX.1 aX.2).ext (Zq.mono _) hw))) rfl (W_q (Zkq rfl rfl) rfl ?_));clear H a;intro a H
  refine Ze (Za (Zl H rfl (fun aY=>?_) (fun aY=>?_)))
  · replace hm:=Zu hm aY
    refine wp_seq (wp_region_lit (n_q H (Zz (cs:=[.int .i64 0,.bool false,.slice none 0 0,.slice none 0 0,.slice none 0 0,.int .i64 0,.slice none 0 0]) Zg9 Zno Znp rfl (by kernel_rfl)) rfl ?_));clear H a;intro a H
    replace hS:=hS.pk1
    refine Zr H rfl rfl (vs:=[.int .i64 0,.bool false,.slice none 0 0,.slice none 0 0,.slice none 0 0,.int .i64 0,.slice none 0 0]) rfl Ut (hS.blk 0 rfl) rfl (by simp) ?_
    clear H;intro eA hN cC hz;clear a;intro a H;replace hS:=hS.setBlk hN cC;clear hN hz
    refine n_q H (Zb rfl) rfl ?_;clear H a;intro a H
    refine Ze (Za (wp_ret (Zh ?_)))
    obtain rfl:=Option.some.inj hm
    replace hS:=hS.nilOwn 114 2
    replace hS:=hS.nilOwn 116 3
    replace hS:=hS.nilOwn 118 4
    replace hS:=hS.nilOwn 3 1
    replace hS:=hS.pk4
    replace hS:=hS.pk1
    replace hS:=hS.pk2
    replace hS:=hS.pk3
    replace hS:=hS.pk4
    replace hS:=hS.tk5
    refine Ti H (.inr rfl) rfl (vs:=[.agg #[.int .i64 0,.bool false,.slice none 0 0,.slice none 0 0,.slice none 0 0,.int .i64 0,.slice none 0 0],.int .i64 7]) (Qm rfl ((hS.blk 4 rfl).ldAll Zap Ut) (Xh rfl Qv)) ?_
    replace hS:=hS.tk4
    exact⟨_,_,_,_,rfl,hS⟩
  replace hm:=Zv hm aY
  refine wp_skip (Za (wp_seq (wp_region_lit (n_q H (Zc rfl) rfl ?_))));clear H a;intro a H
  replace hm:=Tj hm;obtain⟨aL,hm⟩:=hm
  obtain⟨cW,cX,cD,aT⟩:=Zhl 1 (Zq eB) aR aB.1.length aS aB.1 (lo:=(6 : Int)) (hi:=((aB.1.length : Nat) : Int)) aL.1 aL.2.1 aL.2.2
  rw [← aC] at aT
  refine n_q H (Qo (Zdb Tryz.underlying100 sz5 (show _=some (Value.slice aR aB.1.length aS) by rw [← aC];rfl) rfl aL.1 (by omega)) (show _=Value.slice cW (((aB.1.length : Nat) : Int).toNat - (6 : Int).toNat) cX by rw [← cD];simp)) rfl ?_;clear H a;intro a H
  replace hm:=Zi hm;obtain⟨aI,cF,hm⟩:=hm
  refine Zj H rfl en114 (Zgy (A:=A) (aT _ ((hS.own 0 rfl).slr rfl (fun _ _=>rfl))) cF) rfl ?_
  clear H;intro eC eD hv;clear a;intro a H;obtain⟨bX,bY,rfl,cG⟩:=hv
  replace hS:=hS.new cG;simp only [List.cons_append,List.nil_append] at hS
  refine n_q H (Zb rfl) rfl ?_;clear H a;intro a H
  refine Ze (Za (wp_seq (wp_region_lit (n_q H (Zc rfl) rfl ?_))));clear H a;intro a H
  obtain⟨dE,bB,cH,bC,bD⟩:=hS.frame (rs1:=[blkR bX [bY,.int .i64 aI.At,.int .i64 aI.End] 270])
  replace hm:=Zi hm;obtain⟨aJ,cI,hm⟩:=hm
  refine Zj H rfl en115 (Zar (A:=A) bB (a0:=(⟨aI.B,aI.At,aI.End⟩ : GR02Cursor)) (fun w' hw=>(Kn (bC 0 _ rfl _ hw)).slr rfl (fun _ _=>rfl)) cI) rfl ?_
  clear H;intro eE eG hv;clear a;intro a H;obtain⟨rfl,cJ⟩:=hv
  replace hS:=bD _ _ cJ;simp only [List.cons_append,List.nil_append] at hS;clear bB cH bC bD
  refine n_q H (Zc rfl) rfl (W_q (Zk rfl rfl) rfl (W_q (Zk rfl rfl) rfl ?_));clear H a;intro a H
  refine Qr H Zd1 rfl ?_
  clear H;intro eH eJ hN cK hs;clear a;intro a H
  replace hS:=hS.newBlk hN cK hs;clear hN hs
  refine n_q H (Zb rfl) rfl ?_;clear H a;intro a H
  refine Zr H rfl rfl (vs:=[.int .i64 aJ.2.1.Code,.int .i64 aJ.2.1.Place]) rfl Tm (hS.blk 0 rfl) rfl (by simp) ?_
  clear H;intro eK hN cL hz;clear a;intro a H;replace hS:=hS.setBlk hN cL;clear hN hz
  refine Ze (Za (wp_seq (wp_seq (wp_region_lit (n_q H (Zc rfl) rfl (W_q (Zc rfl) rfl ?_))))));clear H a;intro a H
  obtain⟨eL,eM,cM,dF,dG⟩:=SlR.formV (h0.ext (Zq.mono _) hS.x)
  refine n_q H (Qf Tryz.underlying100 rfl cM) rfl (W_q (Vo rfl rfl) rfl ?_);clear H a;intro a H
  refine Ze (Za (Zl H rfl (fun aZ=>?_) (fun aZ=>?_)))
  · replace hm:=Zu hm aZ
    refine wp_seq (wp_region_lit (n_q H (Zz (cs:=[.int .i64 0,.bool false,.slice none 0 0,.slice none 0 0,.slice none 0 0,.int .i64 0,.slice none 0 0]) Zg9 Zno Znp rfl (by kernel_rfl)) rfl ?_));clear H a;intro a H
    replace hS:=hS.pk4
    refine Zr H rfl rfl (vs:=[.int .i64 0,.bool false,.slice none 0 0,.slice none 0 0,.slice none 0 0,.int .i64 0,.slice none 0 0]) rfl Ut (hS.blk 0 rfl) rfl (by simp) ?_
    clear H;intro eN hN cN hz;clear a;intro a H;replace hS:=hS.setBlk hN cN;clear hN hz
    refine n_q H (Zb rfl) rfl ?_;clear H a;intro a H
    refine Ze (Za (wp_ret (Zh ?_)))
    obtain rfl:=Option.some.inj hm
    replace hS:=hS.nilOwn 114 2
    replace hS:=hS.nilOwn 116 3
    replace hS:=hS.nilOwn 118 4
    replace hS:=hS.nilOwn 3 1
    replace hS:=hS.pk4
    replace hS:=hS.pk1
    replace hS:=hS.pk2
    replace hS:=hS.pk3
    replace hS:=hS.pk4
    replace hS:=hS.tk5
    refine Ti H (.inr rfl) rfl (vs:=[.agg #[.int .i64 0,.bool false,.slice none 0 0,.slice none 0 0,.slice none 0 0,.int .i64 0,.slice none 0 0],.int .i64 5]) (Qm rfl ((hS.blk 4 rfl).ldAll Zap Ut) (Xh rfl Qv)) ?_
    replace hS:=hS.tk4
    exact⟨_,_,_,_,rfl,hS⟩
  replace hm:=Zv hm aZ
  refine wp_skip (Za (wp_seq (wp_region_lit (n_q H (Zc rfl) rfl ?_))));clear H a;intro a H
  replace hS:=hS.pk1
  obtain⟨dH,bE,cO,bF,bG⟩:=hS.frame (rs1:=[blkR bX [bY,.int .i64 aJ.2.2.At,.int .i64 aJ.2.2.End] 270])
  replace hm:=Zi hm;obtain⟨a9,cP,hm⟩:=hm
  refine Zj H rfl en115 (Zar (A:=A) bE (a0:=(⟨aI.B,aJ.2.2.At,aJ.2.2.End⟩ : GR02Cursor)) (fun w' hw=>(Kn (bF 1 _ rfl _ hw)).slr rfl (fun _ _=>rfl)) cP) rfl ?_
  clear H;intro eO eP hv;clear a;intro a H;obtain⟨rfl,cQ⟩:=hv
  replace hS:=bG _ _ cQ;simp only [List.cons_append,List.nil_append] at hS;clear bE cO bF bG
  refine n_q H (Zc rfl) rfl (W_q (Zk rfl rfl) rfl (W_q (Zk rfl rfl) rfl ?_));clear H a;intro a H
  refine Qr H Zd1 rfl ?_
  clear H;intro eQ eT hN cR hs;clear a;intro a H
  replace hS:=hS.newBlk hN cR hs;clear hN hs
  refine n_q H (Zb rfl) rfl ?_;clear H a;intro a H
  refine Zr H rfl rfl (vs:=[.int .i64 a9.2.1.Code,.int .i64 a9.2.1.Place]) rfl Tm (hS.blk 0 rfl) rfl (by simp) ?_
  clear H;intro eU hN cT hz;clear a;intro a H;replace hS:=hS.setBlk hN cT;clear hN hz
  refine Ze (Za (wp_seq (wp_region_lit (n_q H (Zc rfl) rfl ?_))));clear H a;intro a H
  replace hm:=Tj hm;obtain⟨aM,hm⟩:=hm
  obtain⟨cY,cZ,cU,aU⟩:=Zhl 1 (Zq eB) aR aB.1.length aS aB.1 (lo:=(15 : Int)) (hi:=((aB.1.length : Nat) : Int)) aM.1 aM.2.1 aM.2.2
  rw [← aC] at aU
  refine n_q H (Qo (Zdb Tryz.underlying100 sz5 (show _=some (Value.slice aR aB.1.length aS) by rw [← aC];rfl) rfl aM.1 (by omega)) (show _=Value.slice cY (((aB.1.length : Nat) : Int).toNat - (15 : Int).toNat) cZ by rw [← cU];simp)) rfl ?_;clear H a;intro a H
  replace hm:=Zi hm;obtain⟨bZ,cV,hm⟩:=hm
  refine Zj H rfl en116 (Zj7 (A:=A) (aU _ ((hS.own 4 rfl).slr rfl (fun _ _=>rfl))) cV) rfl ?_
  clear H;intro dI eV hv;clear a;intro a H;obtain⟨eW,rfl,bK⟩:=hv
  replace hS:=hS.new bK;simp only [List.cons_append,List.nil_append] at hS
  refine n_q H (Zc rfl) rfl (W_q (Zk rfl rfl) rfl (W_q (Zk rfl rfl) rfl ?_));clear H a;intro a H
  refine Qr H Zd1 rfl ?_
  clear H;intro dJ dK hN bL hs;clear a;intro a H
  replace hS:=hS.newBlk hN bL hs;clear hN hs
  refine n_q H (Zb rfl) rfl ?_;clear H a;intro a H
  refine Zr H rfl rfl (vs:=[.int .i64 bZ.2.Code,.int .i64 bZ.2.Place]) rfl Tm (hS.blk 0 rfl) rfl (by simp) ?_
  clear H;intro dL hN bM hz;clear a;intro a H;replace hS:=hS.setBlk hN bM;clear hN hz
  refine Ze (Za (wp_seq (wp_seq (wp_region_lit (n_c H (fun HC=>?_))))));clear H
  refine Tn HC (Zd rfl Zmo) rfl (by kernel_rfl) (V_q (Zf rfl ((hS.blk 0 rfl).ld ag3 rfl)) rfl (by kernel_rfl) (V_q (Vo rfl rfl) rfl (by kernel_rfl) (V_q (Zc rfl) rfl (by kernel_rfl) (V_g (Zc rfl) (by kernel_rfl) (by kernel_rfl) (by kernel_rfl) (V_g (Hp rfl rfl) (by kernel_rfl) (by kernel_rfl) (by kernel_rfl) (Zet (j:=3) rfl rfl rfl (by kernel_rfl) (by kernel_rfl) ?_))))));clear HC a;intro a HC
  have H:=HC.has;clear HC
  refine Ze (Za (Zl H rfl (fun aN=>?_) (fun aN=>?_)))
  · replace hm:=Zu hm aN
    refine wp_seq (wp_region_lit (n_q H (Zz (cs:=[.int .i64 0,.bool false,.slice none 0 0,.slice none 0 0,.slice none 0 0,.int .i64 0,.slice none 0 0]) Zg9 Zno Znp rfl (by kernel_rfl)) rfl ?_));clear H a;intro a H
    replace hS:=hS.pk7
    refine Zr H rfl rfl (vs:=[.int .i64 0,.bool false,.slice none 0 0,.slice none 0 0,.slice none 0 0,.int .i64 0,.slice none 0 0]) rfl Ut (hS.blk 0 rfl) rfl (by simp) ?_
    clear H;intro dM hN bN hz;clear a;intro a H;replace hS:=hS.setBlk hN bN;clear hN hz
    refine n_q H (Zb rfl) rfl ?_;clear H a;intro a H
    refine Ze (Za (wp_ret (Zh ?_)))
    obtain rfl:=Option.some.inj hm
    replace hS:=hS.nilOwn 114 2
    replace hS:=hS.nilOwn 116 3
    replace hS:=hS.nilOwn 118 4
    replace hS:=hS.nilOwn 3 1
    replace hS:=hS.pk4
    replace hS:=hS.pk1
    replace hS:=hS.pk2
    replace hS:=hS.pk3
    replace hS:=hS.pk4
    replace hS:=hS.tk5
    refine Ti H (.inr rfl) rfl (vs:=[.agg #[.int .i64 0,.bool false,.slice none 0 0,.slice none 0 0,.slice none 0 0,.int .i64 0,.slice none 0 0],.int .i64 8]) (Qm rfl ((hS.blk 4 rfl).ldAll Zap Ut) (Xh rfl Qv)) ?_
    replace hS:=hS.tk4
    exact⟨_,_,_,_,rfl,hS⟩
  replace hm:=Zv hm aN
  refine wp_skip (Za (wp_seq (wp_region_lit (n_q H (Zc rfl) rfl (W_q (Zc rfl) rfl ?_)))));clear H a;intro a H
  replace hm:=Zi hm;obtain⟨bH,aO,hm⟩:=hm
  obtain⟨dA,aV⟩:=SlR.adV ((hS.own 6 rfl).slr rfl (fun _ _=>rfl)) aC aO
  refine n_q H (Jn (i:=14) Tryz.underlying100 sz5 rfl aC aV rfl (Ho aO)) rfl (W_q (Zf rfl (SlR.ldOneV ((hS.own 6 rfl).slr rfl (fun _ _=>rfl)) aC aV ag5 aO rfl)) rfl (W_q (Ky rfl rfl) rfl (W_q (Zz (cs:=[.int .i64 a9.1,.bool (decide ((bH.toNat : Int)=1)),.slice none 0 0,.slice none 0 0,.slice none 0 0,.int .i64 0,.slice none 0 0]) Zg9 Zno Znp rfl (by kernel_rfl)) rfl (W_q (Zc rfl) rfl ?_))));clear H a;intro a H
  replace hm:=Zi hm;obtain⟨aA,bO,hm⟩:=hm
  refine Zj H rfl en117 (Zj8 (A:=A) (a0:=(⟨a9.1,decide ((bH.toNat : Int)=1),([] : List GPagePlan),([] : List GProcPlan),([] : List GPortPlan),0,([] : List Int)⟩ : GPlan)) (hS.deepSl 1 rfl) bO) rfl ?_
  clear H;intro dN dO hv;clear a;intro a H;obtain⟨aE,aF,aG,aH,rfl,bP⟩:=hv
  replace hS:=hS.new bP;simp only [List.cons_append,List.nil_append] at hS
  refine Qr H Zg9 rfl ?_
  clear H;intro bI dP hN bQ hs;clear a;intro a H
  replace hS:=hS.newBlk hN bQ hs;clear hN hs
  refine Zr H rfl rfl (vs:=[.int .i64 aA.Id,.bool aA.Mobile,aE,aF,aG,.int .i64 aA.Events,aH]) rfl Ut (hS.blk 0 rfl) rfl (by simp [(((hS.own 1 rfl).slr rfl (fun _ _=>rfl))).one,(((hS.own 2 rfl).slr rfl (fun _ _=>rfl))).one,(((hS.own 3 rfl).slr rfl (fun _ _=>rfl))).one,(((hS.own 4 rfl).slr rfl (fun _ _=>rfl))).one]) ?_
  clear H;intro dQ hN bR hz;clear a;intro a H;replace hS:=hS.setBlk hN bR;clear hN hz
  refine Ze (Za (wp_seq (wp_region_lit (n_q H (Zf rfl ((hS.blk 0 rfl).ldAll Zap Ut)) rfl ?_))));clear H a;intro a H
  replace hm:=Zi hm;obtain⟨bJ,bS,hm⟩:=hm
  refine Zj H rfl en50 (Zdj (A:=A) (⟨_,_,_,_,rfl,((hS.own 1 rfl).slr rfl (fun _ _=>rfl)),((hS.own 2 rfl).slr rfl (fun _ _=>rfl)),((hS.own 3 rfl).slr rfl (fun _ _=>rfl)),((hS.own 4 rfl).slr rfl (fun _ _=>rfl))⟩ : Qw _ [.int .i64 aA.Id,.bool aA.Mobile,aE,aF,aG,.int .i64 aA.Events,aH] aA) bS) rfl ?_
  clear H;intro dR dS hv;clear a;intro a H;obtain⟨dT,rfl,bT⟩:=hv
  replace hS:=hS.new bT;simp only [List.cons_append,List.nil_append] at hS
  refine n_q H (Zc rfl) rfl (W_q (Zk rfl rfl) rfl (W_q (Zk rfl rfl) rfl (W_q (Zb rfl) rfl (W_q (Zb rfl) rfl ?_))));clear H a;intro a H
  refine Ze (Za (wp_seq ?_))
  replace hm:=Zi hm;obtain⟨dU,hm,bA⟩:=hm
  refine Hj (σ:=Bool) H (fun aP=>[(2,.pointer (some ⟨bW,0,none⟩)),(13,.pointer (some ⟨bI,0,none⟩)),(86,.bool aP)]) (fun aP wl=>(Uj aA) aP=some r ∧ St NB w wl [blkR bW [.int .i64 0,.bool false,.slice none 0 0,.slice none 0 0,.slice none 0 0,.int .i64 0,.slice none 0 0] 27,blkR bI [.int .i64 aA.Id,.bool aA.Mobile,aE,aF,aG,.int .i64 aA.Events,aH] 27,ownR 114 2 aE aA.Pages.length (aA.Pages.flatMap Qc),ownR 116 3 aF aA.Procs.length (aA.Procs.flatMap Zx),ownR 118 4 aG aA.Ports.length (aA.Ports.flatMap Zw),ownR 3 1 aH aA.Sems.length (aA.Sems.flatMap eI)]) ?_ ?_
  · skip
    refine wp_region_lit (n_q H (Zc rfl) rfl (W_q (Vo rfl rfl) rfl (W_q (Zc rfl) rfl ?_)));clear H a;intro a H
    rcases Bool.eq_false_or_eq_true (!decide (bJ.2=0)) with aD|aD
    · replace H:=H.know 80 rfl aD
      replace hm:=Zu hm aD
      refine Zci H rfl rfl (by decide) rfl (Qn rfl rfl (by decide) rfl (Qn rfl rfl (by decide) rfl (Qn rfl rfl (by decide) rfl (Qn rfl rfl (by decide) rfl (W_q (Qi rfl rfl) rfl ?_)))));clear H a;intro a H
      refine Ze (Za ?_)
      obtain rfl:=Option.some.inj hm;replace hm:=bA;try dsimp only at hm
      replace hS:=hS.pk5
      replace hS:=hS.pk5
      replace hS:=hS.pk5
      replace hS:=hS.pk5
      replace hS:=hS.pk5
      replace hS:=hS.pick 13 rfl;dsimp only [List.eraseIdx] at hS
      replace hS:=hS.tk6
      exact Wh true H ⟨rfl,rfl,rfl,trivial⟩ ⟨hm,hS⟩
    replace H:=H.know 80 rfl aD
    replace hm:=Zv hm aD
    refine Wb H rfl rfl (n_q H (Zc rfl) rfl (Xe rfl rfl (W_q (Zhj Tryz.underlying100 Tryz.underlying5 Tryz.underlying9 rfl (fun w' hw=>(((hS.own 0 rfl).slr rfl (fun _ _=>rfl)).ext (Zq.mono _) hw))) rfl (Xe rfl rfl (W_q (Zc rfl) rfl (Xe rfl rfl (W_q (Zhj Tryz.underlying100 Tryz.underlying5 Tryz.underlying9 rfl (fun w' hw=>((h0.ext (Zq.mono _) hS.x).ext (Zq.mono _) hw))) rfl (Xe rfl rfl (W_q (Zkq rfl rfl) rfl (W_q (Jf rfl rfl) rfl ?_))))))))));clear H a;intro a H
    refine Ze (Za ?_)
    obtain rfl:=Option.some.inj hm;replace hm:=bA;try dsimp only at hm
    replace hS:=hS.pk5
    replace hS:=hS.pk5
    replace hS:=hS.pk5
    replace hS:=hS.pk5
    replace hS:=hS.pk5
    replace hS:=hS.pick 13 rfl;dsimp only [List.eraseIdx] at hS
    replace hS:=hS.tk6
    exact Wh (!decide ((Za6 bJ.1)=(Za6 a0))) H ⟨rfl,rfl,rfl,trivial⟩ ⟨hm,hS⟩
  clear H hS hm a;intro aP a dV H hR
  simp only [ent,List.map_cons,List.map_nil] at H;(try dsimp only at hR);obtain⟨hm,hS⟩:=hR;try dsimp only [Uj] at hm
  refine Zl H rfl (fun aQ=>?_) (fun aQ=>?_)
  · replace hm:=Zu hm aQ
    refine wp_seq (wp_region_lit (n_q H (Zz (cs:=[.int .i64 0,.bool false,.slice none 0 0,.slice none 0 0,.slice none 0 0,.int .i64 0,.slice none 0 0]) Zg9 Zno Znp rfl (by kernel_rfl)) rfl ?_));clear H a;intro a H
    refine Zr H rfl rfl (vs:=[.int .i64 0,.bool false,.slice none 0 0,.slice none 0 0,.slice none 0 0,.int .i64 0,.slice none 0 0]) rfl Ut (hS.blk 0 rfl) rfl (by simp) ?_
    clear H;intro dW hN bU hz;clear a;intro a H;replace hS:=hS.setBlk hN bU;clear hN hz
    refine n_q H (Zb rfl) rfl ?_;clear H a;intro a H
    refine Ze (Za (wp_ret (Zh ?_)))
    obtain rfl:=Option.some.inj hm
    replace hS:=hS.nilOwn 114 2
    replace hS:=hS.nilOwn 116 3
    replace hS:=hS.nilOwn 118 4
    replace hS:=hS.nilOwn 3 1
    replace hS:=hS.pk4
    replace hS:=hS.pk1
    replace hS:=hS.pk2
    replace hS:=hS.pk3
    replace hS:=hS.pk4
    replace hS:=hS.tk5
    refine Ti H (.inr rfl) rfl (vs:=[.agg #[.int .i64 0,.bool false,.slice none 0 0,.slice none 0 0,.slice none 0 0,.int .i64 0,.slice none 0 0],.int .i64 8]) (Qm rfl ((hS.blk 4 rfl).ldAll Zap Ut) (Xh rfl Qv)) ?_
    replace hS:=hS.tk4
    exact⟨_,_,_,_,rfl,hS⟩
  replace hm:=Zv hm aQ
  refine wp_skip (Za (wp_seq (wp_region_lit (n_q H (Zf rfl ((hS.blk 1 rfl).ldAll Zap Ut)) rfl ?_))));clear H a;intro a H
  refine Zr H rfl rfl (vs:=[.int .i64 aA.Id,.bool aA.Mobile,aE,aF,aG,.int .i64 aA.Events,aH]) rfl Ut (hS.blk 0 rfl) rfl (by simp [(((hS.own 2 rfl).slr rfl (fun _ _=>rfl))).one,(((hS.own 3 rfl).slr rfl (fun _ _=>rfl))).one,(((hS.own 4 rfl).slr rfl (fun _ _=>rfl))).one,(((hS.own 5 rfl).slr rfl (fun _ _=>rfl))).one]) ?_
  clear H;intro dX hN bV hz;clear a;intro a H;replace hS:=hS.setBlk hN bV;clear hN hz
  refine n_q H (Zb rfl) rfl ?_;clear H a;intro a H
  refine Ze (Za (wp_ret ?_))
  obtain rfl:=Option.some.inj hm
  replace hS:=hS.pk5
  replace hS:=hS.pk5
  replace hS:=hS.pk5
  replace hS:=hS.pk5
  replace hS:=hS.tk5
  refine Ti H (.inr rfl) rfl (vs:=[.agg #[.int .i64 aA.Id,.bool aA.Mobile,aE,aF,aG,.int .i64 aA.Events,aH],.int .i64 0]) (Qm rfl ((hS.blk 4 rfl).ldAll Zap Ut) (Xh rfl Qv)) ?_
  replace hS:=hS.tk4
  exact⟨_,_,_,_,rfl,hS⟩
end Go.Proofs.YtfemfiiagjnhdaaGreatDoor
