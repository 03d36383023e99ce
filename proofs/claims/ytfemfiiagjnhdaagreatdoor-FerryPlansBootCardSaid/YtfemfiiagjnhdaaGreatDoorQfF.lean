/- Part of a claim, shortened by a program from its texts: PtB. -/
import Derived.Test.YtfemfiiagjnhdaaGreatDoorQfE
set_option linter.unusedVariables false
set_option linter.unusedSimpArgs false
set_option maxRecDepth 10000
namespace Go.Proofs.YtfemfiiagjnhdaaGreatDoor
open Go Go.RowKit
theorem Zp5 : Za4 Tryz.prog 144=some true:=by kernel_rfl
theorem Zmt : Za4 Tryz.prog 28=some false:=by kernel_rfl
theorem ag32 : Za4 Tryz.prog 32=some false:=by kernel_rfl
theorem Zo1 : Za4 Tryz.prog 34=some true:=by kernel_rfl
theorem ag82 : Za4 Tryz.prog 82=some true:=by kernel_rfl
theorem bd144 : bdB Tryz.prog 144=true:=by kernel_rfl
theorem pl144 : Tl Tryz.prog 144=some #[(0,16),(16,1),(17,1),(18,1),(19,1),(20,1)]:=by kernel_rfl
theorem Zgs : bdB Tryz.prog 34=true:=by kernel_rfl
theorem Zgt : Tl Tryz.prog 34=some #[(0,1),(1,1),(2,1),(3,1),(4,1),(5,1),(6,1),(7,1),(8,1),(9,1)]:=by kernel_rfl
theorem bd82 : bdB Tryz.prog 82=true:=by kernel_rfl
theorem pl82 : Tl Tryz.prog 82=some #[(0,1),(1,1),(2,64)]:=by kernel_rfl
theorem el114 : ElemOk Tryz.prog 114 2 24 [.int .i64 0,.string ⟨#[]⟩]:=⟨by kernel_rfl,by kernel_rfl,by kernel_rfl,rfl,by decide⟩
theorem el116 : ElemOk Tryz.prog 116 3 24 [.int .i64 0,.int .i64 0,.bool false]:=⟨by kernel_rfl,by kernel_rfl,by kernel_rfl,rfl,by decide⟩
theorem el118 : ElemOk Tryz.prog 118 4 32 [.int .i64 0,.int .i64 0,.int .i64 0,.int .i64 0]:=⟨by kernel_rfl,by kernel_rfl,by kernel_rfl,rfl,by decide⟩
theorem el144 : ElemOk Tryz.prog 144 21 104 [.int .u32 0,.int .u32 0,.int .u32 0,.int .u32 0,.int .u32 0,.int .u32 0,.int .u32 0,.int .u32 0,.int .u32 0,.int .u32 0,.int .u32 0,.int .u32 0,.int .u32 0,.int .u32 0,.int .u32 0,.int .u32 0,.int .u32 0,.int .i64 0,.int .i64 0,.int .i64 0,.int .i64 0]:=⟨by kernel_rfl,by kernel_rfl,by kernel_rfl,rfl,by decide⟩
theorem Zds : ElemOk Tryz.prog 154 2 32 [.slice none 0 0,.int .i64 0]:=⟨by kernel_rfl,by kernel_rfl,by kernel_rfl,rfl,by decide⟩
theorem el4 : ElemOk Tryz.prog 4 1 1 [.bool false]:=⟨by kernel_rfl,by kernel_rfl,by kernel_rfl,rfl,by decide⟩
theorem el82 : ElemOk Tryz.prog 82 66 80 [.int .i64 0,.bool false,.int .u8 0,.int .u8 0,.int .u8 0,.int .u8 0,.int .u8 0,.int .u8 0,.int .u8 0,.int .u8 0,.int .u8 0,.int .u8 0,.int .u8 0,.int .u8 0,.int .u8 0,.int .u8 0,.int .u8 0,.int .u8 0,.int .u8 0,.int .u8 0,.int .u8 0,.int .u8 0,.int .u8 0,.int .u8 0,.int .u8 0,.int .u8 0,.int .u8 0,.int .u8 0,.int .u8 0,.int .u8 0,.int .u8 0,.int .u8 0,.int .u8 0,.int .u8 0,.int .u8 0,.int .u8 0,.int .u8 0,.int .u8 0,.int .u8 0,.int .u8 0,.int .u8 0,.int .u8 0,.int .u8 0,.int .u8 0,.int .u8 0,.int .u8 0,.int .u8 0,.int .u8 0,.int .u8 0,.int .u8 0,.int .u8 0,.int .u8 0,.int .u8 0,.int .u8 0,.int .u8 0,.int .u8 0,.int .u8 0,.int .u8 0,.int .u8 0,.int .u8 0,.int .u8 0,.int .u8 0,.int .u8 0,.int .u8 0,.int .u8 0,.int .u8 0]:=⟨by kernel_rfl,by kernel_rfl,by kernel_rfl,rfl,by decide⟩
theorem Zec : Zq Tryz.prog 125=true:=by kernel_rfl
theorem en47 : Zq Tryz.prog 47=true:=by kernel_rfl
theorem en53 : Zq Tryz.prog 53=true:=by kernel_rfl
theorem en56 : Zq Tryz.prog 56=true:=by kernel_rfl
theorem en67 : Zq Tryz.prog 67=true:=by kernel_rfl
theorem Ze2 : Zaw Tryz.prog 144 2=some 17:=by kernel_rfl
theorem Zaq : Zaw Tryz.prog 34 3=some 3:=by kernel_rfl
theorem Zi8 : Zaw Tryz.prog 34 4=some 4:=by kernel_rfl
theorem Zgj : Zaw Tryz.prog 34 9=some 9:=by kernel_rfl
theorem fo82_2 : Zaw Tryz.prog 82 2=some 2:=by kernel_rfl
theorem Zcx : Jd Tryz.prog 144=some 21:=by kernel_rfl
theorem sz22 : Jd Tryz.prog 22=some 1:=by kernel_rfl
theorem sz23 : Jd Tryz.prog 23=some 1:=by kernel_rfl
theorem sz24 : Jd Tryz.prog 24=some 1:=by kernel_rfl
theorem sz25 : Jd Tryz.prog 25=some 1:=by kernel_rfl
theorem sz28 : Jd Tryz.prog 28=some 1:=by kernel_rfl
theorem sz32 : Jd Tryz.prog 32=some 1:=by kernel_rfl
theorem Zbz : Jd Tryz.prog 34=some 10:=by kernel_rfl
theorem sz82 : Jd Tryz.prog 82=some 66:=by kernel_rfl
theorem Zmu : Hb Tryz.prog 144=some [.int .u32 0,.int .u32 0,.int .u32 0,.int .u32 0,.int .u32 0,.int .u32 0,.int .u32 0,.int .u32 0,.int .u32 0,.int .u32 0,.int .u32 0,.int .u32 0,.int .u32 0,.int .u32 0,.int .u32 0,.int .u32 0,.int .u32 0,.int .i64 0,.int .i64 0,.int .i64 0,.int .i64 0]:=by kernel_rfl
theorem Zbp : Hb Tryz.prog 34=some [.int .i64 0,.int .i64 0,.int .i64 0,.slice none 0 0,.slice none 0 0,.slice none 0 0,.slice none 0 0,.slice none 0 0,.slice none 0 0,.slice none 0 0]:=by kernel_rfl
theorem ze82 : Hb Tryz.prog 82=some [.int .i64 0,.bool false,.int .u8 0,.int .u8 0,.int .u8 0,.int .u8 0,.int .u8 0,.int .u8 0,.int .u8 0,.int .u8 0,.int .u8 0,.int .u8 0,.int .u8 0,.int .u8 0,.int .u8 0,.int .u8 0,.int .u8 0,.int .u8 0,.int .u8 0,.int .u8 0,.int .u8 0,.int .u8 0,.int .u8 0,.int .u8 0,.int .u8 0,.int .u8 0,.int .u8 0,.int .u8 0,.int .u8 0,.int .u8 0,.int .u8 0,.int .u8 0,.int .u8 0,.int .u8 0,.int .u8 0,.int .u8 0,.int .u8 0,.int .u8 0,.int .u8 0,.int .u8 0,.int .u8 0,.int .u8 0,.int .u8 0,.int .u8 0,.int .u8 0,.int .u8 0,.int .u8 0,.int .u8 0,.int .u8 0,.int .u8 0,.int .u8 0,.int .u8 0,.int .u8 0,.int .u8 0,.int .u8 0,.int .u8 0,.int .u8 0,.int .u8 0,.int .u8 0,.int .u8 0,.int .u8 0,.int .u8 0,.int .u8 0,.int .u8 0,.int .u8 0,.int .u8 0]:=by kernel_rfl
set_option maxHeartbeats 4000000 in
theorem Zcy {w : World} {A : Nat → Addr} {cs0 : List Value} {a0 : GPlan} (hG : EV A w) (h0 : Xa w cs0 a0) {r : GState × ErrM} (hm : Gf a0=some r) :
    Calls Tryz.prog 53 [.agg cs0.toArray].toArray w (Ret fun u w'=>∃ h_0 h_1 h_2 h_3 h_4 h_5 h_6 h_7,u=.tuple #[.agg #[.int .i64 r.1.Id,.int .i64 r.1.Frame,.int .i64 r.1.Epoch,h_0,h_1,h_2,h_3,h_4,h_5,h_6],h_7] ∧ St NB w w' [ownR 144 21 h_0 r.1.Procs.length (r.1.Procs.flatMap Xf),ownR 3 1 h_1 r.1.Ready.length (r.1.Ready.flatMap eI),ownR 163 2 h_2 r.1.Timers.length (r.1.Timers.flatMap Jq),ownR 4 1 h_3 r.1.Up.length (r.1.Up.flatMap eF),ownR 3 1 h_4 r.1.Sems.length (r.1.Sems.flatMap eI),deepR 154 2 Qe h_5 r.1.Ports,ownR 82 66 h_6 r.1.Pages.length (r.1.Pages.flatMap Jr),erQ A h_7 r.2]):=by
  obtain⟨bD,bA,bH,bI,rfl,bJ,bK,cJ,aB⟩:=h0
  have hS:=St.begin NB w
  unfold Gf at hm
  refine enter Tryz.func53 rfl rfl rfl ?_;intro a H;dsimp only [Qn,Nat.zero_add,Nat.reduceAdd] at H
  refine wp_seq (wp_region_lit (Yy H rfl (cs:=[.int .i64 a0.Id,.bool a0.Mobile,bD,bA,bH,.int .i64 a0.Events,bI]) rfl rfl ?_))
  clear H;intro b7 o1 hN j8 hs;clear a;intro a H
  replace hS:=hS.newBlk hN j8 hs;clear hN hs
  refine Jb H Zbp rfl ?_
  clear H;intro bX o2 hN j9 hs;clear a;intro a H
  replace hS:=hS.newBlk hN j9 hs;clear hN hs
  refine n_q H (Zb rfl) rfl ?_;clear H a;intro a H
  refine Ze (Za (wp_seq (wp_seq (wp_region_lit (n_q H (Zf rfl ((hS.blk 1 rfl).ldAll Zda Zav)) rfl ?_)))));clear H a;intro a H
  replace hm:=Zj hm;obtain⟨iJ,kA,hm⟩:=hm
  refine Zk H rfl en57 (Hy (A:=A) (hG.ext hS.x) (⟨_,_,_,_,rfl,(bJ.ext (Zi.mono _) hS.x),(bK.ext (Zi.mono _) hS.x),(cJ.ext (Zi.mono _) hS.x),(aB.ext (Zi.mono _) hS.x)⟩ : Xa _ [.int .i64 a0.Id,.bool a0.Mobile,bD,bA,bH,.int .i64 a0.Events,bI] a0) kA) rfl ?_
  clear H;intro j6 b8 hv;clear a;intro a H;obtain⟨_,rfl,kC⟩:=hv
  replace hS:=hS.new kC;simp only [List.cons_append,List.nil_append] at hS
  refine n_q H (Xi (Vr Tryz.underlying39 rfl rfl (hS.any 0 rfl : IsE A b8 j6 iJ).form) (show _=Value.bool (!decide (iJ=.nil)) by rw [Xu.isNil (hS.any 0 rfl : IsE A b8 j6 iJ)])) rfl ?_;clear H a;intro a H
  refine Ze (Za (Zn H rfl (fun cN=>?_) (fun cN=>?_)))
  · replace hm:=Zu hm cN
    refine wp_seq (Tm (kB w.heap.size (b7 :: []) b8.drew.heap.size) 4 (by kernel_rfl) ?_)
    obtain⟨j7,cO⟩ : ∃ x,x=b8.drew:=⟨_,rfl⟩;rw [← cO];have kD : Ext b8 j7:=by rw [cO];exact Ext.drew' _
    clear cO
    replace hS:=hS.ext kD
    have kK:=(hS.blk 2 rfl).lt
    have kE:=hS.x.size
    have hW:=Nat.le_refl j7.heap.size
    refine Zg 0 H rfl (Qt (cs:=[.int .i64 0,.int .i64 0,.int .i64 0,.slice none 0 0,.slice none 0 0,.slice none 0 0,.slice none 0 0,.slice none 0 0,.slice none 0 0,.slice none 0 0]) Zbp Zgs Zgt rfl (by kernel_rfl)) rfl (by kernel_rfl) (by kernel_rfl) (by kernel_rfl) (by kernel_rfl) (fun _ _ _ h=>h) ?_;clear H a;intro a H
    refine Qr 1 H rfl (Zf rfl (LdC.old (hG.ld Hp (by decide) Hv) hS.x kE Zi7)) rfl (by kernel_rfl) (by kernel_rfl) (by kernel_rfl) (by kernel_rfl) (fun _ _ _ h=>h) ?_;clear H a;intro a H
    replace hS:=hS.pk1
    refine Qg 2 H rfl rfl rfl (vs:=[.int .i64 0,.int .i64 0,.int .i64 0,.slice none 0 0,.slice none 0 0,.slice none 0 0,.slice none 0 0,.slice none 0 0,.slice none 0 0,.slice none 0 0]) rfl Zbz (hS.blk 0 rfl) rfl (by simp) (by kernel_rfl) (.inl (fun h=>Zi6 h (hS.ge (i:=0) rfl) (Zck (hS.ne (i:=0) (j:=2) (by decide) rfl rfl) Zcj))) ?_
    clear H;intro o3 hN iK hz;clear a;intro a H;replace hS:=hS.setBlk hN iK;clear hN hz;replace hW:=Nat.le_trans hW iK.size
    refine Zg 3 H rfl (Zb rfl) rfl (by kernel_rfl) (by kernel_rfl) (by kernel_rfl) (by kernel_rfl) (fun _ _ _ h=>h) ?_;clear H a;intro a H
    refine Xc (by kernel_rfl) ?_
    refine Za (wp_ret (Zh ?_))
    obtain rfl:=Option.some.inj hm
    replace hS:=hS.nilOwn 144 21
    replace hS:=hS.nilOwn 3 1
    replace hS:=hS.nilOwn 163 2
    replace hS:=hS.nilOwn 4 1
    replace hS:=hS.nilOwn 3 1
    replace hS:=hS.deepNil 154 2 Qe
    replace hS:=hS.nilOwn 82 66
    replace hS:=hS.dVar (A:=A) (g:=Hp) (by decide)
    replace hS:=hS.pk8
    replace hS:=hS.pk1
    replace hS:=hS.pk2
    replace hS:=hS.pk3
    replace hS:=hS.pk4
    replace hS:=hS.pk5
    replace hS:=hS.pk6
    replace hS:=hS.pk7
    replace hS:=hS.pk8
    replace hS:=hS.tk9
    refine Zhd H (.inr rfl) rfl (vs:=[.agg #[.int .i64 0,.int .i64 0,.int .i64 0,.slice none 0 0,.slice none 0 0,.slice none 0 0,.slice none 0 0,.slice none 0 0,.slice none 0 0,.slice none 0 0],sv 340 A Hp]) (He rfl ((hS.blk 8 rfl).ldAll Zo1 Zbz) (Wl rfl Hd)) ?_
    replace hS:=hS.tk8
    exact⟨_,_,_,_,_,_,_,_,rfl,hS⟩
  replace hm:=Zv hm cN
  refine wp_skip (Za ?_)
  replace hm:=Zj hm;obtain⟨o4,hm,aC⟩:=hm
  refine Gm (σ:=(List Bool) × (List Int) × (List GPort) × Value × Value × Value × Nat) H (fun (aV,aW,bF,aR,aS,aT,aY)=>[(1,.pointer (some ⟨b7,0,none⟩)),(2,.pointer (some ⟨bX,0,none⟩)),(4,.pointer (some ⟨aY,0,none⟩))]) (fun (aV,aW,bF,aR,aS,aT,aY) wl=>(Zah a0) (aV,aW,bF)=some r ∧ St NB w wl [blkR b7 [.int .i64 a0.Id,.bool a0.Mobile,bD,bA,bH,.int .i64 a0.Events,bI] 27,blkR bX [.int .i64 0,.int .i64 0,.int .i64 0,.slice none 0 0,.slice none 0 0,.slice none 0 0,.slice none 0 0,.slice none 0 0,.slice none 0 0,.slice none 0 0] 34,blkR aY [.int .i64 a0.Id,.int .i64 0,.int .i64 0,.slice none 0 0,.slice none 0 0,.slice none 0 0,aR,aS,aT,.slice none 0 0] 34,ownR 4 1 aR aV.length (aV.flatMap eF),ownR 3 1 aS aW.length (aW.flatMap eI),deepR 154 2 Qe aT bF]) ?_ ?_
  · skip
    refine Tm [] 15 (by kernel_rfl) ?_
    obtain⟨aI,cH⟩ : ∃ x,x=b8.drew:=⟨_,rfl⟩;rw [← cH];have jS : Ext b8 aI:=by rw [cH];exact Ext.drew' _
    clear cH
    replace hS:=hS.ext jS
    have bY:=hS
    have hW:=Nat.le_refl aI.heap.size
    refine Zg 0 H rfl (Zc rfl Zfg) rfl (by kernel_rfl) (by kernel_rfl) (by kernel_rfl) (by kernel_rfl) (fun _ _ _ h=>h) ?_;clear H a;intro a H
    refine Qr 1 H rfl (Zf rfl (LdC.old ((bY.blk 2 rfl).ld ag3 rfl) Ext.rfl' (Nat.le_refl _) (by simp))) rfl (by kernel_rfl) (by kernel_rfl) (by kernel_rfl) (by kernel_rfl) (fun _ _ _ h=>h) ?_;clear H a;intro a H
    refine Zg 2 H rfl (Zc rfl Zdq) rfl (by kernel_rfl) (by kernel_rfl) (by kernel_rfl) (by kernel_rfl) (fun _ _ _ h=>h) ?_;clear H a;intro a H
    refine Qr 3 H rfl (Zf rfl (LdC.old ((bY.blk 2 rfl).ld ag3 rfl) Ext.rfl' (Nat.le_refl _) (by simp))) rfl (by kernel_rfl) (by kernel_rfl) (by kernel_rfl) (by kernel_rfl) (fun _ _ _ h=>h) ?_;clear H a;intro a H
    refine Zg 5 H rfl (Zc rfl Zbx) rfl (by kernel_rfl) (by kernel_rfl) (by kernel_rfl) (by kernel_rfl) (fun _ _ _ h=>h) ?_;clear H a;intro a H
    refine Qr 6 H rfl (Zf rfl (LdC.old ((bY.blk 2 rfl).ld Zil rfl) Ext.rfl' (Nat.le_refl _) (by simp))) rfl (by kernel_rfl) (by kernel_rfl) (by kernel_rfl) (by kernel_rfl) (fun _ _ _ h=>h) ?_;clear H a;intro a H
    refine Zg 8 H rfl (Zc rfl Tu) rfl (by kernel_rfl) (by kernel_rfl) (by kernel_rfl) (by kernel_rfl) (fun _ _ _ h=>h) ?_;clear H a;intro a H
    refine Qr 9 H rfl (Zf rfl (LdC.old ((bY.blk 2 rfl).ld Zk2 rfl) Ext.rfl' (Nat.le_refl _) (by simp))) rfl (by kernel_rfl) (by kernel_rfl) (by kernel_rfl) (by kernel_rfl) (fun _ _ _ h=>h) ?_;clear H a;intro a H
    obtain⟨lQ,lR,jT,kP,kQ⟩:=SlR.formV (cJ.ext (Zi.mono _) hS.x)
    refine Zg 10 H rfl (Qc Tryz.underlying24 rfl jT) rfl (by kernel_rfl) (by kernel_rfl) (by kernel_rfl) (by kernel_rfl) (fun _ _ _ h=>h) ?_;clear H a;intro a H
    replace hm:=Za6 hm;obtain⟨aA,hm⟩:=hm
    replace hm:=Za6 hm;obtain⟨aE,hm⟩:=hm
    replace hm:=Zj hm;obtain⟨aD,aF,hm⟩:=hm
    replace hm:=Za6 hm;obtain⟨aG,hm⟩:=hm
    refine k_four 4 7 11 13 (by kernel_rfl) ?_ ?_ ?_ ?_
    · skip
      refine Uk (e:=eF) (z0:=false) (L:=a0.Events.toNat) (C:=a0.Events.toNat) 4 H rfl Tryz.underlying30 el4 rfl (by show _=some (Value.int .i64 ((Int.toNat a0.Events : Nat) : Int));rw [Int.toNat_of_nonneg aA];rfl) (by show _=some (Value.int .i64 ((Int.toNat a0.Events : Nat) : Int));rw [Int.toNat_of_nonneg aA];rfl) (Nat.le_refl _) aE (by simp only [maxLen];omega) rfl ?_
      clear H;intro aJ lS hN eL hs;clear a;intro a H;replace hS:=hS.newOwn hN eL (by simp [Ga];omega);clear hN
      replace hW:=Nat.le_trans hW eL.size
      refine Zjm 7 11 13 (by kernel_rfl) ?_ ?_ ?_
      · skip
        refine Xg 7 H rfl rfl Zec (Qd (A:=A) (aB.ext (Zi.mono _) hS.x) aF) rfl (fun v w hv=>.inl (ChgF.of_ext (by obtain⟨_,_,hE0⟩:=hv;exact hE0.x))) ?_
        clear H;intro bO lT hv;clear a;intro a H;obtain⟨_,rfl,eM⟩:=hv
        replace hS:=hS.new eM;simp only [List.cons_append,List.nil_append] at hS
        replace hW:=Nat.le_trans hW eM.x.size
        refine Zfe 11 13 (by kernel_rfl) ?_ ?_
        · skip
          refine Hf (L:=a0.Ports.length) (C:=a0.Ports.length) 11 H rfl Tryz.underlying31 Zds rfl rfl (Nat.le_refl _) aG (by simp only [maxLen];omega) rfl ?_
          clear H;intro cP lU hN eN hs;clear a;intro a H;replace hS:=hS.newOwn hN eN (by simp [Ga];omega);clear hN
          replace hS:=St.mkDeep0 (R:=Qe) (z0:=(⟨([] : List ByteArray),0⟩ : GPort)) (n:=a0.Ports.length) rfl (by simp) (fun w=>⟨_,rfl,SlR.nil _ _ _⟩) hS
          replace hW:=Nat.le_trans hW eN.size
          refine Zg 12 H rfl (Qt (cs:=[.int .i64 a0.Id,.int .i64 0,.int .i64 0,.slice none 0 0,.slice none 0 0,.slice none 0 0,.slice (some ⟨aJ,0,none⟩) a0.Events.toNat a0.Events.toNat,bO,.slice (some ⟨cP,0,none⟩) a0.Ports.length a0.Ports.length,.slice none 0 0]) Zbp Zgs Zgt rfl ((Qk rfl rfl (by simp)).trans ((Qk (((hS.own 2 rfl).slr rfl (fun _ _=>rfl))).one rfl (by simp)).trans ((Qk (((hS.own 1 rfl).slr rfl (fun _ _=>rfl))).one rfl (by simp)).trans ((Qk ((hS.deepSl 0 rfl)).one rfl (by simp)).trans rfl))))) rfl (by kernel_rfl) (by kernel_rfl) (by kernel_rfl) (by kernel_rfl) (fun _ _ _ h=>h) ?_;clear H a;intro a H
          refine Zb2 13 H rfl Zbp rfl (by kernel_rfl) ?_
          clear H;intro iL lV hN eO hs;clear a;intro a H
          have cQ : aI.heap.size ≤ iL:=hs ▸ hW
          replace hS:=hS.newBlk hN eO hs;clear hN hs
          replace hW:=Nat.le_trans hW eO.size
          refine Qg 14 H rfl rfl rfl (vs:=[.int .i64 a0.Id,.int .i64 0,.int .i64 0,.slice none 0 0,.slice none 0 0,.slice none 0 0,.slice (some ⟨aJ,0,none⟩) a0.Events.toNat a0.Events.toNat,bO,.slice (some ⟨cP,0,none⟩) a0.Ports.length a0.Ports.length,.slice none 0 0]) rfl Zbz (hS.blk 0 rfl) rfl (by simp [(((hS.own 3 rfl).slr rfl (fun _ _=>rfl))).one,(((hS.own 2 rfl).slr rfl (fun _ _=>rfl))).one,((hS.deepSl 1 rfl)).one]) (by kernel_rfl) (.inl (fun h=>absurd h (Nat.not_lt.2 cQ))) ?_
          clear H;intro lW hN eP hz;clear a;intro a H;replace hS:=hS.setBlk hN eP;clear hN hz;replace hW:=Nat.le_trans hW eP.size
          refine Xc (by kernel_rfl) ?_
          refine Za ?_
          obtain rfl:=Option.some.inj hm;replace hm:=aC;try dsimp only at hm
          replace hS:=hS.pk1
          replace hS:=hS.pk2
          replace hS:=hS.pk3
          replace hS:=hS.pk3
          replace hS:=hS.pk5
          replace hS:=hS.pk6
          replace hS:=hS.tk6
          exact Uy ((List.replicate a0.Events.toNat false),aD,(List.replicate a0.Ports.length (⟨([] : List ByteArray),0⟩ : GPort)),.slice (some ⟨aJ,0,none⟩) a0.Events.toNat a0.Events.toNat,bO,.slice (some ⟨cP,0,none⟩) a0.Ports.length a0.Ports.length,iL) H ⟨rfl,rfl,rfl,trivial⟩ ⟨hm,hS⟩
        refine Gz 13 H rfl Zbp rfl ?_
        clear H;intro iM lX hN eQ hs;clear a;intro a H
        have cR : aI.heap.size ≤ iM:=hs ▸ hW
        replace hS:=hS.newBlk hN eQ hs;clear hN hs
        replace hW:=Nat.le_trans hW eQ.size
        refine Qy 11 (by kernel_rfl) ?_
        refine Hf (L:=a0.Ports.length) (C:=a0.Ports.length) 11 H rfl Tryz.underlying31 Zds rfl rfl (Nat.le_refl _) aG (by simp only [maxLen];omega) rfl ?_
        clear H;intro cT lY hN eR hs;clear a;intro a H;replace hS:=hS.newOwn hN eR (by simp [Ga];omega);clear hN
        replace hS:=St.mkDeep0 (R:=Qe) (z0:=(⟨([] : List ByteArray),0⟩ : GPort)) (n:=a0.Ports.length) rfl (by simp) (fun w=>⟨_,rfl,SlR.nil _ _ _⟩) hS
        replace hW:=Nat.le_trans hW eR.size
        refine Zg 12 H rfl (Qt (cs:=[.int .i64 a0.Id,.int .i64 0,.int .i64 0,.slice none 0 0,.slice none 0 0,.slice none 0 0,.slice (some ⟨aJ,0,none⟩) a0.Events.toNat a0.Events.toNat,bO,.slice (some ⟨cT,0,none⟩) a0.Ports.length a0.Ports.length,.slice none 0 0]) Zbp Zgs Zgt rfl ((Qk rfl rfl (by simp)).trans ((Qk (((hS.own 3 rfl).slr rfl (fun _ _=>rfl))).one rfl (by simp)).trans ((Qk (((hS.own 2 rfl).slr rfl (fun _ _=>rfl))).one rfl (by simp)).trans ((Qk ((hS.deepSl 0 rfl)).one rfl (by simp)).trans rfl))))) rfl (by kernel_rfl) (by kernel_rfl) (by kernel_rfl) (by kernel_rfl) (fun _ _ _ h=>h) ?_;clear H a;intro a H
        replace hS:=hS.pk1
        refine Qg 14 H rfl rfl rfl (vs:=[.int .i64 a0.Id,.int .i64 0,.int .i64 0,.slice none 0 0,.slice none 0 0,.slice none 0 0,.slice (some ⟨aJ,0,none⟩) a0.Events.toNat a0.Events.toNat,bO,.slice (some ⟨cT,0,none⟩) a0.Ports.length a0.Ports.length,.slice none 0 0]) rfl Zbz (hS.blk 0 rfl) rfl (by simp [(((hS.own 3 rfl).slr rfl (fun _ _=>rfl))).one,(((hS.own 2 rfl).slr rfl (fun _ _=>rfl))).one,((hS.deepSl 1 rfl)).one]) (by kernel_rfl) (.inl (fun h=>absurd h (Nat.not_lt.2 cR))) ?_
        clear H;intro lZ hN eT hz;clear a;intro a H;replace hS:=hS.setBlk hN eT;clear hN hz;replace hW:=Nat.le_trans hW eT.size
        refine Xc (by kernel_rfl) ?_
        refine Za ?_
        obtain rfl:=Option.some.inj hm;replace hm:=aC;try dsimp only at hm
        replace hS:=hS.pk1
        replace hS:=hS.pk2
        replace hS:=hS.pk3
        replace hS:=hS.pk3
        replace hS:=hS.pk5
        replace hS:=hS.pk6
        replace hS:=hS.tk6
        exact Uy ((List.replicate a0.Events.toNat false),aD,(List.replicate a0.Ports.length (⟨([] : List ByteArray),0⟩ : GPort)),.slice (some ⟨aJ,0,none⟩) a0.Events.toNat a0.Events.toNat,bO,.slice (some ⟨cT,0,none⟩) a0.Ports.length a0.Ports.length,iM) H ⟨rfl,rfl,rfl,trivial⟩ ⟨hm,hS⟩
      · skip
        refine Hf (L:=a0.Ports.length) (C:=a0.Ports.length) 11 H rfl Tryz.underlying31 Zds rfl rfl (Nat.le_refl _) aG (by simp only [maxLen];omega) rfl ?_
        clear H;intro bP l9 hN eU hs;clear a;intro a H;replace hS:=hS.newOwn hN eU (by simp [Ga];omega);clear hN
        replace hS:=St.mkDeep0 (R:=Qe) (z0:=(⟨([] : List ByteArray),0⟩ : GPort)) (n:=a0.Ports.length) rfl (by simp) (fun w=>⟨_,rfl,SlR.nil _ _ _⟩) hS
        replace hW:=Nat.le_trans hW eU.size
        refine Zfe 7 13 (by kernel_rfl) ?_ ?_
        · skip
          refine Xg 7 H rfl rfl Zec (Qd (A:=A) (aB.ext (Zi.mono _) hS.x) aF) rfl (fun v w hv=>.inl (ChgF.of_ext (by obtain⟨_,_,hE0⟩:=hv;exact hE0.x))) ?_
          clear H;intro cU mA hv;clear a;intro a H;obtain⟨_,rfl,eV⟩:=hv
          replace hS:=hS.new eV;simp only [List.cons_append,List.nil_append] at hS
          replace hW:=Nat.le_trans hW eV.x.size
          refine Zg 12 H rfl (Qt (cs:=[.int .i64 a0.Id,.int .i64 0,.int .i64 0,.slice none 0 0,.slice none 0 0,.slice none 0 0,.slice (some ⟨aJ,0,none⟩) a0.Events.toNat a0.Events.toNat,cU,.slice (some ⟨bP,0,none⟩) a0.Ports.length a0.Ports.length,.slice none 0 0]) Zbp Zgs Zgt rfl ((Qk rfl rfl (by simp)).trans ((Qk (((hS.own 2 rfl).slr rfl (fun _ _=>rfl))).one rfl (by simp)).trans ((Qk (((hS.own 0 rfl).slr rfl (fun _ _=>rfl))).one rfl (by simp)).trans ((Qk ((hS.deepSl 1 rfl)).one rfl (by simp)).trans rfl))))) rfl (by kernel_rfl) (by kernel_rfl) (by kernel_rfl) (by kernel_rfl) (fun _ _ _ h=>h) ?_;clear H a;intro a H
          refine Zb2 13 H rfl Zbp rfl (by kernel_rfl) ?_
          clear H;intro iN mB hN eW hs;clear a;intro a H
          have cV : aI.heap.size ≤ iN:=hs ▸ hW
          replace hS:=hS.newBlk hN eW hs;clear hN hs
          replace hW:=Nat.le_trans hW eW.size
          refine Qg 14 H rfl rfl rfl (vs:=[.int .i64 a0.Id,.int .i64 0,.int .i64 0,.slice none 0 0,.slice none 0 0,.slice none 0 0,.slice (some ⟨aJ,0,none⟩) a0.Events.toNat a0.Events.toNat,cU,.slice (some ⟨bP,0,none⟩) a0.Ports.length a0.Ports.length,.slice none 0 0]) rfl Zbz (hS.blk 0 rfl) rfl (by simp [(((hS.own 3 rfl).slr rfl (fun _ _=>rfl))).one,(((hS.own 1 rfl).slr rfl (fun _ _=>rfl))).one,((hS.deepSl 2 rfl)).one]) (by kernel_rfl) (.inl (fun h=>absurd h (Nat.not_lt.2 cV))) ?_
          clear H;intro mC hN eX hz;clear a;intro a H;replace hS:=hS.setBlk hN eX;clear hN hz;replace hW:=Nat.le_trans hW eX.size
          refine Xc (by kernel_rfl) ?_
          refine Za ?_
          obtain rfl:=Option.some.inj hm;replace hm:=aC;try dsimp only at hm
          replace hS:=hS.pk2
          replace hS:=hS.pk2
          replace hS:=hS.pk3
          replace hS:=hS.pk3
          replace hS:=hS.pk5
          replace hS:=hS.pk6
          replace hS:=hS.tk6
          exact Uy ((List.replicate a0.Events.toNat false),aD,(List.replicate a0.Ports.length (⟨([] : List ByteArray),0⟩ : GPort)),.slice (some ⟨aJ,0,none⟩) a0.Events.toNat a0.Events.toNat,cU,.slice (some ⟨bP,0,none⟩) a0.Ports.length a0.Ports.length,iN) H ⟨rfl,rfl,rfl,trivial⟩ ⟨hm,hS⟩
        refine Gz 13 H rfl Zbp rfl ?_
        clear H;intro iO mD hN eY hs;clear a;intro a H
        have cW : aI.heap.size ≤ iO:=hs ▸ hW
        replace hS:=hS.newBlk hN eY hs;clear hN hs
        replace hW:=Nat.le_trans hW eY.size
        refine Qy 7 (by kernel_rfl) ?_
        refine Xg 7 H rfl rfl Zec (Qd (A:=A) (aB.ext (Zi.mono _) hS.x) aF) rfl (fun v w hv=>.inl (ChgF.of_ext (by obtain⟨_,_,hE0⟩:=hv;exact hE0.x))) ?_
        clear H;intro cX mE hv;clear a;intro a H;obtain⟨_,rfl,eZ⟩:=hv
        replace hS:=hS.new eZ;simp only [List.cons_append,List.nil_append] at hS
        replace hW:=Nat.le_trans hW eZ.x.size
        refine Zg 12 H rfl (Qt (cs:=[.int .i64 a0.Id,.int .i64 0,.int .i64 0,.slice none 0 0,.slice none 0 0,.slice none 0 0,.slice (some ⟨aJ,0,none⟩) a0.Events.toNat a0.Events.toNat,cX,.slice (some ⟨bP,0,none⟩) a0.Ports.length a0.Ports.length,.slice none 0 0]) Zbp Zgs Zgt rfl ((Qk rfl rfl (by simp)).trans ((Qk (((hS.own 3 rfl).slr rfl (fun _ _=>rfl))).one rfl (by simp)).trans ((Qk (((hS.own 0 rfl).slr rfl (fun _ _=>rfl))).one rfl (by simp)).trans ((Qk ((hS.deepSl 2 rfl)).one rfl (by simp)).trans rfl))))) rfl (by kernel_rfl) (by kernel_rfl) (by kernel_rfl) (by kernel_rfl) (fun _ _ _ h=>h) ?_;clear H a;intro a H
        replace hS:=hS.pk1
        refine Qg 14 H rfl rfl rfl (vs:=[.int .i64 a0.Id,.int .i64 0,.int .i64 0,.slice none 0 0,.slice none 0 0,.slice none 0 0,.slice (some ⟨aJ,0,none⟩) a0.Events.toNat a0.Events.toNat,cX,.slice (some ⟨bP,0,none⟩) a0.Ports.length a0.Ports.length,.slice none 0 0]) rfl Zbz (hS.blk 0 rfl) rfl (by simp [(((hS.own 3 rfl).slr rfl (fun _ _=>rfl))).one,(((hS.own 1 rfl).slr rfl (fun _ _=>rfl))).one,((hS.deepSl 2 rfl)).one]) (by kernel_rfl) (.inl (fun h=>absurd h (Nat.not_lt.2 cW))) ?_
        clear H;intro mF hN e7 hz;clear a;intro a H;replace hS:=hS.setBlk hN e7;clear hN hz;replace hW:=Nat.le_trans hW e7.size
        refine Xc (by kernel_rfl) ?_
        refine Za ?_
        obtain rfl:=Option.some.inj hm;replace hm:=aC;try dsimp only at hm
        replace hS:=hS.pk2
        replace hS:=hS.pk2
        replace hS:=hS.pk3
        replace hS:=hS.pk3
        replace hS:=hS.pk5
        replace hS:=hS.pk6
        replace hS:=hS.tk6
        exact Uy ((List.replicate a0.Events.toNat false),aD,(List.replicate a0.Ports.length (⟨([] : List ByteArray),0⟩ : GPort)),.slice (some ⟨aJ,0,none⟩) a0.Events.toNat a0.Events.toNat,cX,.slice (some ⟨bP,0,none⟩) a0.Ports.length a0.Ports.length,iO) H ⟨rfl,rfl,rfl,trivial⟩ ⟨hm,hS⟩
      refine Gz 13 H rfl Zbp rfl ?_
      clear H;intro cY mG hN e8 hs;clear a;intro a H
      have b9 : aI.heap.size ≤ cY:=hs ▸ hW
      replace hS:=hS.newBlk hN e8 hs;clear hN hs
      replace hW:=Nat.le_trans hW e8.size
      refine Zfe 7 11 (by kernel_rfl) ?_ ?_
      · skip
        refine Xg 7 H rfl rfl Zec (Qd (A:=A) (aB.ext (Zi.mono _) hS.x) aF) rfl (fun v w hv=>.inl (ChgF.of_ext (by obtain⟨_,_,hE0⟩:=hv;exact hE0.x))) ?_
        clear H;intro cZ mH hv;clear a;intro a H;obtain⟨_,rfl,e9⟩:=hv
        replace hS:=hS.new e9;simp only [List.cons_append,List.nil_append] at hS
        replace hW:=Nat.le_trans hW e9.x.size
        refine Qy 11 (by kernel_rfl) ?_
        refine Hf (L:=a0.Ports.length) (C:=a0.Ports.length) 11 H rfl Tryz.underlying31 Zds rfl rfl (Nat.le_refl _) aG (by simp only [maxLen];omega) rfl ?_
        clear H;intro c7 mI hN fA hs;clear a;intro a H;replace hS:=hS.newOwn hN fA (by simp [Ga];omega);clear hN
        replace hS:=St.mkDeep0 (R:=Qe) (z0:=(⟨([] : List ByteArray),0⟩ : GPort)) (n:=a0.Ports.length) rfl (by simp) (fun w=>⟨_,rfl,SlR.nil _ _ _⟩) hS
        replace hW:=Nat.le_trans hW fA.size
        refine Zg 12 H rfl (Qt (cs:=[.int .i64 a0.Id,.int .i64 0,.int .i64 0,.slice none 0 0,.slice none 0 0,.slice none 0 0,.slice (some ⟨aJ,0,none⟩) a0.Events.toNat a0.Events.toNat,cZ,.slice (some ⟨c7,0,none⟩) a0.Ports.length a0.Ports.length,.slice none 0 0]) Zbp Zgs Zgt rfl ((Qk rfl rfl (by simp)).trans ((Qk (((hS.own 3 rfl).slr rfl (fun _ _=>rfl))).one rfl (by simp)).trans ((Qk (((hS.own 1 rfl).slr rfl (fun _ _=>rfl))).one rfl (by simp)).trans ((Qk ((hS.deepSl 0 rfl)).one rfl (by simp)).trans rfl))))) rfl (by kernel_rfl) (by kernel_rfl) (by kernel_rfl) (by kernel_rfl) (fun _ _ _ h=>h) ?_;clear H a;intro a H
        replace hS:=hS.pk2
        refine Qg 14 H rfl rfl rfl (vs:=[.int .i64 a0.Id,.int .i64 0,.int .i64 0,.slice none 0 0,.slice none 0 0,.slice none 0 0,.slice (some ⟨aJ,0,none⟩) a0.Events.toNat a0.Events.toNat,cZ,.slice (some ⟨c7,0,none⟩) a0.Ports.length a0.Ports.length,.slice none 0 0]) rfl Zbz (hS.blk 0 rfl) rfl (by simp [(((hS.own 3 rfl).slr rfl (fun _ _=>rfl))).one,(((hS.own 2 rfl).slr rfl (fun _ _=>rfl))).one,((hS.deepSl 1 rfl)).one]) (by kernel_rfl) (.inl (fun h=>absurd h (Nat.not_lt.2 b9))) ?_
        clear H;intro mJ hN fB hz;clear a;intro a H;replace hS:=hS.setBlk hN fB;clear hN hz;replace hW:=Nat.le_trans hW fB.size
        refine Xc (by kernel_rfl) ?_
        refine Za ?_
        obtain rfl:=Option.some.inj hm;replace hm:=aC;try dsimp only at hm
        replace hS:=hS.pk1
        replace hS:=hS.pk2
        replace hS:=hS.pk3
        replace hS:=hS.pk3
        replace hS:=hS.pk5
        replace hS:=hS.pk6
        replace hS:=hS.tk6
        exact Uy ((List.replicate a0.Events.toNat false),aD,(List.replicate a0.Ports.length (⟨([] : List ByteArray),0⟩ : GPort)),.slice (some ⟨aJ,0,none⟩) a0.Events.toNat a0.Events.toNat,cZ,.slice (some ⟨c7,0,none⟩) a0.Ports.length a0.Ports.length,cY) H ⟨rfl,rfl,rfl,trivial⟩ ⟨hm,hS⟩
      refine Hf (L:=a0.Ports.length) (C:=a0.Ports.length) 11 H rfl Tryz.underlying31 Zds rfl rfl (Nat.le_refl _) aG (by simp only [maxLen];omega) rfl ?_
      clear H;intro c9 mK hN fC hs;clear a;intro a H;replace hS:=hS.newOwn hN fC (by simp [Ga];omega);clear hN
      replace hS:=St.mkDeep0 (R:=Qe) (z0:=(⟨([] : List ByteArray),0⟩ : GPort)) (n:=a0.Ports.length) rfl (by simp) (fun w=>⟨_,rfl,SlR.nil _ _ _⟩) hS
      replace hW:=Nat.le_trans hW fC.size
      refine Qy 7 (by kernel_rfl) ?_
      refine Xg 7 H rfl rfl Zec (Qd (A:=A) (aB.ext (Zi.mono _) hS.x) aF) rfl (fun v w hv=>.inl (ChgF.of_ext (by obtain⟨_,_,hE0⟩:=hv;exact hE0.x))) ?_
      clear H;intro dA mL hv;clear a;intro a H;obtain⟨_,rfl,fD⟩:=hv
      replace hS:=hS.new fD;simp only [List.cons_append,List.nil_append] at hS
      replace hW:=Nat.le_trans hW fD.x.size
      refine Zg 12 H rfl (Qt (cs:=[.int .i64 a0.Id,.int .i64 0,.int .i64 0,.slice none 0 0,.slice none 0 0,.slice none 0 0,.slice (some ⟨aJ,0,none⟩) a0.Events.toNat a0.Events.toNat,dA,.slice (some ⟨c9,0,none⟩) a0.Ports.length a0.Ports.length,.slice none 0 0]) Zbp Zgs Zgt rfl ((Qk rfl rfl (by simp)).trans ((Qk (((hS.own 3 rfl).slr rfl (fun _ _=>rfl))).one rfl (by simp)).trans ((Qk (((hS.own 0 rfl).slr rfl (fun _ _=>rfl))).one rfl (by simp)).trans ((Qk ((hS.deepSl 1 rfl)).one rfl (by simp)).trans rfl))))) rfl (by kernel_rfl) (by kernel_rfl) (by kernel_rfl) (by kernel_rfl) (fun _ _ _ h=>h) ?_;clear H a;intro a H
      replace hS:=hS.pk2
      refine Qg 14 H rfl rfl rfl (vs:=[.int .i64 a0.Id,.int .i64 0,.int .i64 0,.slice none 0 0,.slice none 0 0,.slice none 0 0,.slice (some ⟨aJ,0,none⟩) a0.Events.toNat a0.Events.toNat,dA,.slice (some ⟨c9,0,none⟩) a0.Ports.length a0.Ports.length,.slice none 0 0]) rfl Zbz (hS.blk 0 rfl) rfl (by simp [(((hS.own 3 rfl).slr rfl (fun _ _=>rfl))).one,(((hS.own 1 rfl).slr rfl (fun _ _=>rfl))).one,((hS.deepSl 2 rfl)).one]) (by kernel_rfl) (.inl (fun h=>absurd h (Nat.not_lt.2 b9))) ?_
      clear H;intro mM hN fE hz;clear a;intro a H;replace hS:=hS.setBlk hN fE;clear hN hz;replace hW:=Nat.le_trans hW fE.size
      refine Xc (by kernel_rfl) ?_
      refine Za ?_
      obtain rfl:=Option.some.inj hm;replace hm:=aC;try dsimp only at hm
      replace hS:=hS.pk2
      replace hS:=hS.pk2
      replace hS:=hS.pk3
      replace hS:=hS.pk3
      replace hS:=hS.pk5
      replace hS:=hS.pk6
      replace hS:=hS.tk6
      exact Uy ((List.replicate a0.Events.toNat false),aD,(List.replicate a0.Ports.length (⟨([] : List ByteArray),0⟩ : GPort)),.slice (some ⟨aJ,0,none⟩) a0.Events.toNat a0.Events.toNat,dA,.slice (some ⟨c9,0,none⟩) a0.Ports.length a0.Ports.length,cY) H ⟨rfl,rfl,rfl,trivial⟩ ⟨hm,hS⟩
    · skip
      refine Xg 7 H rfl rfl Zec (Qd (A:=A) (aB.ext (Zi.mono _) hS.x) aF) rfl (fun v w hv=>.inl (ChgF.of_ext (by obtain⟨_,_,hE0⟩:=hv;exact hE0.x))) ?_
      clear H;intro aK mN hv;clear a;intro a H;obtain⟨_,rfl,fF⟩:=hv
      replace hS:=hS.new fF;simp only [List.cons_append,List.nil_append] at hS
      replace hW:=Nat.le_trans hW fF.x.size
      refine Zjm 4 11 13 (by kernel_rfl) ?_ ?_ ?_
      · skip
        refine Uk (e:=eF) (z0:=false) (L:=a0.Events.toNat) (C:=a0.Events.toNat) 4 H rfl Tryz.underlying30 el4 rfl (by show _=some (Value.int .i64 ((Int.toNat a0.Events : Nat) : Int));rw [Int.toNat_of_nonneg aA];rfl) (by show _=some (Value.int .i64 ((Int.toNat a0.Events : Nat) : Int));rw [Int.toNat_of_nonneg aA];rfl) (Nat.le_refl _) aE (by simp only [maxLen];omega) rfl ?_
        clear H;intro bQ mO hN fG hs;clear a;intro a H;replace hS:=hS.newOwn hN fG (by simp [Ga];omega);clear hN
        replace hW:=Nat.le_trans hW fG.size
        refine Zfe 11 13 (by kernel_rfl) ?_ ?_
        · skip
          refine Hf (L:=a0.Ports.length) (C:=a0.Ports.length) 11 H rfl Tryz.underlying31 Zds rfl rfl (Nat.le_refl _) aG (by simp only [maxLen];omega) rfl ?_
          clear H;intro dB mP hN fH hs;clear a;intro a H;replace hS:=hS.newOwn hN fH (by simp [Ga];omega);clear hN
          replace hS:=St.mkDeep0 (R:=Qe) (z0:=(⟨([] : List ByteArray),0⟩ : GPort)) (n:=a0.Ports.length) rfl (by simp) (fun w=>⟨_,rfl,SlR.nil _ _ _⟩) hS
          replace hW:=Nat.le_trans hW fH.size
          refine Zg 12 H rfl (Qt (cs:=[.int .i64 a0.Id,.int .i64 0,.int .i64 0,.slice none 0 0,.slice none 0 0,.slice none 0 0,.slice (some ⟨bQ,0,none⟩) a0.Events.toNat a0.Events.toNat,aK,.slice (some ⟨dB,0,none⟩) a0.Ports.length a0.Ports.length,.slice none 0 0]) Zbp Zgs Zgt rfl ((Qk rfl rfl (by simp)).trans ((Qk (((hS.own 1 rfl).slr rfl (fun _ _=>rfl))).one rfl (by simp)).trans ((Qk (((hS.own 2 rfl).slr rfl (fun _ _=>rfl))).one rfl (by simp)).trans ((Qk ((hS.deepSl 0 rfl)).one rfl (by simp)).trans rfl))))) rfl (by kernel_rfl) (by kernel_rfl) (by kernel_rfl) (by kernel_rfl) (fun _ _ _ h=>h) ?_;clear H a;intro a H
          refine Zb2 13 H rfl Zbp rfl (by kernel_rfl) ?_
          clear H;intro iP mQ hN fI hs;clear a;intro a H
          have dC : aI.heap.size ≤ iP:=hs ▸ hW
          replace hS:=hS.newBlk hN fI hs;clear hN hs
          replace hW:=Nat.le_trans hW fI.size
          refine Qg 14 H rfl rfl rfl (vs:=[.int .i64 a0.Id,.int .i64 0,.int .i64 0,.slice none 0 0,.slice none 0 0,.slice none 0 0,.slice (some ⟨bQ,0,none⟩) a0.Events.toNat a0.Events.toNat,aK,.slice (some ⟨dB,0,none⟩) a0.Ports.length a0.Ports.length,.slice none 0 0]) rfl Zbz (hS.blk 0 rfl) rfl (by simp [(((hS.own 2 rfl).slr rfl (fun _ _=>rfl))).one,(((hS.own 3 rfl).slr rfl (fun _ _=>rfl))).one,((hS.deepSl 1 rfl)).one]) (by kernel_rfl) (.inl (fun h=>absurd h (Nat.not_lt.2 dC))) ?_
          clear H;intro mR hN fJ hz;clear a;intro a H;replace hS:=hS.setBlk hN fJ;clear hN hz;replace hW:=Nat.le_trans hW fJ.size
          refine Xc (by kernel_rfl) ?_
          refine Za ?_
          obtain rfl:=Option.some.inj hm;replace hm:=aC;try dsimp only at hm
          replace hS:=hS.pk1
          replace hS:=hS.pk3
          replace hS:=hS.pk3
          replace hS:=hS.pk3
          replace hS:=hS.pk5
          replace hS:=hS.pk6
          replace hS:=hS.tk6
          exact Uy ((List.replicate a0.Events.toNat false),aD,(List.replicate a0.Ports.length (⟨([] : List ByteArray),0⟩ : GPort)),.slice (some ⟨bQ,0,none⟩) a0.Events.toNat a0.Events.toNat,aK,.slice (some ⟨dB,0,none⟩) a0.Ports.length a0.Ports.length,iP) H ⟨rfl,rfl,rfl,trivial⟩ ⟨hm,hS⟩
        refine Gz 13 H rfl Zbp rfl ?_
        clear H;intro iQ mS hN fK hs;clear a;intro a H
        have dD : aI.heap.size ≤ iQ:=hs ▸ hW
        replace hS:=hS.newBlk hN fK hs;clear hN hs
        replace hW:=Nat.le_trans hW fK.size
        refine Qy 11 (by kernel_rfl) ?_
        refine Hf (L:=a0.Ports.length) (C:=a0.Ports.length) 11 H rfl Tryz.underlying31 Zds rfl rfl (Nat.le_refl _) aG (by simp only [maxLen];omega) rfl ?_
        clear H;intro dE mT hN fL hs;clear a;intro a H;replace hS:=hS.newOwn hN fL (by simp [Ga];omega);clear hN
        replace hS:=St.mkDeep0 (R:=Qe) (z0:=(⟨([] : List ByteArray),0⟩ : GPort)) (n:=a0.Ports.length) rfl (by simp) (fun w=>⟨_,rfl,SlR.nil _ _ _⟩) hS
        replace hW:=Nat.le_trans hW fL.size
        refine Zg 12 H rfl (Qt (cs:=[.int .i64 a0.Id,.int .i64 0,.int .i64 0,.slice none 0 0,.slice none 0 0,.slice none 0 0,.slice (some ⟨bQ,0,none⟩) a0.Events.toNat a0.Events.toNat,aK,.slice (some ⟨dE,0,none⟩) a0.Ports.length a0.Ports.length,.slice none 0 0]) Zbp Zgs Zgt rfl ((Qk rfl rfl (by simp)).trans ((Qk (((hS.own 2 rfl).slr rfl (fun _ _=>rfl))).one rfl (by simp)).trans ((Qk (((hS.own 3 rfl).slr rfl (fun _ _=>rfl))).one rfl (by simp)).trans ((Qk ((hS.deepSl 0 rfl)).one rfl (by simp)).trans rfl))))) rfl (by kernel_rfl) (by kernel_rfl) (by kernel_rfl) (by kernel_rfl) (fun _ _ _ h=>h) ?_;clear H a;intro a H
        replace hS:=hS.pk1
        refine Qg 14 H rfl rfl rfl (vs:=[.int .i64 a0.Id,.int .i64 0,.int .i64 0,.slice none 0 0,.slice none 0 0,.slice none 0 0,.slice (some ⟨bQ,0,none⟩) a0.Events.toNat a0.Events.toNat,aK,.slice (some ⟨dE,0,none⟩) a0.Ports.length a0.Ports.length,.slice none 0 0]) rfl Zbz (hS.blk 0 rfl) rfl (by simp [(((hS.own 2 rfl).slr rfl (fun _ _=>rfl))).one,(((hS.own 3 rfl).slr rfl (fun _ _=>rfl))).one,((hS.deepSl 1 rfl)).one]) (by kernel_rfl) (.inl (fun h=>absurd h (Nat.not_lt.2 dD))) ?_
        clear H;intro mU hN fM hz;clear a;intro a H;replace hS:=hS.setBlk hN fM;clear hN hz;replace hW:=Nat.le_trans hW fM.size
        refine Xc (by kernel_rfl) ?_
        refine Za ?_
        obtain rfl:=Option.some.inj hm;replace hm:=aC;try dsimp only at hm
        replace hS:=hS.pk1
        replace hS:=hS.pk3
        replace hS:=hS.pk3
        replace hS:=hS.pk3
        replace hS:=hS.pk5
        replace hS:=hS.pk6
        replace hS:=hS.tk6
        exact Uy ((List.replicate a0.Events.toNat false),aD,(List.replicate a0.Ports.length (⟨([] : List ByteArray),0⟩ : GPort)),.slice (some ⟨bQ,0,none⟩) a0.Events.toNat a0.Events.toNat,aK,.slice (some ⟨dE,0,none⟩) a0.Ports.length a0.Ports.length,iQ) H ⟨rfl,rfl,rfl,trivial⟩ ⟨hm,hS⟩
      · skip
        refine Hf (L:=a0.Ports.length) (C:=a0.Ports.length) 11 H rfl Tryz.underlying31 Zds rfl rfl (Nat.le_refl _) aG (by simp only [maxLen];omega) rfl ?_
        clear H;intro bR mV hN fN hs;clear a;intro a H;replace hS:=hS.newOwn hN fN (by simp [Ga];omega);clear hN
        replace hS:=St.mkDeep0 (R:=Qe) (z0:=(⟨([] : List ByteArray),0⟩ : GPort)) (n:=a0.Ports.length) rfl (by simp) (fun w=>⟨_,rfl,SlR.nil _ _ _⟩) hS
        replace hW:=Nat.le_trans hW fN.size
        refine Zfe 4 13 (by kernel_rfl) ?_ ?_
        · skip
          refine Uk (e:=eF) (z0:=false) (L:=a0.Events.toNat) (C:=a0.Events.toNat) 4 H rfl Tryz.underlying30 el4 rfl (by show _=some (Value.int .i64 ((Int.toNat a0.Events : Nat) : Int));rw [Int.toNat_of_nonneg aA];rfl) (by show _=some (Value.int .i64 ((Int.toNat a0.Events : Nat) : Int));rw [Int.toNat_of_nonneg aA];rfl) (Nat.le_refl _) aE (by simp only [maxLen];omega) rfl ?_
          clear H;intro dF mW hN fO hs;clear a;intro a H;replace hS:=hS.newOwn hN fO (by simp [Ga];omega);clear hN
          replace hW:=Nat.le_trans hW fO.size
          refine Zg 12 H rfl (Qt (cs:=[.int .i64 a0.Id,.int .i64 0,.int .i64 0,.slice none 0 0,.slice none 0 0,.slice none 0 0,.slice (some ⟨dF,0,none⟩) a0.Events.toNat a0.Events.toNat,aK,.slice (some ⟨bR,0,none⟩) a0.Ports.length a0.Ports.length,.slice none 0 0]) Zbp Zgs Zgt rfl ((Qk rfl rfl (by simp)).trans ((Qk (((hS.own 0 rfl).slr rfl (fun _ _=>rfl))).one rfl (by simp)).trans ((Qk (((hS.own 2 rfl).slr rfl (fun _ _=>rfl))).one rfl (by simp)).trans ((Qk ((hS.deepSl 1 rfl)).one rfl (by simp)).trans rfl))))) rfl (by kernel_rfl) (by kernel_rfl) (by kernel_rfl) (by kernel_rfl) (fun _ _ _ h=>h) ?_;clear H a;intro a H
          refine Zb2 13 H rfl Zbp rfl (by kernel_rfl) ?_
          clear H;intro iR mX hN fP hs;clear a;intro a H
          have dG : aI.heap.size ≤ iR:=hs ▸ hW
          replace hS:=hS.newBlk hN fP hs;clear hN hs
          replace hW:=Nat.le_trans hW fP.size
          refine Qg 14 H rfl rfl rfl (vs:=[.int .i64 a0.Id,.int .i64 0,.int .i64 0,.slice none 0 0,.slice none 0 0,.slice none 0 0,.slice (some ⟨dF,0,none⟩) a0.Events.toNat a0.Events.toNat,aK,.slice (some ⟨bR,0,none⟩) a0.Ports.length a0.Ports.length,.slice none 0 0]) rfl Zbz (hS.blk 0 rfl) rfl (by simp [(((hS.own 1 rfl).slr rfl (fun _ _=>rfl))).one,(((hS.own 3 rfl).slr rfl (fun _ _=>rfl))).one,((hS.deepSl 2 rfl)).one]) (by kernel_rfl) (.inl (fun h=>absurd h (Nat.not_lt.2 dG))) ?_
          clear H;intro mY hN fQ hz;clear a;intro a H;replace hS:=hS.setBlk hN fQ;clear hN hz;replace hW:=Nat.le_trans hW fQ.size
          refine Xc (by kernel_rfl) ?_
          refine Za ?_
          obtain rfl:=Option.some.inj hm;replace hm:=aC;try dsimp only at hm
          replace hS:=hS.pk2
          replace hS:=hS.pk3
          replace hS:=hS.pk3
          replace hS:=hS.pk3
          replace hS:=hS.pk5
          replace hS:=hS.pk6
          replace hS:=hS.tk6
          exact Uy ((List.replicate a0.Events.toNat false),aD,(List.replicate a0.Ports.length (⟨([] : List ByteArray),0⟩ : GPort)),.slice (some ⟨dF,0,none⟩) a0.Events.toNat a0.Events.toNat,aK,.slice (some ⟨bR,0,none⟩) a0.Ports.length a0.Ports.length,iR) H ⟨rfl,rfl,rfl,trivial⟩ ⟨hm,hS⟩
        refine Gz 13 H rfl Zbp rfl ?_
        clear H;intro iS mZ hN fR hs;clear a;intro a H
        have dH : aI.heap.size ≤ iS:=hs ▸ hW
        replace hS:=hS.newBlk hN fR hs;clear hN hs
        replace hW:=Nat.le_trans hW fR.size
        refine Qy 4 (by kernel_rfl) ?_
        refine Uk (e:=eF) (z0:=false) (L:=a0.Events.toNat) (C:=a0.Events.toNat) 4 H rfl Tryz.underlying30 el4 rfl (by show _=some (Value.int .i64 ((Int.toNat a0.Events : Nat) : Int));rw [Int.toNat_of_nonneg aA];rfl) (by show _=some (Value.int .i64 ((Int.toNat a0.Events : Nat) : Int));rw [Int.toNat_of_nonneg aA];rfl) (Nat.le_refl _) aE (by simp only [maxLen];omega) rfl ?_
        clear H;intro dI m3 hN fS hs;clear a;intro a H;replace hS:=hS.newOwn hN fS (by simp [Ga];omega);clear hN
        replace hW:=Nat.le_trans hW fS.size
        refine Zg 12 H rfl (Qt (cs:=[.int .i64 a0.Id,.int .i64 0,.int .i64 0,.slice none 0 0,.slice none 0 0,.slice none 0 0,.slice (some ⟨dI,0,none⟩) a0.Events.toNat a0.Events.toNat,aK,.slice (some ⟨bR,0,none⟩) a0.Ports.length a0.Ports.length,.slice none 0 0]) Zbp Zgs Zgt rfl ((Qk rfl rfl (by simp)).trans ((Qk (((hS.own 0 rfl).slr rfl (fun _ _=>rfl))).one rfl (by simp)).trans ((Qk (((hS.own 3 rfl).slr rfl (fun _ _=>rfl))).one rfl (by simp)).trans ((Qk ((hS.deepSl 2 rfl)).one rfl (by simp)).trans rfl))))) rfl (by kernel_rfl) (by kernel_rfl) (by kernel_rfl) (by kernel_rfl) (fun _ _ _ h=>h) ?_;clear H a;intro a H
        replace hS:=hS.pk1
        refine Qg 14 H rfl rfl rfl (vs:=[.int .i64 a0.Id,.int .i64 0,.int .i64 0,.slice none 0 0,.slice none 0 0,.slice none 0 0,.slice (some ⟨dI,0,none⟩) a0.Events.toNat a0.Events.toNat,aK,.slice (some ⟨bR,0,none⟩) a0.Ports.length a0.Ports.length,.slice none 0 0]) rfl Zbz (hS.blk 0 rfl) rfl (by simp [(((hS.own 1 rfl).slr rfl (fun _ _=>rfl))).one,(((hS.own 3 rfl).slr rfl (fun _ _=>rfl))).one,((hS.deepSl 2 rfl)).one]) (by kernel_rfl) (.inl (fun h=>absurd h (Nat.not_lt.2 dH))) ?_
        clear H;intro m4 hN fT hz;clear a;intro a H;replace hS:=hS.setBlk hN fT;clear hN hz;replace hW:=Nat.le_trans hW fT.size
        refine Xc (by kernel_rfl) ?_
        refine Za ?_
        obtain rfl:=Option.some.inj hm;replace hm:=aC;try dsimp only at hm
        replace hS:=hS.pk2
        replace hS:=hS.pk3
        replace hS:=hS.pk3
        replace hS:=hS.pk3
        replace hS:=hS.pk5
        replace hS:=hS.pk6
        replace hS:=hS.tk6
        exact Uy ((List.replicate a0.Events.toNat false),aD,(List.replicate a0.Ports.length (⟨([] : List ByteArray),0⟩ : GPort)),.slice (some ⟨dI,0,none⟩) a0.Events.toNat a0.Events.toNat,aK,.slice (some ⟨bR,0,none⟩) a0.Ports.length a0.Ports.length,iS) H ⟨rfl,rfl,rfl,trivial⟩ ⟨hm,hS⟩
      refine Gz 13 H rfl Zbp rfl ?_
      clear H;intro dJ m5 hN fU hs;clear a;intro a H
      have cA : aI.heap.size ≤ dJ:=hs ▸ hW
      replace hS:=hS.newBlk hN fU hs;clear hN hs
      replace hW:=Nat.le_trans hW fU.size
      refine Zfe 4 11 (by kernel_rfl) ?_ ?_
      · skip
        refine Uk (e:=eF) (z0:=false) (L:=a0.Events.toNat) (C:=a0.Events.toNat) 4 H rfl Tryz.underlying30 el4 rfl (by show _=some (Value.int .i64 ((Int.toNat a0.Events : Nat) : Int));rw [Int.toNat_of_nonneg aA];rfl) (by show _=some (Value.int .i64 ((Int.toNat a0.Events : Nat) : Int));rw [Int.toNat_of_nonneg aA];rfl) (Nat.le_refl _) aE (by simp only [maxLen];omega) rfl ?_
        clear H;intro dK m6 hN fV hs;clear a;intro a H;replace hS:=hS.newOwn hN fV (by simp [Ga];omega);clear hN
        replace hW:=Nat.le_trans hW fV.size
        refine Qy 11 (by kernel_rfl) ?_
        refine Hf (L:=a0.Ports.length) (C:=a0.Ports.length) 11 H rfl Tryz.underlying31 Zds rfl rfl (Nat.le_refl _) aG (by simp only [maxLen];omega) rfl ?_
        clear H;intro dL m7 hN fW hs;clear a;intro a H;replace hS:=hS.newOwn hN fW (by simp [Ga];omega);clear hN
        replace hS:=St.mkDeep0 (R:=Qe) (z0:=(⟨([] : List ByteArray),0⟩ : GPort)) (n:=a0.Ports.length) rfl (by simp) (fun w=>⟨_,rfl,SlR.nil _ _ _⟩) hS
        replace hW:=Nat.le_trans hW fW.size
        refine Zg 12 H rfl (Qt (cs:=[.int .i64 a0.Id,.int .i64 0,.int .i64 0,.slice none 0 0,.slice none 0 0,.slice none 0 0,.slice (some ⟨dK,0,none⟩) a0.Events.toNat a0.Events.toNat,aK,.slice (some ⟨dL,0,none⟩) a0.Ports.length a0.Ports.length,.slice none 0 0]) Zbp Zgs Zgt rfl ((Qk rfl rfl (by simp)).trans ((Qk (((hS.own 1 rfl).slr rfl (fun _ _=>rfl))).one rfl (by simp)).trans ((Qk (((hS.own 3 rfl).slr rfl (fun _ _=>rfl))).one rfl (by simp)).trans ((Qk ((hS.deepSl 0 rfl)).one rfl (by simp)).trans rfl))))) rfl (by kernel_rfl) (by kernel_rfl) (by kernel_rfl) (by kernel_rfl) (fun _ _ _ h=>h) ?_;clear H a;intro a H
        replace hS:=hS.pk2
        refine Qg 14 H rfl rfl rfl (vs:=[.int .i64 a0.Id,.int .i64 0,.int .i64 0,.slice none 0 0,.slice none 0 0,.slice none 0 0,.slice (some ⟨dK,0,none⟩) a0.Events.toNat a0.Events.toNat,aK,.slice (some ⟨dL,0,none⟩) a0.Ports.length a0.Ports.length,.slice none 0 0]) rfl Zbz (hS.blk 0 rfl) rfl (by simp [(((hS.own 2 rfl).slr rfl (fun _ _=>rfl))).one,(((hS.own 3 rfl).slr rfl (fun _ _=>rfl))).one,((hS.deepSl 1 rfl)).one]) (by kernel_rfl) (.inl (fun h=>absurd h (Nat.not_lt.2 cA))) ?_
        clear H;intro m8 hN fX hz;clear a;intro a H;replace hS:=hS.setBlk hN fX;clear hN hz;replace hW:=Nat.le_trans hW fX.size
        refine Xc (by kernel_rfl) ?_
        refine Za ?_
        obtain rfl:=Option.some.inj hm;replace hm:=aC;try dsimp only at hm
        replace hS:=hS.pk1
        replace hS:=hS.pk3
        replace hS:=hS.pk3
        replace hS:=hS.pk3
        replace hS:=hS.pk5
        replace hS:=hS.pk6
        replace hS:=hS.tk6
        exact Uy ((List.replicate a0.Events.toNat false),aD,(List.replicate a0.Ports.length (⟨([] : List ByteArray),0⟩ : GPort)),.slice (some ⟨dK,0,none⟩) a0.Events.toNat a0.Events.toNat,aK,.slice (some ⟨dL,0,none⟩) a0.Ports.length a0.Ports.length,dJ) H ⟨rfl,rfl,rfl,trivial⟩ ⟨hm,hS⟩
      refine Hf (L:=a0.Ports.length) (C:=a0.Ports.length) 11 H rfl Tryz.underlying31 Zds rfl rfl (Nat.le_refl _) aG (by simp only [maxLen];omega) rfl ?_
      clear H;intro dM m9 hN fY hs;clear a;intro a H;replace hS:=hS.newOwn hN fY (by simp [Ga];omega);clear hN
      replace hS:=St.mkDeep0 (R:=Qe) (z0:=(⟨([] : List ByteArray),0⟩ : GPort)) (n:=a0.Ports.length) rfl (by simp) (fun w=>⟨_,rfl,SlR.nil _ _ _⟩) hS
      replace hW:=Nat.le_trans hW fY.size
      refine Qy 4 (by kernel_rfl) ?_
      refine Uk (e:=eF) (z0:=false) (L:=a0.Events.toNat) (C:=a0.Events.toNat) 4 H rfl Tryz.underlying30 el4 rfl (by show _=some (Value.int .i64 ((Int.toNat a0.Events : Nat) : Int));rw [Int.toNat_of_nonneg aA];rfl) (by show _=some (Value.int .i64 ((Int.toNat a0.Events : Nat) : Int));rw [Int.toNat_of_nonneg aA];rfl) (Nat.le_refl _) aE (by simp only [maxLen];omega) rfl ?_
      clear H;intro dN nA hN fZ hs;clear a;intro a H;replace hS:=hS.newOwn hN fZ (by simp [Ga];omega);clear hN
      replace hW:=Nat.le_trans hW fZ.size
      refine Zg 12 H rfl (Qt (cs:=[.int .i64 a0.Id,.int .i64 0,.int .i64 0,.slice none 0 0,.slice none 0 0,.slice none 0 0,.slice (some ⟨dN,0,none⟩) a0.Events.toNat a0.Events.toNat,aK,.slice (some ⟨dM,0,none⟩) a0.Ports.length a0.Ports.length,.slice none 0 0]) Zbp Zgs Zgt rfl ((Qk rfl rfl (by simp)).trans ((Qk (((hS.own 0 rfl).slr rfl (fun _ _=>rfl))).one rfl (by simp)).trans ((Qk (((hS.own 3 rfl).slr rfl (fun _ _=>rfl))).one rfl (by simp)).trans ((Qk ((hS.deepSl 1 rfl)).one rfl (by simp)).trans rfl))))) rfl (by kernel_rfl) (by kernel_rfl) (by kernel_rfl) (by kernel_rfl) (fun _ _ _ h=>h) ?_;clear H a;intro a H
      replace hS:=hS.pk2
      refine Qg 14 H rfl rfl rfl (vs:=[.int .i64 a0.Id,.int .i64 0,.int .i64 0,.slice none 0 0,.slice none 0 0,.slice none 0 0,.slice (some ⟨dN,0,none⟩) a0.Events.toNat a0.Events.toNat,aK,.slice (some ⟨dM,0,none⟩) a0.Ports.length a0.Ports.length,.slice none 0 0]) rfl Zbz (hS.blk 0 rfl) rfl (by simp [(((hS.own 1 rfl).slr rfl (fun _ _=>rfl))).one,(((hS.own 3 rfl).slr rfl (fun _ _=>rfl))).one,((hS.deepSl 2 rfl)).one]) (by kernel_rfl) (.inl (fun h=>absurd h (Nat.not_lt.2 cA))) ?_
      clear H;intro nB hN f3 hz;clear a;intro a H;replace hS:=hS.setBlk hN f3;clear hN hz;replace hW:=Nat.le_trans hW f3.size
      refine Xc (by kernel_rfl) ?_
      refine Za ?_
      obtain rfl:=Option.some.inj hm;replace hm:=aC;try dsimp only at hm
      replace hS:=hS.pk2
      replace hS:=hS.pk3
      replace hS:=hS.pk3
      replace hS:=hS.pk3
      replace hS:=hS.pk5
      replace hS:=hS.pk6
      replace hS:=hS.tk6
      exact Uy ((List.replicate a0.Events.toNat false),aD,(List.replicate a0.Ports.length (⟨([] : List ByteArray),0⟩ : GPort)),.slice (some ⟨dN,0,none⟩) a0.Events.toNat a0.Events.toNat,aK,.slice (some ⟨dM,0,none⟩) a0.Ports.length a0.Ports.length,dJ) H ⟨rfl,rfl,rfl,trivial⟩ ⟨hm,hS⟩
    · skip
      refine Hf (L:=a0.Ports.length) (C:=a0.Ports.length) 11 H rfl Tryz.underlying31 Zds rfl rfl (Nat.le_refl _) aG (by simp only [maxLen];omega) rfl ?_
      clear H;intro aL nC hN f5 hs;clear a;intro a H;replace hS:=hS.newOwn hN f5 (by simp [Ga];omega);clear hN
      replace hS:=St.mkDeep0 (R:=Qe) (z0:=(⟨([] : List ByteArray),0⟩ : GPort)) (n:=a0.Ports.length) rfl (by simp) (fun w=>⟨_,rfl,SlR.nil _ _ _⟩) hS
      replace hW:=Nat.le_trans hW f5.size
      refine Zjm 4 7 13 (by kernel_rfl) ?_ ?_ ?_
      · skip
        refine Uk (e:=eF) (z0:=false) (L:=a0.Events.toNat) (C:=a0.Events.toNat) 4 H rfl Tryz.underlying30 el4 rfl (by show _=some (Value.int .i64 ((Int.toNat a0.Events : Nat) : Int));rw [Int.toNat_of_nonneg aA];rfl) (by show _=some (Value.int .i64 ((Int.toNat a0.Events : Nat) : Int));rw [Int.toNat_of_nonneg aA];rfl) (Nat.le_refl _) aE (by simp only [maxLen];omega) rfl ?_
        clear H;intro bS nD hN f6 hs;clear a;intro a H;replace hS:=hS.newOwn hN f6 (by simp [Ga];omega);clear hN
        replace hW:=Nat.le_trans hW f6.size
        refine Zfe 7 13 (by kernel_rfl) ?_ ?_
        · skip
          refine Xg 7 H rfl rfl Zec (Qd (A:=A) (aB.ext (Zi.mono _) hS.x) aF) rfl (fun v w hv=>.inl (ChgF.of_ext (by obtain⟨_,_,hE0⟩:=hv;exact hE0.x))) ?_
          clear H;intro dO nE hv;clear a;intro a H;obtain⟨_,rfl,f7⟩:=hv
          replace hS:=hS.new f7;simp only [List.cons_append,List.nil_append] at hS
          replace hW:=Nat.le_trans hW f7.x.size
          refine Zg 12 H rfl (Qt (cs:=[.int .i64 a0.Id,.int .i64 0,.int .i64 0,.slice none 0 0,.slice none 0 0,.slice none 0 0,.slice (some ⟨bS,0,none⟩) a0.Events.toNat a0.Events.toNat,dO,.slice (some ⟨aL,0,none⟩) a0.Ports.length a0.Ports.length,.slice none 0 0]) Zbp Zgs Zgt rfl ((Qk rfl rfl (by simp)).trans ((Qk (((hS.own 1 rfl).slr rfl (fun _ _=>rfl))).one rfl (by simp)).trans ((Qk (((hS.own 0 rfl).slr rfl (fun _ _=>rfl))).one rfl (by simp)).trans ((Qk ((hS.deepSl 2 rfl)).one rfl (by simp)).trans rfl))))) rfl (by kernel_rfl) (by kernel_rfl) (by kernel_rfl) (by kernel_rfl) (fun _ _ _ h=>h) ?_;clear H a;intro a H
          refine Zb2 13 H rfl Zbp rfl (by kernel_rfl) ?_
          clear H;intro iT nF hN f8 hs;clear a;intro a H
          have dP : aI.heap.size ≤ iT:=hs ▸ hW
          replace hS:=hS.newBlk hN f8 hs;clear hN hs
          replace hW:=Nat.le_trans hW f8.size
          refine Qg 14 H rfl rfl rfl (vs:=[.int .i64 a0.Id,.int .i64 0,.int .i64 0,.slice none 0 0,.slice none 0 0,.slice none 0 0,.slice (some ⟨bS,0,none⟩) a0.Events.toNat a0.Events.toNat,dO,.slice (some ⟨aL,0,none⟩) a0.Ports.length a0.Ports.length,.slice none 0 0]) rfl Zbz (hS.blk 0 rfl) rfl (by simp [(((hS.own 2 rfl).slr rfl (fun _ _=>rfl))).one,(((hS.own 1 rfl).slr rfl (fun _ _=>rfl))).one,((hS.deepSl 3 rfl)).one]) (by kernel_rfl) (.inl (fun h=>absurd h (Nat.not_lt.2 dP))) ?_
          clear H;intro nG hN f9 hz;clear a;intro a H;replace hS:=hS.setBlk hN f9;clear hN hz;replace hW:=Nat.le_trans hW f9.size
          refine Xc (by kernel_rfl) ?_
          refine Za ?_
          obtain rfl:=Option.some.inj hm;replace hm:=aC;try dsimp only at hm
          replace hS:=hS.pk3
          replace hS:=hS.pk2
          replace hS:=hS.pk3
          replace hS:=hS.pk3
          replace hS:=hS.pk5
          replace hS:=hS.pk6
          replace hS:=hS.tk6
          exact Uy ((List.replicate a0.Events.toNat false),aD,(List.replicate a0.Ports.length (⟨([] : List ByteArray),0⟩ : GPort)),.slice (some ⟨bS,0,none⟩) a0.Events.toNat a0.Events.toNat,dO,.slice (some ⟨aL,0,none⟩) a0.Ports.length a0.Ports.length,iT) H ⟨rfl,rfl,rfl,trivial⟩ ⟨hm,hS⟩
        refine Gz 13 H rfl Zbp rfl ?_
        clear H;intro iU nH hN gA hs;clear a;intro a H
        have dQ : aI.heap.size ≤ iU:=hs ▸ hW
        replace hS:=hS.newBlk hN gA hs;clear hN hs
        replace hW:=Nat.le_trans hW gA.size
        refine Qy 7 (by kernel_rfl) ?_
        refine Xg 7 H rfl rfl Zec (Qd (A:=A) (aB.ext (Zi.mono _) hS.x) aF) rfl (fun v w hv=>.inl (ChgF.of_ext (by obtain⟨_,_,hE0⟩:=hv;exact hE0.x))) ?_
        clear H;intro dR nI hv;clear a;intro a H;obtain⟨_,rfl,gB⟩:=hv
        replace hS:=hS.new gB;simp only [List.cons_append,List.nil_append] at hS
        replace hW:=Nat.le_trans hW gB.x.size
        refine Zg 12 H rfl (Qt (cs:=[.int .i64 a0.Id,.int .i64 0,.int .i64 0,.slice none 0 0,.slice none 0 0,.slice none 0 0,.slice (some ⟨bS,0,none⟩) a0.Events.toNat a0.Events.toNat,dR,.slice (some ⟨aL,0,none⟩) a0.Ports.length a0.Ports.length,.slice none 0 0]) Zbp Zgs Zgt rfl ((Qk rfl rfl (by simp)).trans ((Qk (((hS.own 2 rfl).slr rfl (fun _ _=>rfl))).one rfl (by simp)).trans ((Qk (((hS.own 0 rfl).slr rfl (fun _ _=>rfl))).one rfl (by simp)).trans ((Qk ((hS.deepSl 3 rfl)).one rfl (by simp)).trans rfl))))) rfl (by kernel_rfl) (by kernel_rfl) (by kernel_rfl) (by kernel_rfl) (fun _ _ _ h=>h) ?_;clear H a;intro a H
        replace hS:=hS.pk1
        refine Qg 14 H rfl rfl rfl (vs:=[.int .i64 a0.Id,.int .i64 0,.int .i64 0,.slice none 0 0,.slice none 0 0,.slice none 0 0,.slice (some ⟨bS,0,none⟩) a0.Events.toNat a0.Events.toNat,dR,.slice (some ⟨aL,0,none⟩) a0.Ports.length a0.Ports.length,.slice none 0 0]) rfl Zbz (hS.blk 0 rfl) rfl (by simp [(((hS.own 2 rfl).slr rfl (fun _ _=>rfl))).one,(((hS.own 1 rfl).slr rfl (fun _ _=>rfl))).one,((hS.deepSl 3 rfl)).one]) (by kernel_rfl) (.inl (fun h=>absurd h (Nat.not_lt.2 dQ))) ?_
        clear H;intro nJ hN gC hz;clear a;intro a H;replace hS:=hS.setBlk hN gC;clear hN hz;replace hW:=Nat.le_trans hW gC.size
        refine Xc (by kernel_rfl) ?_
        refine Za ?_
        obtain rfl:=Option.some.inj hm;replace hm:=aC;try dsimp only at hm
        replace hS:=hS.pk3
        replace hS:=hS.pk2
        replace hS:=hS.pk3
        replace hS:=hS.pk3
        replace hS:=hS.pk5
        replace hS:=hS.pk6
        replace hS:=hS.tk6
        exact Uy ((List.replicate a0.Events.toNat false),aD,(List.replicate a0.Ports.length (⟨([] : List ByteArray),0⟩ : GPort)),.slice (some ⟨bS,0,none⟩) a0.Events.toNat a0.Events.toNat,dR,.slice (some ⟨aL,0,none⟩) a0.Ports.length a0.Ports.length,iU) H ⟨rfl,rfl,rfl,trivial⟩ ⟨hm,hS⟩
      · skip
        refine Xg 7 H rfl rfl Zec (Qd (A:=A) (aB.ext (Zi.mono _) hS.x) aF) rfl (fun v w hv=>.inl (ChgF.of_ext (by obtain⟨_,_,hE0⟩:=hv;exact hE0.x))) ?_
        clear H;intro bT nK hv;clear a;intro a H;obtain⟨_,rfl,gD⟩:=hv
        replace hS:=hS.new gD;simp only [List.cons_append,List.nil_append] at hS
        replace hW:=Nat.le_trans hW gD.x.size
        refine Zfe 4 13 (by kernel_rfl) ?_ ?_
        · skip
          refine Uk (e:=eF) (z0:=false) (L:=a0.Events.toNat) (C:=a0.Events.toNat) 4 H rfl Tryz.underlying30 el4 rfl (by show _=some (Value.int .i64 ((Int.toNat a0.Events : Nat) : Int));rw [Int.toNat_of_nonneg aA];rfl) (by show _=some (Value.int .i64 ((Int.toNat a0.Events : Nat) : Int));rw [Int.toNat_of_nonneg aA];rfl) (Nat.le_refl _) aE (by simp only [maxLen];omega) rfl ?_
          clear H;intro dS nL hN gE hs;clear a;intro a H;replace hS:=hS.newOwn hN gE (by simp [Ga];omega);clear hN
          replace hW:=Nat.le_trans hW gE.size
          refine Zg 12 H rfl (Qt (cs:=[.int .i64 a0.Id,.int .i64 0,.int .i64 0,.slice none 0 0,.slice none 0 0,.slice none 0 0,.slice (some ⟨dS,0,none⟩) a0.Events.toNat a0.Events.toNat,bT,.slice (some ⟨aL,0,none⟩) a0.Ports.length a0.Ports.length,.slice none 0 0]) Zbp Zgs Zgt rfl ((Qk rfl rfl (by simp)).trans ((Qk (((hS.own 0 rfl).slr rfl (fun _ _=>rfl))).one rfl (by simp)).trans ((Qk (((hS.own 1 rfl).slr rfl (fun _ _=>rfl))).one rfl (by simp)).trans ((Qk ((hS.deepSl 2 rfl)).one rfl (by simp)).trans rfl))))) rfl (by kernel_rfl) (by kernel_rfl) (by kernel_rfl) (by kernel_rfl) (fun _ _ _ h=>h) ?_;clear H a;intro a H
          refine Zb2 13 H rfl Zbp rfl (by kernel_rfl) ?_
          clear H;intro iV nM hN gF hs;clear a;intro a H
          have dT : aI.heap.size ≤ iV:=hs ▸ hW
          replace hS:=hS.newBlk hN gF hs;clear hN hs
          replace hW:=Nat.le_trans hW gF.size
          refine Qg 14 H rfl rfl rfl (vs:=[.int .i64 a0.Id,.int .i64 0,.int .i64 0,.slice none 0 0,.slice none 0 0,.slice none 0 0,.slice (some ⟨dS,0,none⟩) a0.Events.toNat a0.Events.toNat,bT,.slice (some ⟨aL,0,none⟩) a0.Ports.length a0.Ports.length,.slice none 0 0]) rfl Zbz (hS.blk 0 rfl) rfl (by simp [(((hS.own 1 rfl).slr rfl (fun _ _=>rfl))).one,(((hS.own 2 rfl).slr rfl (fun _ _=>rfl))).one,((hS.deepSl 3 rfl)).one]) (by kernel_rfl) (.inl (fun h=>absurd h (Nat.not_lt.2 dT))) ?_
          clear H;intro nN hN gG hz;clear a;intro a H;replace hS:=hS.setBlk hN gG;clear hN hz;replace hW:=Nat.le_trans hW gG.size
          refine Xc (by kernel_rfl) ?_
          refine Za ?_
          obtain rfl:=Option.some.inj hm;replace hm:=aC;try dsimp only at hm
          replace hS:=hS.pk3
          replace hS:=hS.pk3
          replace hS:=hS.pk3
          replace hS:=hS.pk3
          replace hS:=hS.pk5
          replace hS:=hS.pk6
          replace hS:=hS.tk6
          exact Uy ((List.replicate a0.Events.toNat false),aD,(List.replicate a0.Ports.length (⟨([] : List ByteArray),0⟩ : GPort)),.slice (some ⟨dS,0,none⟩) a0.Events.toNat a0.Events.toNat,bT,.slice (some ⟨aL,0,none⟩) a0.Ports.length a0.Ports.length,iV) H ⟨rfl,rfl,rfl,trivial⟩ ⟨hm,hS⟩
        refine Gz 13 H rfl Zbp rfl ?_
        clear H;intro iW nO hN gH hs;clear a;intro a H
        have dU : aI.heap.size ≤ iW:=hs ▸ hW
        replace hS:=hS.newBlk hN gH hs;clear hN hs
        replace hW:=Nat.le_trans hW gH.size
        refine Qy 4 (by kernel_rfl) ?_
        refine Uk (e:=eF) (z0:=false) (L:=a0.Events.toNat) (C:=a0.Events.toNat) 4 H rfl Tryz.underlying30 el4 rfl (by show _=some (Value.int .i64 ((Int.toNat a0.Events : Nat) : Int));rw [Int.toNat_of_nonneg aA];rfl) (by show _=some (Value.int .i64 ((Int.toNat a0.Events : Nat) : Int));rw [Int.toNat_of_nonneg aA];rfl) (Nat.le_refl _) aE (by simp only [maxLen];omega) rfl ?_
        clear H;intro dV nP hN gI hs;clear a;intro a H;replace hS:=hS.newOwn hN gI (by simp [Ga];omega);clear hN
        replace hW:=Nat.le_trans hW gI.size
        refine Zg 12 H rfl (Qt (cs:=[.int .i64 a0.Id,.int .i64 0,.int .i64 0,.slice none 0 0,.slice none 0 0,.slice none 0 0,.slice (some ⟨dV,0,none⟩) a0.Events.toNat a0.Events.toNat,bT,.slice (some ⟨aL,0,none⟩) a0.Ports.length a0.Ports.length,.slice none 0 0]) Zbp Zgs Zgt rfl ((Qk rfl rfl (by simp)).trans ((Qk (((hS.own 0 rfl).slr rfl (fun _ _=>rfl))).one rfl (by simp)).trans ((Qk (((hS.own 2 rfl).slr rfl (fun _ _=>rfl))).one rfl (by simp)).trans ((Qk ((hS.deepSl 3 rfl)).one rfl (by simp)).trans rfl))))) rfl (by kernel_rfl) (by kernel_rfl) (by kernel_rfl) (by kernel_rfl) (fun _ _ _ h=>h) ?_;clear H a;intro a H
        replace hS:=hS.pk1
        refine Qg 14 H rfl rfl rfl (vs:=[.int .i64 a0.Id,.int .i64 0,.int .i64 0,.slice none 0 0,.slice none 0 0,.slice none 0 0,.slice (some ⟨dV,0,none⟩) a0.Events.toNat a0.Events.toNat,bT,.slice (some ⟨aL,0,none⟩) a0.Ports.length a0.Ports.length,.slice none 0 0]) rfl Zbz (hS.blk 0 rfl) rfl (by simp [(((hS.own 1 rfl).slr rfl (fun _ _=>rfl))).one,(((hS.own 2 rfl).slr rfl (fun _ _=>rfl))).one,((hS.deepSl 3 rfl)).one]) (by kernel_rfl) (.inl (fun h=>absurd h (Nat.not_lt.2 dU))) ?_
        clear H;intro nQ hN gJ hz;clear a;intro a H;replace hS:=hS.setBlk hN gJ;clear hN hz;replace hW:=Nat.le_trans hW gJ.size
        refine Xc (by kernel_rfl) ?_
        refine Za ?_
        obtain rfl:=Option.some.inj hm;replace hm:=aC;try dsimp only at hm
        replace hS:=hS.pk3
        replace hS:=hS.pk3
        replace hS:=hS.pk3
        replace hS:=hS.pk3
        replace hS:=hS.pk5
        replace hS:=hS.pk6
        replace hS:=hS.tk6
        exact Uy ((List.replicate a0.Events.toNat false),aD,(List.replicate a0.Ports.length (⟨([] : List ByteArray),0⟩ : GPort)),.slice (some ⟨dV,0,none⟩) a0.Events.toNat a0.Events.toNat,bT,.slice (some ⟨aL,0,none⟩) a0.Ports.length a0.Ports.length,iW) H ⟨rfl,rfl,rfl,trivial⟩ ⟨hm,hS⟩
      refine Gz 13 H rfl Zbp rfl ?_
      clear H;intro dW nR hN gK hs;clear a;intro a H
      have cB : aI.heap.size ≤ dW:=hs ▸ hW
      replace hS:=hS.newBlk hN gK hs;clear hN hs
      replace hW:=Nat.le_trans hW gK.size
      refine Zfe 4 7 (by kernel_rfl) ?_ ?_
      · skip
        refine Uk (e:=eF) (z0:=false) (L:=a0.Events.toNat) (C:=a0.Events.toNat) 4 H rfl Tryz.underlying30 el4 rfl (by show _=some (Value.int .i64 ((Int.toNat a0.Events : Nat) : Int));rw [Int.toNat_of_nonneg aA];rfl) (by show _=some (Value.int .i64 ((Int.toNat a0.Events : Nat) : Int));rw [Int.toNat_of_nonneg aA];rfl) (Nat.le_refl _) aE (by simp only [maxLen];omega) rfl ?_
        clear H;intro dX nS hN gL hs;clear a;intro a H;replace hS:=hS.newOwn hN gL (by simp [Ga];omega);clear hN
        replace hW:=Nat.le_trans hW gL.size
        refine Qy 7 (by kernel_rfl) ?_
        refine Xg 7 H rfl rfl Zec (Qd (A:=A) (aB.ext (Zi.mono _) hS.x) aF) rfl (fun v w hv=>.inl (ChgF.of_ext (by obtain⟨_,_,hE0⟩:=hv;exact hE0.x))) ?_
        clear H;intro dY nT hv;clear a;intro a H;obtain⟨_,rfl,gM⟩:=hv
        replace hS:=hS.new gM;simp only [List.cons_append,List.nil_append] at hS
        replace hW:=Nat.le_trans hW gM.x.size
        refine Zg 12 H rfl (Qt (cs:=[.int .i64 a0.Id,.int .i64 0,.int .i64 0,.slice none 0 0,.slice none 0 0,.slice none 0 0,.slice (some ⟨dX,0,none⟩) a0.Events.toNat a0.Events.toNat,dY,.slice (some ⟨aL,0,none⟩) a0.Ports.length a0.Ports.length,.slice none 0 0]) Zbp Zgs Zgt rfl ((Qk rfl rfl (by simp)).trans ((Qk (((hS.own 1 rfl).slr rfl (fun _ _=>rfl))).one rfl (by simp)).trans ((Qk (((hS.own 0 rfl).slr rfl (fun _ _=>rfl))).one rfl (by simp)).trans ((Qk ((hS.deepSl 3 rfl)).one rfl (by simp)).trans rfl))))) rfl (by kernel_rfl) (by kernel_rfl) (by kernel_rfl) (by kernel_rfl) (fun _ _ _ h=>h) ?_;clear H a;intro a H
        replace hS:=hS.pk2
        refine Qg 14 H rfl rfl rfl (vs:=[.int .i64 a0.Id,.int .i64 0,.int .i64 0,.slice none 0 0,.slice none 0 0,.slice none 0 0,.slice (some ⟨dX,0,none⟩) a0.Events.toNat a0.Events.toNat,dY,.slice (some ⟨aL,0,none⟩) a0.Ports.length a0.Ports.length,.slice none 0 0]) rfl Zbz (hS.blk 0 rfl) rfl (by simp [(((hS.own 2 rfl).slr rfl (fun _ _=>rfl))).one,(((hS.own 1 rfl).slr rfl (fun _ _=>rfl))).one,((hS.deepSl 3 rfl)).one]) (by kernel_rfl) (.inl (fun h=>absurd h (Nat.not_lt.2 cB))) ?_
        clear H;intro nU hN gN hz;clear a;intro a H;replace hS:=hS.setBlk hN gN;clear hN hz;replace hW:=Nat.le_trans hW gN.size
        refine Xc (by kernel_rfl) ?_
        refine Za ?_
        obtain rfl:=Option.some.inj hm;replace hm:=aC;try dsimp only at hm
        replace hS:=hS.pk3
        replace hS:=hS.pk2
        replace hS:=hS.pk3
        replace hS:=hS.pk3
        replace hS:=hS.pk5
        replace hS:=hS.pk6
        replace hS:=hS.tk6
        exact Uy ((List.replicate a0.Events.toNat false),aD,(List.replicate a0.Ports.length (⟨([] : List ByteArray),0⟩ : GPort)),.slice (some ⟨dX,0,none⟩) a0.Events.toNat a0.Events.toNat,dY,.slice (some ⟨aL,0,none⟩) a0.Ports.length a0.Ports.length,dW) H ⟨rfl,rfl,rfl,trivial⟩ ⟨hm,hS⟩
      refine Xg 7 H rfl rfl Zec (Qd (A:=A) (aB.ext (Zi.mono _) hS.x) aF) rfl (fun v w hv=>.inl (ChgF.of_ext (by obtain⟨_,_,hE0⟩:=hv;exact hE0.x))) ?_
      clear H;intro dZ nV hv;clear a;intro a H;obtain⟨_,rfl,gO⟩:=hv
      replace hS:=hS.new gO;simp only [List.cons_append,List.nil_append] at hS
      replace hW:=Nat.le_trans hW gO.x.size
      refine Qy 4 (by kernel_rfl) ?_
      refine Uk (e:=eF) (z0:=false) (L:=a0.Events.toNat) (C:=a0.Events.toNat) 4 H rfl Tryz.underlying30 el4 rfl (by show _=some (Value.int .i64 ((Int.toNat a0.Events : Nat) : Int));rw [Int.toNat_of_nonneg aA];rfl) (by show _=some (Value.int .i64 ((Int.toNat a0.Events : Nat) : Int));rw [Int.toNat_of_nonneg aA];rfl) (Nat.le_refl _) aE (by simp only [maxLen];omega) rfl ?_
      clear H;intro d5 nW hN gP hs;clear a;intro a H;replace hS:=hS.newOwn hN gP (by simp [Ga];omega);clear hN
      replace hW:=Nat.le_trans hW gP.size
      refine Zg 12 H rfl (Qt (cs:=[.int .i64 a0.Id,.int .i64 0,.int .i64 0,.slice none 0 0,.slice none 0 0,.slice none 0 0,.slice (some ⟨d5,0,none⟩) a0.Events.toNat a0.Events.toNat,dZ,.slice (some ⟨aL,0,none⟩) a0.Ports.length a0.Ports.length,.slice none 0 0]) Zbp Zgs Zgt rfl ((Qk rfl rfl (by simp)).trans ((Qk (((hS.own 0 rfl).slr rfl (fun _ _=>rfl))).one rfl (by simp)).trans ((Qk (((hS.own 1 rfl).slr rfl (fun _ _=>rfl))).one rfl (by simp)).trans ((Qk ((hS.deepSl 3 rfl)).one rfl (by simp)).trans rfl))))) rfl (by kernel_rfl) (by kernel_rfl) (by kernel_rfl) (by kernel_rfl) (fun _ _ _ h=>h) ?_;clear H a;intro a H
      replace hS:=hS.pk2
      refine Qg 14 H rfl rfl rfl (vs:=[.int .i64 a0.Id,.int .i64 0,.int .i64 0,.slice none 0 0,.slice none 0 0,.slice none 0 0,.slice (some ⟨d5,0,none⟩) a0.Events.toNat a0.Events.toNat,dZ,.slice (some ⟨aL,0,none⟩) a0.Ports.length a0.Ports.length,.slice none 0 0]) rfl Zbz (hS.blk 0 rfl) rfl (by simp [(((hS.own 1 rfl).slr rfl (fun _ _=>rfl))).one,(((hS.own 2 rfl).slr rfl (fun _ _=>rfl))).one,((hS.deepSl 3 rfl)).one]) (by kernel_rfl) (.inl (fun h=>absurd h (Nat.not_lt.2 cB))) ?_
      clear H;intro nX hN gQ hz;clear a;intro a H;replace hS:=hS.setBlk hN gQ;clear hN hz;replace hW:=Nat.le_trans hW gQ.size
      refine Xc (by kernel_rfl) ?_
      refine Za ?_
      obtain rfl:=Option.some.inj hm;replace hm:=aC;try dsimp only at hm
      replace hS:=hS.pk3
      replace hS:=hS.pk3
      replace hS:=hS.pk3
      replace hS:=hS.pk3
      replace hS:=hS.pk5
      replace hS:=hS.pk6
      replace hS:=hS.tk6
      exact Uy ((List.replicate a0.Events.toNat false),aD,(List.replicate a0.Ports.length (⟨([] : List ByteArray),0⟩ : GPort)),.slice (some ⟨d5,0,none⟩) a0.Events.toNat a0.Events.toNat,dZ,.slice (some ⟨aL,0,none⟩) a0.Ports.length a0.Ports.length,dW) H ⟨rfl,rfl,rfl,trivial⟩ ⟨hm,hS⟩
    refine Gz 13 H rfl Zbp rfl ?_
    clear H;intro bG nY hN gR hs;clear a;intro a H
    have aO : aI.heap.size ≤ bG:=hs ▸ hW
    replace hS:=hS.newBlk hN gR hs;clear hN hs
    replace hW:=Nat.le_trans hW gR.size
    refine Zjm 4 7 11 (by kernel_rfl) ?_ ?_ ?_
    · skip
      refine Uk (e:=eF) (z0:=false) (L:=a0.Events.toNat) (C:=a0.Events.toNat) 4 H rfl Tryz.underlying30 el4 rfl (by show _=some (Value.int .i64 ((Int.toNat a0.Events : Nat) : Int));rw [Int.toNat_of_nonneg aA];rfl) (by show _=some (Value.int .i64 ((Int.toNat a0.Events : Nat) : Int));rw [Int.toNat_of_nonneg aA];rfl) (Nat.le_refl _) aE (by simp only [maxLen];omega) rfl ?_
      clear H;intro bU nZ hN gS hs;clear a;intro a H;replace hS:=hS.newOwn hN gS (by simp [Ga];omega);clear hN
      replace hW:=Nat.le_trans hW gS.size
      refine Zfe 7 11 (by kernel_rfl) ?_ ?_
      · skip
        refine Xg 7 H rfl rfl Zec (Qd (A:=A) (aB.ext (Zi.mono _) hS.x) aF) rfl (fun v w hv=>.inl (ChgF.of_ext (by obtain⟨_,_,hE0⟩:=hv;exact hE0.x))) ?_
        clear H;intro d6 n6 hv;clear a;intro a H;obtain⟨_,rfl,gT⟩:=hv
        replace hS:=hS.new gT;simp only [List.cons_append,List.nil_append] at hS
        replace hW:=Nat.le_trans hW gT.x.size
        refine Qy 11 (by kernel_rfl) ?_
        refine Hf (L:=a0.Ports.length) (C:=a0.Ports.length) 11 H rfl Tryz.underlying31 Zds rfl rfl (Nat.le_refl _) aG (by simp only [maxLen];omega) rfl ?_
        clear H;intro d7 n7 hN gU hs;clear a;intro a H;replace hS:=hS.newOwn hN gU (by simp [Ga];omega);clear hN
        replace hS:=St.mkDeep0 (R:=Qe) (z0:=(⟨([] : List ByteArray),0⟩ : GPort)) (n:=a0.Ports.length) rfl (by simp) (fun w=>⟨_,rfl,SlR.nil _ _ _⟩) hS
        replace hW:=Nat.le_trans hW gU.size
        refine Zg 12 H rfl (Qt (cs:=[.int .i64 a0.Id,.int .i64 0,.int .i64 0,.slice none 0 0,.slice none 0 0,.slice none 0 0,.slice (some ⟨bU,0,none⟩) a0.Events.toNat a0.Events.toNat,d6,.slice (some ⟨d7,0,none⟩) a0.Ports.length a0.Ports.length,.slice none 0 0]) Zbp Zgs Zgt rfl ((Qk rfl rfl (by simp)).trans ((Qk (((hS.own 2 rfl).slr rfl (fun _ _=>rfl))).one rfl (by simp)).trans ((Qk (((hS.own 1 rfl).slr rfl (fun _ _=>rfl))).one rfl (by simp)).trans ((Qk ((hS.deepSl 0 rfl)).one rfl (by simp)).trans rfl))))) rfl (by kernel_rfl) (by kernel_rfl) (by kernel_rfl) (by kernel_rfl) (fun _ _ _ h=>h) ?_;clear H a;intro a H
        replace hS:=hS.pk3
        refine Qg 14 H rfl rfl rfl (vs:=[.int .i64 a0.Id,.int .i64 0,.int .i64 0,.slice none 0 0,.slice none 0 0,.slice none 0 0,.slice (some ⟨bU,0,none⟩) a0.Events.toNat a0.Events.toNat,d6,.slice (some ⟨d7,0,none⟩) a0.Ports.length a0.Ports.length,.slice none 0 0]) rfl Zbz (hS.blk 0 rfl) rfl (by simp [(((hS.own 3 rfl).slr rfl (fun _ _=>rfl))).one,(((hS.own 2 rfl).slr rfl (fun _ _=>rfl))).one,((hS.deepSl 1 rfl)).one]) (by kernel_rfl) (.inl (fun h=>absurd h (Nat.not_lt.2 aO))) ?_
        clear H;intro n8 hN gV hz;clear a;intro a H;replace hS:=hS.setBlk hN gV;clear hN hz;replace hW:=Nat.le_trans hW gV.size
        refine Xc (by kernel_rfl) ?_
        refine Za ?_
        obtain rfl:=Option.some.inj hm;replace hm:=aC;try dsimp only at hm
        replace hS:=hS.pk1
        replace hS:=hS.pk2
        replace hS:=hS.pk3
        replace hS:=hS.pk3
        replace hS:=hS.pk5
        replace hS:=hS.pk6
        replace hS:=hS.tk6
        exact Uy ((List.replicate a0.Events.toNat false),aD,(List.replicate a0.Ports.length (⟨([] : List ByteArray),0⟩ : GPort)),.slice (some ⟨bU,0,none⟩) a0.Events.toNat a0.Events.toNat,d6,.slice (some ⟨d7,0,none⟩) a0.Ports.length a0.Ports.length,bG) H ⟨rfl,rfl,rfl,trivial⟩ ⟨hm,hS⟩
      refine Hf (L:=a0.Ports.length) (C:=a0.Ports.length) 11 H rfl Tryz.underlying31 Zds rfl rfl (Nat.le_refl _) aG (by simp only [maxLen];omega) rfl ?_
      clear H;intro d8 n9 hN gW hs;clear a;intro a H;replace hS:=hS.newOwn hN gW (by simp [Ga];omega);clear hN
      replace hS:=St.mkDeep0 (R:=Qe) (z0:=(⟨([] : List ByteArray),0⟩ : GPort)) (n:=a0.Ports.length) rfl (by simp) (fun w=>⟨_,rfl,SlR.nil _ _ _⟩) hS
      replace hW:=Nat.le_trans hW gW.size
      refine Qy 7 (by kernel_rfl) ?_
      refine Xg 7 H rfl rfl Zec (Qd (A:=A) (aB.ext (Zi.mono _) hS.x) aF) rfl (fun v w hv=>.inl (ChgF.of_ext (by obtain⟨_,_,hE0⟩:=hv;exact hE0.x))) ?_
      clear H;intro d9 oA hv;clear a;intro a H;obtain⟨_,rfl,gX⟩:=hv
      replace hS:=hS.new gX;simp only [List.cons_append,List.nil_append] at hS
      replace hW:=Nat.le_trans hW gX.x.size
      refine Zg 12 H rfl (Qt (cs:=[.int .i64 a0.Id,.int .i64 0,.int .i64 0,.slice none 0 0,.slice none 0 0,.slice none 0 0,.slice (some ⟨bU,0,none⟩) a0.Events.toNat a0.Events.toNat,d9,.slice (some ⟨d8,0,none⟩) a0.Ports.length a0.Ports.length,.slice none 0 0]) Zbp Zgs Zgt rfl ((Qk rfl rfl (by simp)).trans ((Qk (((hS.own 2 rfl).slr rfl (fun _ _=>rfl))).one rfl (by simp)).trans ((Qk (((hS.own 0 rfl).slr rfl (fun _ _=>rfl))).one rfl (by simp)).trans ((Qk ((hS.deepSl 1 rfl)).one rfl (by simp)).trans rfl))))) rfl (by kernel_rfl) (by kernel_rfl) (by kernel_rfl) (by kernel_rfl) (fun _ _ _ h=>h) ?_;clear H a;intro a H
      replace hS:=hS.pk3
      refine Qg 14 H rfl rfl rfl (vs:=[.int .i64 a0.Id,.int .i64 0,.int .i64 0,.slice none 0 0,.slice none 0 0,.slice none 0 0,.slice (some ⟨bU,0,none⟩) a0.Events.toNat a0.Events.toNat,d9,.slice (some ⟨d8,0,none⟩) a0.Ports.length a0.Ports.length,.slice none 0 0]) rfl Zbz (hS.blk 0 rfl) rfl (by simp [(((hS.own 3 rfl).slr rfl (fun _ _=>rfl))).one,(((hS.own 1 rfl).slr rfl (fun _ _=>rfl))).one,((hS.deepSl 2 rfl)).one]) (by kernel_rfl) (.inl (fun h=>absurd h (Nat.not_lt.2 aO))) ?_
      clear H;intro oB hN gY hz;clear a;intro a H;replace hS:=hS.setBlk hN gY;clear hN hz;replace hW:=Nat.le_trans hW gY.size
      refine Xc (by kernel_rfl) ?_
      refine Za ?_
      obtain rfl:=Option.some.inj hm;replace hm:=aC;try dsimp only at hm
      replace hS:=hS.pk2
      replace hS:=hS.pk2
      replace hS:=hS.pk3
      replace hS:=hS.pk3
      replace hS:=hS.pk5
      replace hS:=hS.pk6
      replace hS:=hS.tk6
      exact Uy ((List.replicate a0.Events.toNat false),aD,(List.replicate a0.Ports.length (⟨([] : List ByteArray),0⟩ : GPort)),.slice (some ⟨bU,0,none⟩) a0.Events.toNat a0.Events.toNat,d9,.slice (some ⟨d8,0,none⟩) a0.Ports.length a0.Ports.length,bG) H ⟨rfl,rfl,rfl,trivial⟩ ⟨hm,hS⟩
    · skip
      refine Xg 7 H rfl rfl Zec (Qd (A:=A) (aB.ext (Zi.mono _) hS.x) aF) rfl (fun v w hv=>.inl (ChgF.of_ext (by obtain⟨_,_,hE0⟩:=hv;exact hE0.x))) ?_
      clear H;intro bV oC hv;clear a;intro a H;obtain⟨_,rfl,gZ⟩:=hv
      replace hS:=hS.new gZ;simp only [List.cons_append,List.nil_append] at hS
      replace hW:=Nat.le_trans hW gZ.x.size
      refine Zfe 4 11 (by kernel_rfl) ?_ ?_
      · skip
        refine Uk (e:=eF) (z0:=false) (L:=a0.Events.toNat) (C:=a0.Events.toNat) 4 H rfl Tryz.underlying30 el4 rfl (by show _=some (Value.int .i64 ((Int.toNat a0.Events : Nat) : Int));rw [Int.toNat_of_nonneg aA];rfl) (by show _=some (Value.int .i64 ((Int.toNat a0.Events : Nat) : Int));rw [Int.toNat_of_nonneg aA];rfl) (Nat.le_refl _) aE (by simp only [maxLen];omega) rfl ?_
        clear H;intro eA oD hN g6 hs;clear a;intro a H;replace hS:=hS.newOwn hN g6 (by simp [Ga];omega);clear hN
        replace hW:=Nat.le_trans hW g6.size
        refine Qy 11 (by kernel_rfl) ?_
        refine Hf (L:=a0.Ports.length) (C:=a0.Ports.length) 11 H rfl Tryz.underlying31 Zds rfl rfl (Nat.le_refl _) aG (by simp only [maxLen];omega) rfl ?_
        clear H;intro eC oE hN g7 hs;clear a;intro a H;replace hS:=hS.newOwn hN g7 (by simp [Ga];omega);clear hN
        replace hS:=St.mkDeep0 (R:=Qe) (z0:=(⟨([] : List ByteArray),0⟩ : GPort)) (n:=a0.Ports.length) rfl (by simp) (fun w=>⟨_,rfl,SlR.nil _ _ _⟩) hS
        replace hW:=Nat.le_trans hW g7.size
        refine Zg 12 H rfl (Qt (cs:=[.int .i64 a0.Id,.int .i64 0,.int .i64 0,.slice none 0 0,.slice none 0 0,.slice none 0 0,.slice (some ⟨eA,0,none⟩) a0.Events.toNat a0.Events.toNat,bV,.slice (some ⟨eC,0,none⟩) a0.Ports.length a0.Ports.length,.slice none 0 0]) Zbp Zgs Zgt rfl ((Qk rfl rfl (by simp)).trans ((Qk (((hS.own 1 rfl).slr rfl (fun _ _=>rfl))).one rfl (by simp)).trans ((Qk (((hS.own 2 rfl).slr rfl (fun _ _=>rfl))).one rfl (by simp)).trans ((Qk ((hS.deepSl 0 rfl)).one rfl (by simp)).trans rfl))))) rfl (by kernel_rfl) (by kernel_rfl) (by kernel_rfl) (by kernel_rfl) (fun _ _ _ h=>h) ?_;clear H a;intro a H
        replace hS:=hS.pk3
        refine Qg 14 H rfl rfl rfl (vs:=[.int .i64 a0.Id,.int .i64 0,.int .i64 0,.slice none 0 0,.slice none 0 0,.slice none 0 0,.slice (some ⟨eA,0,none⟩) a0.Events.toNat a0.Events.toNat,bV,.slice (some ⟨eC,0,none⟩) a0.Ports.length a0.Ports.length,.slice none 0 0]) rfl Zbz (hS.blk 0 rfl) rfl (by simp [(((hS.own 2 rfl).slr rfl (fun _ _=>rfl))).one,(((hS.own 3 rfl).slr rfl (fun _ _=>rfl))).one,((hS.deepSl 1 rfl)).one]) (by kernel_rfl) (.inl (fun h=>absurd h (Nat.not_lt.2 aO))) ?_
        clear H;intro oF hN g8 hz;clear a;intro a H;replace hS:=hS.setBlk hN g8;clear hN hz;replace hW:=Nat.le_trans hW g8.size
        refine Xc (by kernel_rfl) ?_
        refine Za ?_
        obtain rfl:=Option.some.inj hm;replace hm:=aC;try dsimp only at hm
        replace hS:=hS.pk1
        replace hS:=hS.pk3
        replace hS:=hS.pk3
        replace hS:=hS.pk3
        replace hS:=hS.pk5
        replace hS:=hS.pk6
        replace hS:=hS.tk6
        exact Uy ((List.replicate a0.Events.toNat false),aD,(List.replicate a0.Ports.length (⟨([] : List ByteArray),0⟩ : GPort)),.slice (some ⟨eA,0,none⟩) a0.Events.toNat a0.Events.toNat,bV,.slice (some ⟨eC,0,none⟩) a0.Ports.length a0.Ports.length,bG) H ⟨rfl,rfl,rfl,trivial⟩ ⟨hm,hS⟩
      refine Hf (L:=a0.Ports.length) (C:=a0.Ports.length) 11 H rfl Tryz.underlying31 Zds rfl rfl (Nat.le_refl _) aG (by simp only [maxLen];omega) rfl ?_
      clear H;intro eD oG hN g9 hs;clear a;intro a H;replace hS:=hS.newOwn hN g9 (by simp [Ga];omega);clear hN
      replace hS:=St.mkDeep0 (R:=Qe) (z0:=(⟨([] : List ByteArray),0⟩ : GPort)) (n:=a0.Ports.length) rfl (by simp) (fun w=>⟨_,rfl,SlR.nil _ _ _⟩) hS
      replace hW:=Nat.le_trans hW g9.size
      refine Qy 4 (by kernel_rfl) ?_
      refine Uk (e:=eF) (z0:=false) (L:=a0.Events.toNat) (C:=a0.Events.toNat) 4 H rfl Tryz.underlying30 el4 rfl (by show _=some (Value.int .i64 ((Int.toNat a0.Events : Nat) : Int));rw [Int.toNat_of_nonneg aA];rfl) (by show _=some (Value.int .i64 ((Int.toNat a0.Events : Nat) : Int));rw [Int.toNat_of_nonneg aA];rfl) (Nat.le_refl _) aE (by simp only [maxLen];omega) rfl ?_
      clear H;intro eE oH hN hH hs;clear a;intro a H;replace hS:=hS.newOwn hN hH (by simp [Ga];omega);clear hN
      replace hW:=Nat.le_trans hW hH.size
      refine Zg 12 H rfl (Qt (cs:=[.int .i64 a0.Id,.int .i64 0,.int .i64 0,.slice none 0 0,.slice none 0 0,.slice none 0 0,.slice (some ⟨eE,0,none⟩) a0.Events.toNat a0.Events.toNat,bV,.slice (some ⟨eD,0,none⟩) a0.Ports.length a0.Ports.length,.slice none 0 0]) Zbp Zgs Zgt rfl ((Qk rfl rfl (by simp)).trans ((Qk (((hS.own 0 rfl).slr rfl (fun _ _=>rfl))).one rfl (by simp)).trans ((Qk (((hS.own 2 rfl).slr rfl (fun _ _=>rfl))).one rfl (by simp)).trans ((Qk ((hS.deepSl 1 rfl)).one rfl (by simp)).trans rfl))))) rfl (by kernel_rfl) (by kernel_rfl) (by kernel_rfl) (by kernel_rfl) (fun _ _ _ h=>h) ?_;clear H a;intro a H
      replace hS:=hS.pk3
      refine Qg 14 H rfl rfl rfl (vs:=[.int .i64 a0.Id,.int .i64 0,.int .i64 0,.slice none 0 0,.slice none 0 0,.slice none 0 0,.slice (some ⟨eE,0,none⟩) a0.Events.toNat a0.Events.toNat,bV,.slice (some ⟨eD,0,none⟩) a0.Ports.length a0.Ports.length,.slice none 0 0]) rfl Zbz (hS.blk 0 rfl) rfl (by simp [(((hS.own 1 rfl).slr rfl (fun _ _=>rfl))).one,(((hS.own 3 rfl).slr rfl (fun _ _=>rfl))).one,((hS.deepSl 2 rfl)).one]) (by kernel_rfl) (.inl (fun h=>absurd h (Nat.not_lt.2 aO))) ?_
      clear H;intro oI hN hJ hz;clear a;intro a H;replace hS:=hS.setBlk hN hJ;clear hN hz;replace hW:=Nat.le_trans hW hJ.size
      refine Xc (by kernel_rfl) ?_
      refine Za ?_
      obtain rfl:=Option.some.inj hm;replace hm:=aC;try dsimp only at hm
      replace hS:=hS.pk2
      replace hS:=hS.pk3
      replace hS:=hS.pk3
      replace hS:=hS.pk3
      replace hS:=hS.pk5
      replace hS:=hS.pk6
      replace hS:=hS.tk6
      exact Uy ((List.replicate a0.Events.toNat false),aD,(List.replicate a0.Ports.length (⟨([] : List ByteArray),0⟩ : GPort)),.slice (some ⟨eE,0,none⟩) a0.Events.toNat a0.Events.toNat,bV,.slice (some ⟨eD,0,none⟩) a0.Ports.length a0.Ports.length,bG) H ⟨rfl,rfl,rfl,trivial⟩ ⟨hm,hS⟩
    refine Hf (L:=a0.Ports.length) (C:=a0.Ports.length) 11 H rfl Tryz.underlying31 Zds rfl rfl (Nat.le_refl _) aG (by simp only [maxLen];omega) rfl ?_
    clear H;intro bW oJ hN hU hs;clear a;intro a H;replace hS:=hS.newOwn hN hU (by simp [Ga];omega);clear hN
    replace hS:=St.mkDeep0 (R:=Qe) (z0:=(⟨([] : List ByteArray),0⟩ : GPort)) (n:=a0.Ports.length) rfl (by simp) (fun w=>⟨_,rfl,SlR.nil _ _ _⟩) hS
    replace hW:=Nat.le_trans hW hU.size
    refine Zfe 4 7 (by kernel_rfl) ?_ ?_
    · skip
      refine Uk (e:=eF) (z0:=false) (L:=a0.Events.toNat) (C:=a0.Events.toNat) 4 H rfl Tryz.underlying30 el4 rfl (by show _=some (Value.int .i64 ((Int.toNat a0.Events : Nat) : Int));rw [Int.toNat_of_nonneg aA];rfl) (by show _=some (Value.int .i64 ((Int.toNat a0.Events : Nat) : Int));rw [Int.toNat_of_nonneg aA];rfl) (Nat.le_refl _) aE (by simp only [maxLen];omega) rfl ?_
      clear H;intro eG oK hN hY hs;clear a;intro a H;replace hS:=hS.newOwn hN hY (by simp [Ga];omega);clear hN
      replace hW:=Nat.le_trans hW hY.size
      refine Qy 7 (by kernel_rfl) ?_
      refine Xg 7 H rfl rfl Zec (Qd (A:=A) (aB.ext (Zi.mono _) hS.x) aF) rfl (fun v w hv=>.inl (ChgF.of_ext (by obtain⟨_,_,hE0⟩:=hv;exact hE0.x))) ?_
      clear H;intro eH oL hv;clear a;intro a H;obtain⟨_,rfl,hZ⟩:=hv
      replace hS:=hS.new hZ;simp only [List.cons_append,List.nil_append] at hS
      replace hW:=Nat.le_trans hW hZ.x.size
      refine Zg 12 H rfl (Qt (cs:=[.int .i64 a0.Id,.int .i64 0,.int .i64 0,.slice none 0 0,.slice none 0 0,.slice none 0 0,.slice (some ⟨eG,0,none⟩) a0.Events.toNat a0.Events.toNat,eH,.slice (some ⟨bW,0,none⟩) a0.Ports.length a0.Ports.length,.slice none 0 0]) Zbp Zgs Zgt rfl ((Qk rfl rfl (by simp)).trans ((Qk (((hS.own 1 rfl).slr rfl (fun _ _=>rfl))).one rfl (by simp)).trans ((Qk (((hS.own 0 rfl).slr rfl (fun _ _=>rfl))).one rfl (by simp)).trans ((Qk ((hS.deepSl 2 rfl)).one rfl (by simp)).trans rfl))))) rfl (by kernel_rfl) (by kernel_rfl) (by kernel_rfl) (by kernel_rfl) (fun _ _ _ h=>h) ?_;clear H a;intro a H
      replace hS:=hS.pk3
      refine Qg 14 H rfl rfl rfl (vs:=[.int .i64 a0.Id,.int .i64 0,.int .i64 0,.slice none 0 0,.slice none 0 0,.slice none 0 0,.slice (some ⟨eG,0,none⟩) a0.Events.toNat a0.Events.toNat,eH,.slice (some ⟨bW,0,none⟩) a0.Ports.length a0.Ports.length,.slice none 0 0]) rfl Zbz (hS.blk 0 rfl) rfl (by simp [(((hS.own 2 rfl).slr rfl (fun _ _=>rfl))).one,(((hS.own 1 rfl).slr rfl (fun _ _=>rfl))).one,((hS.deepSl 3 rfl)).one]) (by kernel_rfl) (.inl (fun h=>absurd h (Nat.not_lt.2 aO))) ?_
      clear H;intro oM hN iA hz;clear a;intro a H;replace hS:=hS.setBlk hN iA;clear hN hz;replace hW:=Nat.le_trans hW iA.size
      refine Xc (by kernel_rfl) ?_
      refine Za ?_
      obtain rfl:=Option.some.inj hm;replace hm:=aC;try dsimp only at hm
      replace hS:=hS.pk3
      replace hS:=hS.pk2
      replace hS:=hS.pk3
      replace hS:=hS.pk3
      replace hS:=hS.pk5
      replace hS:=hS.pk6
      replace hS:=hS.tk6
      exact Uy ((List.replicate a0.Events.toNat false),aD,(List.replicate a0.Ports.length (⟨([] : List ByteArray),0⟩ : GPort)),.slice (some ⟨eG,0,none⟩) a0.Events.toNat a0.Events.toNat,eH,.slice (some ⟨bW,0,none⟩) a0.Ports.length a0.Ports.length,bG) H ⟨rfl,rfl,rfl,trivial⟩ ⟨hm,hS⟩
    refine Xg 7 H rfl rfl Zec (Qd (A:=A) (aB.ext (Zi.mono _) hS.x) aF) rfl (fun v w hv=>.inl (ChgF.of_ext (by obtain⟨_,_,hE0⟩:=hv;exact hE0.x))) ?_
    clear H;intro eJ oN hv;clear a;intro a H;obtain⟨_,rfl,iB⟩:=hv
    replace hS:=hS.new iB;simp only [List.cons_append,List.nil_append] at hS
    replace hW:=Nat.le_trans hW iB.x.size
    refine Qy 4 (by kernel_rfl) ?_
    refine Uk (e:=eF) (z0:=false) (L:=a0.Events.toNat) (C:=a0.Events.toNat) 4 H rfl Tryz.underlying30 el4 rfl (by show _=some (Value.int .i64 ((Int.toNat a0.Events : Nat) : Int));rw [Int.toNat_of_nonneg aA];rfl) (by show _=some (Value.int .i64 ((Int.toNat a0.Events : Nat) : Int));rw [Int.toNat_of_nonneg aA];rfl) (Nat.le_refl _) aE (by simp only [maxLen];omega) rfl ?_
    clear H;intro eK oO hN iC hs;clear a;intro a H;replace hS:=hS.newOwn hN iC (by simp [Ga];omega);clear hN
    replace hW:=Nat.le_trans hW iC.size
    refine Zg 12 H rfl (Qt (cs:=[.int .i64 a0.Id,.int .i64 0,.int .i64 0,.slice none 0 0,.slice none 0 0,.slice none 0 0,.slice (some ⟨eK,0,none⟩) a0.Events.toNat a0.Events.toNat,eJ,.slice (some ⟨bW,0,none⟩) a0.Ports.length a0.Ports.length,.slice none 0 0]) Zbp Zgs Zgt rfl ((Qk rfl rfl (by simp)).trans ((Qk (((hS.own 0 rfl).slr rfl (fun _ _=>rfl))).one rfl (by simp)).trans ((Qk (((hS.own 1 rfl).slr rfl (fun _ _=>rfl))).one rfl (by simp)).trans ((Qk ((hS.deepSl 2 rfl)).one rfl (by simp)).trans rfl))))) rfl (by kernel_rfl) (by kernel_rfl) (by kernel_rfl) (by kernel_rfl) (fun _ _ _ h=>h) ?_;clear H a;intro a H
    replace hS:=hS.pk3
    refine Qg 14 H rfl rfl rfl (vs:=[.int .i64 a0.Id,.int .i64 0,.int .i64 0,.slice none 0 0,.slice none 0 0,.slice none 0 0,.slice (some ⟨eK,0,none⟩) a0.Events.toNat a0.Events.toNat,eJ,.slice (some ⟨bW,0,none⟩) a0.Ports.length a0.Ports.length,.slice none 0 0]) rfl Zbz (hS.blk 0 rfl) rfl (by simp [(((hS.own 1 rfl).slr rfl (fun _ _=>rfl))).one,(((hS.own 2 rfl).slr rfl (fun _ _=>rfl))).one,((hS.deepSl 3 rfl)).one]) (by kernel_rfl) (.inl (fun h=>absurd h (Nat.not_lt.2 aO))) ?_
    clear H;intro oP hN iD hz;clear a;intro a H;replace hS:=hS.setBlk hN iD;clear hN hz;replace hW:=Nat.le_trans hW iD.size
    refine Xc (by kernel_rfl) ?_
    refine Za ?_
    obtain rfl:=Option.some.inj hm;replace hm:=aC;try dsimp only at hm
    replace hS:=hS.pk3
    replace hS:=hS.pk3
    replace hS:=hS.pk3
    replace hS:=hS.pk3
    replace hS:=hS.pk5
    replace hS:=hS.pk6
    replace hS:=hS.tk6
    exact Uy ((List.replicate a0.Events.toNat false),aD,(List.replicate a0.Ports.length (⟨([] : List ByteArray),0⟩ : GPort)),.slice (some ⟨eK,0,none⟩) a0.Events.toNat a0.Events.toNat,eJ,.slice (some ⟨bW,0,none⟩) a0.Ports.length a0.Ports.length,bG) H ⟨rfl,rfl,rfl,trivial⟩ ⟨hm,hS⟩
  clear H hS hm a;intro xx a oQ H hR
  obtain⟨aV,aW,bF,aR,aS,aT,aY⟩:=xx
  simp only [ent,List.map_cons,List.map_nil] at H;(try dsimp only at hR);obtain⟨hm,hS⟩:=hR;try dsimp only [Zah] at hm
  refine wp_seq (wp_seq (wp_region_lit (n_q H (Zc rfl Zbn) rfl (W_q (Zf rfl ((hS.blk 0 rfl).ld Zom rfl)) rfl ?_))));clear H a;intro a H
  obtain⟨oR,oS,bZ,kR,kS⟩:=SlR.formV (bK.ext (Zi.mono _) hS.x)
  refine n_q H (Qc Tryz.underlying23 rfl bZ) rfl (W_q (Zd rfl) rfl ?_);clear H a;intro a H
  refine Ze (Za (wp_block ?_))
  replace hS:=hS.nilOwn 144 21
  replace hS:=hS.nilOwn 3 1
  replace hS:=hS.pk7
  replace hS:=hS.pk7
  replace hS:=hS.pk7
  replace hS:=hS.pk3
  replace hS:=hS.pk4
  replace hS:=hS.pk7
  replace hS:=hS.pk7
  replace hS:=hS.pk7
  replace hm:=Zj hm;obtain⟨iX,hm,jU⟩:=hm;replace hm:=Ql hm;obtain⟨kF,hm⟩:=hm
  refine Kr (σ:=Nat × Nat × (List GProc) × (List Int) × Value × Value) (fun (m,aN,aU,aZ,aX,a9)=>[(1,.pointer (some ⟨b7,0,none⟩)),(2,.pointer (some ⟨bX,0,none⟩)),(4,.pointer (some ⟨aY,0,none⟩)),(30,bA),(31,.int .i64 ((a0.Procs.length : Nat) : Int)),(32,.int .i64 ((aN : Nat) : Int))]) (fun (m,aN,aU,aZ,aX,a9) wl=>Ye (Gt a0) m (aN,aU,aZ)=some iX ∧ St NB w wl [blkR b7 [.int .i64 a0.Id,.bool a0.Mobile,bD,bA,bH,.int .i64 a0.Events,bI] 27,blkR bX [.int .i64 0,.int .i64 0,.int .i64 0,.slice none 0 0,.slice none 0 0,.slice none 0 0,.slice none 0 0,.slice none 0 0,.slice none 0 0,.slice none 0 0] 34,blkR aY [.int .i64 a0.Id,.int .i64 0,.int .i64 0,aX,a9,.slice none 0 0,aR,aS,aT,.slice none 0 0] 34,ownR 144 21 aX aU.length (aU.flatMap Xf),ownR 3 1 a9 aZ.length (aZ.flatMap eI),ownR 4 1 aR aV.length (aV.flatMap eF),ownR 3 1 aS aW.length (aW.flatMap eI),deepR 154 2 Qe aT bF]) (fun (m,aN,aU,aZ,aX,a9)=>m) (kF,0,([] : List GProc),([] : List Int),.slice none 0 0,.slice none 0 0) H ⟨rfl,rfl,rfl,rfl,rfl,rfl,trivial⟩ ⟨hm,hS⟩ ?_
  clear H hS hm a;intro xx a oT H hR;obtain⟨m,aN,aU,aZ,aX,a9⟩:=xx;simp only [ent,List.map_cons,List.map_nil] at H;(try dsimp only at hR);obtain⟨hm,hS⟩:=hR
  replace hm:=Qh hm;obtain⟨kG,kH,rfl,hm,iE⟩:=hm;try dsimp only [Gt] at hm
  refine wp_seq (wp_region_lit (n_q H (Yc (i:=aN) (j:=a0.Procs.length) rfl rfl) rfl ?_));clear H a;intro a H
  refine Ze (Za (wp_seq (Zn H rfl (fun b6=>?_) (fun b6=>?_))))
  · replace hm:=Zu hm b6
    have kL : aN < a0.Procs.length:=of_decide_eq_true b6
    refine wp_skip (Za (wp_seq (wp_block (wp_seq (wp_region_lit (n_q H (Zd rfl) rfl ?_))))));clear H a;intro a H
    replace hm:=Zj hm;obtain⟨aP,cI,hm⟩:=hm
    obtain⟨kM,cK⟩:=SlR.adV (bK.ext (Zi.mono _) hS.x) bZ cI
    refine n_q H (Ug (i:=aN) Tryz.underlying23 Zay rfl bZ cK rfl (Zb5 cI)) rfl (W_q (Zf rfl (SlR.ldAggV (bK.ext (Zi.mono _) hS.x) bZ cK Zk1 Zay cI)) rfl ?_);clear H a;intro a H
    refine Jb H Zhs rfl ?_
    clear H;intro oU oV hN jV hs;clear a;intro a H
    replace hS:=hS.newBlk hN jV hs;clear hN hs
    refine n_q H (Zb rfl) rfl ?_;clear H a;intro a H
    refine Qi H rfl rfl (vs:=[.int .i64 aP.Entry,.int .i64 aP.Prio,.bool aP.Auto]) rfl Zay (hS.blk 0 rfl) rfl (by simp) ?_
    clear H;intro oW hN jW hz;clear a;intro a H;replace hS:=hS.setBlk hN jW;clear hN hz
    refine Ze (Za (wp_seq (wp_region_lit (n_q H (Zc rfl Zf4) rfl (W_q (Zf rfl ((hS.blk 0 rfl).ld ag3 rfl)) rfl (W_q (Hz Tryz.underlying3 Tryz.underlying101 ⟨_,rfl⟩ rfl) rfl (W_q (Zc rfl Zhp) rfl (W_q (Zf rfl ((hS.blk 0 rfl).ld ag3 rfl)) rfl (W_q (Qt (cs:=((Vector.replicate 16 0).toList.map (Value.int .u32) ++ [.int .u32 (IntKind.u32.wrap aP.Entry),.int .i64 0,.int .i64 aP.Prio,.int .i64 0,.int .i64 0])) Zmu bd144 pl144 rfl (by kernel_rfl)) rfl ?_)))))))));clear H a;intro a H
    refine Jb H Zmu rfl ?_
    clear H;intro iY oX hN jX hs;clear a;intro a H
    replace hS:=hS.newBlk hN jX hs;clear hN hs
    refine Qi H rfl rfl (vs:=((Vector.replicate 16 0).toList.map (Value.int .u32) ++ [.int .u32 (IntKind.u32.wrap aP.Entry),.int .i64 0,.int .i64 aP.Prio,.int .i64 0,.int .i64 0])) rfl (Zcx.trans (by simp)) (hS.blk 0 rfl) (by simp) (Zbf (⟨(Vector.replicate 16 0),(IntKind.u32.wrap aP.Entry),0,aP.Prio,0,0⟩ : GProc)) ?_
    clear H;intro oY hN jY hz;clear a;intro a H;replace hS:=hS.setBlk hN jY;clear hN hz
    refine Ze (Za ?_)
    replace hm:=Zj hm;obtain⟨oZ,hm,iF⟩:=hm
    refine Gm (σ:=(List Int) × GProc × Value) H (fun (bE,aM,bL)=>[(1,.pointer (some ⟨b7,0,none⟩)),(2,.pointer (some ⟨bX,0,none⟩)),(4,.pointer (some ⟨aY,0,none⟩)),(7,.pointer (some ⟨iY,0,none⟩)),(30,bA),(31,.int .i64 ((a0.Procs.length : Nat) : Int)),(32,.int .i64 ((aN : Nat) : Int))]) (fun (bE,aM,bL) wl=>(Zag aN aU) (bE,aM)=some kH ∧ St NB w wl [blkR b7 [.int .i64 a0.Id,.bool a0.Mobile,bD,bA,bH,.int .i64 a0.Events,bI] 27,blkR bX [.int .i64 0,.int .i64 0,.int .i64 0,.slice none 0 0,.slice none 0 0,.slice none 0 0,.slice none 0 0,.slice none 0 0,.slice none 0 0,.slice none 0 0] 34,blkR aY [.int .i64 a0.Id,.int .i64 0,.int .i64 0,aX,bL,.slice none 0 0,aR,aS,aT,.slice none 0 0] 34,ownR 144 21 aX aU.length (aU.flatMap Xf),ownR 3 1 bL bE.length (bE.flatMap eI),ownR 4 1 aR aV.length (aV.flatMap eF),ownR 3 1 aS aW.length (aW.flatMap eI),deepR 154 2 Qe aT bF,blkR iY (aM.Regs.toList.map (Value.int .u32) ++ [.int .u32 aM.Pc,.int .i64 aM.State,.int .i64 aM.Prio,.int .i64 aM.Wait,.int .i64 aM.Obj]) 144]) ?_ ?_
    · skip
      refine wp_seq (wp_region_lit (n_q H (Zc rfl Zmq) rfl (W_q (Zf rfl ((hS.blk 1 rfl).ld ag4 rfl)) rfl ?_)));clear H a;intro a H
      refine Ze (Za (Zn H rfl (fun cC=>?_) (fun cC=>?_)))
      · replace hm:=Zu hm cC
        refine wp_seq (wp_region_lit (n_q H (Zc rfl Ze2) rfl ?_));clear H a;intro a H
        refine Kb H rfl rfl sz3 (hS.blk 0 rfl) (by simp) rfl ?_
        clear H;intro kT hN iZ hz;clear a;intro a H;replace hS:=hS.setBlk hN iZ;clear hN hz
        try simp only [List.set_cons_succ,List.set_cons_zero] at hS
        refine Ze (Za (wp_region_lit (n_q H (Zc rfl Zi8) rfl (W_q (Zf rfl ((hS.blk 4 rfl).ld Zil rfl)) rfl (W_q (Zd rfl) rfl ?_)))));clear H a;intro a H
        refine Qb H Tryz.underlying25 sz3 ze3 rfl rfl rfl (cs:=[.int .i64 ((aN : Nat) : Int)]) (by kernel_rfl) rfl ?_
        clear H;intro kU kV hN i0 hs;clear a;intro a H
        replace hS:=hS.newBlk hN i0 hs;clear hN hs
        replace hS:=hS.blkOwnL (e:=eI) (k:=1) [((aN : Nat) : Int)] rfl rfl (by simp [maxLen])
        replace hS:=hS.pk7
        replace hm:=Za6 hm;obtain⟨i9,hm⟩:=hm
        refine Zbv (e:=eI) H rfl rfl Tryz.underlying25 Tryz.underlying25 (by simp) el3 (hS.own 0 rfl) (((hS.own 1 rfl).slr rfl (fun _ _=>rfl)).src (fun _ _=>rfl)) Zhg i9 (by simp only [maxLen];omega) rfl ?_
        clear H;intro jZ kW hN jA hb;clear a;intro a H;replace hS:=hS.setOwn hN jA hb;clear hN hb
        refine n_q H (Zc rfl Zi8) rfl ?_;clear H a;intro a H
        replace hS:=hS.pk6
        refine Kb H rfl rfl sz25 (hS.blk 0 rfl) (by simp) (((hS.own 1 rfl).slr rfl (fun _ _=>rfl))).one ?_
        clear H;intro kX hN jB hz;clear a;intro a H;replace hS:=hS.setBlk hN jB;clear hN hz
        try simp only [List.set_cons_succ,List.set_cons_zero] at hS
        refine Ze (Za ?_)
        obtain rfl:=Option.some.inj hm;replace hm:=iF;try dsimp only at hm
        replace hS:=hS.pk3
        replace hS:=hS.pk10
        replace hS:=hS.pk10
        replace hS:=hS.pk10
        replace hS:=hS.pk5
        replace hS:=hS.pk10
        replace hS:=hS.pk6
        replace hS:=hS.pk10
        replace hS:=hS.pk10
        replace hS:=hS.tk9
        exact Uy ((aZ ++ [((aN : Nat) : Int)]),(⟨(Vector.replicate 16 0),(IntKind.u32.wrap aP.Entry),1,aP.Prio,0,0⟩ : GProc),jZ) H ⟨rfl,rfl,rfl,rfl,rfl,rfl,rfl,trivial⟩ ⟨hm,hS⟩
      replace hm:=Zv hm cC
      refine wp_skip (Za ?_)
      obtain rfl:=Option.some.inj hm;replace hm:=iF;try dsimp only at hm
      replace hS:=hS.pk9
      replace hS:=hS.pk9
      replace hS:=hS.pk9
      replace hS:=hS.pk9
      replace hS:=hS.pk9
      replace hS:=hS.pk9
      replace hS:=hS.pk9
      replace hS:=hS.pk9
      replace hS:=hS.tk9
      exact Uy (aZ,(⟨(Vector.replicate 16 0),(IntKind.u32.wrap aP.Entry),0,aP.Prio,0,0⟩ : GProc),a9) H ⟨rfl,rfl,rfl,rfl,rfl,rfl,rfl,trivial⟩ ⟨hm,hS⟩
    clear H hS hm a;intro xx a kY H hR
    obtain⟨bE,aM,bL⟩:=xx
    simp only [ent,List.map_cons,List.map_nil] at H;(try dsimp only at hR);obtain⟨hm,hS⟩:=hR;try dsimp only [Zag] at hm
    refine wp_region_lit (n_q H (Zc rfl Zaq) rfl (W_q (Zf rfl ((hS.blk 2 rfl).ld Zmt rfl)) rfl (W_q (Zf rfl ((hS.blk 8 rfl).ldAll Zp5 (Zcx.trans (by simp)))) rfl ?_)));clear H a;intro a H
    refine Qb H Tryz.underlying28 Zcx Zmu rfl rfl rfl (cs:=[aM].flatMap Xf) ((Zny (k:=21) (ds:=Xf aM) (by rfl) (by simp [Xf]) (by rfl)).trans (by simp)) rfl ?_
    clear H;intro kZ lA hN jC hs;clear a;intro a H
    replace hS:=hS.newBlk hN jC hs;clear hN hs
    replace hS:=hS.blkOwnL (e:=Xf) (k:=21) [aM] rfl (by simp [Xf]) (by simp [maxLen])
    replace hS:=hS.pk4
    replace hm:=Za6 hm;obtain⟨jD,hm⟩:=hm
    refine Zbv (e:=Xf) H rfl rfl Tryz.underlying28 Tryz.underlying28 (by simp) el144 (hS.own 0 rfl) (((hS.own 1 rfl).slr rfl (fun x _=>Xk x)).src (fun x _=>Xk x)) Zbf jD (by simp only [maxLen];omega) rfl ?_
    clear H;intro j0 lB hN jE hb;clear a;intro a H;replace hS:=hS.setOwn hN jE hb;clear hN hb
    refine n_q H (Zc rfl Zaq) rfl ?_;clear H a;intro a H
    replace hS:=hS.pk4
    refine Kb H rfl rfl sz28 (hS.blk 0 rfl) (by simp) (((hS.own 1 rfl).slr rfl (fun x _=>Xk x))).one ?_
    clear H;intro lC hN jF hz;clear a;intro a H;replace hS:=hS.setBlk hN jF;clear hN hz
    try simp only [List.set_cons_succ,List.set_cons_zero] at hS
    refine Ze (Zo (Za (wp_region_lit (n_q H (Yt (i:=aN) (j:=1) rfl rfl (by omega)) rfl (W_q (Zd rfl) rfl ?_)))));clear H a;intro a H
    refine Ze (Za ?_)
    obtain rfl:=Option.some.inj hm
    replace hS:=hS.pk8
    replace hS:=hS.pk8
    replace hS:=hS.pk8
    replace hS:=hS.pk8
    replace hS:=hS.pk5
    replace hS:=hS.pk5
    replace hS:=hS.pk8
    replace hS:=hS.pk8
    replace hS:=hS.tk8
    exact Uz (kG,aN + 1,(aU ++ [aM]),bE,j0,bL) H ⟨rfl,rfl,rfl,rfl,rfl,rfl,trivial⟩ ⟨iE,hS⟩ (Nat.lt_succ_self _)
  replace hm:=Zv hm b6
  refine wp_exit (Zr (Zr (Qf ?_)))
  obtain rfl:=Option.some.inj hm;have hz : _=iX:=iE;subst hz;replace hm:=jU;try dsimp only at hm
  refine Za (wp_seq (wp_seq (wp_region_lit (n_q H (Zc rfl Zap) rfl (W_q (Zf rfl ((hS.blk 0 rfl).ld Zmo rfl)) rfl ?_)))));clear H a;intro a H
  obtain⟨lD,lE,bM,kN,kO⟩:=SlR.formV (bJ.ext (Zi.mono _) hS.x)
  refine n_q H (Qc Tryz.underlying22 rfl bM) rfl (W_q (Zd rfl) rfl ?_);clear H a;intro a H
  refine Ze (Za (wp_block ?_))
  replace hS:=hS.nilOwn 82 66
  replace hS:=hS.pk8
  replace hS:=hS.pk8
  replace hS:=hS.pk8
  replace hS:=hS.pk8
  replace hS:=hS.pk8
  replace hS:=hS.pk8
  replace hS:=hS.pk8
  replace hS:=hS.tk8
  replace hm:=Zj hm;obtain⟨iG,hm,jG⟩:=hm;replace hm:=Ql hm;obtain⟨j1,hm⟩:=hm
  refine Kr (σ:=Nat × Nat × (List GPage) × Value) (fun (m,aQ,bB,bC)=>[(2,.pointer (some ⟨bX,0,none⟩)),(4,.pointer (some ⟨aY,0,none⟩)),(60,bD),(61,.int .i64 ((a0.Pages.length : Nat) : Int)),(62,.int .i64 ((aQ : Nat) : Int))]) (fun (m,aQ,bB,bC) wl=>Ye (Gs a0) m (aQ,bB)=some iG ∧ St NB w wl [blkR bX [.int .i64 0,.int .i64 0,.int .i64 0,.slice none 0 0,.slice none 0 0,.slice none 0 0,.slice none 0 0,.slice none 0 0,.slice none 0 0,.slice none 0 0] 34,blkR aY [.int .i64 a0.Id,.int .i64 0,.int .i64 0,aX,a9,.slice none 0 0,aR,aS,aT,bC] 34,ownR 144 21 aX aU.length (aU.flatMap Xf),ownR 3 1 a9 aZ.length (aZ.flatMap eI),ownR 4 1 aR aV.length (aV.flatMap eF),ownR 3 1 aS aW.length (aW.flatMap eI),deepR 154 2 Qe aT bF,ownR 82 66 bC bB.length (bB.flatMap Jr)]) (fun (m,aQ,bB,bC)=>m) (j1,0,([] : List GPage),.slice none 0 0) H ⟨rfl,rfl,rfl,rfl,rfl,trivial⟩ ⟨hm,hS⟩ ?_
  clear H hS hm a;intro xx a lF H hR;obtain⟨m,aQ,bB,bC⟩:=xx;simp only [ent,List.map_cons,List.map_nil] at H;(try dsimp only at hR);obtain⟨hm,hS⟩:=hR
  replace hm:=Qh hm;obtain⟨j2,lG,rfl,hm,cL⟩:=hm;try dsimp only [Gs] at hm
  refine wp_seq (wp_region_lit (n_q H (Yc (i:=aQ) (j:=a0.Pages.length) rfl rfl) rfl ?_));clear H a;intro a H
  refine Ze (Za (wp_seq (Zn H rfl (fun bN=>?_) (fun bN=>?_))))
  · replace hm:=Zu hm bN
    have kI : aQ < a0.Pages.length:=of_decide_eq_true bN
    refine wp_skip (Za (wp_seq (wp_block (wp_seq (wp_region_lit ?_)))))
    replace hm:=Zj hm;obtain⟨aH,cD,hm⟩:=hm
    obtain⟨kJ,cG⟩:=SlR.adV (bJ.ext (Zi.mono _) hS.x) bM cD
    refine n_q H (Ug (i:=aQ) Tryz.underlying22 Zax rfl bM cG rfl (Zb5 cD)) rfl (W_q (Zf rfl (SlR.ldAggV (bJ.ext (Zi.mono _) hS.x) bM cG Zk0 Zax cD)) rfl ?_);clear H a;intro a H
    refine Jb H Zgo rfl ?_
    clear H;intro lH lI hN jH hs;clear a;intro a H
    replace hS:=hS.newBlk hN jH hs;clear hN hs
    refine Qi H rfl rfl (vs:=[.int .i64 aH.Rights,.string aH.Init]) rfl Zax (hS.blk 0 rfl) rfl (by simp) ?_
    clear H;intro lJ hN jI hz;clear a;intro a H;replace hS:=hS.setBlk hN jI;clear hN hz
    refine Ze (Za (wp_seq (wp_region_lit (n_q H (Zc rfl Zho) rfl (W_q (Zf rfl ((hS.blk 0 rfl).ld ag3 rfl)) rfl (W_q (Qt (cs:=([.int .i64 aH.Rights,.bool false] ++ (Vector.replicate 64 0).toList.map (fun b : UInt8=>Value.int .u8 (b.toNat : Int)))) ze82 bd82 pl82 rfl (by kernel_rfl)) rfl ?_))))));clear H a;intro a H
    refine Jb H ze82 rfl ?_
    clear H;intro j3 lK hN jJ hs;clear a;intro a H
    replace hS:=hS.newBlk hN jJ hs;clear hN hs
    refine Qi H rfl rfl (vs:=([.int .i64 aH.Rights,.bool false] ++ (Vector.replicate 64 0).toList.map (fun b : UInt8=>Value.int .u8 (b.toNat : Int)))) rfl (sz82.trans (by simp)) (hS.blk 0 rfl) (by simp) (Zf3 (⟨aH.Rights,false,(Vector.replicate 64 0)⟩ : GPage)) ?_
    clear H;intro iH hN jK hz;clear a;intro a H;replace hS:=hS.setBlk hN jK;clear hN hz
    refine Ze (Za (wp_seq (Tm [] 4 (by kernel_rfl) ?_)))
    obtain⟨iI,cF⟩ : ∃ x,x=iH.drew:=⟨_,rfl⟩;rw [← cF];have jL : Ext iH iI:=by rw [cF];exact Ext.drew' _
    clear cF
    replace hS:=hS.ext jL
    have jM:=hS
    have hW:=Nat.le_refl iI.heap.size
    refine Zg 0 H rfl (Zc rfl fo82_2) rfl (by kernel_rfl) (by kernel_rfl) (by kernel_rfl) (by kernel_rfl) (fun _ _ _ h=>h) ?_;clear H a;intro a H
    refine Zg 1 H rfl (Zoh Tryz.underlying80 sz5 rfl (by decide)) rfl (by kernel_rfl) (by kernel_rfl) (by kernel_rfl) (by kernel_rfl) (fun _ _ _ h=>h) ?_;clear H a;intro a H
    refine Zg 2 H rfl (Zc rfl Zmp) rfl (by kernel_rfl) (by kernel_rfl) (by kernel_rfl) (by kernel_rfl) (fun _ _ _ h=>h) ?_;clear H a;intro a H
    refine Qr 3 H rfl (Zf rfl (LdC.old ((jM.blk 1 rfl).ld ag9 rfl) Ext.rfl' (Nat.le_refl _) (by simp))) rfl (by kernel_rfl) (by kernel_rfl) (by kernel_rfl) (by kernel_rfl) (fun _ _ _ h=>h) ?_;clear H a;intro a H
    refine Zpw 4 H rfl Tryz.underlying100 sz5 rfl rfl (hS.blk 0 rfl) (by simp) rfl (by kernel_rfl) (.inr (by kernel_rfl)) ?_
    clear H;intro j4 hN cM hz;clear a;intro a H;replace hN:=(congrArg (fun z=>Blk j4 j3 z 82) (Zpx (A:=[Value.int .i64 aH.Rights,Value.bool false]) (v:=(Vector.replicate 64 0)) (s:=aH.Init))).mp hN;replace hS:=hS.setBlk hN cM;clear hN hz;replace hW:=Nat.le_trans hW cM.size
    refine Xc (by kernel_rfl) ?_
    refine Za (wp_region_lit (n_q H (Zc rfl Zgj) rfl (W_q (Zf rfl ((hS.blk 3 rfl).ld ag32 rfl)) rfl (W_q (Zf rfl ((hS.blk 0 rfl).ldAll ag82 (sz82.trans (by simp)))) rfl ?_))));clear H a;intro a H
    refine Qb H Tryz.underlying32 sz82 ze82 rfl rfl rfl (cs:=[(⟨aH.Rights,false,(Zq4 (Vector.replicate 64 0) aH.Init)⟩ : GPage)].flatMap Jr) ((Zny (k:=66) (ds:=Jr (⟨aH.Rights,false,(Zq4 (Vector.replicate 64 0) aH.Init)⟩ : GPage)) (by rfl) (by simp [Jr]) (by rfl)).trans (by simp)) rfl ?_
    clear H;intro lL lM hN jN hs;clear a;intro a H
    replace hS:=hS.newBlk hN jN hs;clear hN hs
    replace hS:=hS.blkOwnL (e:=Jr) (k:=66) [(⟨aH.Rights,false,(Zq4 (Vector.replicate 64 0) aH.Init)⟩ : GPage)] rfl (by simp [Jr]) (by simp [maxLen])
    replace hS:=hS.pk10
    replace hm:=Za6 hm;obtain⟨jO,hm⟩:=hm
    refine Zbv (e:=Jr) H rfl rfl Tryz.underlying32 Tryz.underlying32 (by simp) el82 (hS.own 0 rfl) (((hS.own 1 rfl).slr rfl (fun x _=>Kz x)).src (fun x _=>Kz x)) Zf3 jO (by simp only [maxLen];omega) rfl ?_
    clear H;intro j5 lN hN jP hb;clear a;intro a H;replace hS:=hS.setOwn hN jP hb;clear hN hb
    refine n_q H (Zc rfl Zgj) rfl ?_;clear H a;intro a H
    replace hS:=hS.pk5
    refine Kb H rfl rfl sz32 (hS.blk 0 rfl) (by simp) (((hS.own 1 rfl).slr rfl (fun x _=>Kz x))).one ?_
    clear H;intro lO hN jQ hz;clear a;intro a H;replace hS:=hS.setBlk hN jQ;clear hN hz
    try simp only [List.set_cons_succ,List.set_cons_zero] at hS
    refine Ze (Zo (Za (wp_region_lit (n_q H (Yt (i:=aQ) (j:=1) rfl rfl (by omega)) rfl (W_q (Zd rfl) rfl ?_)))));clear H a;intro a H
    refine Ze (Za ?_)
    obtain rfl:=Option.some.inj hm
    replace hS:=hS.pk1
    replace hS:=hS.pk10
    replace hS:=hS.pk10
    replace hS:=hS.pk10
    replace hS:=hS.pk10
    replace hS:=hS.pk10
    replace hS:=hS.pk6
    replace hS:=hS.pk10
    replace hS:=hS.tk8
    exact Uz (j2,aQ + 1,(bB ++ [(⟨aH.Rights,false,(Zq4 (Vector.replicate 64 0) aH.Init)⟩ : GPage)]),j5) H ⟨rfl,rfl,rfl,rfl,rfl,trivial⟩ ⟨cL,hS⟩ (Nat.lt_succ_self _)
  replace hm:=Zv hm bN
  refine wp_exit (Zr (Zr (Qf ?_)))
  obtain rfl:=Option.some.inj hm;have hz : _=iG:=cL;subst hz;replace hm:=jG;try dsimp only at hm
  refine Za (wp_seq (wp_region_lit (n_q H (Zf rfl ((hS.blk 1 rfl).ldAll Zo1 Zbz)) rfl ?_)));clear H a;intro a H
  refine Qi H rfl rfl (vs:=[.int .i64 a0.Id,.int .i64 0,.int .i64 0,aX,a9,.slice none 0 0,aR,aS,aT,bC]) rfl Zbz (hS.blk 0 rfl) rfl (by simp [(((hS.own 2 rfl).slr rfl (fun x _=>Xk x))).one,(((hS.own 3 rfl).slr rfl (fun _ _=>rfl))).one,(((hS.own 4 rfl).slr rfl (fun _ _=>rfl))).one,(((hS.own 5 rfl).slr rfl (fun _ _=>rfl))).one,((hS.deepSl 6 rfl)).one,(((hS.own 7 rfl).slr rfl (fun x _=>Kz x))).one]) ?_
  clear H;intro lP hN jR hz;clear a;intro a H;replace hS:=hS.setBlk hN jR;clear hN hz
  refine n_q H (Zb rfl) rfl ?_;clear H a;intro a H
  refine Ze (Za (wp_ret ?_))
  obtain rfl:=Option.some.inj hm
  replace hS:=hS.nilOwn 163 2
  replace hS:=hS.dNil (A:=A)
  replace hS:=hS.pk2
  replace hS:=hS.pk1
  replace hS:=hS.pk9
  replace hS:=hS.pk9
  replace hS:=hS.pk9
  replace hS:=hS.pk9
  replace hS:=hS.pk6
  replace hS:=hS.pk9
  replace hS:=hS.pk9
  replace hS:=hS.tk9
  refine Zhd H (.inr rfl) rfl (vs:=[.agg #[.int .i64 a0.Id,.int .i64 0,.int .i64 0,aX,a9,.slice none 0 0,aR,aS,aT,bC],.nilIface]) (He rfl ((hS.blk 8 rfl).ldAll Zo1 Zbz) (Wl rfl Hd)) ?_
  replace hS:=hS.tk8
  exact⟨_,_,_,_,_,_,_,_,rfl,hS⟩
theorem Zer {w : World} {A : Nat → Addr} {cs0 : List Value} {a0 : GPlan} (hG : EV A w) (h0 : Xa w cs0 a0) {r : Int × ErrM} (hm : Tk a0=some r) :
    Calls Tryz.prog 67 [.agg cs0.toArray].toArray w (Ret fun u w'=>∃ h_0,u=.tuple #[.int .i64 r.1,h_0] ∧ St NB w w' [erQ A h_0 r.2]):=by
  obtain⟨aA,aB,aC,aD,rfl,aE,aF,aG,aH⟩:=h0
  have hS:=St.begin NB w
  unfold Tk at hm
  refine enter Tryz.func67 rfl rfl rfl ?_;intro a H;dsimp only [Qn,Nat.zero_add,Nat.reduceAdd] at H
  refine wp_seq (wp_region_lit (Yy H rfl (cs:=[.int .i64 a0.Id,.bool a0.Mobile,aA,aB,aC,.int .i64 a0.Events,aD]) rfl rfl ?_))
  clear H;intro aS aT hN aM hs;clear a;intro a H
  replace hS:=hS.newBlk hN aM hs;clear hN hs
  refine n_q H (Zb rfl) rfl (W_q (Zb rfl) rfl ?_);clear H a;intro a H
  refine Ze (Za (wp_seq (wp_seq (wp_region_lit (n_q H (Zf rfl ((hS.blk 0 rfl).ldAll Zda Zav)) rfl ?_)))));clear H a;intro a H
  replace hm:=Zj hm;obtain⟨aJ,aN,hm⟩:=hm
  refine Zk H rfl en57 (Hy (A:=A) (hG.ext hS.x) (⟨_,_,_,_,rfl,(aE.ext (Zi.mono _) hS.x),(aF.ext (Zi.mono _) hS.x),(aG.ext (Zi.mono _) hS.x),(aH.ext (Zi.mono _) hS.x)⟩ : Xa _ [.int .i64 a0.Id,.bool a0.Mobile,aA,aB,aC,.int .i64 a0.Events,aD] a0) aN) rfl ?_
  clear H;intro aK aL hv;clear a;intro a H;obtain⟨_,rfl,aO⟩:=hv
  replace hS:=hS.new aO;simp only [List.cons_append,List.nil_append] at hS
  refine n_q H (Xi (Vr Tryz.underlying39 rfl rfl (hS.any 0 rfl : IsE A aL aK aJ).form) (show _=Value.bool (!decide (aJ=.nil)) by rw [Xu.isNil (hS.any 0 rfl : IsE A aL aK aJ)])) rfl ?_;clear H a;intro a H
  refine Ze (Za (Zn H rfl (fun aI=>?_) (fun aI=>?_)))
  · replace hm:=Zu hm aI
    refine wp_seq (Gw (by kernel_rfl) (by kernel_rfl) ?_)
    refine Xn H (Zf rfl ((hG.ext hS.x).ld Hp (by decide) Hv)) rfl ?_;clear H a;intro a H
    refine Xn H (Zb rfl) rfl ?_;clear H a;intro a H
    refine Xn H (Zb rfl) rfl ?_;clear H a;intro a H
    refine Tg ?_;intro aU aP
    replace hS:=hS.ext aP
    refine Za (wp_ret (Zh ?_))
    obtain rfl:=Option.some.inj hm
    replace hS:=hS.dVar (A:=A) (g:=Hp) (by decide)
    replace hS:=hS.tk1
    refine Zgd H (.inr rfl) rfl rfl rfl ?_
    exact⟨_,rfl,hS⟩
  replace hm:=Zv hm aI
  refine wp_skip (Za (wp_seq (wp_region_lit (n_q H (Zf rfl ((hS.blk 1 rfl).ldAll Zda Zav)) rfl ?_))));clear H a;intro a H
  replace hm:=Zj hm;obtain⟨aV,aQ,hm⟩:=hm
  refine Zk H rfl en140 (Zeq (A:=A) (hG.ext hS.x) (⟨_,_,_,_,rfl,(aE.ext (Zi.mono _) hS.x),(aF.ext (Zi.mono _) hS.x),(aG.ext (Zi.mono _) hS.x),(aH.ext (Zi.mono _) hS.x)⟩ : Xa _ [.int .i64 a0.Id,.bool a0.Mobile,aA,aB,aC,.int .i64 a0.Events,aD] a0) aQ) rfl ?_
  clear H;intro aW aX hv;clear a;intro a H;obtain⟨rfl,aR⟩:=hv
  replace hS:=hS.ext aR
  refine n_q H (Zb rfl) rfl (W_q (Zb rfl) rfl ?_);clear H a;intro a H
  refine Ze (Za (wp_ret ?_))
  obtain rfl:=Option.some.inj hm
  replace hS:=hS.dNil (A:=A)
  replace hS:=hS.tk1
  refine Zgd H (.inr rfl) rfl rfl rfl ?_
  exact⟨_,rfl,hS⟩
end Go.Proofs.YtfemfiiagjnhdaaGreatDoor
