/- Part of a claim, shortened by a program from its texts: PtB. -/
import Derived.Test.YtfemfiiagjnhdaaGreatDoorQuE
set_option linter.unusedVariables false
set_option linter.unusedSimpArgs false
set_option maxRecDepth 10000
namespace Go.Proofs.YtfemfiiagjnhdaaGreatDoor
open Go Go.RowKit
theorem Tx : Hr Tryz.prog 124=some true:=by kernel_rfl
theorem ag144 : Hr Tryz.prog 144=some true:=by kernel_rfl
theorem ag28 : Hr Tryz.prog 28=some false:=by kernel_rfl
theorem ag32 : Hr Tryz.prog 32=some false:=by kernel_rfl
theorem ag34 : Hr Tryz.prog 34=some true:=by kernel_rfl
theorem ag82 : Hr Tryz.prog 82=some true:=by kernel_rfl
theorem Zh5 : bdB Tryz.prog 124=true:=by kernel_rfl
theorem Zh6 : Gc Tryz.prog 124=some #[(0,1),(1,1)]:=by kernel_rfl
theorem bd144 : bdB Tryz.prog 144=true:=by kernel_rfl
theorem pl144 : Gc Tryz.prog 144=some #[(0,16),(16,1),(17,1),(18,1),(19,1),(20,1)]:=by kernel_rfl
theorem Zdr : bdB Tryz.prog 34=true:=by kernel_rfl
theorem Zds : Gc Tryz.prog 34=some #[(0,1),(1,1),(2,1),(3,1),(4,1),(5,1),(6,1),(7,1),(8,1),(9,1)]:=by kernel_rfl
theorem bd82 : bdB Tryz.prog 82=true:=by kernel_rfl
theorem pl82 : Gc Tryz.prog 82=some #[(0,1),(1,1),(2,64)]:=by kernel_rfl
theorem el114 : ElemOk Tryz.prog 114 2 24 [.int .i64 0,.string ⟨#[]⟩]:=⟨by kernel_rfl,by kernel_rfl,by kernel_rfl,rfl,by decide⟩
theorem el116 : ElemOk Tryz.prog 116 3 24 [.int .i64 0,.int .i64 0,.bool false]:=⟨by kernel_rfl,by kernel_rfl,by kernel_rfl,rfl,by decide⟩
theorem el118 : ElemOk Tryz.prog 118 4 32 [.int .i64 0,.int .i64 0,.int .i64 0,.int .i64 0]:=⟨by kernel_rfl,by kernel_rfl,by kernel_rfl,rfl,by decide⟩
theorem el144 : ElemOk Tryz.prog 144 21 104 [.int .u32 0,.int .u32 0,.int .u32 0,.int .u32 0,.int .u32 0,.int .u32 0,.int .u32 0,.int .u32 0,.int .u32 0,.int .u32 0,.int .u32 0,.int .u32 0,.int .u32 0,.int .u32 0,.int .u32 0,.int .u32 0,.int .u32 0,.int .i64 0,.int .i64 0,.int .i64 0,.int .i64 0]:=⟨by kernel_rfl,by kernel_rfl,by kernel_rfl,rfl,by decide⟩
theorem Zbj : ElemOk Tryz.prog 154 2 32 [.slice none 0 0,.int .i64 0]:=⟨by kernel_rfl,by kernel_rfl,by kernel_rfl,rfl,by decide⟩
theorem el4 : ElemOk Tryz.prog 4 1 1 [.bool false]:=⟨by kernel_rfl,by kernel_rfl,by kernel_rfl,rfl,by decide⟩
theorem el82 : ElemOk Tryz.prog 82 66 80 [.int .i64 0,.bool false,.int .u8 0,.int .u8 0,.int .u8 0,.int .u8 0,.int .u8 0,.int .u8 0,.int .u8 0,.int .u8 0,.int .u8 0,.int .u8 0,.int .u8 0,.int .u8 0,.int .u8 0,.int .u8 0,.int .u8 0,.int .u8 0,.int .u8 0,.int .u8 0,.int .u8 0,.int .u8 0,.int .u8 0,.int .u8 0,.int .u8 0,.int .u8 0,.int .u8 0,.int .u8 0,.int .u8 0,.int .u8 0,.int .u8 0,.int .u8 0,.int .u8 0,.int .u8 0,.int .u8 0,.int .u8 0,.int .u8 0,.int .u8 0,.int .u8 0,.int .u8 0,.int .u8 0,.int .u8 0,.int .u8 0,.int .u8 0,.int .u8 0,.int .u8 0,.int .u8 0,.int .u8 0,.int .u8 0,.int .u8 0,.int .u8 0,.int .u8 0,.int .u8 0,.int .u8 0,.int .u8 0,.int .u8 0,.int .u8 0,.int .u8 0,.int .u8 0,.int .u8 0,.int .u8 0,.int .u8 0,.int .u8 0,.int .u8 0,.int .u8 0,.int .u8 0]:=⟨by kernel_rfl,by kernel_rfl,by kernel_rfl,rfl,by decide⟩
theorem Zh7 : Zp Tryz.prog 118=true:=by kernel_rfl
theorem Zlk : Zp Tryz.prog 124=true:=by kernel_rfl
theorem Zbk : Zp Tryz.prog 125=true:=by kernel_rfl
theorem en194 : Zp Tryz.prog 194=true:=by kernel_rfl
theorem en46 : Zp Tryz.prog 46=true:=by kernel_rfl
theorem en47 : Zp Tryz.prog 47=true:=by kernel_rfl
theorem en53 : Zp Tryz.prog 53=true:=by kernel_rfl
theorem en56 : Zp Tryz.prog 56=true:=by kernel_rfl
theorem en60 : Zp Tryz.prog 60=true:=by kernel_rfl
theorem en67 : Zp Tryz.prog 67=true:=by kernel_rfl
theorem Zpa : Zay Tryz.prog 144 2=some 17:=by kernel_rfl
theorem Zll : Zay Tryz.prog 34 3=some 3:=by kernel_rfl
theorem Zlm : Zay Tryz.prog 34 4=some 4:=by kernel_rfl
theorem Zje : Zay Tryz.prog 34 9=some 9:=by kernel_rfl
theorem Zof : Zay Tryz.prog 82 2=some 2:=by kernel_rfl
theorem Yh : Xi Tryz.prog 124=some 2:=by kernel_rfl
theorem Zpb : Xi Tryz.prog 144=some 21:=by kernel_rfl
theorem sz22 : Xi Tryz.prog 22=some 1:=by kernel_rfl
theorem sz23 : Xi Tryz.prog 23=some 1:=by kernel_rfl
theorem sz24 : Xi Tryz.prog 24=some 1:=by kernel_rfl
theorem sz25 : Xi Tryz.prog 25=some 1:=by kernel_rfl
theorem sz28 : Xi Tryz.prog 28=some 1:=by kernel_rfl
theorem sz32 : Xi Tryz.prog 32=some 1:=by kernel_rfl
theorem Zca : Xi Tryz.prog 34=some 10:=by kernel_rfl
theorem sz82 : Xi Tryz.prog 82=some 66:=by kernel_rfl
theorem Zb7 : Wr Tryz.prog 124=some [.int .i64 0,.int .i64 0]:=by kernel_rfl
theorem Zpc : Wr Tryz.prog 144=some [.int .u32 0,.int .u32 0,.int .u32 0,.int .u32 0,.int .u32 0,.int .u32 0,.int .u32 0,.int .u32 0,.int .u32 0,.int .u32 0,.int .u32 0,.int .u32 0,.int .u32 0,.int .u32 0,.int .u32 0,.int .u32 0,.int .u32 0,.int .i64 0,.int .i64 0,.int .i64 0,.int .i64 0]:=by kernel_rfl
theorem Ty : Wr Tryz.prog 34=some [.int .i64 0,.int .i64 0,.int .i64 0,.slice none 0 0,.slice none 0 0,.slice none 0 0,.slice none 0 0,.slice none 0 0,.slice none 0 0,.slice none 0 0]:=by kernel_rfl
theorem ze82 : Wr Tryz.prog 82=some [.int .i64 0,.bool false,.int .u8 0,.int .u8 0,.int .u8 0,.int .u8 0,.int .u8 0,.int .u8 0,.int .u8 0,.int .u8 0,.int .u8 0,.int .u8 0,.int .u8 0,.int .u8 0,.int .u8 0,.int .u8 0,.int .u8 0,.int .u8 0,.int .u8 0,.int .u8 0,.int .u8 0,.int .u8 0,.int .u8 0,.int .u8 0,.int .u8 0,.int .u8 0,.int .u8 0,.int .u8 0,.int .u8 0,.int .u8 0,.int .u8 0,.int .u8 0,.int .u8 0,.int .u8 0,.int .u8 0,.int .u8 0,.int .u8 0,.int .u8 0,.int .u8 0,.int .u8 0,.int .u8 0,.int .u8 0,.int .u8 0,.int .u8 0,.int .u8 0,.int .u8 0,.int .u8 0,.int .u8 0,.int .u8 0,.int .u8 0,.int .u8 0,.int .u8 0,.int .u8 0,.int .u8 0,.int .u8 0,.int .u8 0,.int .u8 0,.int .u8 0,.int .u8 0,.int .u8 0,.int .u8 0,.int .u8 0,.int .u8 0,.int .u8 0,.int .u8 0,.int .u8 0]:=by kernel_rfl
set_option maxHeartbeats 4000000 in
theorem Zga {w : World} {A : Nat → Addr} {cs0 : List Value} {a0 : GPlan} (hG : EV A w) (h0 : Xm w cs0 a0) {r : GState × ErrM} (hm : Hy a0=some r) :
    Calls Tryz.prog 53 [.agg cs0.toArray].toArray w (Ret fun u w'=>∃ h_0 h_1 h_2 h_3 h_4 h_5 h_6 h_7,u=.tuple #[.agg #[.int .i64 r.1.Id,.int .i64 r.1.Frame,.int .i64 r.1.Epoch,h_0,h_1,h_2,h_3,h_4,h_5,h_6],h_7] ∧ St NB w w' [ownR 144 21 h_0 r.1.Procs.length (r.1.Procs.flatMap Gz),ownR 3 1 h_1 r.1.Ready.length (r.1.Ready.flatMap eI),ownR 163 2 h_2 r.1.Timers.length (r.1.Timers.flatMap Zh4),ownR 4 1 h_3 r.1.Up.length (r.1.Up.flatMap eF),ownR 3 1 h_4 r.1.Sems.length (r.1.Sems.flatMap eI),deepR 154 2 Ys h_5 r.1.Ports,ownR 82 66 h_6 r.1.Pages.length (r.1.Pages.flatMap Tp),erQ A h_7 r.2]):=by
  obtain⟨bD,bA,bH,bI,rfl,bJ,bK,cK,aB⟩:=h0
  have hS:=St.begin NB w
  unfold Hy at hm
  refine enter Tryz.func53 rfl rfl rfl ?_;intro a H;dsimp only [Qo,Nat.zero_add,Nat.reduceAdd] at H
  refine wp_seq (wp_region_lit (Uc H rfl (cs:=[.int .i64 a0.Id,.bool a0.Mobile,bD,bA,bH,.int .i64 a0.Events,bI]) rfl rfl ?_))
  clear H;intro b8 o3 hN kC hs;clear a;intro a H
  replace hS:=hS.newBlk hN kC hs;clear hN hs
  refine Xj H Ty rfl ?_
  clear H;intro bX o4 hN kD hs;clear a;intro a H
  replace hS:=hS.newBlk hN kD hs;clear hN hs
  refine n_q H (Zb rfl) rfl ?_;clear H a;intro a H
  refine Ze (Za (wp_seq (wp_seq (wp_region_lit (n_q H (Zf rfl ((hS.blk 1 rfl).ldAll Za0 Gy)) rfl ?_)))));clear H a;intro a H
  replace hm:=Zk hm;obtain⟨iU,kE,hm⟩:=hm
  refine Zj H rfl en57 (Ww (A:=A) (hG.ext hS.x) (⟨_,_,_,_,rfl,(bJ.ext (Zq.mono _) hS.x),(bK.ext (Zq.mono _) hS.x),(cK.ext (Zq.mono _) hS.x),(aB.ext (Zq.mono _) hS.x)⟩ : Xm _ [.int .i64 a0.Id,.bool a0.Mobile,bD,bA,bH,.int .i64 a0.Events,bI] a0) kE) rfl ?_
  clear H;intro j9 b9 hv;clear a;intro a H;obtain⟨_,rfl,kF⟩:=hv
  replace hS:=hS.new kF;simp only [List.cons_append,List.nil_append] at hS
  refine n_q H (Qt (Jr Tryz.underlying39 rfl rfl (hS.any 0 rfl : IsE A b9 j9 iU).form) (show _=Value.bool (!decide (iU=.nil)) by rw [Xa.isNil (hS.any 0 rfl : IsE A b9 j9 iU)])) rfl ?_;clear H a;intro a H
  refine Ze (Za (Zl H rfl (fun cO=>?_) (fun cO=>?_)))
  · replace hm:=Zt hm cO
    refine wp_seq (Gx (kB w.heap.size (b8 :: []) b9.drew.heap.size) 4 (by kernel_rfl) ?_)
    obtain⟨kA,cP⟩ : ∃ x,x=b9.drew:=⟨_,rfl⟩;rw [← cP];have kG : Ext b9 kA:=by rw [cP];exact Ext.drew' _
    clear cP
    replace hS:=hS.ext kG
    have kN:=(hS.blk 2 rfl).lt
    have kH:=hS.x.size
    have hW:=Nat.le_refl kA.heap.size
    refine Zh 0 H rfl (Qc (cs:=[.int .i64 0,.int .i64 0,.int .i64 0,.slice none 0 0,.slice none 0 0,.slice none 0 0,.slice none 0 0,.slice none 0 0,.slice none 0 0,.slice none 0 0]) Ty Zdr Zds rfl (by kernel_rfl)) rfl (by kernel_rfl) (by kernel_rfl) (by kernel_rfl) (by kernel_rfl) (fun _ _ _ h=>h) ?_;clear H a;intro a H
    refine Xq 1 H rfl (Zf rfl (LdC.old (hG.ld Uz (by decide) Wy) hS.x kH Zfl)) rfl (by kernel_rfl) (by kernel_rfl) (by kernel_rfl) (by kernel_rfl) (fun _ _ _ h=>h) ?_;clear H a;intro a H
    replace hS:=hS.pk1
    refine Qf 2 H rfl rfl rfl (vs:=[.int .i64 0,.int .i64 0,.int .i64 0,.slice none 0 0,.slice none 0 0,.slice none 0 0,.slice none 0 0,.slice none 0 0,.slice none 0 0,.slice none 0 0]) rfl Zca (hS.blk 0 rfl) rfl (by simp) (by kernel_rfl) (.inl (fun h=>Zch h (hS.ge (i:=0) rfl) (Jy (hS.ne (i:=0) (j:=2) (by decide) rfl rfl) Ur))) ?_
    clear H;intro o5 hN iV hz;clear a;intro a H;replace hS:=hS.setBlk hN iV;clear hN hz;replace hW:=Nat.le_trans hW iV.size
    refine Zh 3 H rfl (Zb rfl) rfl (by kernel_rfl) (by kernel_rfl) (by kernel_rfl) (by kernel_rfl) (fun _ _ _ h=>h) ?_;clear H a;intro a H
    refine Xh (by kernel_rfl) ?_
    refine Za (wp_ret (Zg ?_))
    obtain rfl:=Option.some.inj hm
    replace hS:=hS.nilOwn 144 21
    replace hS:=hS.nilOwn 3 1
    replace hS:=hS.nilOwn 163 2
    replace hS:=hS.nilOwn 4 1
    replace hS:=hS.nilOwn 3 1
    replace hS:=hS.deepNil 154 2 Ys
    replace hS:=hS.nilOwn 82 66
    replace hS:=hS.dVar (A:=A) (g:=Uz) (by decide)
    replace hS:=hS.pk8
    replace hS:=hS.pk1
    replace hS:=hS.pk2
    replace hS:=hS.pk3
    replace hS:=hS.pk4
    replace hS:=hS.pk5
    replace hS:=hS.pk6
    replace hS:=hS.pk7
    replace hS:=hS.pk8
    replace hS:=hS.tk9
    refine Zad H (.inr rfl) rfl (vs:=[.agg #[.int .i64 0,.int .i64 0,.int .i64 0,.slice none 0 0,.slice none 0 0,.slice none 0 0,.slice none 0 0,.slice none 0 0,.slice none 0 0,.slice none 0 0],sv 340 A Uz]) (Xk rfl ((hS.blk 8 rfl).ldAll ag34 Zca) (Ku rfl Xw)) ?_
    replace hS:=hS.tk8
    exact⟨_,_,_,_,_,_,_,_,rfl,hS⟩
  · replace hm:=Zu hm cO
    refine wp_skip (Za ?_)
    replace hm:=Zk hm;obtain⟨o6,hm,aC⟩:=hm
    refine Ga (σ:=(List Bool) × (List Int) × (List GPort) × Value × Value × Value × Nat) H (fun (aV,aW,bF,aR,aS,aT,aY)=>[(1,.pointer (some ⟨b8,0,none⟩)),(2,.pointer (some ⟨bX,0,none⟩)),(4,.pointer (some ⟨aY,0,none⟩))]) (fun (aV,aW,bF,aR,aS,aT,aY) wl=>(Gk a0) (aV,aW,bF)=some r ∧ St NB w wl [blkR b8 [.int .i64 a0.Id,.bool a0.Mobile,bD,bA,bH,.int .i64 a0.Events,bI] 27,blkR bX [.int .i64 0,.int .i64 0,.int .i64 0,.slice none 0 0,.slice none 0 0,.slice none 0 0,.slice none 0 0,.slice none 0 0,.slice none 0 0,.slice none 0 0] 34,blkR aY [.int .i64 a0.Id,.int .i64 0,.int .i64 0,.slice none 0 0,.slice none 0 0,.slice none 0 0,aR,aS,aT,.slice none 0 0] 34,ownR 4 1 aR aV.length (aV.flatMap eF),ownR 3 1 aS aW.length (aW.flatMap eI),deepR 154 2 Ys aT bF]) ?_ ?_
    · skip
      refine Gx [] 15 (by kernel_rfl) ?_
      obtain⟨aI,cI⟩ : ∃ x,x=b9.drew:=⟨_,rfl⟩;rw [← cI];have jV : Ext b9 aI:=by rw [cI];exact Ext.drew' _
      clear cI
      replace hS:=hS.ext jV
      have bY:=hS
      have hW:=Nat.le_refl aI.heap.size
      refine Zh 0 H rfl (Zd rfl Zef) rfl (by kernel_rfl) (by kernel_rfl) (by kernel_rfl) (by kernel_rfl) (fun _ _ _ h=>h) ?_;clear H a;intro a H
      refine Xq 1 H rfl (Zf rfl (LdC.old ((bY.blk 2 rfl).ld ag3 rfl) Ext.rfl' (Nat.le_refl _) (by simp))) rfl (by kernel_rfl) (by kernel_rfl) (by kernel_rfl) (by kernel_rfl) (fun _ _ _ h=>h) ?_;clear H a;intro a H
      refine Zh 2 H rfl (Zd rfl Zcj) rfl (by kernel_rfl) (by kernel_rfl) (by kernel_rfl) (by kernel_rfl) (fun _ _ _ h=>h) ?_;clear H a;intro a H
      refine Xq 3 H rfl (Zf rfl (LdC.old ((bY.blk 2 rfl).ld ag3 rfl) Ext.rfl' (Nat.le_refl _) (by simp))) rfl (by kernel_rfl) (by kernel_rfl) (by kernel_rfl) (by kernel_rfl) (fun _ _ _ h=>h) ?_;clear H a;intro a H
      refine Zh 5 H rfl (Zd rfl Tr) rfl (by kernel_rfl) (by kernel_rfl) (by kernel_rfl) (by kernel_rfl) (fun _ _ _ h=>h) ?_;clear H a;intro a H
      refine Xq 6 H rfl (Zf rfl (LdC.old ((bY.blk 2 rfl).ld Zjd rfl) Ext.rfl' (Nat.le_refl _) (by simp))) rfl (by kernel_rfl) (by kernel_rfl) (by kernel_rfl) (by kernel_rfl) (fun _ _ _ h=>h) ?_;clear H a;intro a H
      refine Zh 8 H rfl (Zd rfl Tq) rfl (by kernel_rfl) (by kernel_rfl) (by kernel_rfl) (by kernel_rfl) (fun _ _ _ h=>h) ?_;clear H a;intro a H
      refine Xq 9 H rfl (Zf rfl (LdC.old ((bY.blk 2 rfl).ld Zke rfl) Ext.rfl' (Nat.le_refl _) (by simp))) rfl (by kernel_rfl) (by kernel_rfl) (by kernel_rfl) (by kernel_rfl) (fun _ _ _ h=>h) ?_;clear H a;intro a H
      obtain⟨lQ,lR,jW,kS,kT⟩:=SlR.formV (cK.ext (Zq.mono _) hS.x)
      refine Zh 10 H rfl (Qh Tryz.underlying24 rfl jW) rfl (by kernel_rfl) (by kernel_rfl) (by kernel_rfl) (by kernel_rfl) (fun _ _ _ h=>h) ?_;clear H a;intro a H
      replace hm:=Tw hm;obtain⟨aA,hm⟩:=hm
      replace hm:=Tw hm;obtain⟨aE,hm⟩:=hm
      replace hm:=Zk hm;obtain⟨aD,aF,hm⟩:=hm
      replace hm:=Tw hm;obtain⟨aG,hm⟩:=hm
      refine k_four 4 7 11 13 (by kernel_rfl) ?_ ?_ ?_ ?_
      · skip
        refine Yt (e:=eF) (z0:=false) (L:=a0.Events.toNat) (C:=a0.Events.toNat) 4 H rfl Tryz.underlying30 el4 rfl (by show _=some (Value.int .i64 ((Int.toNat a0.Events : Nat) : Int));rw [Int.toNat_of_nonneg aA];rfl) (by show _=some (Value.int .i64 ((Int.toNat a0.Events : Nat) : Int));rw [Int.toNat_of_nonneg aA];rfl) (Nat.le_refl _) aE (by simp only [maxLen];omega) rfl ?_
        clear H;intro aJ lS hN eO hs;clear a;intro a H;replace hS:=hS.newOwn hN eO (by simp [Yq];omega);clear hN
        replace hW:=Nat.le_trans hW eO.size
        refine Zf1 7 11 13 (by kernel_rfl) ?_ ?_ ?_
        · skip
          refine Xo 7 H rfl rfl Zbk (Zv (A:=A) (aB.ext (Zq.mono _) hS.x) aF) rfl (fun v w hv=>.inl (ChgF.of_ext (by obtain⟨_,_,hE0⟩:=hv;exact hE0.x))) ?_
          clear H;intro bO lT hv;clear a;intro a H;obtain⟨_,rfl,eP⟩:=hv
          replace hS:=hS.new eP;simp only [List.cons_append,List.nil_append] at hS
          replace hW:=Nat.le_trans hW eP.x.size
          refine Zdl 11 13 (by kernel_rfl) ?_ ?_
          · skip
            refine Wb (L:=a0.Ports.length) (C:=a0.Ports.length) 11 H rfl Tryz.underlying31 Zbj rfl rfl (Nat.le_refl _) aG (by simp only [maxLen];omega) rfl ?_
            clear H;intro cQ lU hN eQ hs;clear a;intro a H;replace hS:=hS.newOwn hN eQ (by simp [Yq];omega);clear hN
            replace hS:=St.mkDeep0 (R:=Ys) (z0:=(⟨([] : List ByteArray),0⟩ : GPort)) (n:=a0.Ports.length) rfl (by simp) (fun w=>⟨_,rfl,SlR.nil _ _ _⟩) hS
            replace hW:=Nat.le_trans hW eQ.size
            refine Zh 12 H rfl (Qc (cs:=[.int .i64 a0.Id,.int .i64 0,.int .i64 0,.slice none 0 0,.slice none 0 0,.slice none 0 0,.slice (some ⟨aJ,0,none⟩) a0.Events.toNat a0.Events.toNat,bO,.slice (some ⟨cQ,0,none⟩) a0.Ports.length a0.Ports.length,.slice none 0 0]) Ty Zdr Zds rfl ((Zy rfl rfl (by simp)).trans ((Zy (((hS.own 2 rfl).slr rfl (fun _ _=>rfl))).one rfl (by simp)).trans ((Zy (((hS.own 1 rfl).slr rfl (fun _ _=>rfl))).one rfl (by simp)).trans ((Zy ((hS.deepSl 0 rfl)).one rfl (by simp)).trans rfl))))) rfl (by kernel_rfl) (by kernel_rfl) (by kernel_rfl) (by kernel_rfl) (fun _ _ _ h=>h) ?_;clear H a;intro a H
            refine Zc2 13 H rfl Ty rfl (by kernel_rfl) ?_
            clear H;intro iW lV hN eT hs;clear a;intro a H
            have cR : aI.heap.size ≤ iW:=hs ▸ hW
            replace hS:=hS.newBlk hN eT hs;clear hN hs
            replace hW:=Nat.le_trans hW eT.size
            refine Qf 14 H rfl rfl rfl (vs:=[.int .i64 a0.Id,.int .i64 0,.int .i64 0,.slice none 0 0,.slice none 0 0,.slice none 0 0,.slice (some ⟨aJ,0,none⟩) a0.Events.toNat a0.Events.toNat,bO,.slice (some ⟨cQ,0,none⟩) a0.Ports.length a0.Ports.length,.slice none 0 0]) rfl Zca (hS.blk 0 rfl) rfl (by simp [(((hS.own 3 rfl).slr rfl (fun _ _=>rfl))).one,(((hS.own 2 rfl).slr rfl (fun _ _=>rfl))).one,((hS.deepSl 1 rfl)).one]) (by kernel_rfl) (.inl (fun h=>absurd h (Nat.not_lt.2 cR))) ?_
            clear H;intro lW hN eU hz;clear a;intro a H;replace hS:=hS.setBlk hN eU;clear hN hz;replace hW:=Nat.le_trans hW eU.size
            refine Xh (by kernel_rfl) ?_
            refine Za ?_
            obtain rfl:=Option.some.inj hm;replace hm:=aC;try dsimp only at hm
            replace hS:=hS.pk1
            replace hS:=hS.pk2
            replace hS:=hS.pk3
            replace hS:=hS.pk3
            replace hS:=hS.pk5
            replace hS:=hS.pk6
            replace hS:=hS.tk6
            exact Wa ((List.replicate a0.Events.toNat false),aD,(List.replicate a0.Ports.length (⟨([] : List ByteArray),0⟩ : GPort)),.slice (some ⟨aJ,0,none⟩) a0.Events.toNat a0.Events.toNat,bO,.slice (some ⟨cQ,0,none⟩) a0.Ports.length a0.Ports.length,iW) H ⟨rfl,rfl,rfl,trivial⟩ ⟨hm,hS⟩
          · skip
            refine Gh 13 H rfl Ty rfl ?_
            clear H;intro iX lX hN eV hs;clear a;intro a H
            have cT : aI.heap.size ≤ iX:=hs ▸ hW
            replace hS:=hS.newBlk hN eV hs;clear hN hs
            replace hW:=Nat.le_trans hW eV.size
            refine Xl 11 (by kernel_rfl) ?_
            refine Wb (L:=a0.Ports.length) (C:=a0.Ports.length) 11 H rfl Tryz.underlying31 Zbj rfl rfl (Nat.le_refl _) aG (by simp only [maxLen];omega) rfl ?_
            clear H;intro cU lY hN eW hs;clear a;intro a H;replace hS:=hS.newOwn hN eW (by simp [Yq];omega);clear hN
            replace hS:=St.mkDeep0 (R:=Ys) (z0:=(⟨([] : List ByteArray),0⟩ : GPort)) (n:=a0.Ports.length) rfl (by simp) (fun w=>⟨_,rfl,SlR.nil _ _ _⟩) hS
            replace hW:=Nat.le_trans hW eW.size
            refine Zh 12 H rfl (Qc (cs:=[.int .i64 a0.Id,.int .i64 0,.int .i64 0,.slice none 0 0,.slice none 0 0,.slice none 0 0,.slice (some ⟨aJ,0,none⟩) a0.Events.toNat a0.Events.toNat,bO,.slice (some ⟨cU,0,none⟩) a0.Ports.length a0.Ports.length,.slice none 0 0]) Ty Zdr Zds rfl ((Zy rfl rfl (by simp)).trans ((Zy (((hS.own 3 rfl).slr rfl (fun _ _=>rfl))).one rfl (by simp)).trans ((Zy (((hS.own 2 rfl).slr rfl (fun _ _=>rfl))).one rfl (by simp)).trans ((Zy ((hS.deepSl 0 rfl)).one rfl (by simp)).trans rfl))))) rfl (by kernel_rfl) (by kernel_rfl) (by kernel_rfl) (by kernel_rfl) (fun _ _ _ h=>h) ?_;clear H a;intro a H
            replace hS:=hS.pk1
            refine Qf 14 H rfl rfl rfl (vs:=[.int .i64 a0.Id,.int .i64 0,.int .i64 0,.slice none 0 0,.slice none 0 0,.slice none 0 0,.slice (some ⟨aJ,0,none⟩) a0.Events.toNat a0.Events.toNat,bO,.slice (some ⟨cU,0,none⟩) a0.Ports.length a0.Ports.length,.slice none 0 0]) rfl Zca (hS.blk 0 rfl) rfl (by simp [(((hS.own 3 rfl).slr rfl (fun _ _=>rfl))).one,(((hS.own 2 rfl).slr rfl (fun _ _=>rfl))).one,((hS.deepSl 1 rfl)).one]) (by kernel_rfl) (.inl (fun h=>absurd h (Nat.not_lt.2 cT))) ?_
            clear H;intro lZ hN eX hz;clear a;intro a H;replace hS:=hS.setBlk hN eX;clear hN hz;replace hW:=Nat.le_trans hW eX.size
            refine Xh (by kernel_rfl) ?_
            refine Za ?_
            obtain rfl:=Option.some.inj hm;replace hm:=aC;try dsimp only at hm
            replace hS:=hS.pk1
            replace hS:=hS.pk2
            replace hS:=hS.pk3
            replace hS:=hS.pk3
            replace hS:=hS.pk5
            replace hS:=hS.pk6
            replace hS:=hS.tk6
            exact Wa ((List.replicate a0.Events.toNat false),aD,(List.replicate a0.Ports.length (⟨([] : List ByteArray),0⟩ : GPort)),.slice (some ⟨aJ,0,none⟩) a0.Events.toNat a0.Events.toNat,bO,.slice (some ⟨cU,0,none⟩) a0.Ports.length a0.Ports.length,iX) H ⟨rfl,rfl,rfl,trivial⟩ ⟨hm,hS⟩
        · skip
          refine Wb (L:=a0.Ports.length) (C:=a0.Ports.length) 11 H rfl Tryz.underlying31 Zbj rfl rfl (Nat.le_refl _) aG (by simp only [maxLen];omega) rfl ?_
          clear H;intro bP l8 hN eY hs;clear a;intro a H;replace hS:=hS.newOwn hN eY (by simp [Yq];omega);clear hN
          replace hS:=St.mkDeep0 (R:=Ys) (z0:=(⟨([] : List ByteArray),0⟩ : GPort)) (n:=a0.Ports.length) rfl (by simp) (fun w=>⟨_,rfl,SlR.nil _ _ _⟩) hS
          replace hW:=Nat.le_trans hW eY.size
          refine Zdl 7 13 (by kernel_rfl) ?_ ?_
          · skip
            refine Xo 7 H rfl rfl Zbk (Zv (A:=A) (aB.ext (Zq.mono _) hS.x) aF) rfl (fun v w hv=>.inl (ChgF.of_ext (by obtain⟨_,_,hE0⟩:=hv;exact hE0.x))) ?_
            clear H;intro cV l9 hv;clear a;intro a H;obtain⟨_,rfl,eZ⟩:=hv
            replace hS:=hS.new eZ;simp only [List.cons_append,List.nil_append] at hS
            replace hW:=Nat.le_trans hW eZ.x.size
            refine Zh 12 H rfl (Qc (cs:=[.int .i64 a0.Id,.int .i64 0,.int .i64 0,.slice none 0 0,.slice none 0 0,.slice none 0 0,.slice (some ⟨aJ,0,none⟩) a0.Events.toNat a0.Events.toNat,cV,.slice (some ⟨bP,0,none⟩) a0.Ports.length a0.Ports.length,.slice none 0 0]) Ty Zdr Zds rfl ((Zy rfl rfl (by simp)).trans ((Zy (((hS.own 2 rfl).slr rfl (fun _ _=>rfl))).one rfl (by simp)).trans ((Zy (((hS.own 0 rfl).slr rfl (fun _ _=>rfl))).one rfl (by simp)).trans ((Zy ((hS.deepSl 1 rfl)).one rfl (by simp)).trans rfl))))) rfl (by kernel_rfl) (by kernel_rfl) (by kernel_rfl) (by kernel_rfl) (fun _ _ _ h=>h) ?_;clear H a;intro a H
            refine Zc2 13 H rfl Ty rfl (by kernel_rfl) ?_
            clear H;intro iY mA hN e7 hs;clear a;intro a H
            have cW : aI.heap.size ≤ iY:=hs ▸ hW
            replace hS:=hS.newBlk hN e7 hs;clear hN hs
            replace hW:=Nat.le_trans hW e7.size
            refine Qf 14 H rfl rfl rfl (vs:=[.int .i64 a0.Id,.int .i64 0,.int .i64 0,.slice none 0 0,.slice none 0 0,.slice none 0 0,.slice (some ⟨aJ,0,none⟩) a0.Events.toNat a0.Events.toNat,cV,.slice (some ⟨bP,0,none⟩) a0.Ports.length a0.Ports.length,.slice none 0 0]) rfl Zca (hS.blk 0 rfl) rfl (by simp [(((hS.own 3 rfl).slr rfl (fun _ _=>rfl))).one,(((hS.own 1 rfl).slr rfl (fun _ _=>rfl))).one,((hS.deepSl 2 rfl)).one]) (by kernel_rfl) (.inl (fun h=>absurd h (Nat.not_lt.2 cW))) ?_
            clear H;intro mB hN e8 hz;clear a;intro a H;replace hS:=hS.setBlk hN e8;clear hN hz;replace hW:=Nat.le_trans hW e8.size
            refine Xh (by kernel_rfl) ?_
            refine Za ?_
            obtain rfl:=Option.some.inj hm;replace hm:=aC;try dsimp only at hm
            replace hS:=hS.pk2
            replace hS:=hS.pk2
            replace hS:=hS.pk3
            replace hS:=hS.pk3
            replace hS:=hS.pk5
            replace hS:=hS.pk6
            replace hS:=hS.tk6
            exact Wa ((List.replicate a0.Events.toNat false),aD,(List.replicate a0.Ports.length (⟨([] : List ByteArray),0⟩ : GPort)),.slice (some ⟨aJ,0,none⟩) a0.Events.toNat a0.Events.toNat,cV,.slice (some ⟨bP,0,none⟩) a0.Ports.length a0.Ports.length,iY) H ⟨rfl,rfl,rfl,trivial⟩ ⟨hm,hS⟩
          · skip
            refine Gh 13 H rfl Ty rfl ?_
            clear H;intro iZ mC hN e9 hs;clear a;intro a H
            have cX : aI.heap.size ≤ iZ:=hs ▸ hW
            replace hS:=hS.newBlk hN e9 hs;clear hN hs
            replace hW:=Nat.le_trans hW e9.size
            refine Xl 7 (by kernel_rfl) ?_
            refine Xo 7 H rfl rfl Zbk (Zv (A:=A) (aB.ext (Zq.mono _) hS.x) aF) rfl (fun v w hv=>.inl (ChgF.of_ext (by obtain⟨_,_,hE0⟩:=hv;exact hE0.x))) ?_
            clear H;intro cY mD hv;clear a;intro a H;obtain⟨_,rfl,fA⟩:=hv
            replace hS:=hS.new fA;simp only [List.cons_append,List.nil_append] at hS
            replace hW:=Nat.le_trans hW fA.x.size
            refine Zh 12 H rfl (Qc (cs:=[.int .i64 a0.Id,.int .i64 0,.int .i64 0,.slice none 0 0,.slice none 0 0,.slice none 0 0,.slice (some ⟨aJ,0,none⟩) a0.Events.toNat a0.Events.toNat,cY,.slice (some ⟨bP,0,none⟩) a0.Ports.length a0.Ports.length,.slice none 0 0]) Ty Zdr Zds rfl ((Zy rfl rfl (by simp)).trans ((Zy (((hS.own 3 rfl).slr rfl (fun _ _=>rfl))).one rfl (by simp)).trans ((Zy (((hS.own 0 rfl).slr rfl (fun _ _=>rfl))).one rfl (by simp)).trans ((Zy ((hS.deepSl 2 rfl)).one rfl (by simp)).trans rfl))))) rfl (by kernel_rfl) (by kernel_rfl) (by kernel_rfl) (by kernel_rfl) (fun _ _ _ h=>h) ?_;clear H a;intro a H
            replace hS:=hS.pk1
            refine Qf 14 H rfl rfl rfl (vs:=[.int .i64 a0.Id,.int .i64 0,.int .i64 0,.slice none 0 0,.slice none 0 0,.slice none 0 0,.slice (some ⟨aJ,0,none⟩) a0.Events.toNat a0.Events.toNat,cY,.slice (some ⟨bP,0,none⟩) a0.Ports.length a0.Ports.length,.slice none 0 0]) rfl Zca (hS.blk 0 rfl) rfl (by simp [(((hS.own 3 rfl).slr rfl (fun _ _=>rfl))).one,(((hS.own 1 rfl).slr rfl (fun _ _=>rfl))).one,((hS.deepSl 2 rfl)).one]) (by kernel_rfl) (.inl (fun h=>absurd h (Nat.not_lt.2 cX))) ?_
            clear H;intro mE hN fB hz;clear a;intro a H;replace hS:=hS.setBlk hN fB;clear hN hz;replace hW:=Nat.le_trans hW fB.size
            refine Xh (by kernel_rfl) ?_
            refine Za ?_
            obtain rfl:=Option.some.inj hm;replace hm:=aC;try dsimp only at hm
            replace hS:=hS.pk2
            replace hS:=hS.pk2
            replace hS:=hS.pk3
            replace hS:=hS.pk3
            replace hS:=hS.pk5
            replace hS:=hS.pk6
            replace hS:=hS.tk6
            exact Wa ((List.replicate a0.Events.toNat false),aD,(List.replicate a0.Ports.length (⟨([] : List ByteArray),0⟩ : GPort)),.slice (some ⟨aJ,0,none⟩) a0.Events.toNat a0.Events.toNat,cY,.slice (some ⟨bP,0,none⟩) a0.Ports.length a0.Ports.length,iZ) H ⟨rfl,rfl,rfl,trivial⟩ ⟨hm,hS⟩
        · skip
          refine Gh 13 H rfl Ty rfl ?_
          clear H;intro cZ mF hN fC hs;clear a;intro a H
          have cA : aI.heap.size ≤ cZ:=hs ▸ hW
          replace hS:=hS.newBlk hN fC hs;clear hN hs
          replace hW:=Nat.le_trans hW fC.size
          refine Zdl 7 11 (by kernel_rfl) ?_ ?_
          · skip
            refine Xo 7 H rfl rfl Zbk (Zv (A:=A) (aB.ext (Zq.mono _) hS.x) aF) rfl (fun v w hv=>.inl (ChgF.of_ext (by obtain⟨_,_,hE0⟩:=hv;exact hE0.x))) ?_
            clear H;intro dA mG hv;clear a;intro a H;obtain⟨_,rfl,fD⟩:=hv
            replace hS:=hS.new fD;simp only [List.cons_append,List.nil_append] at hS
            replace hW:=Nat.le_trans hW fD.x.size
            refine Xl 11 (by kernel_rfl) ?_
            refine Wb (L:=a0.Ports.length) (C:=a0.Ports.length) 11 H rfl Tryz.underlying31 Zbj rfl rfl (Nat.le_refl _) aG (by simp only [maxLen];omega) rfl ?_
            clear H;intro dB mH hN fE hs;clear a;intro a H;replace hS:=hS.newOwn hN fE (by simp [Yq];omega);clear hN
            replace hS:=St.mkDeep0 (R:=Ys) (z0:=(⟨([] : List ByteArray),0⟩ : GPort)) (n:=a0.Ports.length) rfl (by simp) (fun w=>⟨_,rfl,SlR.nil _ _ _⟩) hS
            replace hW:=Nat.le_trans hW fE.size
            refine Zh 12 H rfl (Qc (cs:=[.int .i64 a0.Id,.int .i64 0,.int .i64 0,.slice none 0 0,.slice none 0 0,.slice none 0 0,.slice (some ⟨aJ,0,none⟩) a0.Events.toNat a0.Events.toNat,dA,.slice (some ⟨dB,0,none⟩) a0.Ports.length a0.Ports.length,.slice none 0 0]) Ty Zdr Zds rfl ((Zy rfl rfl (by simp)).trans ((Zy (((hS.own 3 rfl).slr rfl (fun _ _=>rfl))).one rfl (by simp)).trans ((Zy (((hS.own 1 rfl).slr rfl (fun _ _=>rfl))).one rfl (by simp)).trans ((Zy ((hS.deepSl 0 rfl)).one rfl (by simp)).trans rfl))))) rfl (by kernel_rfl) (by kernel_rfl) (by kernel_rfl) (by kernel_rfl) (fun _ _ _ h=>h) ?_;clear H a;intro a H
            replace hS:=hS.pk2
            refine Qf 14 H rfl rfl rfl (vs:=[.int .i64 a0.Id,.int .i64 0,.int .i64 0,.slice none 0 0,.slice none 0 0,.slice none 0 0,.slice (some ⟨aJ,0,none⟩) a0.Events.toNat a0.Events.toNat,dA,.slice (some ⟨dB,0,none⟩) a0.Ports.length a0.Ports.length,.slice none 0 0]) rfl Zca (hS.blk 0 rfl) rfl (by simp [(((hS.own 3 rfl).slr rfl (fun _ _=>rfl))).one,(((hS.own 2 rfl).slr rfl (fun _ _=>rfl))).one,((hS.deepSl 1 rfl)).one]) (by kernel_rfl) (.inl (fun h=>absurd h (Nat.not_lt.2 cA))) ?_
            clear H;intro mI hN fF hz;clear a;intro a H;replace hS:=hS.setBlk hN fF;clear hN hz;replace hW:=Nat.le_trans hW fF.size
            refine Xh (by kernel_rfl) ?_
            refine Za ?_
            obtain rfl:=Option.some.inj hm;replace hm:=aC;try dsimp only at hm
            replace hS:=hS.pk1
            replace hS:=hS.pk2
            replace hS:=hS.pk3
            replace hS:=hS.pk3
            replace hS:=hS.pk5
            replace hS:=hS.pk6
            replace hS:=hS.tk6
            exact Wa ((List.replicate a0.Events.toNat false),aD,(List.replicate a0.Ports.length (⟨([] : List ByteArray),0⟩ : GPort)),.slice (some ⟨aJ,0,none⟩) a0.Events.toNat a0.Events.toNat,dA,.slice (some ⟨dB,0,none⟩) a0.Ports.length a0.Ports.length,cZ) H ⟨rfl,rfl,rfl,trivial⟩ ⟨hm,hS⟩
          · skip
            refine Wb (L:=a0.Ports.length) (C:=a0.Ports.length) 11 H rfl Tryz.underlying31 Zbj rfl rfl (Nat.le_refl _) aG (by simp only [maxLen];omega) rfl ?_
            clear H;intro dC mJ hN fG hs;clear a;intro a H;replace hS:=hS.newOwn hN fG (by simp [Yq];omega);clear hN
            replace hS:=St.mkDeep0 (R:=Ys) (z0:=(⟨([] : List ByteArray),0⟩ : GPort)) (n:=a0.Ports.length) rfl (by simp) (fun w=>⟨_,rfl,SlR.nil _ _ _⟩) hS
            replace hW:=Nat.le_trans hW fG.size
            refine Xl 7 (by kernel_rfl) ?_
            refine Xo 7 H rfl rfl Zbk (Zv (A:=A) (aB.ext (Zq.mono _) hS.x) aF) rfl (fun v w hv=>.inl (ChgF.of_ext (by obtain⟨_,_,hE0⟩:=hv;exact hE0.x))) ?_
            clear H;intro dD mK hv;clear a;intro a H;obtain⟨_,rfl,fH⟩:=hv
            replace hS:=hS.new fH;simp only [List.cons_append,List.nil_append] at hS
            replace hW:=Nat.le_trans hW fH.x.size
            refine Zh 12 H rfl (Qc (cs:=[.int .i64 a0.Id,.int .i64 0,.int .i64 0,.slice none 0 0,.slice none 0 0,.slice none 0 0,.slice (some ⟨aJ,0,none⟩) a0.Events.toNat a0.Events.toNat,dD,.slice (some ⟨dC,0,none⟩) a0.Ports.length a0.Ports.length,.slice none 0 0]) Ty Zdr Zds rfl ((Zy rfl rfl (by simp)).trans ((Zy (((hS.own 3 rfl).slr rfl (fun _ _=>rfl))).one rfl (by simp)).trans ((Zy (((hS.own 0 rfl).slr rfl (fun _ _=>rfl))).one rfl (by simp)).trans ((Zy ((hS.deepSl 1 rfl)).one rfl (by simp)).trans rfl))))) rfl (by kernel_rfl) (by kernel_rfl) (by kernel_rfl) (by kernel_rfl) (fun _ _ _ h=>h) ?_;clear H a;intro a H
            replace hS:=hS.pk2
            refine Qf 14 H rfl rfl rfl (vs:=[.int .i64 a0.Id,.int .i64 0,.int .i64 0,.slice none 0 0,.slice none 0 0,.slice none 0 0,.slice (some ⟨aJ,0,none⟩) a0.Events.toNat a0.Events.toNat,dD,.slice (some ⟨dC,0,none⟩) a0.Ports.length a0.Ports.length,.slice none 0 0]) rfl Zca (hS.blk 0 rfl) rfl (by simp [(((hS.own 3 rfl).slr rfl (fun _ _=>rfl))).one,(((hS.own 1 rfl).slr rfl (fun _ _=>rfl))).one,((hS.deepSl 2 rfl)).one]) (by kernel_rfl) (.inl (fun h=>absurd h (Nat.not_lt.2 cA))) ?_
            clear H;intro mL hN fI hz;clear a;intro a H;replace hS:=hS.setBlk hN fI;clear hN hz;replace hW:=Nat.le_trans hW fI.size
            refine Xh (by kernel_rfl) ?_
            refine Za ?_
            obtain rfl:=Option.some.inj hm;replace hm:=aC;try dsimp only at hm
            replace hS:=hS.pk2
            replace hS:=hS.pk2
            replace hS:=hS.pk3
            replace hS:=hS.pk3
            replace hS:=hS.pk5
            replace hS:=hS.pk6
            replace hS:=hS.tk6
            exact Wa ((List.replicate a0.Events.toNat false),aD,(List.replicate a0.Ports.length (⟨([] : List ByteArray),0⟩ : GPort)),.slice (some ⟨aJ,0,none⟩) a0.Events.toNat a0.Events.toNat,dD,.slice (some ⟨dC,0,none⟩) a0.Ports.length a0.Ports.length,cZ) H ⟨rfl,rfl,rfl,trivial⟩ ⟨hm,hS⟩
      · skip
        refine Xo 7 H rfl rfl Zbk (Zv (A:=A) (aB.ext (Zq.mono _) hS.x) aF) rfl (fun v w hv=>.inl (ChgF.of_ext (by obtain⟨_,_,hE0⟩:=hv;exact hE0.x))) ?_
        clear H;intro aK mM hv;clear a;intro a H;obtain⟨_,rfl,fJ⟩:=hv
        replace hS:=hS.new fJ;simp only [List.cons_append,List.nil_append] at hS
        replace hW:=Nat.le_trans hW fJ.x.size
        refine Zf1 4 11 13 (by kernel_rfl) ?_ ?_ ?_
        · skip
          refine Yt (e:=eF) (z0:=false) (L:=a0.Events.toNat) (C:=a0.Events.toNat) 4 H rfl Tryz.underlying30 el4 rfl (by show _=some (Value.int .i64 ((Int.toNat a0.Events : Nat) : Int));rw [Int.toNat_of_nonneg aA];rfl) (by show _=some (Value.int .i64 ((Int.toNat a0.Events : Nat) : Int));rw [Int.toNat_of_nonneg aA];rfl) (Nat.le_refl _) aE (by simp only [maxLen];omega) rfl ?_
          clear H;intro bQ mN hN fK hs;clear a;intro a H;replace hS:=hS.newOwn hN fK (by simp [Yq];omega);clear hN
          replace hW:=Nat.le_trans hW fK.size
          refine Zdl 11 13 (by kernel_rfl) ?_ ?_
          · skip
            refine Wb (L:=a0.Ports.length) (C:=a0.Ports.length) 11 H rfl Tryz.underlying31 Zbj rfl rfl (Nat.le_refl _) aG (by simp only [maxLen];omega) rfl ?_
            clear H;intro dE mO hN fL hs;clear a;intro a H;replace hS:=hS.newOwn hN fL (by simp [Yq];omega);clear hN
            replace hS:=St.mkDeep0 (R:=Ys) (z0:=(⟨([] : List ByteArray),0⟩ : GPort)) (n:=a0.Ports.length) rfl (by simp) (fun w=>⟨_,rfl,SlR.nil _ _ _⟩) hS
            replace hW:=Nat.le_trans hW fL.size
            refine Zh 12 H rfl (Qc (cs:=[.int .i64 a0.Id,.int .i64 0,.int .i64 0,.slice none 0 0,.slice none 0 0,.slice none 0 0,.slice (some ⟨bQ,0,none⟩) a0.Events.toNat a0.Events.toNat,aK,.slice (some ⟨dE,0,none⟩) a0.Ports.length a0.Ports.length,.slice none 0 0]) Ty Zdr Zds rfl ((Zy rfl rfl (by simp)).trans ((Zy (((hS.own 1 rfl).slr rfl (fun _ _=>rfl))).one rfl (by simp)).trans ((Zy (((hS.own 2 rfl).slr rfl (fun _ _=>rfl))).one rfl (by simp)).trans ((Zy ((hS.deepSl 0 rfl)).one rfl (by simp)).trans rfl))))) rfl (by kernel_rfl) (by kernel_rfl) (by kernel_rfl) (by kernel_rfl) (fun _ _ _ h=>h) ?_;clear H a;intro a H
            refine Zc2 13 H rfl Ty rfl (by kernel_rfl) ?_
            clear H;intro i0 mP hN fM hs;clear a;intro a H
            have dF : aI.heap.size ≤ i0:=hs ▸ hW
            replace hS:=hS.newBlk hN fM hs;clear hN hs
            replace hW:=Nat.le_trans hW fM.size
            refine Qf 14 H rfl rfl rfl (vs:=[.int .i64 a0.Id,.int .i64 0,.int .i64 0,.slice none 0 0,.slice none 0 0,.slice none 0 0,.slice (some ⟨bQ,0,none⟩) a0.Events.toNat a0.Events.toNat,aK,.slice (some ⟨dE,0,none⟩) a0.Ports.length a0.Ports.length,.slice none 0 0]) rfl Zca (hS.blk 0 rfl) rfl (by simp [(((hS.own 2 rfl).slr rfl (fun _ _=>rfl))).one,(((hS.own 3 rfl).slr rfl (fun _ _=>rfl))).one,((hS.deepSl 1 rfl)).one]) (by kernel_rfl) (.inl (fun h=>absurd h (Nat.not_lt.2 dF))) ?_
            clear H;intro mQ hN fN hz;clear a;intro a H;replace hS:=hS.setBlk hN fN;clear hN hz;replace hW:=Nat.le_trans hW fN.size
            refine Xh (by kernel_rfl) ?_
            refine Za ?_
            obtain rfl:=Option.some.inj hm;replace hm:=aC;try dsimp only at hm
            replace hS:=hS.pk1
            replace hS:=hS.pk3
            replace hS:=hS.pk3
            replace hS:=hS.pk3
            replace hS:=hS.pk5
            replace hS:=hS.pk6
            replace hS:=hS.tk6
            exact Wa ((List.replicate a0.Events.toNat false),aD,(List.replicate a0.Ports.length (⟨([] : List ByteArray),0⟩ : GPort)),.slice (some ⟨bQ,0,none⟩) a0.Events.toNat a0.Events.toNat,aK,.slice (some ⟨dE,0,none⟩) a0.Ports.length a0.Ports.length,i0) H ⟨rfl,rfl,rfl,trivial⟩ ⟨hm,hS⟩
          · skip
            refine Gh 13 H rfl Ty rfl ?_
            clear H;intro i1 mR hN fO hs;clear a;intro a H
            have dG : aI.heap.size ≤ i1:=hs ▸ hW
            replace hS:=hS.newBlk hN fO hs;clear hN hs
            replace hW:=Nat.le_trans hW fO.size
            refine Xl 11 (by kernel_rfl) ?_
            refine Wb (L:=a0.Ports.length) (C:=a0.Ports.length) 11 H rfl Tryz.underlying31 Zbj rfl rfl (Nat.le_refl _) aG (by simp only [maxLen];omega) rfl ?_
            clear H;intro dH mS hN fP hs;clear a;intro a H;replace hS:=hS.newOwn hN fP (by simp [Yq];omega);clear hN
            replace hS:=St.mkDeep0 (R:=Ys) (z0:=(⟨([] : List ByteArray),0⟩ : GPort)) (n:=a0.Ports.length) rfl (by simp) (fun w=>⟨_,rfl,SlR.nil _ _ _⟩) hS
            replace hW:=Nat.le_trans hW fP.size
            refine Zh 12 H rfl (Qc (cs:=[.int .i64 a0.Id,.int .i64 0,.int .i64 0,.slice none 0 0,.slice none 0 0,.slice none 0 0,.slice (some ⟨bQ,0,none⟩) a0.Events.toNat a0.Events.toNat,aK,.slice (some ⟨dH,0,none⟩) a0.Ports.length a0.Ports.length,.slice none 0 0]) Ty Zdr Zds rfl ((Zy rfl rfl (by simp)).trans ((Zy (((hS.own 2 rfl).slr rfl (fun _ _=>rfl))).one rfl (by simp)).trans ((Zy (((hS.own 3 rfl).slr rfl (fun _ _=>rfl))).one rfl (by simp)).trans ((Zy ((hS.deepSl 0 rfl)).one rfl (by simp)).trans rfl))))) rfl (by kernel_rfl) (by kernel_rfl) (by kernel_rfl) (by kernel_rfl) (fun _ _ _ h=>h) ?_;clear H a;intro a H
            replace hS:=hS.pk1
            refine Qf 14 H rfl rfl rfl (vs:=[.int .i64 a0.Id,.int .i64 0,.int .i64 0,.slice none 0 0,.slice none 0 0,.slice none 0 0,.slice (some ⟨bQ,0,none⟩) a0.Events.toNat a0.Events.toNat,aK,.slice (some ⟨dH,0,none⟩) a0.Ports.length a0.Ports.length,.slice none 0 0]) rfl Zca (hS.blk 0 rfl) rfl (by simp [(((hS.own 2 rfl).slr rfl (fun _ _=>rfl))).one,(((hS.own 3 rfl).slr rfl (fun _ _=>rfl))).one,((hS.deepSl 1 rfl)).one]) (by kernel_rfl) (.inl (fun h=>absurd h (Nat.not_lt.2 dG))) ?_
            clear H;intro mT hN fQ hz;clear a;intro a H;replace hS:=hS.setBlk hN fQ;clear hN hz;replace hW:=Nat.le_trans hW fQ.size
            refine Xh (by kernel_rfl) ?_
            refine Za ?_
            obtain rfl:=Option.some.inj hm;replace hm:=aC;try dsimp only at hm
            replace hS:=hS.pk1
            replace hS:=hS.pk3
            replace hS:=hS.pk3
            replace hS:=hS.pk3
            replace hS:=hS.pk5
            replace hS:=hS.pk6
            replace hS:=hS.tk6
            exact Wa ((List.replicate a0.Events.toNat false),aD,(List.replicate a0.Ports.length (⟨([] : List ByteArray),0⟩ : GPort)),.slice (some ⟨bQ,0,none⟩) a0.Events.toNat a0.Events.toNat,aK,.slice (some ⟨dH,0,none⟩) a0.Ports.length a0.Ports.length,i1) H ⟨rfl,rfl,rfl,trivial⟩ ⟨hm,hS⟩
        · skip
          refine Wb (L:=a0.Ports.length) (C:=a0.Ports.length) 11 H rfl Tryz.underlying31 Zbj rfl rfl (Nat.le_refl _) aG (by simp only [maxLen];omega) rfl ?_
          clear H;intro bR mU hN fR hs;clear a;intro a H;replace hS:=hS.newOwn hN fR (by simp [Yq];omega);clear hN
          replace hS:=St.mkDeep0 (R:=Ys) (z0:=(⟨([] : List ByteArray),0⟩ : GPort)) (n:=a0.Ports.length) rfl (by simp) (fun w=>⟨_,rfl,SlR.nil _ _ _⟩) hS
          replace hW:=Nat.le_trans hW fR.size
          refine Zdl 4 13 (by kernel_rfl) ?_ ?_
          · skip
            refine Yt (e:=eF) (z0:=false) (L:=a0.Events.toNat) (C:=a0.Events.toNat) 4 H rfl Tryz.underlying30 el4 rfl (by show _=some (Value.int .i64 ((Int.toNat a0.Events : Nat) : Int));rw [Int.toNat_of_nonneg aA];rfl) (by show _=some (Value.int .i64 ((Int.toNat a0.Events : Nat) : Int));rw [Int.toNat_of_nonneg aA];rfl) (Nat.le_refl _) aE (by simp only [maxLen];omega) rfl ?_
            clear H;intro dI mV hN fS hs;clear a;intro a H;replace hS:=hS.newOwn hN fS (by simp [Yq];omega);clear hN
            replace hW:=Nat.le_trans hW fS.size
            refine Zh 12 H rfl (Qc (cs:=[.int .i64 a0.Id,.int .i64 0,.int .i64 0,.slice none 0 0,.slice none 0 0,.slice none 0 0,.slice (some ⟨dI,0,none⟩) a0.Events.toNat a0.Events.toNat,aK,.slice (some ⟨bR,0,none⟩) a0.Ports.length a0.Ports.length,.slice none 0 0]) Ty Zdr Zds rfl ((Zy rfl rfl (by simp)).trans ((Zy (((hS.own 0 rfl).slr rfl (fun _ _=>rfl))).one rfl (by simp)).trans ((Zy (((hS.own 2 rfl).slr rfl (fun _ _=>rfl))).one rfl (by simp)).trans ((Zy ((hS.deepSl 1 rfl)).one rfl (by simp)).trans rfl))))) rfl (by kernel_rfl) (by kernel_rfl) (by kernel_rfl) (by kernel_rfl) (fun _ _ _ h=>h) ?_;clear H a;intro a H
            refine Zc2 13 H rfl Ty rfl (by kernel_rfl) ?_
            clear H;intro i2 mW hN fT hs;clear a;intro a H
            have dJ : aI.heap.size ≤ i2:=hs ▸ hW
            replace hS:=hS.newBlk hN fT hs;clear hN hs
            replace hW:=Nat.le_trans hW fT.size
            refine Qf 14 H rfl rfl rfl (vs:=[.int .i64 a0.Id,.int .i64 0,.int .i64 0,.slice none 0 0,.slice none 0 0,.slice none 0 0,.slice (some ⟨dI,0,none⟩) a0.Events.toNat a0.Events.toNat,aK,.slice (some ⟨bR,0,none⟩) a0.Ports.length a0.Ports.length,.slice none 0 0]) rfl Zca (hS.blk 0 rfl) rfl (by simp [(((hS.own 1 rfl).slr rfl (fun _ _=>rfl))).one,(((hS.own 3 rfl).slr rfl (fun _ _=>rfl))).one,((hS.deepSl 2 rfl)).one]) (by kernel_rfl) (.inl (fun h=>absurd h (Nat.not_lt.2 dJ))) ?_
            clear H;intro mX hN fU hz;clear a;intro a H;replace hS:=hS.setBlk hN fU;clear hN hz;replace hW:=Nat.le_trans hW fU.size
            refine Xh (by kernel_rfl) ?_
            refine Za ?_
            obtain rfl:=Option.some.inj hm;replace hm:=aC;try dsimp only at hm
            replace hS:=hS.pk2
            replace hS:=hS.pk3
            replace hS:=hS.pk3
            replace hS:=hS.pk3
            replace hS:=hS.pk5
            replace hS:=hS.pk6
            replace hS:=hS.tk6
            exact Wa ((List.replicate a0.Events.toNat false),aD,(List.replicate a0.Ports.length (⟨([] : List ByteArray),0⟩ : GPort)),.slice (some ⟨dI,0,none⟩) a0.Events.toNat a0.Events.toNat,aK,.slice (some ⟨bR,0,none⟩) a0.Ports.length a0.Ports.length,i2) H ⟨rfl,rfl,rfl,trivial⟩ ⟨hm,hS⟩
          · skip
            refine Gh 13 H rfl Ty rfl ?_
            clear H;intro i3 mY hN fV hs;clear a;intro a H
            have dK : aI.heap.size ≤ i3:=hs ▸ hW
            replace hS:=hS.newBlk hN fV hs;clear hN hs
            replace hW:=Nat.le_trans hW fV.size
            refine Xl 4 (by kernel_rfl) ?_
            refine Yt (e:=eF) (z0:=false) (L:=a0.Events.toNat) (C:=a0.Events.toNat) 4 H rfl Tryz.underlying30 el4 rfl (by show _=some (Value.int .i64 ((Int.toNat a0.Events : Nat) : Int));rw [Int.toNat_of_nonneg aA];rfl) (by show _=some (Value.int .i64 ((Int.toNat a0.Events : Nat) : Int));rw [Int.toNat_of_nonneg aA];rfl) (Nat.le_refl _) aE (by simp only [maxLen];omega) rfl ?_
            clear H;intro dL mZ hN fW hs;clear a;intro a H;replace hS:=hS.newOwn hN fW (by simp [Yq];omega);clear hN
            replace hW:=Nat.le_trans hW fW.size
            refine Zh 12 H rfl (Qc (cs:=[.int .i64 a0.Id,.int .i64 0,.int .i64 0,.slice none 0 0,.slice none 0 0,.slice none 0 0,.slice (some ⟨dL,0,none⟩) a0.Events.toNat a0.Events.toNat,aK,.slice (some ⟨bR,0,none⟩) a0.Ports.length a0.Ports.length,.slice none 0 0]) Ty Zdr Zds rfl ((Zy rfl rfl (by simp)).trans ((Zy (((hS.own 0 rfl).slr rfl (fun _ _=>rfl))).one rfl (by simp)).trans ((Zy (((hS.own 3 rfl).slr rfl (fun _ _=>rfl))).one rfl (by simp)).trans ((Zy ((hS.deepSl 2 rfl)).one rfl (by simp)).trans rfl))))) rfl (by kernel_rfl) (by kernel_rfl) (by kernel_rfl) (by kernel_rfl) (fun _ _ _ h=>h) ?_;clear H a;intro a H
            replace hS:=hS.pk1
            refine Qf 14 H rfl rfl rfl (vs:=[.int .i64 a0.Id,.int .i64 0,.int .i64 0,.slice none 0 0,.slice none 0 0,.slice none 0 0,.slice (some ⟨dL,0,none⟩) a0.Events.toNat a0.Events.toNat,aK,.slice (some ⟨bR,0,none⟩) a0.Ports.length a0.Ports.length,.slice none 0 0]) rfl Zca (hS.blk 0 rfl) rfl (by simp [(((hS.own 1 rfl).slr rfl (fun _ _=>rfl))).one,(((hS.own 3 rfl).slr rfl (fun _ _=>rfl))).one,((hS.deepSl 2 rfl)).one]) (by kernel_rfl) (.inl (fun h=>absurd h (Nat.not_lt.2 dK))) ?_
            clear H;intro m5 hN fX hz;clear a;intro a H;replace hS:=hS.setBlk hN fX;clear hN hz;replace hW:=Nat.le_trans hW fX.size
            refine Xh (by kernel_rfl) ?_
            refine Za ?_
            obtain rfl:=Option.some.inj hm;replace hm:=aC;try dsimp only at hm
            replace hS:=hS.pk2
            replace hS:=hS.pk3
            replace hS:=hS.pk3
            replace hS:=hS.pk3
            replace hS:=hS.pk5
            replace hS:=hS.pk6
            replace hS:=hS.tk6
            exact Wa ((List.replicate a0.Events.toNat false),aD,(List.replicate a0.Ports.length (⟨([] : List ByteArray),0⟩ : GPort)),.slice (some ⟨dL,0,none⟩) a0.Events.toNat a0.Events.toNat,aK,.slice (some ⟨bR,0,none⟩) a0.Ports.length a0.Ports.length,i3) H ⟨rfl,rfl,rfl,trivial⟩ ⟨hm,hS⟩
        · skip
          refine Gh 13 H rfl Ty rfl ?_
          clear H;intro dM m6 hN fY hs;clear a;intro a H
          have cB : aI.heap.size ≤ dM:=hs ▸ hW
          replace hS:=hS.newBlk hN fY hs;clear hN hs
          replace hW:=Nat.le_trans hW fY.size
          refine Zdl 4 11 (by kernel_rfl) ?_ ?_
          · skip
            refine Yt (e:=eF) (z0:=false) (L:=a0.Events.toNat) (C:=a0.Events.toNat) 4 H rfl Tryz.underlying30 el4 rfl (by show _=some (Value.int .i64 ((Int.toNat a0.Events : Nat) : Int));rw [Int.toNat_of_nonneg aA];rfl) (by show _=some (Value.int .i64 ((Int.toNat a0.Events : Nat) : Int));rw [Int.toNat_of_nonneg aA];rfl) (Nat.le_refl _) aE (by simp only [maxLen];omega) rfl ?_
            clear H;intro dN m7 hN fZ hs;clear a;intro a H;replace hS:=hS.newOwn hN fZ (by simp [Yq];omega);clear hN
            replace hW:=Nat.le_trans hW fZ.size
            refine Xl 11 (by kernel_rfl) ?_
            refine Wb (L:=a0.Ports.length) (C:=a0.Ports.length) 11 H rfl Tryz.underlying31 Zbj rfl rfl (Nat.le_refl _) aG (by simp only [maxLen];omega) rfl ?_
            clear H;intro dO m8 hN gA hs;clear a;intro a H;replace hS:=hS.newOwn hN gA (by simp [Yq];omega);clear hN
            replace hS:=St.mkDeep0 (R:=Ys) (z0:=(⟨([] : List ByteArray),0⟩ : GPort)) (n:=a0.Ports.length) rfl (by simp) (fun w=>⟨_,rfl,SlR.nil _ _ _⟩) hS
            replace hW:=Nat.le_trans hW gA.size
            refine Zh 12 H rfl (Qc (cs:=[.int .i64 a0.Id,.int .i64 0,.int .i64 0,.slice none 0 0,.slice none 0 0,.slice none 0 0,.slice (some ⟨dN,0,none⟩) a0.Events.toNat a0.Events.toNat,aK,.slice (some ⟨dO,0,none⟩) a0.Ports.length a0.Ports.length,.slice none 0 0]) Ty Zdr Zds rfl ((Zy rfl rfl (by simp)).trans ((Zy (((hS.own 1 rfl).slr rfl (fun _ _=>rfl))).one rfl (by simp)).trans ((Zy (((hS.own 3 rfl).slr rfl (fun _ _=>rfl))).one rfl (by simp)).trans ((Zy ((hS.deepSl 0 rfl)).one rfl (by simp)).trans rfl))))) rfl (by kernel_rfl) (by kernel_rfl) (by kernel_rfl) (by kernel_rfl) (fun _ _ _ h=>h) ?_;clear H a;intro a H
            replace hS:=hS.pk2
            refine Qf 14 H rfl rfl rfl (vs:=[.int .i64 a0.Id,.int .i64 0,.int .i64 0,.slice none 0 0,.slice none 0 0,.slice none 0 0,.slice (some ⟨dN,0,none⟩) a0.Events.toNat a0.Events.toNat,aK,.slice (some ⟨dO,0,none⟩) a0.Ports.length a0.Ports.length,.slice none 0 0]) rfl Zca (hS.blk 0 rfl) rfl (by simp [(((hS.own 2 rfl).slr rfl (fun _ _=>rfl))).one,(((hS.own 3 rfl).slr rfl (fun _ _=>rfl))).one,((hS.deepSl 1 rfl)).one]) (by kernel_rfl) (.inl (fun h=>absurd h (Nat.not_lt.2 cB))) ?_
            clear H;intro m9 hN gB hz;clear a;intro a H;replace hS:=hS.setBlk hN gB;clear hN hz;replace hW:=Nat.le_trans hW gB.size
            refine Xh (by kernel_rfl) ?_
            refine Za ?_
            obtain rfl:=Option.some.inj hm;replace hm:=aC;try dsimp only at hm
            replace hS:=hS.pk1
            replace hS:=hS.pk3
            replace hS:=hS.pk3
            replace hS:=hS.pk3
            replace hS:=hS.pk5
            replace hS:=hS.pk6
            replace hS:=hS.tk6
            exact Wa ((List.replicate a0.Events.toNat false),aD,(List.replicate a0.Ports.length (⟨([] : List ByteArray),0⟩ : GPort)),.slice (some ⟨dN,0,none⟩) a0.Events.toNat a0.Events.toNat,aK,.slice (some ⟨dO,0,none⟩) a0.Ports.length a0.Ports.length,dM) H ⟨rfl,rfl,rfl,trivial⟩ ⟨hm,hS⟩
          · skip
            refine Wb (L:=a0.Ports.length) (C:=a0.Ports.length) 11 H rfl Tryz.underlying31 Zbj rfl rfl (Nat.le_refl _) aG (by simp only [maxLen];omega) rfl ?_
            clear H;intro dP nA hN gC hs;clear a;intro a H;replace hS:=hS.newOwn hN gC (by simp [Yq];omega);clear hN
            replace hS:=St.mkDeep0 (R:=Ys) (z0:=(⟨([] : List ByteArray),0⟩ : GPort)) (n:=a0.Ports.length) rfl (by simp) (fun w=>⟨_,rfl,SlR.nil _ _ _⟩) hS
            replace hW:=Nat.le_trans hW gC.size
            refine Xl 4 (by kernel_rfl) ?_
            refine Yt (e:=eF) (z0:=false) (L:=a0.Events.toNat) (C:=a0.Events.toNat) 4 H rfl Tryz.underlying30 el4 rfl (by show _=some (Value.int .i64 ((Int.toNat a0.Events : Nat) : Int));rw [Int.toNat_of_nonneg aA];rfl) (by show _=some (Value.int .i64 ((Int.toNat a0.Events : Nat) : Int));rw [Int.toNat_of_nonneg aA];rfl) (Nat.le_refl _) aE (by simp only [maxLen];omega) rfl ?_
            clear H;intro dQ nB hN gD hs;clear a;intro a H;replace hS:=hS.newOwn hN gD (by simp [Yq];omega);clear hN
            replace hW:=Nat.le_trans hW gD.size
            refine Zh 12 H rfl (Qc (cs:=[.int .i64 a0.Id,.int .i64 0,.int .i64 0,.slice none 0 0,.slice none 0 0,.slice none 0 0,.slice (some ⟨dQ,0,none⟩) a0.Events.toNat a0.Events.toNat,aK,.slice (some ⟨dP,0,none⟩) a0.Ports.length a0.Ports.length,.slice none 0 0]) Ty Zdr Zds rfl ((Zy rfl rfl (by simp)).trans ((Zy (((hS.own 0 rfl).slr rfl (fun _ _=>rfl))).one rfl (by simp)).trans ((Zy (((hS.own 3 rfl).slr rfl (fun _ _=>rfl))).one rfl (by simp)).trans ((Zy ((hS.deepSl 1 rfl)).one rfl (by simp)).trans rfl))))) rfl (by kernel_rfl) (by kernel_rfl) (by kernel_rfl) (by kernel_rfl) (fun _ _ _ h=>h) ?_;clear H a;intro a H
            replace hS:=hS.pk2
            refine Qf 14 H rfl rfl rfl (vs:=[.int .i64 a0.Id,.int .i64 0,.int .i64 0,.slice none 0 0,.slice none 0 0,.slice none 0 0,.slice (some ⟨dQ,0,none⟩) a0.Events.toNat a0.Events.toNat,aK,.slice (some ⟨dP,0,none⟩) a0.Ports.length a0.Ports.length,.slice none 0 0]) rfl Zca (hS.blk 0 rfl) rfl (by simp [(((hS.own 1 rfl).slr rfl (fun _ _=>rfl))).one,(((hS.own 3 rfl).slr rfl (fun _ _=>rfl))).one,((hS.deepSl 2 rfl)).one]) (by kernel_rfl) (.inl (fun h=>absurd h (Nat.not_lt.2 cB))) ?_
            clear H;intro nC hN gE hz;clear a;intro a H;replace hS:=hS.setBlk hN gE;clear hN hz;replace hW:=Nat.le_trans hW gE.size
            refine Xh (by kernel_rfl) ?_
            refine Za ?_
            obtain rfl:=Option.some.inj hm;replace hm:=aC;try dsimp only at hm
            replace hS:=hS.pk2
            replace hS:=hS.pk3
            replace hS:=hS.pk3
            replace hS:=hS.pk3
            replace hS:=hS.pk5
            replace hS:=hS.pk6
            replace hS:=hS.tk6
            exact Wa ((List.replicate a0.Events.toNat false),aD,(List.replicate a0.Ports.length (⟨([] : List ByteArray),0⟩ : GPort)),.slice (some ⟨dQ,0,none⟩) a0.Events.toNat a0.Events.toNat,aK,.slice (some ⟨dP,0,none⟩) a0.Ports.length a0.Ports.length,dM) H ⟨rfl,rfl,rfl,trivial⟩ ⟨hm,hS⟩
      · skip
        refine Wb (L:=a0.Ports.length) (C:=a0.Ports.length) 11 H rfl Tryz.underlying31 Zbj rfl rfl (Nat.le_refl _) aG (by simp only [maxLen];omega) rfl ?_
        clear H;intro aL nD hN gF hs;clear a;intro a H;replace hS:=hS.newOwn hN gF (by simp [Yq];omega);clear hN
        replace hS:=St.mkDeep0 (R:=Ys) (z0:=(⟨([] : List ByteArray),0⟩ : GPort)) (n:=a0.Ports.length) rfl (by simp) (fun w=>⟨_,rfl,SlR.nil _ _ _⟩) hS
        replace hW:=Nat.le_trans hW gF.size
        refine Zf1 4 7 13 (by kernel_rfl) ?_ ?_ ?_
        · skip
          refine Yt (e:=eF) (z0:=false) (L:=a0.Events.toNat) (C:=a0.Events.toNat) 4 H rfl Tryz.underlying30 el4 rfl (by show _=some (Value.int .i64 ((Int.toNat a0.Events : Nat) : Int));rw [Int.toNat_of_nonneg aA];rfl) (by show _=some (Value.int .i64 ((Int.toNat a0.Events : Nat) : Int));rw [Int.toNat_of_nonneg aA];rfl) (Nat.le_refl _) aE (by simp only [maxLen];omega) rfl ?_
          clear H;intro bS nE hN gG hs;clear a;intro a H;replace hS:=hS.newOwn hN gG (by simp [Yq];omega);clear hN
          replace hW:=Nat.le_trans hW gG.size
          refine Zdl 7 13 (by kernel_rfl) ?_ ?_
          · skip
            refine Xo 7 H rfl rfl Zbk (Zv (A:=A) (aB.ext (Zq.mono _) hS.x) aF) rfl (fun v w hv=>.inl (ChgF.of_ext (by obtain⟨_,_,hE0⟩:=hv;exact hE0.x))) ?_
            clear H;intro dR nF hv;clear a;intro a H;obtain⟨_,rfl,gH⟩:=hv
            replace hS:=hS.new gH;simp only [List.cons_append,List.nil_append] at hS
            replace hW:=Nat.le_trans hW gH.x.size
            refine Zh 12 H rfl (Qc (cs:=[.int .i64 a0.Id,.int .i64 0,.int .i64 0,.slice none 0 0,.slice none 0 0,.slice none 0 0,.slice (some ⟨bS,0,none⟩) a0.Events.toNat a0.Events.toNat,dR,.slice (some ⟨aL,0,none⟩) a0.Ports.length a0.Ports.length,.slice none 0 0]) Ty Zdr Zds rfl ((Zy rfl rfl (by simp)).trans ((Zy (((hS.own 1 rfl).slr rfl (fun _ _=>rfl))).one rfl (by simp)).trans ((Zy (((hS.own 0 rfl).slr rfl (fun _ _=>rfl))).one rfl (by simp)).trans ((Zy ((hS.deepSl 2 rfl)).one rfl (by simp)).trans rfl))))) rfl (by kernel_rfl) (by kernel_rfl) (by kernel_rfl) (by kernel_rfl) (fun _ _ _ h=>h) ?_;clear H a;intro a H
            refine Zc2 13 H rfl Ty rfl (by kernel_rfl) ?_
            clear H;intro i4 nG hN gI hs;clear a;intro a H
            have dS : aI.heap.size ≤ i4:=hs ▸ hW
            replace hS:=hS.newBlk hN gI hs;clear hN hs
            replace hW:=Nat.le_trans hW gI.size
            refine Qf 14 H rfl rfl rfl (vs:=[.int .i64 a0.Id,.int .i64 0,.int .i64 0,.slice none 0 0,.slice none 0 0,.slice none 0 0,.slice (some ⟨bS,0,none⟩) a0.Events.toNat a0.Events.toNat,dR,.slice (some ⟨aL,0,none⟩) a0.Ports.length a0.Ports.length,.slice none 0 0]) rfl Zca (hS.blk 0 rfl) rfl (by simp [(((hS.own 2 rfl).slr rfl (fun _ _=>rfl))).one,(((hS.own 1 rfl).slr rfl (fun _ _=>rfl))).one,((hS.deepSl 3 rfl)).one]) (by kernel_rfl) (.inl (fun h=>absurd h (Nat.not_lt.2 dS))) ?_
            clear H;intro nH hN gJ hz;clear a;intro a H;replace hS:=hS.setBlk hN gJ;clear hN hz;replace hW:=Nat.le_trans hW gJ.size
            refine Xh (by kernel_rfl) ?_
            refine Za ?_
            obtain rfl:=Option.some.inj hm;replace hm:=aC;try dsimp only at hm
            replace hS:=hS.pk3
            replace hS:=hS.pk2
            replace hS:=hS.pk3
            replace hS:=hS.pk3
            replace hS:=hS.pk5
            replace hS:=hS.pk6
            replace hS:=hS.tk6
            exact Wa ((List.replicate a0.Events.toNat false),aD,(List.replicate a0.Ports.length (⟨([] : List ByteArray),0⟩ : GPort)),.slice (some ⟨bS,0,none⟩) a0.Events.toNat a0.Events.toNat,dR,.slice (some ⟨aL,0,none⟩) a0.Ports.length a0.Ports.length,i4) H ⟨rfl,rfl,rfl,trivial⟩ ⟨hm,hS⟩
          · skip
            refine Gh 13 H rfl Ty rfl ?_
            clear H;intro i5 nI hN gK hs;clear a;intro a H
            have dT : aI.heap.size ≤ i5:=hs ▸ hW
            replace hS:=hS.newBlk hN gK hs;clear hN hs
            replace hW:=Nat.le_trans hW gK.size
            refine Xl 7 (by kernel_rfl) ?_
            refine Xo 7 H rfl rfl Zbk (Zv (A:=A) (aB.ext (Zq.mono _) hS.x) aF) rfl (fun v w hv=>.inl (ChgF.of_ext (by obtain⟨_,_,hE0⟩:=hv;exact hE0.x))) ?_
            clear H;intro dU nJ hv;clear a;intro a H;obtain⟨_,rfl,gL⟩:=hv
            replace hS:=hS.new gL;simp only [List.cons_append,List.nil_append] at hS
            replace hW:=Nat.le_trans hW gL.x.size
            refine Zh 12 H rfl (Qc (cs:=[.int .i64 a0.Id,.int .i64 0,.int .i64 0,.slice none 0 0,.slice none 0 0,.slice none 0 0,.slice (some ⟨bS,0,none⟩) a0.Events.toNat a0.Events.toNat,dU,.slice (some ⟨aL,0,none⟩) a0.Ports.length a0.Ports.length,.slice none 0 0]) Ty Zdr Zds rfl ((Zy rfl rfl (by simp)).trans ((Zy (((hS.own 2 rfl).slr rfl (fun _ _=>rfl))).one rfl (by simp)).trans ((Zy (((hS.own 0 rfl).slr rfl (fun _ _=>rfl))).one rfl (by simp)).trans ((Zy ((hS.deepSl 3 rfl)).one rfl (by simp)).trans rfl))))) rfl (by kernel_rfl) (by kernel_rfl) (by kernel_rfl) (by kernel_rfl) (fun _ _ _ h=>h) ?_;clear H a;intro a H
            replace hS:=hS.pk1
            refine Qf 14 H rfl rfl rfl (vs:=[.int .i64 a0.Id,.int .i64 0,.int .i64 0,.slice none 0 0,.slice none 0 0,.slice none 0 0,.slice (some ⟨bS,0,none⟩) a0.Events.toNat a0.Events.toNat,dU,.slice (some ⟨aL,0,none⟩) a0.Ports.length a0.Ports.length,.slice none 0 0]) rfl Zca (hS.blk 0 rfl) rfl (by simp [(((hS.own 2 rfl).slr rfl (fun _ _=>rfl))).one,(((hS.own 1 rfl).slr rfl (fun _ _=>rfl))).one,((hS.deepSl 3 rfl)).one]) (by kernel_rfl) (.inl (fun h=>absurd h (Nat.not_lt.2 dT))) ?_
            clear H;intro nK hN gM hz;clear a;intro a H;replace hS:=hS.setBlk hN gM;clear hN hz;replace hW:=Nat.le_trans hW gM.size
            refine Xh (by kernel_rfl) ?_
            refine Za ?_
            obtain rfl:=Option.some.inj hm;replace hm:=aC;try dsimp only at hm
            replace hS:=hS.pk3
            replace hS:=hS.pk2
            replace hS:=hS.pk3
            replace hS:=hS.pk3
            replace hS:=hS.pk5
            replace hS:=hS.pk6
            replace hS:=hS.tk6
            exact Wa ((List.replicate a0.Events.toNat false),aD,(List.replicate a0.Ports.length (⟨([] : List ByteArray),0⟩ : GPort)),.slice (some ⟨bS,0,none⟩) a0.Events.toNat a0.Events.toNat,dU,.slice (some ⟨aL,0,none⟩) a0.Ports.length a0.Ports.length,i5) H ⟨rfl,rfl,rfl,trivial⟩ ⟨hm,hS⟩
        · skip
          refine Xo 7 H rfl rfl Zbk (Zv (A:=A) (aB.ext (Zq.mono _) hS.x) aF) rfl (fun v w hv=>.inl (ChgF.of_ext (by obtain⟨_,_,hE0⟩:=hv;exact hE0.x))) ?_
          clear H;intro bT nL hv;clear a;intro a H;obtain⟨_,rfl,gN⟩:=hv
          replace hS:=hS.new gN;simp only [List.cons_append,List.nil_append] at hS
          replace hW:=Nat.le_trans hW gN.x.size
          refine Zdl 4 13 (by kernel_rfl) ?_ ?_
          · skip
            refine Yt (e:=eF) (z0:=false) (L:=a0.Events.toNat) (C:=a0.Events.toNat) 4 H rfl Tryz.underlying30 el4 rfl (by show _=some (Value.int .i64 ((Int.toNat a0.Events : Nat) : Int));rw [Int.toNat_of_nonneg aA];rfl) (by show _=some (Value.int .i64 ((Int.toNat a0.Events : Nat) : Int));rw [Int.toNat_of_nonneg aA];rfl) (Nat.le_refl _) aE (by simp only [maxLen];omega) rfl ?_
            clear H;intro dV nM hN gO hs;clear a;intro a H;replace hS:=hS.newOwn hN gO (by simp [Yq];omega);clear hN
            replace hW:=Nat.le_trans hW gO.size
            refine Zh 12 H rfl (Qc (cs:=[.int .i64 a0.Id,.int .i64 0,.int .i64 0,.slice none 0 0,.slice none 0 0,.slice none 0 0,.slice (some ⟨dV,0,none⟩) a0.Events.toNat a0.Events.toNat,bT,.slice (some ⟨aL,0,none⟩) a0.Ports.length a0.Ports.length,.slice none 0 0]) Ty Zdr Zds rfl ((Zy rfl rfl (by simp)).trans ((Zy (((hS.own 0 rfl).slr rfl (fun _ _=>rfl))).one rfl (by simp)).trans ((Zy (((hS.own 1 rfl).slr rfl (fun _ _=>rfl))).one rfl (by simp)).trans ((Zy ((hS.deepSl 2 rfl)).one rfl (by simp)).trans rfl))))) rfl (by kernel_rfl) (by kernel_rfl) (by kernel_rfl) (by kernel_rfl) (fun _ _ _ h=>h) ?_;clear H a;intro a H
            refine Zc2 13 H rfl Ty rfl (by kernel_rfl) ?_
            clear H;intro i6 nN hN gP hs;clear a;intro a H
            have dW : aI.heap.size ≤ i6:=hs ▸ hW
            replace hS:=hS.newBlk hN gP hs;clear hN hs
            replace hW:=Nat.le_trans hW gP.size
            refine Qf 14 H rfl rfl rfl (vs:=[.int .i64 a0.Id,.int .i64 0,.int .i64 0,.slice none 0 0,.slice none 0 0,.slice none 0 0,.slice (some ⟨dV,0,none⟩) a0.Events.toNat a0.Events.toNat,bT,.slice (some ⟨aL,0,none⟩) a0.Ports.length a0.Ports.length,.slice none 0 0]) rfl Zca (hS.blk 0 rfl) rfl (by simp [(((hS.own 1 rfl).slr rfl (fun _ _=>rfl))).one,(((hS.own 2 rfl).slr rfl (fun _ _=>rfl))).one,((hS.deepSl 3 rfl)).one]) (by kernel_rfl) (.inl (fun h=>absurd h (Nat.not_lt.2 dW))) ?_
            clear H;intro nO hN gQ hz;clear a;intro a H;replace hS:=hS.setBlk hN gQ;clear hN hz;replace hW:=Nat.le_trans hW gQ.size
            refine Xh (by kernel_rfl) ?_
            refine Za ?_
            obtain rfl:=Option.some.inj hm;replace hm:=aC;try dsimp only at hm
            replace hS:=hS.pk3
            replace hS:=hS.pk3
            replace hS:=hS.pk3
            replace hS:=hS.pk3
            replace hS:=hS.pk5
            replace hS:=hS.pk6
            replace hS:=hS.tk6
            exact Wa ((List.replicate a0.Events.toNat false),aD,(List.replicate a0.Ports.length (⟨([] : List ByteArray),0⟩ : GPort)),.slice (some ⟨dV,0,none⟩) a0.Events.toNat a0.Events.toNat,bT,.slice (some ⟨aL,0,none⟩) a0.Ports.length a0.Ports.length,i6) H ⟨rfl,rfl,rfl,trivial⟩ ⟨hm,hS⟩
          · skip
            refine Gh 13 H rfl Ty rfl ?_
            clear H;intro i7 nP hN gR hs;clear a;intro a H
            have dX : aI.heap.size ≤ i7:=hs ▸ hW
            replace hS:=hS.newBlk hN gR hs;clear hN hs
            replace hW:=Nat.le_trans hW gR.size
            refine Xl 4 (by kernel_rfl) ?_
            refine Yt (e:=eF) (z0:=false) (L:=a0.Events.toNat) (C:=a0.Events.toNat) 4 H rfl Tryz.underlying30 el4 rfl (by show _=some (Value.int .i64 ((Int.toNat a0.Events : Nat) : Int));rw [Int.toNat_of_nonneg aA];rfl) (by show _=some (Value.int .i64 ((Int.toNat a0.Events : Nat) : Int));rw [Int.toNat_of_nonneg aA];rfl) (Nat.le_refl _) aE (by simp only [maxLen];omega) rfl ?_
            clear H;intro dY nQ hN gS hs;clear a;intro a H;replace hS:=hS.newOwn hN gS (by simp [Yq];omega);clear hN
            replace hW:=Nat.le_trans hW gS.size
            refine Zh 12 H rfl (Qc (cs:=[.int .i64 a0.Id,.int .i64 0,.int .i64 0,.slice none 0 0,.slice none 0 0,.slice none 0 0,.slice (some ⟨dY,0,none⟩) a0.Events.toNat a0.Events.toNat,bT,.slice (some ⟨aL,0,none⟩) a0.Ports.length a0.Ports.length,.slice none 0 0]) Ty Zdr Zds rfl ((Zy rfl rfl (by simp)).trans ((Zy (((hS.own 0 rfl).slr rfl (fun _ _=>rfl))).one rfl (by simp)).trans ((Zy (((hS.own 2 rfl).slr rfl (fun _ _=>rfl))).one rfl (by simp)).trans ((Zy ((hS.deepSl 3 rfl)).one rfl (by simp)).trans rfl))))) rfl (by kernel_rfl) (by kernel_rfl) (by kernel_rfl) (by kernel_rfl) (fun _ _ _ h=>h) ?_;clear H a;intro a H
            replace hS:=hS.pk1
            refine Qf 14 H rfl rfl rfl (vs:=[.int .i64 a0.Id,.int .i64 0,.int .i64 0,.slice none 0 0,.slice none 0 0,.slice none 0 0,.slice (some ⟨dY,0,none⟩) a0.Events.toNat a0.Events.toNat,bT,.slice (some ⟨aL,0,none⟩) a0.Ports.length a0.Ports.length,.slice none 0 0]) rfl Zca (hS.blk 0 rfl) rfl (by simp [(((hS.own 1 rfl).slr rfl (fun _ _=>rfl))).one,(((hS.own 2 rfl).slr rfl (fun _ _=>rfl))).one,((hS.deepSl 3 rfl)).one]) (by kernel_rfl) (.inl (fun h=>absurd h (Nat.not_lt.2 dX))) ?_
            clear H;intro nR hN gT hz;clear a;intro a H;replace hS:=hS.setBlk hN gT;clear hN hz;replace hW:=Nat.le_trans hW gT.size
            refine Xh (by kernel_rfl) ?_
            refine Za ?_
            obtain rfl:=Option.some.inj hm;replace hm:=aC;try dsimp only at hm
            replace hS:=hS.pk3
            replace hS:=hS.pk3
            replace hS:=hS.pk3
            replace hS:=hS.pk3
            replace hS:=hS.pk5
            replace hS:=hS.pk6
            replace hS:=hS.tk6
            exact Wa ((List.replicate a0.Events.toNat false),aD,(List.replicate a0.Ports.length (⟨([] : List ByteArray),0⟩ : GPort)),.slice (some ⟨dY,0,none⟩) a0.Events.toNat a0.Events.toNat,bT,.slice (some ⟨aL,0,none⟩) a0.Ports.length a0.Ports.length,i7) H ⟨rfl,rfl,rfl,trivial⟩ ⟨hm,hS⟩
        · skip
          refine Gh 13 H rfl Ty rfl ?_
          clear H;intro dZ nS hN gU hs;clear a;intro a H
          have cC : aI.heap.size ≤ dZ:=hs ▸ hW
          replace hS:=hS.newBlk hN gU hs;clear hN hs
          replace hW:=Nat.le_trans hW gU.size
          refine Zdl 4 7 (by kernel_rfl) ?_ ?_
          · skip
            refine Yt (e:=eF) (z0:=false) (L:=a0.Events.toNat) (C:=a0.Events.toNat) 4 H rfl Tryz.underlying30 el4 rfl (by show _=some (Value.int .i64 ((Int.toNat a0.Events : Nat) : Int));rw [Int.toNat_of_nonneg aA];rfl) (by show _=some (Value.int .i64 ((Int.toNat a0.Events : Nat) : Int));rw [Int.toNat_of_nonneg aA];rfl) (Nat.le_refl _) aE (by simp only [maxLen];omega) rfl ?_
            clear H;intro d5 nT hN gV hs;clear a;intro a H;replace hS:=hS.newOwn hN gV (by simp [Yq];omega);clear hN
            replace hW:=Nat.le_trans hW gV.size
            refine Xl 7 (by kernel_rfl) ?_
            refine Xo 7 H rfl rfl Zbk (Zv (A:=A) (aB.ext (Zq.mono _) hS.x) aF) rfl (fun v w hv=>.inl (ChgF.of_ext (by obtain⟨_,_,hE0⟩:=hv;exact hE0.x))) ?_
            clear H;intro d6 nU hv;clear a;intro a H;obtain⟨_,rfl,gW⟩:=hv
            replace hS:=hS.new gW;simp only [List.cons_append,List.nil_append] at hS
            replace hW:=Nat.le_trans hW gW.x.size
            refine Zh 12 H rfl (Qc (cs:=[.int .i64 a0.Id,.int .i64 0,.int .i64 0,.slice none 0 0,.slice none 0 0,.slice none 0 0,.slice (some ⟨d5,0,none⟩) a0.Events.toNat a0.Events.toNat,d6,.slice (some ⟨aL,0,none⟩) a0.Ports.length a0.Ports.length,.slice none 0 0]) Ty Zdr Zds rfl ((Zy rfl rfl (by simp)).trans ((Zy (((hS.own 1 rfl).slr rfl (fun _ _=>rfl))).one rfl (by simp)).trans ((Zy (((hS.own 0 rfl).slr rfl (fun _ _=>rfl))).one rfl (by simp)).trans ((Zy ((hS.deepSl 3 rfl)).one rfl (by simp)).trans rfl))))) rfl (by kernel_rfl) (by kernel_rfl) (by kernel_rfl) (by kernel_rfl) (fun _ _ _ h=>h) ?_;clear H a;intro a H
            replace hS:=hS.pk2
            refine Qf 14 H rfl rfl rfl (vs:=[.int .i64 a0.Id,.int .i64 0,.int .i64 0,.slice none 0 0,.slice none 0 0,.slice none 0 0,.slice (some ⟨d5,0,none⟩) a0.Events.toNat a0.Events.toNat,d6,.slice (some ⟨aL,0,none⟩) a0.Ports.length a0.Ports.length,.slice none 0 0]) rfl Zca (hS.blk 0 rfl) rfl (by simp [(((hS.own 2 rfl).slr rfl (fun _ _=>rfl))).one,(((hS.own 1 rfl).slr rfl (fun _ _=>rfl))).one,((hS.deepSl 3 rfl)).one]) (by kernel_rfl) (.inl (fun h=>absurd h (Nat.not_lt.2 cC))) ?_
            clear H;intro nV hN gX hz;clear a;intro a H;replace hS:=hS.setBlk hN gX;clear hN hz;replace hW:=Nat.le_trans hW gX.size
            refine Xh (by kernel_rfl) ?_
            refine Za ?_
            obtain rfl:=Option.some.inj hm;replace hm:=aC;try dsimp only at hm
            replace hS:=hS.pk3
            replace hS:=hS.pk2
            replace hS:=hS.pk3
            replace hS:=hS.pk3
            replace hS:=hS.pk5
            replace hS:=hS.pk6
            replace hS:=hS.tk6
            exact Wa ((List.replicate a0.Events.toNat false),aD,(List.replicate a0.Ports.length (⟨([] : List ByteArray),0⟩ : GPort)),.slice (some ⟨d5,0,none⟩) a0.Events.toNat a0.Events.toNat,d6,.slice (some ⟨aL,0,none⟩) a0.Ports.length a0.Ports.length,dZ) H ⟨rfl,rfl,rfl,trivial⟩ ⟨hm,hS⟩
          · skip
            refine Xo 7 H rfl rfl Zbk (Zv (A:=A) (aB.ext (Zq.mono _) hS.x) aF) rfl (fun v w hv=>.inl (ChgF.of_ext (by obtain⟨_,_,hE0⟩:=hv;exact hE0.x))) ?_
            clear H;intro d7 nW hv;clear a;intro a H;obtain⟨_,rfl,gY⟩:=hv
            replace hS:=hS.new gY;simp only [List.cons_append,List.nil_append] at hS
            replace hW:=Nat.le_trans hW gY.x.size
            refine Xl 4 (by kernel_rfl) ?_
            refine Yt (e:=eF) (z0:=false) (L:=a0.Events.toNat) (C:=a0.Events.toNat) 4 H rfl Tryz.underlying30 el4 rfl (by show _=some (Value.int .i64 ((Int.toNat a0.Events : Nat) : Int));rw [Int.toNat_of_nonneg aA];rfl) (by show _=some (Value.int .i64 ((Int.toNat a0.Events : Nat) : Int));rw [Int.toNat_of_nonneg aA];rfl) (Nat.le_refl _) aE (by simp only [maxLen];omega) rfl ?_
            clear H;intro d8 nX hN gZ hs;clear a;intro a H;replace hS:=hS.newOwn hN gZ (by simp [Yq];omega);clear hN
            replace hW:=Nat.le_trans hW gZ.size
            refine Zh 12 H rfl (Qc (cs:=[.int .i64 a0.Id,.int .i64 0,.int .i64 0,.slice none 0 0,.slice none 0 0,.slice none 0 0,.slice (some ⟨d8,0,none⟩) a0.Events.toNat a0.Events.toNat,d7,.slice (some ⟨aL,0,none⟩) a0.Ports.length a0.Ports.length,.slice none 0 0]) Ty Zdr Zds rfl ((Zy rfl rfl (by simp)).trans ((Zy (((hS.own 0 rfl).slr rfl (fun _ _=>rfl))).one rfl (by simp)).trans ((Zy (((hS.own 1 rfl).slr rfl (fun _ _=>rfl))).one rfl (by simp)).trans ((Zy ((hS.deepSl 3 rfl)).one rfl (by simp)).trans rfl))))) rfl (by kernel_rfl) (by kernel_rfl) (by kernel_rfl) (by kernel_rfl) (fun _ _ _ h=>h) ?_;clear H a;intro a H
            replace hS:=hS.pk2
            refine Qf 14 H rfl rfl rfl (vs:=[.int .i64 a0.Id,.int .i64 0,.int .i64 0,.slice none 0 0,.slice none 0 0,.slice none 0 0,.slice (some ⟨d8,0,none⟩) a0.Events.toNat a0.Events.toNat,d7,.slice (some ⟨aL,0,none⟩) a0.Ports.length a0.Ports.length,.slice none 0 0]) rfl Zca (hS.blk 0 rfl) rfl (by simp [(((hS.own 1 rfl).slr rfl (fun _ _=>rfl))).one,(((hS.own 2 rfl).slr rfl (fun _ _=>rfl))).one,((hS.deepSl 3 rfl)).one]) (by kernel_rfl) (.inl (fun h=>absurd h (Nat.not_lt.2 cC))) ?_
            clear H;intro nY hN g6 hz;clear a;intro a H;replace hS:=hS.setBlk hN g6;clear hN hz;replace hW:=Nat.le_trans hW g6.size
            refine Xh (by kernel_rfl) ?_
            refine Za ?_
            obtain rfl:=Option.some.inj hm;replace hm:=aC;try dsimp only at hm
            replace hS:=hS.pk3
            replace hS:=hS.pk3
            replace hS:=hS.pk3
            replace hS:=hS.pk3
            replace hS:=hS.pk5
            replace hS:=hS.pk6
            replace hS:=hS.tk6
            exact Wa ((List.replicate a0.Events.toNat false),aD,(List.replicate a0.Ports.length (⟨([] : List ByteArray),0⟩ : GPort)),.slice (some ⟨d8,0,none⟩) a0.Events.toNat a0.Events.toNat,d7,.slice (some ⟨aL,0,none⟩) a0.Ports.length a0.Ports.length,dZ) H ⟨rfl,rfl,rfl,trivial⟩ ⟨hm,hS⟩
      · skip
        refine Gh 13 H rfl Ty rfl ?_
        clear H;intro bG nZ hN g7 hs;clear a;intro a H
        have aO : aI.heap.size ≤ bG:=hs ▸ hW
        replace hS:=hS.newBlk hN g7 hs;clear hN hs
        replace hW:=Nat.le_trans hW g7.size
        refine Zf1 4 7 11 (by kernel_rfl) ?_ ?_ ?_
        · skip
          refine Yt (e:=eF) (z0:=false) (L:=a0.Events.toNat) (C:=a0.Events.toNat) 4 H rfl Tryz.underlying30 el4 rfl (by show _=some (Value.int .i64 ((Int.toNat a0.Events : Nat) : Int));rw [Int.toNat_of_nonneg aA];rfl) (by show _=some (Value.int .i64 ((Int.toNat a0.Events : Nat) : Int));rw [Int.toNat_of_nonneg aA];rfl) (Nat.le_refl _) aE (by simp only [maxLen];omega) rfl ?_
          clear H;intro bU n6 hN g8 hs;clear a;intro a H;replace hS:=hS.newOwn hN g8 (by simp [Yq];omega);clear hN
          replace hW:=Nat.le_trans hW g8.size
          refine Zdl 7 11 (by kernel_rfl) ?_ ?_
          · skip
            refine Xo 7 H rfl rfl Zbk (Zv (A:=A) (aB.ext (Zq.mono _) hS.x) aF) rfl (fun v w hv=>.inl (ChgF.of_ext (by obtain⟨_,_,hE0⟩:=hv;exact hE0.x))) ?_
            clear H;intro d9 n7 hv;clear a;intro a H;obtain⟨_,rfl,g9⟩:=hv
            replace hS:=hS.new g9;simp only [List.cons_append,List.nil_append] at hS
            replace hW:=Nat.le_trans hW g9.x.size
            refine Xl 11 (by kernel_rfl) ?_
            refine Wb (L:=a0.Ports.length) (C:=a0.Ports.length) 11 H rfl Tryz.underlying31 Zbj rfl rfl (Nat.le_refl _) aG (by simp only [maxLen];omega) rfl ?_
            clear H;intro eA n8 hN hJ hs;clear a;intro a H;replace hS:=hS.newOwn hN hJ (by simp [Yq];omega);clear hN
            replace hS:=St.mkDeep0 (R:=Ys) (z0:=(⟨([] : List ByteArray),0⟩ : GPort)) (n:=a0.Ports.length) rfl (by simp) (fun w=>⟨_,rfl,SlR.nil _ _ _⟩) hS
            replace hW:=Nat.le_trans hW hJ.size
            refine Zh 12 H rfl (Qc (cs:=[.int .i64 a0.Id,.int .i64 0,.int .i64 0,.slice none 0 0,.slice none 0 0,.slice none 0 0,.slice (some ⟨bU,0,none⟩) a0.Events.toNat a0.Events.toNat,d9,.slice (some ⟨eA,0,none⟩) a0.Ports.length a0.Ports.length,.slice none 0 0]) Ty Zdr Zds rfl ((Zy rfl rfl (by simp)).trans ((Zy (((hS.own 2 rfl).slr rfl (fun _ _=>rfl))).one rfl (by simp)).trans ((Zy (((hS.own 1 rfl).slr rfl (fun _ _=>rfl))).one rfl (by simp)).trans ((Zy ((hS.deepSl 0 rfl)).one rfl (by simp)).trans rfl))))) rfl (by kernel_rfl) (by kernel_rfl) (by kernel_rfl) (by kernel_rfl) (fun _ _ _ h=>h) ?_;clear H a;intro a H
            replace hS:=hS.pk3
            refine Qf 14 H rfl rfl rfl (vs:=[.int .i64 a0.Id,.int .i64 0,.int .i64 0,.slice none 0 0,.slice none 0 0,.slice none 0 0,.slice (some ⟨bU,0,none⟩) a0.Events.toNat a0.Events.toNat,d9,.slice (some ⟨eA,0,none⟩) a0.Ports.length a0.Ports.length,.slice none 0 0]) rfl Zca (hS.blk 0 rfl) rfl (by simp [(((hS.own 3 rfl).slr rfl (fun _ _=>rfl))).one,(((hS.own 2 rfl).slr rfl (fun _ _=>rfl))).one,((hS.deepSl 1 rfl)).one]) (by kernel_rfl) (.inl (fun h=>absurd h (Nat.not_lt.2 aO))) ?_
            clear H;intro n9 hN hU hz;clear a;intro a H;replace hS:=hS.setBlk hN hU;clear hN hz;replace hW:=Nat.le_trans hW hU.size
            refine Xh (by kernel_rfl) ?_
            refine Za ?_
            obtain rfl:=Option.some.inj hm;replace hm:=aC;try dsimp only at hm
            replace hS:=hS.pk1
            replace hS:=hS.pk2
            replace hS:=hS.pk3
            replace hS:=hS.pk3
            replace hS:=hS.pk5
            replace hS:=hS.pk6
            replace hS:=hS.tk6
            exact Wa ((List.replicate a0.Events.toNat false),aD,(List.replicate a0.Ports.length (⟨([] : List ByteArray),0⟩ : GPort)),.slice (some ⟨bU,0,none⟩) a0.Events.toNat a0.Events.toNat,d9,.slice (some ⟨eA,0,none⟩) a0.Ports.length a0.Ports.length,bG) H ⟨rfl,rfl,rfl,trivial⟩ ⟨hm,hS⟩
          · skip
            refine Wb (L:=a0.Ports.length) (C:=a0.Ports.length) 11 H rfl Tryz.underlying31 Zbj rfl rfl (Nat.le_refl _) aG (by simp only [maxLen];omega) rfl ?_
            clear H;intro eC oA hN hY hs;clear a;intro a H;replace hS:=hS.newOwn hN hY (by simp [Yq];omega);clear hN
            replace hS:=St.mkDeep0 (R:=Ys) (z0:=(⟨([] : List ByteArray),0⟩ : GPort)) (n:=a0.Ports.length) rfl (by simp) (fun w=>⟨_,rfl,SlR.nil _ _ _⟩) hS
            replace hW:=Nat.le_trans hW hY.size
            refine Xl 7 (by kernel_rfl) ?_
            refine Xo 7 H rfl rfl Zbk (Zv (A:=A) (aB.ext (Zq.mono _) hS.x) aF) rfl (fun v w hv=>.inl (ChgF.of_ext (by obtain⟨_,_,hE0⟩:=hv;exact hE0.x))) ?_
            clear H;intro eD oB hv;clear a;intro a H;obtain⟨_,rfl,hZ⟩:=hv
            replace hS:=hS.new hZ;simp only [List.cons_append,List.nil_append] at hS
            replace hW:=Nat.le_trans hW hZ.x.size
            refine Zh 12 H rfl (Qc (cs:=[.int .i64 a0.Id,.int .i64 0,.int .i64 0,.slice none 0 0,.slice none 0 0,.slice none 0 0,.slice (some ⟨bU,0,none⟩) a0.Events.toNat a0.Events.toNat,eD,.slice (some ⟨eC,0,none⟩) a0.Ports.length a0.Ports.length,.slice none 0 0]) Ty Zdr Zds rfl ((Zy rfl rfl (by simp)).trans ((Zy (((hS.own 2 rfl).slr rfl (fun _ _=>rfl))).one rfl (by simp)).trans ((Zy (((hS.own 0 rfl).slr rfl (fun _ _=>rfl))).one rfl (by simp)).trans ((Zy ((hS.deepSl 1 rfl)).one rfl (by simp)).trans rfl))))) rfl (by kernel_rfl) (by kernel_rfl) (by kernel_rfl) (by kernel_rfl) (fun _ _ _ h=>h) ?_;clear H a;intro a H
            replace hS:=hS.pk3
            refine Qf 14 H rfl rfl rfl (vs:=[.int .i64 a0.Id,.int .i64 0,.int .i64 0,.slice none 0 0,.slice none 0 0,.slice none 0 0,.slice (some ⟨bU,0,none⟩) a0.Events.toNat a0.Events.toNat,eD,.slice (some ⟨eC,0,none⟩) a0.Ports.length a0.Ports.length,.slice none 0 0]) rfl Zca (hS.blk 0 rfl) rfl (by simp [(((hS.own 3 rfl).slr rfl (fun _ _=>rfl))).one,(((hS.own 1 rfl).slr rfl (fun _ _=>rfl))).one,((hS.deepSl 2 rfl)).one]) (by kernel_rfl) (.inl (fun h=>absurd h (Nat.not_lt.2 aO))) ?_
            clear H;intro oC hN iA hz;clear a;intro a H;replace hS:=hS.setBlk hN iA;clear hN hz;replace hW:=Nat.le_trans hW iA.size
            refine Xh (by kernel_rfl) ?_
            refine Za ?_
            obtain rfl:=Option.some.inj hm;replace hm:=aC;try dsimp only at hm
            replace hS:=hS.pk2
            replace hS:=hS.pk2
            replace hS:=hS.pk3
            replace hS:=hS.pk3
            replace hS:=hS.pk5
            replace hS:=hS.pk6
            replace hS:=hS.tk6
            exact Wa ((List.replicate a0.Events.toNat false),aD,(List.replicate a0.Ports.length (⟨([] : List ByteArray),0⟩ : GPort)),.slice (some ⟨bU,0,none⟩) a0.Events.toNat a0.Events.toNat,eD,.slice (some ⟨eC,0,none⟩) a0.Ports.length a0.Ports.length,bG) H ⟨rfl,rfl,rfl,trivial⟩ ⟨hm,hS⟩
        · skip
          refine Xo 7 H rfl rfl Zbk (Zv (A:=A) (aB.ext (Zq.mono _) hS.x) aF) rfl (fun v w hv=>.inl (ChgF.of_ext (by obtain⟨_,_,hE0⟩:=hv;exact hE0.x))) ?_
          clear H;intro bV oD hv;clear a;intro a H;obtain⟨_,rfl,iB⟩:=hv
          replace hS:=hS.new iB;simp only [List.cons_append,List.nil_append] at hS
          replace hW:=Nat.le_trans hW iB.x.size
          refine Zdl 4 11 (by kernel_rfl) ?_ ?_
          · skip
            refine Yt (e:=eF) (z0:=false) (L:=a0.Events.toNat) (C:=a0.Events.toNat) 4 H rfl Tryz.underlying30 el4 rfl (by show _=some (Value.int .i64 ((Int.toNat a0.Events : Nat) : Int));rw [Int.toNat_of_nonneg aA];rfl) (by show _=some (Value.int .i64 ((Int.toNat a0.Events : Nat) : Int));rw [Int.toNat_of_nonneg aA];rfl) (Nat.le_refl _) aE (by simp only [maxLen];omega) rfl ?_
            clear H;intro eE oE hN iC hs;clear a;intro a H;replace hS:=hS.newOwn hN iC (by simp [Yq];omega);clear hN
            replace hW:=Nat.le_trans hW iC.size
            refine Xl 11 (by kernel_rfl) ?_
            refine Wb (L:=a0.Ports.length) (C:=a0.Ports.length) 11 H rfl Tryz.underlying31 Zbj rfl rfl (Nat.le_refl _) aG (by simp only [maxLen];omega) rfl ?_
            clear H;intro eG oF hN iD hs;clear a;intro a H;replace hS:=hS.newOwn hN iD (by simp [Yq];omega);clear hN
            replace hS:=St.mkDeep0 (R:=Ys) (z0:=(⟨([] : List ByteArray),0⟩ : GPort)) (n:=a0.Ports.length) rfl (by simp) (fun w=>⟨_,rfl,SlR.nil _ _ _⟩) hS
            replace hW:=Nat.le_trans hW iD.size
            refine Zh 12 H rfl (Qc (cs:=[.int .i64 a0.Id,.int .i64 0,.int .i64 0,.slice none 0 0,.slice none 0 0,.slice none 0 0,.slice (some ⟨eE,0,none⟩) a0.Events.toNat a0.Events.toNat,bV,.slice (some ⟨eG,0,none⟩) a0.Ports.length a0.Ports.length,.slice none 0 0]) Ty Zdr Zds rfl ((Zy rfl rfl (by simp)).trans ((Zy (((hS.own 1 rfl).slr rfl (fun _ _=>rfl))).one rfl (by simp)).trans ((Zy (((hS.own 2 rfl).slr rfl (fun _ _=>rfl))).one rfl (by simp)).trans ((Zy ((hS.deepSl 0 rfl)).one rfl (by simp)).trans rfl))))) rfl (by kernel_rfl) (by kernel_rfl) (by kernel_rfl) (by kernel_rfl) (fun _ _ _ h=>h) ?_;clear H a;intro a H
            replace hS:=hS.pk3
            refine Qf 14 H rfl rfl rfl (vs:=[.int .i64 a0.Id,.int .i64 0,.int .i64 0,.slice none 0 0,.slice none 0 0,.slice none 0 0,.slice (some ⟨eE,0,none⟩) a0.Events.toNat a0.Events.toNat,bV,.slice (some ⟨eG,0,none⟩) a0.Ports.length a0.Ports.length,.slice none 0 0]) rfl Zca (hS.blk 0 rfl) rfl (by simp [(((hS.own 2 rfl).slr rfl (fun _ _=>rfl))).one,(((hS.own 3 rfl).slr rfl (fun _ _=>rfl))).one,((hS.deepSl 1 rfl)).one]) (by kernel_rfl) (.inl (fun h=>absurd h (Nat.not_lt.2 aO))) ?_
            clear H;intro oG hN iE hz;clear a;intro a H;replace hS:=hS.setBlk hN iE;clear hN hz;replace hW:=Nat.le_trans hW iE.size
            refine Xh (by kernel_rfl) ?_
            refine Za ?_
            obtain rfl:=Option.some.inj hm;replace hm:=aC;try dsimp only at hm
            replace hS:=hS.pk1
            replace hS:=hS.pk3
            replace hS:=hS.pk3
            replace hS:=hS.pk3
            replace hS:=hS.pk5
            replace hS:=hS.pk6
            replace hS:=hS.tk6
            exact Wa ((List.replicate a0.Events.toNat false),aD,(List.replicate a0.Ports.length (⟨([] : List ByteArray),0⟩ : GPort)),.slice (some ⟨eE,0,none⟩) a0.Events.toNat a0.Events.toNat,bV,.slice (some ⟨eG,0,none⟩) a0.Ports.length a0.Ports.length,bG) H ⟨rfl,rfl,rfl,trivial⟩ ⟨hm,hS⟩
          · skip
            refine Wb (L:=a0.Ports.length) (C:=a0.Ports.length) 11 H rfl Tryz.underlying31 Zbj rfl rfl (Nat.le_refl _) aG (by simp only [maxLen];omega) rfl ?_
            clear H;intro eH oH hN iF hs;clear a;intro a H;replace hS:=hS.newOwn hN iF (by simp [Yq];omega);clear hN
            replace hS:=St.mkDeep0 (R:=Ys) (z0:=(⟨([] : List ByteArray),0⟩ : GPort)) (n:=a0.Ports.length) rfl (by simp) (fun w=>⟨_,rfl,SlR.nil _ _ _⟩) hS
            replace hW:=Nat.le_trans hW iF.size
            refine Xl 4 (by kernel_rfl) ?_
            refine Yt (e:=eF) (z0:=false) (L:=a0.Events.toNat) (C:=a0.Events.toNat) 4 H rfl Tryz.underlying30 el4 rfl (by show _=some (Value.int .i64 ((Int.toNat a0.Events : Nat) : Int));rw [Int.toNat_of_nonneg aA];rfl) (by show _=some (Value.int .i64 ((Int.toNat a0.Events : Nat) : Int));rw [Int.toNat_of_nonneg aA];rfl) (Nat.le_refl _) aE (by simp only [maxLen];omega) rfl ?_
            clear H;intro eJ oI hN iG hs;clear a;intro a H;replace hS:=hS.newOwn hN iG (by simp [Yq];omega);clear hN
            replace hW:=Nat.le_trans hW iG.size
            refine Zh 12 H rfl (Qc (cs:=[.int .i64 a0.Id,.int .i64 0,.int .i64 0,.slice none 0 0,.slice none 0 0,.slice none 0 0,.slice (some ⟨eJ,0,none⟩) a0.Events.toNat a0.Events.toNat,bV,.slice (some ⟨eH,0,none⟩) a0.Ports.length a0.Ports.length,.slice none 0 0]) Ty Zdr Zds rfl ((Zy rfl rfl (by simp)).trans ((Zy (((hS.own 0 rfl).slr rfl (fun _ _=>rfl))).one rfl (by simp)).trans ((Zy (((hS.own 2 rfl).slr rfl (fun _ _=>rfl))).one rfl (by simp)).trans ((Zy ((hS.deepSl 1 rfl)).one rfl (by simp)).trans rfl))))) rfl (by kernel_rfl) (by kernel_rfl) (by kernel_rfl) (by kernel_rfl) (fun _ _ _ h=>h) ?_;clear H a;intro a H
            replace hS:=hS.pk3
            refine Qf 14 H rfl rfl rfl (vs:=[.int .i64 a0.Id,.int .i64 0,.int .i64 0,.slice none 0 0,.slice none 0 0,.slice none 0 0,.slice (some ⟨eJ,0,none⟩) a0.Events.toNat a0.Events.toNat,bV,.slice (some ⟨eH,0,none⟩) a0.Ports.length a0.Ports.length,.slice none 0 0]) rfl Zca (hS.blk 0 rfl) rfl (by simp [(((hS.own 1 rfl).slr rfl (fun _ _=>rfl))).one,(((hS.own 3 rfl).slr rfl (fun _ _=>rfl))).one,((hS.deepSl 2 rfl)).one]) (by kernel_rfl) (.inl (fun h=>absurd h (Nat.not_lt.2 aO))) ?_
            clear H;intro oJ hN iH hz;clear a;intro a H;replace hS:=hS.setBlk hN iH;clear hN hz;replace hW:=Nat.le_trans hW iH.size
            refine Xh (by kernel_rfl) ?_
            refine Za ?_
            obtain rfl:=Option.some.inj hm;replace hm:=aC;try dsimp only at hm
            replace hS:=hS.pk2
            replace hS:=hS.pk3
            replace hS:=hS.pk3
            replace hS:=hS.pk3
            replace hS:=hS.pk5
            replace hS:=hS.pk6
            replace hS:=hS.tk6
            exact Wa ((List.replicate a0.Events.toNat false),aD,(List.replicate a0.Ports.length (⟨([] : List ByteArray),0⟩ : GPort)),.slice (some ⟨eJ,0,none⟩) a0.Events.toNat a0.Events.toNat,bV,.slice (some ⟨eH,0,none⟩) a0.Ports.length a0.Ports.length,bG) H ⟨rfl,rfl,rfl,trivial⟩ ⟨hm,hS⟩
        · skip
          refine Wb (L:=a0.Ports.length) (C:=a0.Ports.length) 11 H rfl Tryz.underlying31 Zbj rfl rfl (Nat.le_refl _) aG (by simp only [maxLen];omega) rfl ?_
          clear H;intro bW oK hN iI hs;clear a;intro a H;replace hS:=hS.newOwn hN iI (by simp [Yq];omega);clear hN
          replace hS:=St.mkDeep0 (R:=Ys) (z0:=(⟨([] : List ByteArray),0⟩ : GPort)) (n:=a0.Ports.length) rfl (by simp) (fun w=>⟨_,rfl,SlR.nil _ _ _⟩) hS
          replace hW:=Nat.le_trans hW iI.size
          refine Zdl 4 7 (by kernel_rfl) ?_ ?_
          · skip
            refine Yt (e:=eF) (z0:=false) (L:=a0.Events.toNat) (C:=a0.Events.toNat) 4 H rfl Tryz.underlying30 el4 rfl (by show _=some (Value.int .i64 ((Int.toNat a0.Events : Nat) : Int));rw [Int.toNat_of_nonneg aA];rfl) (by show _=some (Value.int .i64 ((Int.toNat a0.Events : Nat) : Int));rw [Int.toNat_of_nonneg aA];rfl) (Nat.le_refl _) aE (by simp only [maxLen];omega) rfl ?_
            clear H;intro eK oL hN iJ hs;clear a;intro a H;replace hS:=hS.newOwn hN iJ (by simp [Yq];omega);clear hN
            replace hW:=Nat.le_trans hW iJ.size
            refine Xl 7 (by kernel_rfl) ?_
            refine Xo 7 H rfl rfl Zbk (Zv (A:=A) (aB.ext (Zq.mono _) hS.x) aF) rfl (fun v w hv=>.inl (ChgF.of_ext (by obtain⟨_,_,hE0⟩:=hv;exact hE0.x))) ?_
            clear H;intro eL oM hv;clear a;intro a H;obtain⟨_,rfl,iK⟩:=hv
            replace hS:=hS.new iK;simp only [List.cons_append,List.nil_append] at hS
            replace hW:=Nat.le_trans hW iK.x.size
            refine Zh 12 H rfl (Qc (cs:=[.int .i64 a0.Id,.int .i64 0,.int .i64 0,.slice none 0 0,.slice none 0 0,.slice none 0 0,.slice (some ⟨eK,0,none⟩) a0.Events.toNat a0.Events.toNat,eL,.slice (some ⟨bW,0,none⟩) a0.Ports.length a0.Ports.length,.slice none 0 0]) Ty Zdr Zds rfl ((Zy rfl rfl (by simp)).trans ((Zy (((hS.own 1 rfl).slr rfl (fun _ _=>rfl))).one rfl (by simp)).trans ((Zy (((hS.own 0 rfl).slr rfl (fun _ _=>rfl))).one rfl (by simp)).trans ((Zy ((hS.deepSl 2 rfl)).one rfl (by simp)).trans rfl))))) rfl (by kernel_rfl) (by kernel_rfl) (by kernel_rfl) (by kernel_rfl) (fun _ _ _ h=>h) ?_;clear H a;intro a H
            replace hS:=hS.pk3
            refine Qf 14 H rfl rfl rfl (vs:=[.int .i64 a0.Id,.int .i64 0,.int .i64 0,.slice none 0 0,.slice none 0 0,.slice none 0 0,.slice (some ⟨eK,0,none⟩) a0.Events.toNat a0.Events.toNat,eL,.slice (some ⟨bW,0,none⟩) a0.Ports.length a0.Ports.length,.slice none 0 0]) rfl Zca (hS.blk 0 rfl) rfl (by simp [(((hS.own 2 rfl).slr rfl (fun _ _=>rfl))).one,(((hS.own 1 rfl).slr rfl (fun _ _=>rfl))).one,((hS.deepSl 3 rfl)).one]) (by kernel_rfl) (.inl (fun h=>absurd h (Nat.not_lt.2 aO))) ?_
            clear H;intro oN hN iL hz;clear a;intro a H;replace hS:=hS.setBlk hN iL;clear hN hz;replace hW:=Nat.le_trans hW iL.size
            refine Xh (by kernel_rfl) ?_
            refine Za ?_
            obtain rfl:=Option.some.inj hm;replace hm:=aC;try dsimp only at hm
            replace hS:=hS.pk3
            replace hS:=hS.pk2
            replace hS:=hS.pk3
            replace hS:=hS.pk3
            replace hS:=hS.pk5
            replace hS:=hS.pk6
            replace hS:=hS.tk6
            exact Wa ((List.replicate a0.Events.toNat false),aD,(List.replicate a0.Ports.length (⟨([] : List ByteArray),0⟩ : GPort)),.slice (some ⟨eK,0,none⟩) a0.Events.toNat a0.Events.toNat,eL,.slice (some ⟨bW,0,none⟩) a0.Ports.length a0.Ports.length,bG) H ⟨rfl,rfl,rfl,trivial⟩ ⟨hm,hS⟩
          · skip
            refine Xo 7 H rfl rfl Zbk (Zv (A:=A) (aB.ext (Zq.mono _) hS.x) aF) rfl (fun v w hv=>.inl (ChgF.of_ext (by obtain⟨_,_,hE0⟩:=hv;exact hE0.x))) ?_
            clear H;intro eM oO hv;clear a;intro a H;obtain⟨_,rfl,iM⟩:=hv
            replace hS:=hS.new iM;simp only [List.cons_append,List.nil_append] at hS
            replace hW:=Nat.le_trans hW iM.x.size
            refine Xl 4 (by kernel_rfl) ?_
            refine Yt (e:=eF) (z0:=false) (L:=a0.Events.toNat) (C:=a0.Events.toNat) 4 H rfl Tryz.underlying30 el4 rfl (by show _=some (Value.int .i64 ((Int.toNat a0.Events : Nat) : Int));rw [Int.toNat_of_nonneg aA];rfl) (by show _=some (Value.int .i64 ((Int.toNat a0.Events : Nat) : Int));rw [Int.toNat_of_nonneg aA];rfl) (Nat.le_refl _) aE (by simp only [maxLen];omega) rfl ?_
            clear H;intro eN oP hN iN hs;clear a;intro a H;replace hS:=hS.newOwn hN iN (by simp [Yq];omega);clear hN
            replace hW:=Nat.le_trans hW iN.size
            refine Zh 12 H rfl (Qc (cs:=[.int .i64 a0.Id,.int .i64 0,.int .i64 0,.slice none 0 0,.slice none 0 0,.slice none 0 0,.slice (some ⟨eN,0,none⟩) a0.Events.toNat a0.Events.toNat,eM,.slice (some ⟨bW,0,none⟩) a0.Ports.length a0.Ports.length,.slice none 0 0]) Ty Zdr Zds rfl ((Zy rfl rfl (by simp)).trans ((Zy (((hS.own 0 rfl).slr rfl (fun _ _=>rfl))).one rfl (by simp)).trans ((Zy (((hS.own 1 rfl).slr rfl (fun _ _=>rfl))).one rfl (by simp)).trans ((Zy ((hS.deepSl 2 rfl)).one rfl (by simp)).trans rfl))))) rfl (by kernel_rfl) (by kernel_rfl) (by kernel_rfl) (by kernel_rfl) (fun _ _ _ h=>h) ?_;clear H a;intro a H
            replace hS:=hS.pk3
            refine Qf 14 H rfl rfl rfl (vs:=[.int .i64 a0.Id,.int .i64 0,.int .i64 0,.slice none 0 0,.slice none 0 0,.slice none 0 0,.slice (some ⟨eN,0,none⟩) a0.Events.toNat a0.Events.toNat,eM,.slice (some ⟨bW,0,none⟩) a0.Ports.length a0.Ports.length,.slice none 0 0]) rfl Zca (hS.blk 0 rfl) rfl (by simp [(((hS.own 1 rfl).slr rfl (fun _ _=>rfl))).one,(((hS.own 2 rfl).slr rfl (fun _ _=>rfl))).one,((hS.deepSl 3 rfl)).one]) (by kernel_rfl) (.inl (fun h=>absurd h (Nat.not_lt.2 aO))) ?_
            clear H;intro oQ hN iO hz;clear a;intro a H;replace hS:=hS.setBlk hN iO;clear hN hz;replace hW:=Nat.le_trans hW iO.size
            refine Xh (by kernel_rfl) ?_
            refine Za ?_
            obtain rfl:=Option.some.inj hm;replace hm:=aC;try dsimp only at hm
            replace hS:=hS.pk3
            replace hS:=hS.pk3
            replace hS:=hS.pk3
            replace hS:=hS.pk3
            replace hS:=hS.pk5
            replace hS:=hS.pk6
            replace hS:=hS.tk6
            exact Wa ((List.replicate a0.Events.toNat false),aD,(List.replicate a0.Ports.length (⟨([] : List ByteArray),0⟩ : GPort)),.slice (some ⟨eN,0,none⟩) a0.Events.toNat a0.Events.toNat,eM,.slice (some ⟨bW,0,none⟩) a0.Ports.length a0.Ports.length,bG) H ⟨rfl,rfl,rfl,trivial⟩ ⟨hm,hS⟩
    · clear H hS hm a;intro xx a oR H hR
      obtain⟨aV,aW,bF,aR,aS,aT,aY⟩:=xx
      simp only [ent,List.map_cons,List.map_nil] at H;(try dsimp only at hR);obtain⟨hm,hS⟩:=hR;try dsimp only [Gk] at hm
      refine wp_seq (wp_seq (wp_region_lit (n_q H (Zd rfl Ha) rfl (W_q (Zf rfl ((hS.blk 0 rfl).ld Zjc rfl)) rfl ?_))));clear H a;intro a H
      obtain⟨oS,oT,bZ,kU,kV⟩:=SlR.formV (bK.ext (Zq.mono _) hS.x)
      refine n_q H (Qh Tryz.underlying23 rfl bZ) rfl (W_q (Zc rfl) rfl ?_);clear H a;intro a H
      refine Ze (Za (wp_block ?_))
      replace hS:=hS.nilOwn 144 21
      replace hS:=hS.nilOwn 3 1
      replace hS:=hS.pk7
      replace hS:=hS.pk7
      replace hS:=hS.pk7
      replace hS:=hS.pk3
      replace hS:=hS.pk4
      replace hS:=hS.pk7
      replace hS:=hS.pk7
      replace hS:=hS.pk7
      replace hm:=Zk hm;obtain⟨i8,hm,jX⟩:=hm;replace hm:=Qk hm;obtain⟨kI,hm⟩:=hm
      refine Kh (σ:=Nat × Nat × (List GProc) × (List Int) × Value × Value) (fun (m,aN,aU,aZ,aX,a9)=>[(1,.pointer (some ⟨b8,0,none⟩)),(2,.pointer (some ⟨bX,0,none⟩)),(4,.pointer (some ⟨aY,0,none⟩)),(30,bA),(31,.int .i64 ((a0.Procs.length : Nat) : Int)),(32,.int .i64 ((aN : Nat) : Int))]) (fun (m,aN,aU,aZ,aX,a9) wl=>Kl (Vt a0) m (aN,aU,aZ)=some i8 ∧ St NB w wl [blkR b8 [.int .i64 a0.Id,.bool a0.Mobile,bD,bA,bH,.int .i64 a0.Events,bI] 27,blkR bX [.int .i64 0,.int .i64 0,.int .i64 0,.slice none 0 0,.slice none 0 0,.slice none 0 0,.slice none 0 0,.slice none 0 0,.slice none 0 0,.slice none 0 0] 34,blkR aY [.int .i64 a0.Id,.int .i64 0,.int .i64 0,aX,a9,.slice none 0 0,aR,aS,aT,.slice none 0 0] 34,ownR 144 21 aX aU.length (aU.flatMap Gz),ownR 3 1 a9 aZ.length (aZ.flatMap eI),ownR 4 1 aR aV.length (aV.flatMap eF),ownR 3 1 aS aW.length (aW.flatMap eI),deepR 154 2 Ys aT bF]) (fun (m,aN,aU,aZ,aX,a9)=>m) (kI,0,([] : List GProc),([] : List Int),.slice none 0 0,.slice none 0 0) H ⟨rfl,rfl,rfl,rfl,rfl,rfl,trivial⟩ ⟨hm,hS⟩ ?_
      clear H hS hm a;intro xx a oU H hR;obtain⟨m,aN,aU,aZ,aX,a9⟩:=xx;simp only [ent,List.map_cons,List.map_nil] at H;(try dsimp only at hR);obtain⟨hm,hS⟩:=hR
      replace hm:=Qd hm;obtain⟨kJ,kK,rfl,hm,iP⟩:=hm;try dsimp only [Vt] at hm
      refine wp_seq (wp_region_lit (n_q H (Ki (i:=aN) (j:=a0.Procs.length) rfl rfl) rfl ?_));clear H a;intro a H
      refine Ze (Za (wp_seq (Zl H rfl (fun b7=>?_) (fun b7=>?_))))
      · replace hm:=Zt hm b7
        have kO : aN < a0.Procs.length:=of_decide_eq_true b7
        refine wp_skip (Za (wp_seq (wp_block (wp_seq (wp_region_lit (n_q H (Zc rfl) rfl ?_))))));clear H a;intro a H
        replace hm:=Zk hm;obtain⟨aP,cJ,hm⟩:=hm
        obtain⟨kP,cL⟩:=SlR.adV (bK.ext (Zq.mono _) hS.x) bZ cJ
        refine n_q H (Uq (i:=aN) Tryz.underlying23 Tm rfl bZ cL rfl (Zb9 cJ)) rfl (W_q (Zf rfl (SlR.ldAggV (bK.ext (Zq.mono _) hS.x) bZ cL Zj1 Tm cJ)) rfl ?_);clear H a;intro a H
        refine Xj H Zdo rfl ?_
        clear H;intro oV oW hN jY hs;clear a;intro a H
        replace hS:=hS.newBlk hN jY hs;clear hN hs
        refine n_q H (Zb rfl) rfl ?_;clear H a;intro a H
        refine Zr H rfl rfl (vs:=[.int .i64 aP.Entry,.int .i64 aP.Prio,.bool aP.Auto]) rfl Tm (hS.blk 0 rfl) rfl (by simp) ?_
        clear H;intro oX hN jZ hz;clear a;intro a H;replace hS:=hS.setBlk hN jZ;clear hN hz
        refine Ze (Za (wp_seq (wp_region_lit (n_q H (Zd rfl Zaq) rfl (W_q (Zf rfl ((hS.blk 0 rfl).ld ag3 rfl)) rfl (W_q (Wo Tryz.underlying3 Tryz.underlying101 ⟨_,rfl⟩ rfl) rfl (W_q (Zd rfl Zc4) rfl (W_q (Zf rfl ((hS.blk 0 rfl).ld ag3 rfl)) rfl (W_q (Qc (cs:=((Vector.replicate 16 0).toList.map (Value.int .u32) ++ [.int .u32 (IntKind.u32.wrap aP.Entry),.int .i64 0,.int .i64 aP.Prio,.int .i64 0,.int .i64 0])) Zpc bd144 pl144 rfl (by kernel_rfl)) rfl ?_)))))))));clear H a;intro a H
        refine Xj H Zpc rfl ?_
        clear H;intro i9 oY hN j0 hs;clear a;intro a H
        replace hS:=hS.newBlk hN j0 hs;clear hN hs
        refine Zr H rfl rfl (vs:=((Vector.replicate 16 0).toList.map (Value.int .u32) ++ [.int .u32 (IntKind.u32.wrap aP.Entry),.int .i64 0,.int .i64 aP.Prio,.int .i64 0,.int .i64 0])) rfl (Zpb.trans (by simp)) (hS.blk 0 rfl) (by simp) (Zfm (⟨(Vector.replicate 16 0),(IntKind.u32.wrap aP.Entry),0,aP.Prio,0,0⟩ : GProc)) ?_
        clear H;intro oZ hN j1 hz;clear a;intro a H;replace hS:=hS.setBlk hN j1;clear hN hz
        refine Ze (Za ?_)
        replace hm:=Zk hm;obtain⟨o0,hm,iQ⟩:=hm
        refine Ga (σ:=(List Int) × GProc × Value) H (fun (bE,aM,bL)=>[(1,.pointer (some ⟨b8,0,none⟩)),(2,.pointer (some ⟨bX,0,none⟩)),(4,.pointer (some ⟨aY,0,none⟩)),(7,.pointer (some ⟨i9,0,none⟩)),(30,bA),(31,.int .i64 ((a0.Procs.length : Nat) : Int)),(32,.int .i64 ((aN : Nat) : Int))]) (fun (bE,aM,bL) wl=>(Gj aN aU) (bE,aM)=some kK ∧ St NB w wl [blkR b8 [.int .i64 a0.Id,.bool a0.Mobile,bD,bA,bH,.int .i64 a0.Events,bI] 27,blkR bX [.int .i64 0,.int .i64 0,.int .i64 0,.slice none 0 0,.slice none 0 0,.slice none 0 0,.slice none 0 0,.slice none 0 0,.slice none 0 0,.slice none 0 0] 34,blkR aY [.int .i64 a0.Id,.int .i64 0,.int .i64 0,aX,bL,.slice none 0 0,aR,aS,aT,.slice none 0 0] 34,ownR 144 21 aX aU.length (aU.flatMap Gz),ownR 3 1 bL bE.length (bE.flatMap eI),ownR 4 1 aR aV.length (aV.flatMap eF),ownR 3 1 aS aW.length (aW.flatMap eI),deepR 154 2 Ys aT bF,blkR i9 (aM.Regs.toList.map (Value.int .u32) ++ [.int .u32 aM.Pc,.int .i64 aM.State,.int .i64 aM.Prio,.int .i64 aM.Wait,.int .i64 aM.Obj]) 144]) ?_ ?_
        · skip
          refine wp_seq (wp_region_lit (n_q H (Zd rfl Zli) rfl (W_q (Zf rfl ((hS.blk 1 rfl).ld ag4 rfl)) rfl ?_)));clear H a;intro a H
          refine Ze (Za (Zl H rfl (fun cD=>?_) (fun cD=>?_)))
          · replace hm:=Zt hm cD
            refine wp_seq (wp_region_lit (n_q H (Zd rfl Zpa) rfl ?_));clear H a;intro a H
            refine Kk H rfl rfl sz3 (hS.blk 0 rfl) (by simp) rfl ?_
            clear H;intro kW hN jA hz;clear a;intro a H;replace hS:=hS.setBlk hN jA;clear hN hz
            try simp only [List.set_cons_succ,List.set_cons_zero] at hS
            refine Ze (Za (wp_region_lit (n_q H (Zd rfl Zlm) rfl (W_q (Zf rfl ((hS.blk 4 rfl).ld Zjd rfl)) rfl (W_q (Zc rfl) rfl ?_)))));clear H a;intro a H
            refine Zx H Tryz.underlying25 sz3 ze3 rfl rfl rfl (cs:=[.int .i64 ((aN : Nat) : Int)]) (by kernel_rfl) rfl ?_
            clear H;intro kX kY hN jB hs;clear a;intro a H
            replace hS:=hS.newBlk hN jB hs;clear hN hs
            replace hS:=hS.blkOwnL (e:=eI) (k:=1) [((aN : Nat) : Int)] rfl rfl (by simp [maxLen])
            replace hS:=hS.pk7
            replace hm:=Tw hm;obtain⟨jC,hm⟩:=hm
            refine Zaw (e:=eI) H rfl rfl Tryz.underlying25 Tryz.underlying25 (by simp) el3 (hS.own 0 rfl) (((hS.own 1 rfl).slr rfl (fun _ _=>rfl)).src (fun _ _=>rfl)) Zi3 jC (by simp only [maxLen];omega) rfl ?_
            clear H;intro j2 kZ hN jD hb;clear a;intro a H;replace hS:=hS.setOwn hN jD hb;clear hN hb
            refine n_q H (Zd rfl Zlm) rfl ?_;clear H a;intro a H
            replace hS:=hS.pk6
            refine Kk H rfl rfl sz25 (hS.blk 0 rfl) (by simp) (((hS.own 1 rfl).slr rfl (fun _ _=>rfl))).one ?_
            clear H;intro k7 hN jE hz;clear a;intro a H;replace hS:=hS.setBlk hN jE;clear hN hz
            try simp only [List.set_cons_succ,List.set_cons_zero] at hS
            refine Ze (Za ?_)
            obtain rfl:=Option.some.inj hm;replace hm:=iQ;try dsimp only at hm
            replace hS:=hS.pk3
            replace hS:=hS.pk10
            replace hS:=hS.pk10
            replace hS:=hS.pk10
            replace hS:=hS.pk5
            replace hS:=hS.pk10
            replace hS:=hS.pk6
            replace hS:=hS.pk10
            replace hS:=hS.pk10
            replace hS:=hS.tk9
            exact Wa ((aZ ++ [((aN : Nat) : Int)]),(⟨(Vector.replicate 16 0),(IntKind.u32.wrap aP.Entry),1,aP.Prio,0,0⟩ : GProc),j2) H ⟨rfl,rfl,rfl,rfl,rfl,rfl,rfl,trivial⟩ ⟨hm,hS⟩
          · replace hm:=Zu hm cD
            refine wp_skip (Za ?_)
            obtain rfl:=Option.some.inj hm;replace hm:=iQ;try dsimp only at hm
            replace hS:=hS.pk9
            replace hS:=hS.pk9
            replace hS:=hS.pk9
            replace hS:=hS.pk9
            replace hS:=hS.pk9
            replace hS:=hS.pk9
            replace hS:=hS.pk9
            replace hS:=hS.pk9
            replace hS:=hS.tk9
            exact Wa (aZ,(⟨(Vector.replicate 16 0),(IntKind.u32.wrap aP.Entry),0,aP.Prio,0,0⟩ : GProc),a9) H ⟨rfl,rfl,rfl,rfl,rfl,rfl,rfl,trivial⟩ ⟨hm,hS⟩
        · clear H hS hm a;intro xx a k8 H hR
          obtain⟨bE,aM,bL⟩:=xx
          simp only [ent,List.map_cons,List.map_nil] at H;(try dsimp only at hR);obtain⟨hm,hS⟩:=hR;try dsimp only [Gj] at hm
          refine wp_region_lit (n_q H (Zd rfl Zll) rfl (W_q (Zf rfl ((hS.blk 2 rfl).ld ag28 rfl)) rfl (W_q (Zf rfl ((hS.blk 8 rfl).ldAll ag144 (Zpb.trans (by simp)))) rfl ?_)));clear H a;intro a H
          refine Zx H Tryz.underlying28 Zpb Zpc rfl rfl rfl (cs:=[aM].flatMap Gz) ((Zjb (k:=21) (ds:=Gz aM) (by rfl) (by simp [Gz]) (by rfl)).trans (by simp)) rfl ?_
          clear H;intro k9 lA hN jF hs;clear a;intro a H
          replace hS:=hS.newBlk hN jF hs;clear hN hs
          replace hS:=hS.blkOwnL (e:=Gz) (k:=21) [aM] rfl (by simp [Gz]) (by simp [maxLen])
          replace hS:=hS.pk4
          replace hm:=Tw hm;obtain⟨jG,hm⟩:=hm
          refine Zaw (e:=Gz) H rfl rfl Tryz.underlying28 Tryz.underlying28 (by simp) el144 (hS.own 0 rfl) (((hS.own 1 rfl).slr rfl (fun x _=>Hn x)).src (fun x _=>Hn x)) Zfm jG (by simp only [maxLen];omega) rfl ?_
          clear H;intro j3 lB hN jH hb;clear a;intro a H;replace hS:=hS.setOwn hN jH hb;clear hN hb
          refine n_q H (Zd rfl Zll) rfl ?_;clear H a;intro a H
          replace hS:=hS.pk4
          refine Kk H rfl rfl sz28 (hS.blk 0 rfl) (by simp) (((hS.own 1 rfl).slr rfl (fun x _=>Hn x))).one ?_
          clear H;intro lC hN jI hz;clear a;intro a H;replace hS:=hS.setBlk hN jI;clear hN hz
          try simp only [List.set_cons_succ,List.set_cons_zero] at hS
          refine Ze (Zn (Za (wp_region_lit (n_q H (Yx (i:=aN) (j:=1) rfl rfl (by omega)) rfl (W_q (Zc rfl) rfl ?_)))));clear H a;intro a H
          refine Ze (Za ?_)
          obtain rfl:=Option.some.inj hm
          replace hS:=hS.pk8
          replace hS:=hS.pk8
          replace hS:=hS.pk8
          replace hS:=hS.pk8
          replace hS:=hS.pk5
          replace hS:=hS.pk5
          replace hS:=hS.pk8
          replace hS:=hS.pk8
          replace hS:=hS.tk8
          exact Wm (kJ,aN + 1,(aU ++ [aM]),bE,j3,bL) H ⟨rfl,rfl,rfl,rfl,rfl,rfl,trivial⟩ ⟨iP,hS⟩ (Nat.lt_succ_self _)
      · replace hm:=Zu hm b7
        refine wp_exit (Zo (Zo (Qb ?_)))
        obtain rfl:=Option.some.inj hm;have hz : _=i8:=iP;subst hz;replace hm:=jX;try dsimp only at hm
        refine Za (wp_seq (wp_seq (wp_region_lit (n_q H (Zd rfl Ux) rfl (W_q (Zf rfl ((hS.blk 0 rfl).ld Zg0 rfl)) rfl ?_)))));clear H a;intro a H
        obtain⟨lD,lE,bM,kQ,kR⟩:=SlR.formV (bJ.ext (Zq.mono _) hS.x)
        refine n_q H (Qh Tryz.underlying22 rfl bM) rfl (W_q (Zc rfl) rfl ?_);clear H a;intro a H
        refine Ze (Za (wp_block ?_))
        replace hS:=hS.nilOwn 82 66
        replace hS:=hS.pk8
        replace hS:=hS.pk8
        replace hS:=hS.pk8
        replace hS:=hS.pk8
        replace hS:=hS.pk8
        replace hS:=hS.pk8
        replace hS:=hS.pk8
        replace hS:=hS.tk8
        replace hm:=Zk hm;obtain⟨iR,hm,jJ⟩:=hm;replace hm:=Qk hm;obtain⟨j4,hm⟩:=hm
        refine Kh (σ:=Nat × Nat × (List GPage) × Value) (fun (m,aQ,bB,bC)=>[(2,.pointer (some ⟨bX,0,none⟩)),(4,.pointer (some ⟨aY,0,none⟩)),(60,bD),(61,.int .i64 ((a0.Pages.length : Nat) : Int)),(62,.int .i64 ((aQ : Nat) : Int))]) (fun (m,aQ,bB,bC) wl=>Kl (Vs a0) m (aQ,bB)=some iR ∧ St NB w wl [blkR bX [.int .i64 0,.int .i64 0,.int .i64 0,.slice none 0 0,.slice none 0 0,.slice none 0 0,.slice none 0 0,.slice none 0 0,.slice none 0 0,.slice none 0 0] 34,blkR aY [.int .i64 a0.Id,.int .i64 0,.int .i64 0,aX,a9,.slice none 0 0,aR,aS,aT,bC] 34,ownR 144 21 aX aU.length (aU.flatMap Gz),ownR 3 1 a9 aZ.length (aZ.flatMap eI),ownR 4 1 aR aV.length (aV.flatMap eF),ownR 3 1 aS aW.length (aW.flatMap eI),deepR 154 2 Ys aT bF,ownR 82 66 bC bB.length (bB.flatMap Tp)]) (fun (m,aQ,bB,bC)=>m) (j4,0,([] : List GPage),.slice none 0 0) H ⟨rfl,rfl,rfl,rfl,rfl,trivial⟩ ⟨hm,hS⟩ ?_
        clear H hS hm a;intro xx a lF H hR;obtain⟨m,aQ,bB,bC⟩:=xx;simp only [ent,List.map_cons,List.map_nil] at H;(try dsimp only at hR);obtain⟨hm,hS⟩:=hR
        replace hm:=Qd hm;obtain⟨j5,lG,rfl,hm,cM⟩:=hm;try dsimp only [Vs] at hm
        refine wp_seq (wp_region_lit (n_q H (Ki (i:=aQ) (j:=a0.Pages.length) rfl rfl) rfl ?_));clear H a;intro a H
        refine Ze (Za (wp_seq (Zl H rfl (fun bN=>?_) (fun bN=>?_))))
        · replace hm:=Zt hm bN
          have kL : aQ < a0.Pages.length:=of_decide_eq_true bN
          refine wp_skip (Za (wp_seq (wp_block (wp_seq (wp_region_lit ?_)))))
          replace hm:=Zk hm;obtain⟨aH,cF,hm⟩:=hm
          obtain⟨kM,cH⟩:=SlR.adV (bJ.ext (Zq.mono _) hS.x) bM cF
          refine n_q H (Uq (i:=aQ) Tryz.underlying22 Tg rfl bM cH rfl (Zb9 cF)) rfl (W_q (Zf rfl (SlR.ldAggV (bJ.ext (Zq.mono _) hS.x) bM cH Zj0 Tg cF)) rfl ?_);clear H a;intro a H
          refine Xj H Zdn rfl ?_
          clear H;intro lH lI hN jK hs;clear a;intro a H
          replace hS:=hS.newBlk hN jK hs;clear hN hs
          refine Zr H rfl rfl (vs:=[.int .i64 aH.Rights,.string aH.Init]) rfl Tg (hS.blk 0 rfl) rfl (by simp) ?_
          clear H;intro lJ hN jL hz;clear a;intro a H;replace hS:=hS.setBlk hN jL;clear hN hz
          refine Ze (Za (wp_seq (wp_region_lit (n_q H (Zd rfl Zc3) rfl (W_q (Zf rfl ((hS.blk 0 rfl).ld ag3 rfl)) rfl (W_q (Qc (cs:=([.int .i64 aH.Rights,.bool false] ++ (Vector.replicate 64 0).toList.map (fun b : UInt8=>Value.int .u8 (b.toNat : Int)))) ze82 bd82 pl82 rfl (by kernel_rfl)) rfl ?_))))));clear H a;intro a H
          refine Xj H ze82 rfl ?_
          clear H;intro j6 lK hN jM hs;clear a;intro a H
          replace hS:=hS.newBlk hN jM hs;clear hN hs
          refine Zr H rfl rfl (vs:=([.int .i64 aH.Rights,.bool false] ++ (Vector.replicate 64 0).toList.map (fun b : UInt8=>Value.int .u8 (b.toNat : Int)))) rfl (sz82.trans (by simp)) (hS.blk 0 rfl) (by simp) (Zfn (⟨aH.Rights,false,(Vector.replicate 64 0)⟩ : GPage)) ?_
          clear H;intro iS hN jN hz;clear a;intro a H;replace hS:=hS.setBlk hN jN;clear hN hz
          refine Ze (Za (wp_seq (Gx [] 4 (by kernel_rfl) ?_)))
          obtain⟨iT,cG⟩ : ∃ x,x=iS.drew:=⟨_,rfl⟩;rw [← cG];have jO : Ext iS iT:=by rw [cG];exact Ext.drew' _
          clear cG
          replace hS:=hS.ext jO
          have jP:=hS
          have hW:=Nat.le_refl iT.heap.size
          refine Zh 0 H rfl (Zd rfl Zof) rfl (by kernel_rfl) (by kernel_rfl) (by kernel_rfl) (by kernel_rfl) (fun _ _ _ h=>h) ?_;clear H a;intro a H
          refine Zh 1 H rfl (Zjw Tryz.underlying80 sz5 rfl (by decide)) rfl (by kernel_rfl) (by kernel_rfl) (by kernel_rfl) (by kernel_rfl) (fun _ _ _ h=>h) ?_;clear H a;intro a H
          refine Zh 2 H rfl (Zd rfl Zf5) rfl (by kernel_rfl) (by kernel_rfl) (by kernel_rfl) (by kernel_rfl) (fun _ _ _ h=>h) ?_;clear H a;intro a H
          refine Xq 3 H rfl (Zf rfl (LdC.old ((jP.blk 1 rfl).ld ag9 rfl) Ext.rfl' (Nat.le_refl _) (by simp))) rfl (by kernel_rfl) (by kernel_rfl) (by kernel_rfl) (by kernel_rfl) (fun _ _ _ h=>h) ?_;clear H a;intro a H
          refine Zk9 4 H rfl Tryz.underlying100 sz5 rfl rfl (hS.blk 0 rfl) (by simp) rfl (by kernel_rfl) (.inr (by kernel_rfl)) ?_
          clear H;intro j7 hN cN hz;clear a;intro a H;replace hN:=(congrArg (fun z=>Blk j7 j6 z 82) (Zla (A:=[Value.int .i64 aH.Rights,Value.bool false]) (v:=(Vector.replicate 64 0)) (s:=aH.Init))).mp hN;replace hS:=hS.setBlk hN cN;clear hN hz;replace hW:=Nat.le_trans hW cN.size
          refine Xh (by kernel_rfl) ?_
          refine Za (wp_region_lit (n_q H (Zd rfl Zje) rfl (W_q (Zf rfl ((hS.blk 3 rfl).ld ag32 rfl)) rfl (W_q (Zf rfl ((hS.blk 0 rfl).ldAll ag82 (sz82.trans (by simp)))) rfl ?_))));clear H a;intro a H
          refine Zx H Tryz.underlying32 sz82 ze82 rfl rfl rfl (cs:=[(⟨aH.Rights,false,(Zmi (Vector.replicate 64 0) aH.Init)⟩ : GPage)].flatMap Tp) ((Zjb (k:=66) (ds:=Tp (⟨aH.Rights,false,(Zmi (Vector.replicate 64 0) aH.Init)⟩ : GPage)) (by rfl) (by simp [Tp]) (by rfl)).trans (by simp)) rfl ?_
          clear H;intro lL lM hN jQ hs;clear a;intro a H
          replace hS:=hS.newBlk hN jQ hs;clear hN hs
          replace hS:=hS.blkOwnL (e:=Tp) (k:=66) [(⟨aH.Rights,false,(Zmi (Vector.replicate 64 0) aH.Init)⟩ : GPage)] rfl (by simp [Tp]) (by simp [maxLen])
          replace hS:=hS.pk10
          replace hm:=Tw hm;obtain⟨jR,hm⟩:=hm
          refine Zaw (e:=Tp) H rfl rfl Tryz.underlying32 Tryz.underlying32 (by simp) el82 (hS.own 0 rfl) (((hS.own 1 rfl).slr rfl (fun x _=>Um x)).src (fun x _=>Um x)) Zfn jR (by simp only [maxLen];omega) rfl ?_
          clear H;intro j8 lN hN jS hb;clear a;intro a H;replace hS:=hS.setOwn hN jS hb;clear hN hb
          refine n_q H (Zd rfl Zje) rfl ?_;clear H a;intro a H
          replace hS:=hS.pk5
          refine Kk H rfl rfl sz32 (hS.blk 0 rfl) (by simp) (((hS.own 1 rfl).slr rfl (fun x _=>Um x))).one ?_
          clear H;intro lO hN jT hz;clear a;intro a H;replace hS:=hS.setBlk hN jT;clear hN hz
          try simp only [List.set_cons_succ,List.set_cons_zero] at hS
          refine Ze (Zn (Za (wp_region_lit (n_q H (Yx (i:=aQ) (j:=1) rfl rfl (by omega)) rfl (W_q (Zc rfl) rfl ?_)))));clear H a;intro a H
          refine Ze (Za ?_)
          obtain rfl:=Option.some.inj hm
          replace hS:=hS.pk1
          replace hS:=hS.pk10
          replace hS:=hS.pk10
          replace hS:=hS.pk10
          replace hS:=hS.pk10
          replace hS:=hS.pk10
          replace hS:=hS.pk6
          replace hS:=hS.pk10
          replace hS:=hS.tk8
          exact Wm (j5,aQ + 1,(bB ++ [(⟨aH.Rights,false,(Zmi (Vector.replicate 64 0) aH.Init)⟩ : GPage)]),j8) H ⟨rfl,rfl,rfl,rfl,rfl,trivial⟩ ⟨cM,hS⟩ (Nat.lt_succ_self _)
        · replace hm:=Zu hm bN
          refine wp_exit (Zo (Zo (Qb ?_)))
          obtain rfl:=Option.some.inj hm;have hz : _=iR:=cM;subst hz;replace hm:=jJ;try dsimp only at hm
          refine Za (wp_seq (wp_region_lit (n_q H (Zf rfl ((hS.blk 1 rfl).ldAll ag34 Zca)) rfl ?_)));clear H a;intro a H
          refine Zr H rfl rfl (vs:=[.int .i64 a0.Id,.int .i64 0,.int .i64 0,aX,a9,.slice none 0 0,aR,aS,aT,bC]) rfl Zca (hS.blk 0 rfl) rfl (by simp [(((hS.own 2 rfl).slr rfl (fun x _=>Hn x))).one,(((hS.own 3 rfl).slr rfl (fun _ _=>rfl))).one,(((hS.own 4 rfl).slr rfl (fun _ _=>rfl))).one,(((hS.own 5 rfl).slr rfl (fun _ _=>rfl))).one,((hS.deepSl 6 rfl)).one,(((hS.own 7 rfl).slr rfl (fun x _=>Um x))).one]) ?_
          clear H;intro lP hN jU hz;clear a;intro a H;replace hS:=hS.setBlk hN jU;clear hN hz
          refine n_q H (Zb rfl) rfl ?_;clear H a;intro a H
          refine Ze (Za (wp_ret ?_))
          obtain rfl:=Option.some.inj hm
          replace hS:=hS.nilOwn 163 2
          replace hS:=hS.dNil (A:=A)
          replace hS:=hS.pk2
          replace hS:=hS.pk1
          replace hS:=hS.pk9
          replace hS:=hS.pk9
          replace hS:=hS.pk9
          replace hS:=hS.pk9
          replace hS:=hS.pk6
          replace hS:=hS.pk9
          replace hS:=hS.pk9
          replace hS:=hS.tk9
          refine Zad H (.inr rfl) rfl (vs:=[.agg #[.int .i64 a0.Id,.int .i64 0,.int .i64 0,aX,a9,.slice none 0 0,aR,aS,aT,bC],.nilIface]) (Xk rfl ((hS.blk 8 rfl).ldAll ag34 Zca) (Ku rfl Xw)) ?_
          replace hS:=hS.tk8
          exact⟨_,_,_,_,_,_,_,_,rfl,hS⟩
theorem Ze5 {w : World} {A : Nat → Addr} {cs0 : List Value} {a0 : GPlan} (hG : EV A w) (h0 : Xm w cs0 a0) {r : Int × ErrM} (hm : Gr a0=some r) :
    Calls Tryz.prog 67 [.agg cs0.toArray].toArray w (Ret fun u w'=>∃ h_0,u=.tuple #[.int .i64 r.1,h_0] ∧ St NB w w' [erQ A h_0 r.2]):=by
  obtain⟨aA,aB,aC,aD,rfl,aE,aF,aG,aH⟩:=h0
  have hS:=St.begin NB w
  unfold Gr at hm
  refine enter Tryz.func67 rfl rfl rfl ?_;intro a H;dsimp only [Qo,Nat.zero_add,Nat.reduceAdd] at H
  refine wp_seq (wp_region_lit (Uc H rfl (cs:=[.int .i64 a0.Id,.bool a0.Mobile,aA,aB,aC,.int .i64 a0.Events,aD]) rfl rfl ?_))
  clear H;intro aS aT hN aM hs;clear a;intro a H
  replace hS:=hS.newBlk hN aM hs;clear hN hs
  refine n_q H (Zb rfl) rfl (W_q (Zb rfl) rfl ?_);clear H a;intro a H
  refine Ze (Za (wp_seq (wp_seq (wp_region_lit (n_q H (Zf rfl ((hS.blk 0 rfl).ldAll Za0 Gy)) rfl ?_)))));clear H a;intro a H
  replace hm:=Zk hm;obtain⟨aJ,aN,hm⟩:=hm
  refine Zj H rfl en57 (Ww (A:=A) (hG.ext hS.x) (⟨_,_,_,_,rfl,(aE.ext (Zq.mono _) hS.x),(aF.ext (Zq.mono _) hS.x),(aG.ext (Zq.mono _) hS.x),(aH.ext (Zq.mono _) hS.x)⟩ : Xm _ [.int .i64 a0.Id,.bool a0.Mobile,aA,aB,aC,.int .i64 a0.Events,aD] a0) aN) rfl ?_
  clear H;intro aK aL hv;clear a;intro a H;obtain⟨_,rfl,aO⟩:=hv
  replace hS:=hS.new aO;simp only [List.cons_append,List.nil_append] at hS
  refine n_q H (Qt (Jr Tryz.underlying39 rfl rfl (hS.any 0 rfl : IsE A aL aK aJ).form) (show _=Value.bool (!decide (aJ=.nil)) by rw [Xa.isNil (hS.any 0 rfl : IsE A aL aK aJ)])) rfl ?_;clear H a;intro a H
  refine Ze (Za (Zl H rfl (fun aI=>?_) (fun aI=>?_)))
  · replace hm:=Zt hm aI
    refine wp_seq (Hs (by kernel_rfl) (by kernel_rfl) ?_)
    refine Wn H (Zf rfl ((hG.ext hS.x).ld Uz (by decide) Wy)) rfl ?_;clear H a;intro a H
    refine Wn H (Zb rfl) rfl ?_;clear H a;intro a H
    refine Wn H (Zb rfl) rfl ?_;clear H a;intro a H
    refine Za1 ?_;intro aU aP
    replace hS:=hS.ext aP
    refine Za (wp_ret (Zg ?_))
    obtain rfl:=Option.some.inj hm
    replace hS:=hS.dVar (A:=A) (g:=Uz) (by decide)
    replace hS:=hS.tk1
    refine Zb0 H (.inr rfl) rfl rfl rfl ?_
    exact⟨_,rfl,hS⟩
  · replace hm:=Zu hm aI
    refine wp_skip (Za (wp_seq (wp_region_lit (n_q H (Zf rfl ((hS.blk 1 rfl).ldAll Za0 Gy)) rfl ?_))));clear H a;intro a H
    replace hm:=Zk hm;obtain⟨aV,aQ,hm⟩:=hm
    refine Zj H rfl en140 (Zbv (A:=A) (hG.ext hS.x) (⟨_,_,_,_,rfl,(aE.ext (Zq.mono _) hS.x),(aF.ext (Zq.mono _) hS.x),(aG.ext (Zq.mono _) hS.x),(aH.ext (Zq.mono _) hS.x)⟩ : Xm _ [.int .i64 a0.Id,.bool a0.Mobile,aA,aB,aC,.int .i64 a0.Events,aD] a0) aQ) rfl ?_
    clear H;intro aW aX hv;clear a;intro a H;obtain⟨rfl,aR⟩:=hv
    replace hS:=hS.ext aR
    refine n_q H (Zb rfl) rfl (W_q (Zb rfl) rfl ?_);clear H a;intro a H
    refine Ze (Za (wp_ret ?_))
    obtain rfl:=Option.some.inj hm
    replace hS:=hS.dNil (A:=A)
    replace hS:=hS.tk1
    refine Zb0 H (.inr rfl) rfl rfl rfl ?_
    exact⟨_,rfl,hS⟩
set_option maxHeartbeats 1000000 in
theorem Zei {w : World} {A : Nat → Addr} (hG : EV A w) (hH : HE w) {r : Bool} (hm : Us=some r) :
    Calls Tryz.prog 45 [].toArray w (Ret fun u w'=>u=.bool r ∧ Ext w w'):=by
  have hS:=St.begin NB w
  unfold Us at hm
  refine enter Tryz.func45 rfl rfl rfl ?_;intro a H;dsimp only [Qo,Nat.zero_add,Nat.reduceAdd] at H
  refine wp_seq (wp_region_lit (n_q H (Zb rfl) rfl ?_));clear H a;intro a H
  refine Ze (Za (wp_seq (wp_region_lit ?_)))
  replace hm:=Zk hm;obtain⟨aA,cL,hm⟩:=hm
  refine Zj H rfl en46 (Za8 (A:=A) cL) rfl ?_
  clear H;intro eD eE hv;clear a;intro a H;obtain⟨aM,aN,aO,aP,rfl,cM⟩:=hv
  replace hS:=hS.new cM;simp only [List.cons_append,List.nil_append] at hS
  refine Xj H Zj2 rfl ?_
  clear H;intro bK eG hN cN hs;clear a;intro a H
  replace hS:=hS.newBlk hN cN hs;clear hN hs
  refine Zr H rfl rfl (vs:=[.int .i64 aA.Id,.bool aA.Mobile,aM,aN,aO,.int .i64 aA.Events,aP]) rfl Gy (hS.blk 0 rfl) rfl (by simp [(((hS.own 1 rfl).slr rfl (fun _ _=>rfl))).one,(((hS.own 2 rfl).slr rfl (fun _ _=>rfl))).one,(((hS.own 3 rfl).slr rfl (fun _ _=>rfl))).one,(((hS.own 4 rfl).slr rfl (fun _ _=>rfl))).one]) ?_
  clear H;intro eH hN cO hz;clear a;intro a H;replace hS:=hS.setBlk hN cO;clear hN hz
  refine Ze (Za (wp_seq (wp_region_lit (n_q H (Zf rfl ((hS.blk 0 rfl).ldAll Za0 Gy)) rfl ?_))));clear H a;intro a H
  replace hm:=Zk hm;obtain⟨bI,cP,hm⟩:=hm
  refine Zj H rfl en67 (Ze5 (A:=A) (hG.ext hS.x) (⟨_,_,_,_,rfl,((hS.own 1 rfl).slr rfl (fun _ _=>rfl)),((hS.own 2 rfl).slr rfl (fun _ _=>rfl)),((hS.own 3 rfl).slr rfl (fun _ _=>rfl)),((hS.own 4 rfl).slr rfl (fun _ _=>rfl))⟩ : Xm _ [.int .i64 aA.Id,.bool aA.Mobile,aM,aN,aO,.int .i64 aA.Events,aP] aA) cP) rfl ?_
  clear H;intro eJ eK hv;clear a;intro a H;obtain⟨cK,rfl,cQ⟩:=hv
  replace hS:=hS.new cQ;simp only [List.cons_append,List.nil_append] at hS
  refine n_q H (Zc rfl) rfl (W_q (Zi rfl rfl) rfl (W_q (Zi rfl rfl) rfl (W_q (Zb rfl) rfl (W_q (Zb rfl) rfl ?_))));clear H a;intro a H
  refine Ze (Za (wp_seq ?_))
  replace hm:=Zk hm;obtain⟨eL,hm,bJ⟩:=hm
  refine Ga (σ:=Bool) H (fun bC=>[(1,.pointer (some ⟨bK,0,none⟩)),(23,.bool bC)]) (fun bC wl=>(Ub aA) bC=some r ∧ St NB w wl [blkR bK [.int .i64 aA.Id,.bool aA.Mobile,aM,aN,aO,.int .i64 aA.Events,aP] 27,ownR 114 2 aM aA.Pages.length (aA.Pages.flatMap Qg),ownR 116 3 aN aA.Procs.length (aA.Procs.flatMap Qe),ownR 118 4 aO aA.Ports.length (aA.Ports.flatMap Zw),ownR 3 1 aP aA.Sems.length (aA.Sems.flatMap eI)]) ?_ ?_
  · skip
    refine wp_region_lit (n_q H (Zf rfl ((hS.blk 1 rfl).ldAll Za0 Gy)) rfl ?_);clear H a;intro a H
    replace hm:=Zk hm;obtain⟨bD,bZ,hm⟩:=hm
    refine Zj H rfl en57 (Ww (A:=A) (hG.ext hS.x) (⟨_,_,_,_,rfl,((hS.own 2 rfl).slr rfl (fun _ _=>rfl)),((hS.own 3 rfl).slr rfl (fun _ _=>rfl)),((hS.own 4 rfl).slr rfl (fun _ _=>rfl)),((hS.own 5 rfl).slr rfl (fun _ _=>rfl))⟩ : Xm _ [.int .i64 aA.Id,.bool aA.Mobile,aM,aN,aO,.int .i64 aA.Events,aP] aA) bZ) rfl ?_
    clear H;intro bO bE hv;clear a;intro a H;obtain⟨_,rfl,b7⟩:=hv
    replace hS:=hS.new b7;simp only [List.cons_append,List.nil_append] at hS
    refine n_q H (Qt (Jr Tryz.underlying39 rfl rfl (hS.any 0 rfl : IsE A bE bO bD).form) (show _=Value.bool (!decide (bD=.nil)) by rw [Xa.isNil (hS.any 0 rfl : IsE A bE bO bD)])) rfl (W_q (Zc rfl) rfl ?_);clear H a;intro a H
    rcases Bool.eq_false_or_eq_true (!decide (bD=.nil)) with aQ|aQ
    · replace H:=H.know 16 rfl aQ
      replace hm:=Zt hm aQ
      refine Zaz H rfl rfl (by decide) rfl (Qm rfl rfl (by decide) rfl (W_q (Zz rfl rfl) rfl (W_q (Zc rfl) rfl (Qm rfl rfl (by decide) rfl (Qm rfl rfl (by decide) rfl (W_q (Zz rfl rfl) rfl ?_))))));clear H a;intro a H
      refine Ze (Za ?_)
      obtain rfl:=Option.some.inj hm;replace hm:=bJ;try dsimp only at hm
      replace hS:=hS.pk6
      replace hS:=hS.pk6
      replace hS:=hS.pk6
      replace hS:=hS.pk6
      replace hS:=hS.pk6
      replace hS:=hS.tk5
      exact Wa true H ⟨rfl,rfl,trivial⟩ ⟨hm,hS⟩
    · replace H:=H.know 16 rfl aQ
      replace hm:=Zu hm aQ
      refine Wt H rfl rfl (n_q H (Zc rfl) rfl (Xn rfl rfl (W_q (Qt (Jr Tryz.underlying39 rfl rfl (hS.any 1 rfl : IsE A bE cK bI.2).form) (show _=Value.bool (!decide (bI.2=.nil)) by rw [Xa.isNil (hS.any 1 rfl : IsE A bE cK bI.2)])) rfl (W_q (Jh rfl rfl) rfl (W_q (Zc rfl) rfl ?_)))));clear H a;intro a H
      rcases Bool.eq_false_or_eq_true (!decide (bI.2=.nil)) with aR|aR
      · replace H:=H.know 20 rfl aR
        replace hm:=Zt hm aR
        refine Zaz H rfl rfl (by decide) rfl (Qm rfl rfl (by decide) rfl (W_q (Zz rfl rfl) rfl ?_));clear H a;intro a H
        refine Ze (Za ?_)
        obtain rfl:=Option.some.inj hm;replace hm:=bJ;try dsimp only at hm
        replace hS:=hS.pk6
        replace hS:=hS.pk6
        replace hS:=hS.pk6
        replace hS:=hS.pk6
        replace hS:=hS.pk6
        replace hS:=hS.tk5
        exact Wa true H ⟨rfl,rfl,trivial⟩ ⟨hm,hS⟩
      · replace H:=H.know 20 rfl aR
        replace hm:=Zu hm aR
        refine Wt H rfl rfl (n_q H (Zc rfl) rfl (Xn rfl rfl (W_q (Hv rfl rfl) rfl (W_q (Jh rfl rfl) rfl ?_))));clear H a;intro a H
        refine Ze (Za ?_)
        obtain rfl:=Option.some.inj hm;replace hm:=bJ;try dsimp only at hm
        replace hS:=hS.pk6
        replace hS:=hS.pk6
        replace hS:=hS.pk6
        replace hS:=hS.pk6
        replace hS:=hS.pk6
        replace hS:=hS.tk5
        exact Wa (!decide (bI.1=363)) H ⟨rfl,rfl,trivial⟩ ⟨hm,hS⟩
  · clear H hS hm a;intro bC a dY H hR
    simp only [ent,List.map_cons,List.map_nil] at H;(try dsimp only at hR);obtain⟨hm,hS⟩:=hR;try dsimp only [Ub] at hm
    refine Zl H rfl (fun bF=>?_) (fun bF=>?_)
    · replace hm:=Zt hm bF
      refine wp_seq (wp_region_lit (n_q H (Zb rfl) rfl ?_));clear H a;intro a H
      refine Ze (Za (wp_ret (Zg ?_)))
      obtain rfl:=Option.some.inj hm
      replace hS:=hS.tk0
      refine Jb H (.inr rfl) rfl rfl ?_
      exact⟨rfl,hS.x⟩
    · replace hm:=Zu hm bF
      refine wp_skip (Za (wp_seq (wp_region_lit (n_q H (Zf rfl ((hS.blk 0 rfl).ldAll Za0 Gy)) rfl ?_))));clear H a;intro a H
      replace hm:=Zk hm;obtain⟨aB,b8,hm⟩:=hm
      refine Zj H rfl en53 (Zga (A:=A) (hG.ext hS.x) (⟨_,_,_,_,rfl,((hS.own 1 rfl).slr rfl (fun _ _=>rfl)),((hS.own 2 rfl).slr rfl (fun _ _=>rfl)),((hS.own 3 rfl).slr rfl (fun _ _=>rfl)),((hS.own 4 rfl).slr rfl (fun _ _=>rfl))⟩ : Xm _ [.int .i64 aA.Id,.bool aA.Mobile,aM,aN,aO,.int .i64 aA.Events,aP] aA) b8) rfl ?_
      clear H;intro dZ d5 hv;clear a;intro a H;obtain⟨cR,cT,cU,cV,cW,cX,cY,bP,rfl,b9⟩:=hv
      replace hS:=hS.new b9;simp only [List.cons_append,List.nil_append] at hS
      refine n_q H (Zc rfl) rfl (W_q (Zi rfl rfl) rfl (W_q (Zi rfl rfl) rfl ?_));clear H a;intro a H
      refine Xj H Ty rfl ?_
      clear H;intro d6 d7 hN cA hs;clear a;intro a H
      replace hS:=hS.newBlk hN cA hs;clear hN hs
      refine Zr H rfl rfl (vs:=[.int .i64 aB.1.Id,.int .i64 aB.1.Frame,.int .i64 aB.1.Epoch,cR,cT,cU,cV,cW,cX,cY]) rfl Zca (hS.blk 0 rfl) rfl (by simp [(((hS.own 1 rfl).slr rfl (fun x _=>Hn x))).one,(((hS.own 2 rfl).slr rfl (fun _ _=>rfl))).one,(((hS.own 3 rfl).slr rfl (fun _ _=>rfl))).one,(((hS.own 4 rfl).slr rfl (fun _ _=>rfl))).one,(((hS.own 5 rfl).slr rfl (fun _ _=>rfl))).one,((hS.deepSl 6 rfl)).one,(((hS.own 7 rfl).slr rfl (fun x _=>Um x))).one]) ?_
      clear H;intro d8 hN cB hz;clear a;intro a H;replace hS:=hS.setBlk hN cB;clear hN hz
      refine n_q H (Zb rfl) rfl ?_;clear H a;intro a H
      refine Ze (Za (wp_seq (wp_region_lit (n_q H (Zf rfl ((hS.blk 9 rfl).ldAll Za0 Gy)) rfl ?_))));clear H a;intro a H
      replace hm:=Zk hm;obtain⟨aD,cC,hm⟩:=hm
      refine Zj H rfl en47 (Gm (A:=A) (hG.ext hS.x) (⟨_,_,_,_,rfl,((hS.own 10 rfl).slr rfl (fun _ _=>rfl)),((hS.own 11 rfl).slr rfl (fun _ _=>rfl)),((hS.own 12 rfl).slr rfl (fun _ _=>rfl)),((hS.own 13 rfl).slr rfl (fun _ _=>rfl))⟩ : Xm _ [.int .i64 aA.Id,.bool aA.Mobile,aM,aN,aO,.int .i64 aA.Events,aP] aA) cC) rfl ?_
      clear H;intro d9 bG hv;clear a;intro a H;obtain⟨eA,bQ,rfl,cD⟩:=hv
      replace hS:=hS.new cD;simp only [List.cons_append,List.nil_append] at hS
      refine n_q H (Zc rfl) rfl (W_q (Zi rfl rfl) rfl (W_q (Zi rfl rfl) rfl (W_q (Zb rfl) rfl (W_q (Zb rfl) rfl ?_))));clear H a;intro a H
      refine Ze (Za (wp_seq ?_))
      replace hm:=Zk hm;obtain⟨eC,hm,aC⟩:=hm
      refine Ga (σ:=Bool) H (fun aT=>[(1,.pointer (some ⟨bK,0,none⟩)),(77,.bool aT)]) (fun aT wl=>(Ua aA) aT=some r ∧ St NB w wl [blkR bK [.int .i64 aA.Id,.bool aA.Mobile,aM,aN,aO,.int .i64 aA.Events,aP] 27,ownR 114 2 aM aA.Pages.length (aA.Pages.flatMap Qg),ownR 116 3 aN aA.Procs.length (aA.Procs.flatMap Qe),ownR 118 4 aO aA.Ports.length (aA.Ports.flatMap Zw),ownR 3 1 aP aA.Sems.length (aA.Sems.flatMap eI)]) ?_ ?_
      · skip
        refine wp_region_lit (n_q H (Zc rfl) rfl (W_q (Qt (Jr Tryz.underlying39 rfl rfl (hS.any 10 rfl : IsE A bG bP aB.2).form) (show _=Value.bool (!decide (aB.2=.nil)) by rw [Xa.isNil (hS.any 10 rfl : IsE A bG bP aB.2)])) rfl (W_q (Zc rfl) rfl ?_)));clear H a;intro a H
        rcases Bool.eq_false_or_eq_true (!decide (aB.2=.nil)) with aE|aE
        · replace H:=H.know 36 rfl aE
          replace hm:=Zt hm aE
          refine Zaz H rfl rfl (by decide) rfl (Qm rfl rfl (by decide) rfl (W_q (Zz rfl rfl) rfl (W_q (Zc rfl) rfl (Qm rfl rfl (by decide) rfl (Qm rfl rfl (by decide) rfl (Qm rfl rfl (by decide) rfl (Qm rfl rfl (by decide) rfl (W_q (Zz rfl rfl) rfl (W_q (Zc rfl) rfl (Qm rfl rfl (by decide) rfl (Qm rfl rfl (by decide) rfl ?_)))))))))));clear H a;intro a H
          refine Zaz H rfl rfl (by decide) rfl (Qm rfl rfl (by decide) rfl (W_q (Zz rfl rfl) rfl (W_q (Zc rfl) rfl (Qm rfl rfl (by decide) rfl (Qm rfl rfl (by decide) rfl (Qm rfl rfl (by decide) rfl (Qm rfl rfl (by decide) rfl (W_q (Zz rfl rfl) rfl (W_q (Zc rfl) rfl (Qm rfl rfl (by decide) rfl (Qm rfl rfl (by decide) rfl ?_)))))))))));clear H a;intro a H
          refine Zaz H rfl rfl (by decide) rfl (Qm rfl rfl (by decide) rfl (Qm rfl rfl (by decide) rfl (Qm rfl rfl (by decide) rfl (Qm rfl rfl (by decide) rfl (W_q (Zz rfl rfl) rfl (W_q (Zc rfl) rfl (Qm rfl rfl (by decide) rfl (Qm rfl rfl (by decide) rfl (Qm rfl rfl (by decide) rfl (W_q (Zz rfl rfl) rfl (W_q (Zc rfl) rfl ?_)))))))))));clear H a;intro a H
          refine Zaz H rfl rfl (by decide) rfl (Qm rfl rfl (by decide) rfl (Qm rfl rfl (by decide) rfl (Qm rfl rfl (by decide) rfl (W_q (Zz rfl rfl) rfl ?_))));clear H a;intro a H
          refine Ze (Za ?_)
          obtain rfl:=Option.some.inj hm;replace hm:=aC;try dsimp only at hm
          replace hS:=hS.pick 15 rfl;dsimp only [List.eraseIdx] at hS
          replace hS:=hS.pick 15 rfl;dsimp only [List.eraseIdx] at hS
          replace hS:=hS.pick 15 rfl;dsimp only [List.eraseIdx] at hS
          replace hS:=hS.pick 15 rfl;dsimp only [List.eraseIdx] at hS
          replace hS:=hS.pick 15 rfl;dsimp only [List.eraseIdx] at hS
          replace hS:=hS.tk5
          exact Wa true H ⟨rfl,rfl,trivial⟩ ⟨hm,hS⟩
        · replace H:=H.know 36 rfl aE
          replace hm:=Zu hm aE
          refine Wt H rfl rfl (n_q H (Zc rfl) rfl (Xn rfl rfl (W_q (Qt (Jr Tryz.underlying39 rfl rfl (hS.any 1 rfl : IsE A bG bQ aD.2).form) (show _=Value.bool (!decide (aD.2=.nil)) by rw [Xa.isNil (hS.any 1 rfl : IsE A bG bQ aD.2)])) rfl (W_q (Jh rfl rfl) rfl (W_q (Zc rfl) rfl ?_)))));clear H a;intro a H
          rcases Bool.eq_false_or_eq_true (!decide (aD.2=.nil)) with aF|aF
          · replace H:=H.know 40 rfl aF
            replace hm:=Zt hm aF
            refine Zaz H rfl rfl (by decide) rfl (Qm rfl rfl (by decide) rfl (Qm rfl rfl (by decide) rfl (Qm rfl rfl (by decide) rfl (W_q (Zz rfl rfl) rfl (W_q (Zc rfl) rfl (Qm rfl rfl (by decide) rfl (Qm rfl rfl (by decide) rfl (Qm rfl rfl (by decide) rfl (Qm rfl rfl (by decide) rfl (W_q (Zz rfl rfl) rfl (W_q (Zc rfl) rfl ?_)))))))))));clear H a;intro a H
            refine Zaz H rfl rfl (by decide) rfl (Qm rfl rfl (by decide) rfl (Qm rfl rfl (by decide) rfl (Qm rfl rfl (by decide) rfl (W_q (Zz rfl rfl) rfl (W_q (Zc rfl) rfl (Qm rfl rfl (by decide) rfl (Qm rfl rfl (by decide) rfl (Qm rfl rfl (by decide) rfl (Qm rfl rfl (by decide) rfl (Qm rfl rfl (by decide) rfl (Qm rfl rfl (by decide) rfl ?_)))))))))));clear H a;intro a H
            refine Zaz H rfl rfl (by decide) rfl (W_q (Zz rfl rfl) rfl (W_q (Zc rfl) rfl (Qm rfl rfl (by decide) rfl (Qm rfl rfl (by decide) rfl (Qm rfl rfl (by decide) rfl (W_q (Zz rfl rfl) rfl (W_q (Zc rfl) rfl (Qm rfl rfl (by decide) rfl (Qm rfl rfl (by decide) rfl (Qm rfl rfl (by decide) rfl (Qm rfl rfl (by decide) rfl ?_)))))))))));clear H a;intro a H
            refine n_q H (Zz rfl rfl) rfl ?_;clear H a;intro a H
            refine Ze (Za ?_)
            obtain rfl:=Option.some.inj hm;replace hm:=aC;try dsimp only at hm
            replace hS:=hS.pick 15 rfl;dsimp only [List.eraseIdx] at hS
            replace hS:=hS.pick 15 rfl;dsimp only [List.eraseIdx] at hS
            replace hS:=hS.pick 15 rfl;dsimp only [List.eraseIdx] at hS
            replace hS:=hS.pick 15 rfl;dsimp only [List.eraseIdx] at hS
            replace hS:=hS.pick 15 rfl;dsimp only [List.eraseIdx] at hS
            replace hS:=hS.tk5
            exact Wa true H ⟨rfl,rfl,trivial⟩ ⟨hm,hS⟩
          · replace H:=H.know 40 rfl aF
            replace hm:=Zu hm aF
            refine Wt H rfl rfl (n_q H (Zd rfl Zll) rfl (Xn rfl rfl (W_q (Zf rfl ((hS.blk 2 rfl).ld ag28 rfl)) rfl (Xn rfl rfl ?_))));clear H a;intro a H
            obtain⟨dL,dM,bR,dB,dC⟩:=SlR.formV ((hS.own 3 rfl).slr rfl (fun x _=>Hn x))
            refine n_q H (Qh Tryz.underlying28 rfl bR) rfl (Xn rfl rfl (W_q (Zgx (i:=aB.1.Procs.length) (j:=2) rfl rfl) rfl (W_q (Jh rfl rfl) rfl (W_q (Zc rfl) rfl ?_))));clear H a;intro a H
            rcases Bool.eq_false_or_eq_true (!decide (aB.1.Procs.length=2)) with aG|aG
            · replace H:=H.know 46 rfl aG
              replace hm:=Zt hm aG
              refine Zaz H rfl rfl (by decide) rfl (Qm rfl rfl (by decide) rfl (Qm rfl rfl (by decide) rfl (Qm rfl rfl (by decide) rfl (W_q (Zz rfl rfl) rfl (W_q (Zc rfl) rfl (Qm rfl rfl (by decide) rfl (Qm rfl rfl (by decide) rfl (Qm rfl rfl (by decide) rfl (Qm rfl rfl (by decide) rfl (W_q (Zz rfl rfl) rfl (W_q (Zc rfl) rfl ?_)))))))))));clear H a;intro a H
              refine Zaz H rfl rfl (by decide) rfl (Qm rfl rfl (by decide) rfl (Qm rfl rfl (by decide) rfl (Qm rfl rfl (by decide) rfl (Qm rfl rfl (by decide) rfl (Qm rfl rfl (by decide) rfl (Qm rfl rfl (by decide) rfl (W_q (Zz rfl rfl) rfl (W_q (Zc rfl) rfl (Qm rfl rfl (by decide) rfl (Qm rfl rfl (by decide) rfl (Qm rfl rfl (by decide) rfl ?_)))))))))));clear H a;intro a H
              refine n_q H (Zz rfl rfl) rfl (W_q (Zc rfl) rfl (Qm rfl rfl (by decide) rfl (Qm rfl rfl (by decide) rfl (Qm rfl rfl (by decide) rfl (Qm rfl rfl (by decide) rfl (W_q (Zz rfl rfl) rfl ?_))))));clear H a;intro a H
              refine Ze (Za ?_)
              obtain rfl:=Option.some.inj hm;replace hm:=aC;try dsimp only at hm
              replace hS:=hS.pick 15 rfl;dsimp only [List.eraseIdx] at hS
              replace hS:=hS.pick 15 rfl;dsimp only [List.eraseIdx] at hS
              replace hS:=hS.pick 15 rfl;dsimp only [List.eraseIdx] at hS
              replace hS:=hS.pick 15 rfl;dsimp only [List.eraseIdx] at hS
              replace hS:=hS.pick 15 rfl;dsimp only [List.eraseIdx] at hS
              replace hS:=hS.tk5
              exact Wa true H ⟨rfl,rfl,trivial⟩ ⟨hm,hS⟩
            · replace H:=H.know 46 rfl aG
              replace hm:=Zu hm aG
              refine Wt H rfl rfl (n_q H (Zd rfl Zlm) rfl (Xn rfl rfl (W_q (Zf rfl ((hS.blk 2 rfl).ld Zjd rfl)) rfl (Xn rfl rfl ?_))));clear H a;intro a H
              obtain⟨dN,dO,bS,dD,dE⟩:=SlR.formV ((hS.own 4 rfl).slr rfl (fun _ _=>rfl))
              refine n_q H (Qh Tryz.underlying25 rfl bS) rfl (Xn rfl rfl (W_q (Zgx (i:=aB.1.Ready.length) (j:=1) rfl rfl) rfl (W_q (Jh rfl rfl) rfl (W_q (Zc rfl) rfl ?_))));clear H a;intro a H
              rcases Bool.eq_false_or_eq_true (!decide (aB.1.Ready.length=1)) with aH|aH
              · replace H:=H.know 52 rfl aH
                replace hm:=Zt hm aH
                refine Zaz H rfl rfl (by decide) rfl (Qm rfl rfl (by decide) rfl (Qm rfl rfl (by decide) rfl (Qm rfl rfl (by decide) rfl (W_q (Zz rfl rfl) rfl (W_q (Zc rfl) rfl (Qm rfl rfl (by decide) rfl (Qm rfl rfl (by decide) rfl (Qm rfl rfl (by decide) rfl (Qm rfl rfl (by decide) rfl (Qm rfl rfl (by decide) rfl (Qm rfl rfl (by decide) rfl ?_)))))))))));clear H a;intro a H
                refine Zaz H rfl rfl (by decide) rfl (W_q (Zz rfl rfl) rfl (W_q (Zc rfl) rfl (Qm rfl rfl (by decide) rfl (Qm rfl rfl (by decide) rfl (Qm rfl rfl (by decide) rfl (W_q (Zz rfl rfl) rfl (W_q (Zc rfl) rfl (Qm rfl rfl (by decide) rfl (Qm rfl rfl (by decide) rfl (Qm rfl rfl (by decide) rfl (Qm rfl rfl (by decide) rfl ?_)))))))))));clear H a;intro a H
                refine n_q H (Zz rfl rfl) rfl ?_;clear H a;intro a H
                refine Ze (Za ?_)
                obtain rfl:=Option.some.inj hm;replace hm:=aC;try dsimp only at hm
                replace hS:=hS.pick 15 rfl;dsimp only [List.eraseIdx] at hS
                replace hS:=hS.pick 15 rfl;dsimp only [List.eraseIdx] at hS
                replace hS:=hS.pick 15 rfl;dsimp only [List.eraseIdx] at hS
                replace hS:=hS.pick 15 rfl;dsimp only [List.eraseIdx] at hS
                replace hS:=hS.pick 15 rfl;dsimp only [List.eraseIdx] at hS
                replace hS:=hS.tk5
                exact Wa true H ⟨rfl,rfl,trivial⟩ ⟨hm,hS⟩
              · replace H:=H.know 52 rfl aH
                replace hm:=Zu hm aH
                refine Wt H rfl rfl (n_q H (Zd rfl Zje) rfl (Xn rfl rfl (W_q (Zf rfl ((hS.blk 2 rfl).ld ag32 rfl)) rfl (Xn rfl rfl ?_))));clear H a;intro a H
                obtain⟨dP,dQ,aS,dF,dG⟩:=SlR.formV ((hS.own 9 rfl).slr rfl (fun x _=>Um x))
                refine n_q H (Qh Tryz.underlying32 rfl aS) rfl (Xn rfl rfl (W_q (Zgx (i:=aB.1.Pages.length) (j:=2) rfl rfl) rfl (W_q (Jh rfl rfl) rfl (W_q (Zc rfl) rfl ?_))));clear H a;intro a H
                rcases Bool.eq_false_or_eq_true (!decide (aB.1.Pages.length=2)) with aI|aI
                · replace H:=H.know 58 rfl aI
                  replace hm:=Zt hm aI
                  refine Zaz H rfl rfl (by decide) rfl (Qm rfl rfl (by decide) rfl (Qm rfl rfl (by decide) rfl (Qm rfl rfl (by decide) rfl (Qm rfl rfl (by decide) rfl (Qm rfl rfl (by decide) rfl (Qm rfl rfl (by decide) rfl (W_q (Zz rfl rfl) rfl (W_q (Zc rfl) rfl (Qm rfl rfl (by decide) rfl (Qm rfl rfl (by decide) rfl (Qm rfl rfl (by decide) rfl ?_)))))))))));clear H a;intro a H
                  refine n_q H (Zz rfl rfl) rfl (W_q (Zc rfl) rfl (Qm rfl rfl (by decide) rfl (Qm rfl rfl (by decide) rfl (Qm rfl rfl (by decide) rfl (Qm rfl rfl (by decide) rfl (W_q (Zz rfl rfl) rfl ?_))))));clear H a;intro a H
                  refine Ze (Za ?_)
                  obtain rfl:=Option.some.inj hm;replace hm:=aC;try dsimp only at hm
                  replace hS:=hS.pick 15 rfl;dsimp only [List.eraseIdx] at hS
                  replace hS:=hS.pick 15 rfl;dsimp only [List.eraseIdx] at hS
                  replace hS:=hS.pick 15 rfl;dsimp only [List.eraseIdx] at hS
                  replace hS:=hS.pick 15 rfl;dsimp only [List.eraseIdx] at hS
                  replace hS:=hS.pick 15 rfl;dsimp only [List.eraseIdx] at hS
                  replace hS:=hS.tk5
                  exact Wa true H ⟨rfl,rfl,trivial⟩ ⟨hm,hS⟩
                · replace H:=H.know 58 rfl aI
                  replace hm:=Zu hm aI
                  refine Wt H rfl rfl (n_q H (Zd rfl Zje) rfl (Xn rfl rfl (W_q (Zf rfl ((hS.blk 2 rfl).ld ag32 rfl)) rfl (Xn rfl rfl ?_))));clear H a;intro a H
                  replace hm:=Zk hm;obtain⟨bL,aV,hm⟩:=hm
                  obtain⟨cZ,bA⟩:=SlR.adV ((hS.own 9 rfl).slr rfl (fun x _=>Um x)) aS aV
                  refine n_q H (Uq (i:=0) Tryz.underlying32 sz82 rfl aS bA rfl (Zb9 aV)) rfl (Xn rfl rfl (W_q (Vi rfl Zof) rfl (Xn rfl rfl ?_)));clear H a;intro a H
                  replace hm:=Zk hm;obtain⟨cF,bT,hm⟩:=hm
                  obtain⟨h0x1100,h1x1100,bN⟩:=Zf3 bT
                  refine n_q H (Zk6 Tryz.underlying80 sz5 rfl rfl h0x1100 h1x1100) rfl (Xn rfl rfl (W_q (Zf rfl (SlR.ldArrV (o:=2) ((hS.own 9 rfl).slr rfl (fun x _=>Um x)) aS bA ag5 aV (Zov (A:=[Value.int .i64 bL.Rights,Value.bool bL.Dirty]) (f:=(fun b : UInt8=>Value.int .u8 (b.toNat : Int))) bN))) rfl (Xn rfl rfl (W_q (Hv rfl rfl) rfl (W_q (Jh rfl rfl) rfl (W_q (Zc rfl) rfl ?_))))));clear H a;intro a H
                  rcases Bool.eq_false_or_eq_true (!decide ((cF.toNat : Int)=98)) with aJ|aJ
                  · replace H:=H.know 67 rfl aJ
                    replace hm:=Zt hm aJ
                    refine Zaz H rfl rfl (by decide) rfl (Qm rfl rfl (by decide) rfl (Qm rfl rfl (by decide) rfl (W_q (Zz rfl rfl) rfl (W_q (Zc rfl) rfl (Qm rfl rfl (by decide) rfl (Qm rfl rfl (by decide) rfl (Qm rfl rfl (by decide) rfl (Qm rfl rfl (by decide) rfl (W_q (Zz rfl rfl) rfl ?_)))))))));clear H a;intro a H
                    refine Ze (Za ?_)
                    obtain rfl:=Option.some.inj hm;replace hm:=aC;try dsimp only at hm
                    replace hS:=hS.pick 15 rfl;dsimp only [List.eraseIdx] at hS
                    replace hS:=hS.pick 15 rfl;dsimp only [List.eraseIdx] at hS
                    replace hS:=hS.pick 15 rfl;dsimp only [List.eraseIdx] at hS
                    replace hS:=hS.pick 15 rfl;dsimp only [List.eraseIdx] at hS
                    replace hS:=hS.pick 15 rfl;dsimp only [List.eraseIdx] at hS
                    replace hS:=hS.tk5
                    exact Wa true H ⟨rfl,rfl,trivial⟩ ⟨hm,hS⟩
                  · replace H:=H.know 67 rfl aJ
                    replace hm:=Zu hm aJ
                    refine Wt H rfl rfl (n_q H (Zc rfl) rfl (Xn rfl rfl ?_));clear H a;intro a H
                    obtain⟨cG,cH,aW,dH,dI⟩:=SlR.formV ((hS.own 0 rfl).slr rfl (fun _ _=>rfl))
                    refine n_q H (Qh Tryz.underlying100 rfl aW) rfl (Xn rfl rfl (W_q (Zgx (i:=aD.1.length) (j:=69) rfl rfl) rfl (W_q (Jh rfl rfl) rfl (W_q (Zc rfl) rfl ?_))));clear H a;intro a H
                    rcases Bool.eq_false_or_eq_true (!decide (aD.1.length=69)) with aK|aK
                    · replace H:=H.know 72 rfl aK
                      replace hm:=Zt hm aK
                      refine Zaz H rfl rfl (by decide) rfl (Qm rfl rfl (by decide) rfl (Qm rfl rfl (by decide) rfl (Qm rfl rfl (by decide) rfl (W_q (Zz rfl rfl) rfl ?_))));clear H a;intro a H
                      refine Ze (Za ?_)
                      obtain rfl:=Option.some.inj hm;replace hm:=aC;try dsimp only at hm
                      replace hS:=hS.pick 15 rfl;dsimp only [List.eraseIdx] at hS
                      replace hS:=hS.pick 15 rfl;dsimp only [List.eraseIdx] at hS
                      replace hS:=hS.pick 15 rfl;dsimp only [List.eraseIdx] at hS
                      replace hS:=hS.pick 15 rfl;dsimp only [List.eraseIdx] at hS
                      replace hS:=hS.pick 15 rfl;dsimp only [List.eraseIdx] at hS
                      replace hS:=hS.tk5
                      exact Wa true H ⟨rfl,rfl,trivial⟩ ⟨hm,hS⟩
                    · replace H:=H.know 72 rfl aK
                      replace hm:=Zu hm aK
                      refine Wt H rfl rfl (n_q H (Zc rfl) rfl (Xn rfl rfl ?_));clear H a;intro a H
                      replace hm:=Tw hm;obtain⟨aX,hm⟩:=hm
                      refine n_q H (Zd7 Tryz.underlying100 sz5 (show _=some (Value.slice cG aD.1.length cH) by rw [← aW];rfl) rfl aX.1 (by omega)) rfl (Xn rfl rfl (W_q (Zkt Tryz.underlying100 Tryz.underlying5 Tryz.underlying9 rfl (fun w' hw=>((SlR.takeV ((hS.own 0 rfl).slr rfl (fun _ _=>rfl)) aW aX.1 aX.2).ext (Zq.mono _) hw))) rfl (Xn rfl rfl (W_q (Zn4 rfl rfl) rfl (W_q (Jh rfl rfl) rfl ?_)))));clear H a;intro a H
                      refine Ze (Za ?_)
                      obtain rfl:=Option.some.inj hm;replace hm:=aC;try dsimp only at hm
                      replace hS:=hS.pick 15 rfl;dsimp only [List.eraseIdx] at hS
                      replace hS:=hS.pick 15 rfl;dsimp only [List.eraseIdx] at hS
                      replace hS:=hS.pick 15 rfl;dsimp only [List.eraseIdx] at hS
                      replace hS:=hS.pick 15 rfl;dsimp only [List.eraseIdx] at hS
                      replace hS:=hS.pick 15 rfl;dsimp only [List.eraseIdx] at hS
                      replace hS:=hS.tk5
                      exact Wa (!decide ((Zea (aD.1.take (15 : Int).toNat))=⟨#[70,80,76,78,0,1,0,0,0,69,0,0,0,3,1]⟩)) H ⟨rfl,rfl,trivial⟩ ⟨hm,hS⟩
      · clear H hS hm a;intro aT a dR H hR
        simp only [ent,List.map_cons,List.map_nil] at H;(try dsimp only at hR);obtain⟨hm,hS⟩:=hR;try dsimp only [Ua] at hm
        refine Zl H rfl (fun aY=>?_) (fun aY=>?_)
        · replace hm:=Zt hm aY
          refine wp_seq (wp_region_lit (n_q H (Zb rfl) rfl ?_));clear H a;intro a H
          refine Ze (Za (wp_ret (Zg ?_)))
          obtain rfl:=Option.some.inj hm
          replace hS:=hS.tk0
          refine Jb H (.inr rfl) rfl rfl ?_
          exact⟨rfl,hS.x⟩
        · replace hm:=Zu hm aY
          refine wp_skip (Za (wp_seq (wp_region_lit (n_q H (Zd rfl Ha) rfl (W_q (Zf rfl ((hS.blk 0 rfl).ld Zjc rfl)) rfl ?_)))));clear H a;intro a H
          obtain⟨dS,dT,aZ,dJ,dK⟩:=SlR.formV ((hS.own 2 rfl).slr rfl (fun _ _=>rfl))
          replace hm:=Zk hm;obtain⟨aU,a9,hm⟩:=hm
          obtain⟨dA,bB⟩:=SlR.adV ((hS.own 2 rfl).slr rfl (fun _ _=>rfl)) aZ a9
          refine n_q H (Uq (i:=1) Tryz.underlying23 Tm rfl aZ bB rfl (Zb9 a9)) rfl (W_q (Vi rfl Zaq) rfl ?_);clear H a;intro a H
          replace hS:=hS.pk2
          refine Zjs (e:=Qe) (j:=0) (x':=(⟨66,aU.Prio,aU.Auto⟩ : GProcPlan)) H rfl rfl sz3 (hS.own 0 rfl) aZ bB a9 rfl (fun _=>rfl) (by decide) rfl ?_
          clear H;intro dU hN bU;clear a;intro a H;replace hS:=hS.setOwn hN bU (.inl rfl);clear hN
          refine Ze (Za (wp_seq (wp_region_lit (n_q H (Zf rfl ((hS.blk 1 rfl).ldAll Za0 Gy)) rfl ?_))));clear H a;intro a H
          replace hm:=Zk hm;obtain⟨bH,bV,hm⟩:=hm
          refine Zj H rfl en57 (Ww (A:=A) (hG.ext hS.x) (⟨_,_,_,_,rfl,((hS.own 2 rfl).slr rfl (fun _ _=>rfl)),((hS.own 0 rfl).slr rfl (fun _ _=>rfl)),((hS.own 3 rfl).slr rfl (fun _ _=>rfl)),((hS.own 4 rfl).slr rfl (fun _ _=>rfl))⟩ : Xm _ [.int .i64 aA.Id,.bool aA.Mobile,aM,aN,aO,.int .i64 aA.Events,aP] (⟨aA.Id,aA.Mobile,aA.Pages,(aA.Procs.set 1 (⟨66,aU.Prio,aU.Auto⟩ : GProcPlan)),aA.Ports,aA.Events,aA.Sems⟩ : GPlan)) bV) rfl ?_
          clear H;intro bM cI hv;clear a;intro a H;obtain⟨_,rfl,bW⟩:=hv
          replace hS:=hS.new bW;simp only [List.cons_append,List.nil_append] at hS
          refine n_q H (Zb rfl) rfl ?_;clear H a;intro a H
          refine Ze (Za (wp_seq (wp_region_lit (n_q H (Zc rfl) rfl ?_))));clear H a;intro a H
          refine Zj H rfl en56 (code_w (hG.ext hS.x) (hS.any 0 rfl : IsE A cI bM bH)) rfl ?_
          clear H;intro dV cJ hv;clear a;intro a H;obtain⟨rfl,bX⟩:=hv;replace hS:=hS.ext bX
          refine n_q H (Wu rfl rfl) rfl (W_q (Zc rfl) rfl ?_);clear H a;intro a H
          rcases Bool.eq_false_or_eq_true (decide ((ErrM.code bH)=4)) with aL|aL
          · replace H:=H.know 87 rfl aL
            replace hm:=Zt hm aL
            refine Wt H rfl rfl (n_q H (Zc rfl) rfl (Xn rfl rfl ?_));clear H a;intro a H
            refine Zj H rfl en60 (Zot (hH.ext hS.x) (hS.any 0 rfl : IsE A cJ bM bH)) rfl ?_
            clear H;intro dW dX hv;clear a;intro a H;obtain⟨rfl,bY⟩:=hv;replace hS:=hS.ext bY
            refine Wt H rfl rfl (n_q H (Wu rfl rfl) rfl (W_q (Zz rfl rfl) rfl (W_q (Zb rfl) rfl ?_)));clear H a;intro a H
            refine Ze (Za (wp_ret ?_))
            obtain rfl:=Option.some.inj hm
            replace hS:=hS.tk0
            refine Jb H (.inr rfl) rfl rfl ?_
            exact⟨rfl,hS.x⟩
          · replace H:=H.know 87 rfl aL
            replace hm:=Zu hm aL
            refine Zaz H rfl rfl (by decide) rfl (Qm rfl rfl (by decide) rfl (Qm rfl rfl (by decide) rfl (W_q (Jh rfl rfl) rfl (W_q (Zb rfl) rfl ?_))));clear H a;intro a H
            refine Ze (Za (wp_ret ?_))
            obtain rfl:=Option.some.inj hm
            replace hS:=hS.tk0
            refine Jb H (.inr rfl) rfl rfl ?_
            exact⟨rfl,hS.x⟩
theorem Zdi {w : World} {A : Nat → Addr} {cs0 : List Value} {a0 : GPlan} (h0 : Xm w cs0 a0) {r : GPlan} (hm : Ho a0=some r) :
    Calls Tryz.prog 14 [.agg cs0.toArray].toArray w (Ret fun u w'=>∃ h_0 h_1 h_2 h_3,u=.agg #[.int .i64 r.Id,.bool r.Mobile,h_0,h_1,h_2,.int .i64 r.Events,h_3] ∧ St NB w w' [ownR 114 2 h_0 r.Pages.length (r.Pages.flatMap Qg),ownR 116 3 h_1 r.Procs.length (r.Procs.flatMap Qe),ownR 118 4 h_2 r.Ports.length (r.Ports.flatMap Zw),ownR 3 1 h_3 r.Sems.length (r.Sems.flatMap eI)]):=by
  obtain⟨aE,aF,aG,aH,rfl,aA,aB,aC,aD⟩:=h0
  have hS:=St.begin NB w
  unfold Ho at hm
  refine enter Tryz.func14 rfl rfl rfl ?_;intro a H;dsimp only [Qo,Nat.zero_add,Nat.reduceAdd] at H
  refine wp_seq (wp_region_lit (Uc H rfl (cs:=[.int .i64 a0.Id,.bool a0.Mobile,aE,aF,aG,.int .i64 a0.Events,aH]) rfl rfl ?_))
  clear H;intro bE bF hN aM hs;clear a;intro a H
  replace hS:=hS.newBlk hN aM hs;clear hN hs
  refine Xj H Zj2 rfl ?_
  clear H;intro bG bH hN aN hs;clear a;intro a H
  replace hS:=hS.newBlk hN aN hs;clear hN hs
  refine Ze (Za (wp_seq (wp_region_lit (Zx H Tryz.underlying22 Tg Zdn rfl rfl rfl (cs:=[]) rfl rfl ?_))))
  clear H;intro bI bJ hN aO hs;clear a;intro a H
  replace hS:=hS.newBlk hN aO hs;clear hN hs
  replace hS:=hS.blkOwnL (e:=Qg) (k:=2) ([] : List GPagePlan) rfl rfl (by simp [maxLen])
  refine n_q H (Zd rfl Ux) rfl (W_q (Zf rfl ((hS.blk 2 rfl).ld Zg0 rfl)) rfl ?_);clear H a;intro a H
  replace hm:=Tw hm;obtain⟨aP,hm⟩:=hm
  refine Zaw (e:=Qg) H rfl rfl Tryz.underlying22 Tryz.underlying22 (by simp) el114 (hS.own 0 rfl) ((aA.ext (Zq.mono _) hS.x).src (fun _ _=>rfl)) Zbr aP (by simp only [maxLen];omega) rfl ?_
  clear H;intro aI bK hN aQ hb;clear a;intro a H;replace hS:=hS.setOwn hN aQ hb;clear hN hb
  refine n_q H (Zd rfl Ux) rfl ?_;clear H a;intro a H
  replace hS:=hS.pk2
  refine Kk H rfl rfl sz22 (hS.blk 0 rfl) (by simp) (((hS.own 1 rfl).slr rfl (fun _ _=>rfl))).one ?_
  clear H;intro bL hN aR hz;clear a;intro a H;replace hS:=hS.setBlk hN aR;clear hN hz
  try simp only [List.set_cons_succ,List.set_cons_zero] at hS
  refine Ze (Za (wp_seq (wp_region_lit (Zx H Tryz.underlying23 Tm Zdo rfl rfl rfl (cs:=[]) rfl rfl ?_))))
  clear H;intro bM bN hN aS hs;clear a;intro a H
  replace hS:=hS.newBlk hN aS hs;clear hN hs
  replace hS:=hS.blkOwnL (e:=Qe) (k:=3) ([] : List GProcPlan) rfl rfl (by simp [maxLen])
  refine n_q H (Zd rfl Ha) rfl (W_q (Zf rfl ((hS.blk 1 rfl).ld Zjc rfl)) rfl ?_);clear H a;intro a H
  replace hm:=Tw hm;obtain⟨aT,hm⟩:=hm
  refine Zaw (e:=Qe) H rfl rfl Tryz.underlying23 Tryz.underlying23 (by simp) el116 (hS.own 0 rfl) ((aB.ext (Zq.mono _) hS.x).src (fun _ _=>rfl)) Zbs aT (by simp only [maxLen];omega) rfl ?_
  clear H;intro aJ bO hN aU hb;clear a;intro a H;replace hS:=hS.setOwn hN aU hb;clear hN hb
  refine n_q H (Zd rfl Ha) rfl ?_;clear H a;intro a H
  replace hS:=hS.pk1
  refine Kk H rfl rfl sz23 (hS.blk 0 rfl) (by simp) (((hS.own 1 rfl).slr rfl (fun _ _=>rfl))).one ?_
  clear H;intro bP hN aV hz;clear a;intro a H;replace hS:=hS.setBlk hN aV;clear hN hz
  try simp only [List.set_cons_succ,List.set_cons_zero] at hS
  refine Ze (Za (wp_seq (wp_region_lit (Zx H Tryz.underlying24 Un Zeg rfl rfl rfl (cs:=[]) rfl rfl ?_))))
  clear H;intro bQ bR hN aW hs;clear a;intro a H
  replace hS:=hS.newBlk hN aW hs;clear hN hs
  replace hS:=hS.blkOwnL (e:=Zw) (k:=4) ([] : List GPortPlan) rfl rfl (by simp [maxLen])
  refine n_q H (Zd rfl Tq) rfl (W_q (Zf rfl ((hS.blk 1 rfl).ld Zke rfl)) rfl ?_);clear H a;intro a H
  replace hm:=Tw hm;obtain⟨aX,hm⟩:=hm
  refine Zaw (e:=Zw) H rfl rfl Tryz.underlying24 Tryz.underlying24 (by simp) el118 (hS.own 0 rfl) ((aC.ext (Zq.mono _) hS.x).src (fun _ _=>rfl)) Zbt aX (by simp only [maxLen];omega) rfl ?_
  clear H;intro aK bS hN aY hb;clear a;intro a H;replace hS:=hS.setOwn hN aY hb;clear hN hb
  refine n_q H (Zd rfl Tq) rfl ?_;clear H a;intro a H
  replace hS:=hS.pk1
  refine Kk H rfl rfl sz24 (hS.blk 0 rfl) (by simp) (((hS.own 1 rfl).slr rfl (fun _ _=>rfl))).one ?_
  clear H;intro bT hN aZ hz;clear a;intro a H;replace hS:=hS.setBlk hN aZ;clear hN hz
  try simp only [List.set_cons_succ,List.set_cons_zero] at hS
  refine Ze (Za (wp_seq (wp_region_lit (Zx H Tryz.underlying25 sz3 ze3 rfl rfl rfl (cs:=[]) rfl rfl ?_))))
  clear H;intro bU bV hN a9 hs;clear a;intro a H
  replace hS:=hS.newBlk hN a9 hs;clear hN hs
  replace hS:=hS.blkOwnL (e:=eI) (k:=1) ([] : List Int) rfl rfl (by simp [maxLen])
  refine n_q H (Zd rfl Tr) rfl (W_q (Zf rfl ((hS.blk 1 rfl).ld Zjd rfl)) rfl ?_);clear H a;intro a H
  replace hm:=Tw hm;obtain⟨bA,hm⟩:=hm
  refine Zaw (e:=eI) H rfl rfl Tryz.underlying25 Tryz.underlying25 (by simp) el3 (hS.own 0 rfl) ((aD.ext (Zq.mono _) hS.x).src (fun _ _=>rfl)) Zi3 bA (by simp only [maxLen];omega) rfl ?_
  clear H;intro aL bW hN bB hb;clear a;intro a H;replace hS:=hS.setOwn hN bB hb;clear hN hb
  refine n_q H (Zd rfl Tr) rfl ?_;clear H a;intro a H
  replace hS:=hS.pk1
  refine Kk H rfl rfl sz25 (hS.blk 0 rfl) (by simp) (((hS.own 1 rfl).slr rfl (fun _ _=>rfl))).one ?_
  clear H;intro bX hN bC hz;clear a;intro a H;replace hS:=hS.setBlk hN bC;clear hN hz
  try simp only [List.set_cons_succ,List.set_cons_zero] at hS
  refine Ze (Za (wp_seq (wp_region_lit (n_q H (Zf rfl ((hS.blk 0 rfl).ldAll Za0 Gy)) rfl ?_))));clear H a;intro a H
  replace hS:=hS.pk5
  refine Zr H rfl rfl (vs:=[.int .i64 a0.Id,.bool a0.Mobile,aI,aJ,aK,.int .i64 a0.Events,aL]) rfl Gy (hS.blk 0 rfl) rfl (by simp [(((hS.own 5 rfl).slr rfl (fun _ _=>rfl))).one,(((hS.own 4 rfl).slr rfl (fun _ _=>rfl))).one,(((hS.own 3 rfl).slr rfl (fun _ _=>rfl))).one,(((hS.own 2 rfl).slr rfl (fun _ _=>rfl))).one]) ?_
  clear H;intro bY hN bD hz;clear a;intro a H;replace hS:=hS.setBlk hN bD;clear hN hz
  refine Ze (Za (wp_ret ?_))
  obtain rfl:=Option.some.inj hm
  replace hS:=hS.pk2
  replace hS:=hS.pk3
  replace hS:=hS.pk4
  replace hS:=hS.pk5
  replace hS:=hS.tk5
  refine Zad H (.inr rfl) rfl (vs:=[.agg #[.int .i64 a0.Id,.bool a0.Mobile,aI,aJ,aK,.int .i64 a0.Events,aL]]) (Xk rfl ((hS.blk 4 rfl).ldAll Za0 Gy) Xw) ?_
  replace hS:=hS.tk4
  exact⟨_,_,_,_,rfl,hS⟩
theorem Uf {w : World} {A : Nat → Addr} {a0 : Int} {r : GR10Err} (hm : Ye a0=some r) :
    Calls Tryz.prog 118 [.int .i64 a0].toArray w (Ret fun u w'=>u=.agg (He r).toArray ∧ Ext w w'):=by
  have hS:=St.begin NB w
  unfold Ye at hm
  refine enter Tryz.func118 rfl rfl rfl ?_;intro a H;dsimp only [Qo,Nat.zero_add,Nat.reduceAdd] at H
  refine wp_seq (wp_region_lit (Xj H Zb7 rfl ?_))
  clear H;intro aC aD hN aA hs;clear a;intro a H
  replace hS:=hS.newBlk hN aA hs;clear hN hs
  refine Ze (Za (wp_seq (wp_region_lit (n_q H (Zc rfl) rfl (W_q (Qc (cs:=[.int .i64 a0,.int .i64 (-1)]) Zb7 Zh5 Zh6 rfl (by kernel_rfl)) rfl ?_)))));clear H a;intro a H
  refine Zr H rfl rfl (vs:=[.int .i64 a0,.int .i64 (-1)]) rfl Yh (hS.blk 0 rfl) rfl (by simp) ?_
  clear H;intro aE hN aB hz;clear a;intro a H;replace hS:=hS.setBlk hN aB;clear hN hz
  refine Ze (Za (wp_ret ?_))
  obtain rfl:=Option.some.inj hm
  refine Zad H (.inr rfl) rfl (vs:=[.agg #[.int .i64 a0,.int .i64 (-1)]]) (Xk rfl ((hS.blk 0 rfl).ldAll Tx Yh) Xw) ?_
  replace hS:=hS.tk0
  exact⟨rfl,hS.x⟩
theorem Gt {w : World} {A : Nat → Addr} {r : GR10Err} (hm : Yc=some r) :
    Calls Tryz.prog 124 [].toArray w (Ret fun u w'=>u=.agg (He r).toArray ∧ Ext w w'):=by
  have hS:=St.begin NB w
  unfold Yc at hm
  refine enter Tryz.func124 rfl rfl rfl ?_;intro a H;dsimp only [Qo,Nat.zero_add,Nat.reduceAdd] at H
  refine wp_seq (wp_region_lit (Xj H Zb7 rfl ?_))
  clear H;intro aC aD hN aA hs;clear a;intro a H
  replace hS:=hS.newBlk hN aA hs;clear hN hs
  refine Ze (Za (wp_seq (wp_region_lit (n_q H (Qc (cs:=[.int .i64 0,.int .i64 (-1)]) Zb7 Zh5 Zh6 rfl (by kernel_rfl)) rfl ?_))));clear H a;intro a H
  refine Zr H rfl rfl (vs:=[.int .i64 0,.int .i64 (-1)]) rfl Yh (hS.blk 0 rfl) rfl (by simp) ?_
  clear H;intro aE hN aB hz;clear a;intro a H;replace hS:=hS.setBlk hN aB;clear hN hz
  refine Ze (Za (wp_ret ?_))
  obtain rfl:=Option.some.inj hm
  refine Zad H (.inr rfl) rfl (vs:=[.agg #[.int .i64 0,.int .i64 (-1)]]) (Xk rfl ((hS.blk 0 rfl).ldAll Tx Yh) Xw) ?_
  replace hS:=hS.tk0
  exact⟨rfl,hS.x⟩
theorem Zgb {w : World} {A : Nat → Addr} {cs0 : List Value} {a0 : GPlan} (h0 : Xm w cs0 a0) {r : GR10Err} (hm : Hz a0=some r) :
    Calls Tryz.prog 119 [.agg cs0.toArray].toArray w (Ret fun u w'=>u=.agg (He r).toArray ∧ Ext w w'):=by
  obtain⟨aE,aF,aG,aH,rfl,aC,bN,bO,bP⟩:=h0
  have hS:=St.begin NB w
  unfold Hz at hm
  refine enter Tryz.func119 rfl rfl rfl ?_;intro a H;dsimp only [Qo,Nat.zero_add,Nat.reduceAdd] at H
  refine wp_seq (wp_region_lit (Uc H rfl (cs:=[.int .i64 a0.Id,.bool a0.Mobile,aE,aF,aG,.int .i64 a0.Events,aH]) rfl rfl ?_))
  clear H;intro aW cC hN bF hs;clear a;intro a H
  replace hS:=hS.newBlk hN bF hs;clear hN hs
  refine Xj H Zb7 rfl ?_
  clear H;intro aX cD hN bG hs;clear a;intro a H
  replace hS:=hS.newBlk hN bG hs;clear hN hs
  refine Ze (Za (wp_seq (wp_seq (wp_region_lit (n_c H (fun HC=>?_))))));clear H
  refine Hk HC (Zd rfl Ux) rfl (by kernel_rfl) (V_q (Zf rfl ((hS.blk 1 rfl).ld Zg0 rfl)) rfl (by kernel_rfl) ?_);clear HC a;intro a HC
  obtain⟨cF,cG,aB,bX,bY⟩:=SlR.formV (aC.ext (Zq.mono _) hS.x)
  refine Hk HC (Qh Tryz.underlying22 rfl aB) rfl (by kernel_rfl) (V_q (Ki (i:=a0.Pages.length) (j:=1) rfl rfl) rfl (by kernel_rfl) (V_q (Zc rfl) rfl (by kernel_rfl) (V_g (Zd rfl Ux) (by kernel_rfl) (by kernel_rfl) (by kernel_rfl) (V_g (Zf rfl ((hS.blk 1 rfl).ld Zg0 rfl)) (by kernel_rfl) (by kernel_rfl) (by kernel_rfl) (V_g (Qh Tryz.underlying22 rfl aB) (by kernel_rfl) (by kernel_rfl) (by kernel_rfl) (V_g (Za4 (i:=a0.Pages.length) (j:=32) rfl rfl) (by kernel_rfl) (by kernel_rfl) (by kernel_rfl) (Zdz (j:=4) rfl rfl rfl (by kernel_rfl) (by kernel_rfl) ?_)))))));clear HC a;intro a HC
  have H:=HC.has;clear HC
  refine Ze (Za (Zl H rfl (fun aU=>?_) (fun aU=>?_)))
  · replace hm:=Zt hm aU
    refine wp_seq (wp_region_lit ?_)
    replace hm:=Zk hm;obtain⟨aY,bH,hm⟩:=hm
    refine Zj H rfl Zh7 (Uf (A:=A) bH) rfl ?_
    clear H;intro cH cI hv;clear a;intro a H;obtain⟨rfl,bI⟩:=hv
    replace hS:=hS.ext bI
    refine Zr H rfl rfl (vs:=[.int .i64 aY.Code,.int .i64 aY.Place]) rfl Yh (hS.blk 0 rfl) rfl (by simp) ?_
    clear H;intro cJ hN bJ hz;clear a;intro a H;replace hS:=hS.setBlk hN bJ;clear hN hz
    refine Ze (Za (wp_ret (Zg ?_)))
    obtain rfl:=Option.some.inj hm
    replace hS:=hS.tk1
    refine Zad H (.inr rfl) rfl (vs:=[.agg #[.int .i64 aY.Code,.int .i64 aY.Place]]) (Xk rfl ((hS.blk 0 rfl).ldAll Tx Yh) Xw) ?_
    replace hS:=hS.tk0
    exact⟨rfl,hS.x⟩
  · replace hm:=Zu hm aU
    refine wp_skip (Za (wp_seq (wp_seq (wp_region_lit (n_q H (Zb rfl) rfl ?_)))));clear H a;intro a H
    refine Ze (Za (wp_block ?_))
    replace hS:=hS.pk1
    replace hm:=Zk hm;obtain⟨aZ,hm,aV⟩:=hm;replace hm:=Qk hm;obtain⟨bQ,hm⟩:=hm
    refine Kh (σ:=Nat × Nat) (fun (m,aA)=>[(1,.pointer (some ⟨aW,0,none⟩)),(2,.pointer (some ⟨aX,0,none⟩)),(3,.int .i64 ((aA : Nat) : Int))]) (fun (m,aA) wl=>Kl (Vd a0) m aA=some aZ ∧ St NB w wl [blkR aW [.int .i64 a0.Id,.bool a0.Mobile,aE,aF,aG,.int .i64 a0.Events,aH] 27,blkR aX [.int .i64 0,.int .i64 0] 124]) (fun (m,aA)=>m) (bQ,0) H ⟨rfl,rfl,rfl,trivial⟩ ⟨hm,hS⟩ ?_
    clear H hS hm a;intro xx a cK H hR;obtain⟨m,aA⟩:=xx;simp only [ent,List.map_cons,List.map_nil] at H;(try dsimp only at hR);obtain⟨hm,hS⟩:=hR
    replace hm:=Qd hm;obtain⟨bR,bS,rfl,hm,aI⟩:=hm;try dsimp only [Vd] at hm
    refine wp_seq (wp_seq (wp_region_lit (n_q H (Zc rfl) rfl (W_q (Zd rfl Ux) rfl (W_q (Zf rfl ((hS.blk 0 rfl).ld Zg0 rfl)) rfl (W_q (Qh Tryz.underlying22 rfl aB) rfl (W_q (Ki (i:=aA) (j:=a0.Pages.length) rfl rfl) rfl ?_)))))));clear H a;intro a H
    refine Ze (Za (Zl H rfl (fun aJ=>?_) (fun aJ=>?_)))
    · replace hm:=Zt hm aJ
      have bW : aA < a0.Pages.length:=of_decide_eq_true aJ
      refine wp_skip (Za (wp_seq (wp_block (wp_seq ?_))))
      replace hm:=Zk hm;obtain⟨cL,hm,a9⟩:=hm
      refine Ga (σ:=Bool) H (fun aK=>[(1,.pointer (some ⟨aW,0,none⟩)),(2,.pointer (some ⟨aX,0,none⟩)),(3,.int .i64 ((aA : Nat) : Int)),(37,.bool aK)]) (fun aK wl=>(Ut a0 aA) aK=some bS ∧ St NB w wl [blkR aW [.int .i64 a0.Id,.bool a0.Mobile,aE,aF,aG,.int .i64 a0.Events,aH] 27,blkR aX [.int .i64 0,.int .i64 0] 124]) ?_ ?_
      · skip
        refine wp_region_lit (n_q H (Zd rfl Ux) rfl (W_q (Zf rfl ((hS.blk 0 rfl).ld Zg0 rfl)) rfl (W_q (Zc rfl) rfl ?_)));clear H a;intro a H
        replace hm:=Zk hm;obtain⟨bK,aL,hm⟩:=hm
        obtain⟨bT,aR⟩:=SlR.adV (aC.ext (Zq.mono _) hS.x) aB aL
        refine n_q H (Uq (i:=aA) Tryz.underlying22 Tg rfl aB aR rfl (Zb9 aL)) rfl (W_q (Vi rfl Zc3) rfl (W_q (Zf rfl (SlR.ldCellV (j:=0) (aC.ext (Zq.mono _) hS.x) aB aR ag3 aL rfl)) rfl (W_q (Wh rfl rfl) rfl (W_q (Zc rfl) rfl ?_))));clear H a;intro a H
        rcases Bool.eq_false_or_eq_true (decide (bK.Rights < 0)) with aD|aD
        · replace H:=H.know 29 rfl aD
          replace hm:=Zt hm aD
          refine Zaz H rfl rfl (by decide) rfl (Qm rfl rfl (by decide) rfl (Qm rfl rfl (by decide) rfl (Qm rfl rfl (by decide) rfl (Qm rfl rfl (by decide) rfl (Qm rfl rfl (by decide) rfl (Qm rfl rfl (by decide) rfl (W_q (Zz rfl rfl) rfl ?_)))))));clear H a;intro a H
          refine Ze (Za ?_)
          obtain rfl:=Option.some.inj hm;replace hm:=a9;try dsimp only at hm
          exact Wa true H ⟨rfl,rfl,rfl,rfl,trivial⟩ ⟨hm,hS⟩
        · replace H:=H.know 29 rfl aD
          replace hm:=Zu hm aD
          refine Wt H rfl rfl (n_q H (Zd rfl Ux) rfl (Xn rfl rfl (W_q (Zf rfl ((hS.blk 0 rfl).ld Zg0 rfl)) rfl (Xn rfl rfl (W_q (Zc rfl) rfl (Xn rfl rfl ?_))))));clear H a;intro a H
          replace hm:=Zk hm;obtain⟨bL,aM,hm⟩:=hm
          obtain⟨bU,aS⟩:=SlR.adV (aC.ext (Zq.mono _) hS.x) aB aM
          refine n_q H (Uq (i:=aA) Tryz.underlying22 Tg rfl aB aS rfl (Zb9 aM)) rfl (Xn rfl rfl (W_q (Vi rfl Zc3) rfl (Xn rfl rfl (W_q (Zf rfl (SlR.ldCellV (j:=0) (aC.ext (Zq.mono _) hS.x) aB aS ag3 aM rfl)) rfl (Xn rfl rfl (W_q (Gn rfl rfl) rfl (W_q (Jh rfl rfl) rfl ?_)))))));clear H a;intro a H
          refine Ze (Za ?_)
          obtain rfl:=Option.some.inj hm;replace hm:=a9;try dsimp only at hm
          exact Wa (decide (7 < bL.Rights)) H ⟨rfl,rfl,rfl,rfl,trivial⟩ ⟨hm,hS⟩
      · clear H hS hm a;intro aK a bZ H hR
        simp only [ent,List.map_cons,List.map_nil] at H;(try dsimp only at hR);obtain⟨hm,hS⟩:=hR;try dsimp only [Ut] at hm
        refine Zl H rfl (fun aN=>?_) (fun aN=>?_)
        · replace hm:=Zt hm aN
          refine wp_seq (wp_region_lit (n_q H (Zc rfl) rfl (W_q (Qc (cs:=[.int .i64 4,.int .i64 ((aA : Nat) : Int)]) Zb7 Zh5 Zh6 rfl (by kernel_rfl)) rfl ?_)));clear H a;intro a H
          replace hS:=hS.pk1
          refine Zr H rfl rfl (vs:=[.int .i64 4,.int .i64 ((aA : Nat) : Int)]) rfl Yh (hS.blk 0 rfl) rfl (by simp) ?_
          clear H;intro b7 hN bA hz;clear a;intro a H;replace hS:=hS.setBlk hN bA;clear hN hz
          refine Ze (Za (wp_ret (Zg (Zm (Zg (Zg (Zm (Zg ?_))))))))
          obtain rfl:=Option.some.inj hm;have hz : _=aZ:=aI;subst hz;replace hm:=aV;try dsimp only at hm
          obtain rfl:=Option.some.inj hm
          replace hS:=hS.tk1
          refine Zad H (.inr rfl) rfl (vs:=[.agg #[.int .i64 4,.int .i64 ((aA : Nat) : Int)]]) (Xk rfl ((hS.blk 0 rfl).ldAll Tx Yh) Xw) ?_
          replace hS:=hS.tk0
          exact⟨rfl,hS.x⟩
        · replace hm:=Zu hm aN
          refine wp_skip (Za (wp_seq (wp_region_lit (n_q H (Zd rfl Ux) rfl (W_q (Zf rfl ((hS.blk 0 rfl).ld Zg0 rfl)) rfl (W_q (Zc rfl) rfl ?_))))));clear H a;intro a H
          replace hm:=Zk hm;obtain⟨bM,aO,hm⟩:=hm
          obtain⟨bV,aT⟩:=SlR.adV (aC.ext (Zq.mono _) hS.x) aB aO
          refine n_q H (Uq (i:=aA) Tryz.underlying22 Tg rfl aB aT rfl (Zb9 aO)) rfl (W_q (Vi rfl Zf5) rfl (W_q (Zf rfl (SlR.ldCellV (j:=1) (aC.ext (Zq.mono _) hS.x) aB aT ag9 aO rfl)) rfl (W_q (Zn5 Tryz.underlying9 rfl) rfl (W_q (Za4 (i:=bM.Init.size) (j:=64) rfl rfl) rfl ?_))));clear H a;intro a H
          refine Ze (Za (Zl H rfl (fun aP=>?_) (fun aP=>?_)))
          · replace hm:=Zt hm aP
            refine wp_seq (wp_region_lit (n_q H (Zc rfl) rfl (W_q (Qc (cs:=[.int .i64 5,.int .i64 ((aA : Nat) : Int)]) Zb7 Zh5 Zh6 rfl (by kernel_rfl)) rfl ?_)));clear H a;intro a H
            replace hS:=hS.pk1
            refine Zr H rfl rfl (vs:=[.int .i64 5,.int .i64 ((aA : Nat) : Int)]) rfl Yh (hS.blk 0 rfl) rfl (by simp) ?_
            clear H;intro b8 hN bB hz;clear a;intro a H;replace hS:=hS.setBlk hN bB;clear hN hz
            refine Ze (Za (wp_ret (Zm (Zg (Zg (Zm (Zg ?_)))))))
            obtain rfl:=Option.some.inj hm;have hz : _=aZ:=aI;subst hz;replace hm:=aV;try dsimp only at hm
            obtain rfl:=Option.some.inj hm
            replace hS:=hS.tk1
            refine Zad H (.inr rfl) rfl (vs:=[.agg #[.int .i64 5,.int .i64 ((aA : Nat) : Int)]]) (Xk rfl ((hS.blk 0 rfl).ldAll Tx Yh) Xw) ?_
            replace hS:=hS.tk0
            exact⟨rfl,hS.x⟩
          · replace hm:=Zu hm aP
            refine wp_skip (Zn (Za (wp_region_lit (n_q H (Zc rfl) rfl (W_q (Yx (i:=aA) (j:=1) rfl rfl (by omega)) rfl (W_q (Zb rfl) rfl ?_))))));clear H a;intro a H
            refine Ze (Za ?_)
            obtain rfl:=Option.some.inj hm
            exact Wm (bR,aA + 1) H ⟨rfl,rfl,rfl,trivial⟩ ⟨aI,hS⟩ (Nat.lt_succ_self _)
    · replace hm:=Zu hm aJ
      refine wp_exit (Zo (Zo (Qb ?_)))
      obtain rfl:=Option.some.inj hm;have hz : _=aZ:=aI;subst hz;replace hm:=aV;try dsimp only at hm
      refine Za (wp_seq (wp_region_lit ?_))
      replace hm:=Zk hm;obtain⟨aQ,bC,hm⟩:=hm
      refine Zj H rfl Zlk (Gt (A:=A) bC) rfl ?_
      clear H;intro b9 cA hv;clear a;intro a H;obtain⟨rfl,bD⟩:=hv
      replace hS:=hS.ext bD
      replace hS:=hS.pk1
      refine Zr H rfl rfl (vs:=[.int .i64 aQ.Code,.int .i64 aQ.Place]) rfl Yh (hS.blk 0 rfl) rfl (by simp) ?_
      clear H;intro cB hN bE hz;clear a;intro a H;replace hS:=hS.setBlk hN bE;clear hN hz
      refine Ze (Za (wp_ret ?_))
      obtain rfl:=Option.some.inj hm
      replace hS:=hS.tk1
      refine Zad H (.inr rfl) rfl (vs:=[.agg #[.int .i64 aQ.Code,.int .i64 aQ.Place]]) (Xk rfl ((hS.blk 0 rfl).ldAll Tx Yh) Xw) ?_
      replace hS:=hS.tk0
      exact⟨rfl,hS.x⟩
theorem Zgc {w : World} {A : Nat → Addr} {cs0 : List Value} {a0 : GPlan} (h0 : Xm w cs0 a0) {r : GR10Err} (hm : Ta a0=some r) :
    Calls Tryz.prog 120 [.agg cs0.toArray].toArray w (Ret fun u w'=>u=.agg (He r).toArray ∧ Ext w w'):=by
  obtain⟨aJ,aK,aL,aM,rfl,aY,aH,bM,bN⟩:=h0
  have hS:=St.begin NB w
  unfold Ta at hm
  refine enter Tryz.func120 rfl rfl rfl ?_;intro a H;dsimp only [Qo,Nat.zero_add,Nat.reduceAdd] at H
  refine wp_seq (wp_region_lit (Uc H rfl (cs:=[.int .i64 a0.Id,.bool a0.Mobile,aJ,aK,aL,.int .i64 a0.Events,aM]) rfl rfl ?_))
  clear H;intro aU cB hN bF hs;clear a;intro a H
  replace hS:=hS.newBlk hN bF hs;clear hN hs
  refine Xj H Zb7 rfl ?_
  clear H;intro aV cC hN bG hs;clear a;intro a H
  replace hS:=hS.newBlk hN bG hs;clear hN hs
  refine Ze (Za (wp_seq (wp_seq (wp_region_lit (n_c H (fun HC=>?_))))));clear H
  refine Hk HC (Zd rfl Ha) rfl (by kernel_rfl) (V_q (Zf rfl ((hS.blk 1 rfl).ld Zjc rfl)) rfl (by kernel_rfl) ?_);clear HC a;intro a HC
  obtain⟨cD,cF,aF,bV,bW⟩:=SlR.formV (aH.ext (Zq.mono _) hS.x)
  refine Hk HC (Qh Tryz.underlying23 rfl aF) rfl (by kernel_rfl) (V_q (Ki (i:=a0.Procs.length) (j:=1) rfl rfl) rfl (by kernel_rfl) (V_q (Zc rfl) rfl (by kernel_rfl) (V_g (Zd rfl Ha) (by kernel_rfl) (by kernel_rfl) (by kernel_rfl) (V_g (Zf rfl ((hS.blk 1 rfl).ld Zjc rfl)) (by kernel_rfl) (by kernel_rfl) (by kernel_rfl) (V_g (Qh Tryz.underlying23 rfl aF) (by kernel_rfl) (by kernel_rfl) (by kernel_rfl) (V_g (Za4 (i:=a0.Procs.length) (j:=8) rfl rfl) (by kernel_rfl) (by kernel_rfl) (by kernel_rfl) (Zdz (j:=4) rfl rfl rfl (by kernel_rfl) (by kernel_rfl) ?_)))))));clear HC a;intro a HC
  have H:=HC.has;clear HC
  refine Ze (Za (Zl H rfl (fun aR=>?_) (fun aR=>?_)))
  · replace hm:=Zt hm aR
    refine wp_seq (wp_region_lit ?_)
    replace hm:=Zk hm;obtain⟨aW,bH,hm⟩:=hm
    refine Zj H rfl Zh7 (Uf (A:=A) bH) rfl ?_
    clear H;intro cG cH hv;clear a;intro a H;obtain⟨rfl,bI⟩:=hv
    replace hS:=hS.ext bI
    refine Zr H rfl rfl (vs:=[.int .i64 aW.Code,.int .i64 aW.Place]) rfl Yh (hS.blk 0 rfl) rfl (by simp) ?_
    clear H;intro cI hN bJ hz;clear a;intro a H;replace hS:=hS.setBlk hN bJ;clear hN hz
    refine Ze (Za (wp_ret (Zg ?_)))
    obtain rfl:=Option.some.inj hm
    replace hS:=hS.tk1
    refine Zad H (.inr rfl) rfl (vs:=[.agg #[.int .i64 aW.Code,.int .i64 aW.Place]]) (Xk rfl ((hS.blk 0 rfl).ldAll Tx Yh) Xw) ?_
    replace hS:=hS.tk0
    exact⟨rfl,hS.x⟩
  · replace hm:=Zu hm aR
    refine wp_skip (Za (wp_seq (wp_seq (wp_region_lit (n_q H (Zb rfl) rfl ?_)))));clear H a;intro a H
    refine Ze (Za (wp_block ?_))
    replace hS:=hS.pk1
    replace hm:=Zk hm;obtain⟨aZ,hm,a9⟩:=hm;replace hm:=Qk hm;obtain⟨bO,hm⟩:=hm
    refine Kh (σ:=Nat × Nat) (fun (m,aA)=>[(1,.pointer (some ⟨aU,0,none⟩)),(2,.pointer (some ⟨aV,0,none⟩)),(3,.int .i64 ((aA : Nat) : Int))]) (fun (m,aA) wl=>Kl (Vu a0) m aA=some aZ ∧ St NB w wl [blkR aU [.int .i64 a0.Id,.bool a0.Mobile,aJ,aK,aL,.int .i64 a0.Events,aM] 27,blkR aV [.int .i64 0,.int .i64 0] 124]) (fun (m,aA)=>m) (bO,0) H ⟨rfl,rfl,rfl,trivial⟩ ⟨hm,hS⟩ ?_
    clear H hS hm a;intro xx a cJ H hR;obtain⟨m,aA⟩:=xx;simp only [ent,List.map_cons,List.map_nil] at H;(try dsimp only at hR);obtain⟨hm,hS⟩:=hR
    replace hm:=Qd hm;obtain⟨bP,bQ,rfl,hm,aS⟩:=hm;try dsimp only [Vu] at hm
    refine wp_seq (wp_seq (wp_region_lit (n_q H (Zc rfl) rfl (W_q (Zd rfl Ha) rfl (W_q (Zf rfl ((hS.blk 0 rfl).ld Zjc rfl)) rfl (W_q (Qh Tryz.underlying23 rfl aF) rfl (W_q (Ki (i:=aA) (j:=a0.Procs.length) rfl rfl) rfl ?_)))))));clear H a;intro a H
    refine Ze (Za (Zl H rfl (fun aN=>?_) (fun aN=>?_)))
    · replace hm:=Zt hm aN
      have bR : aA < a0.Procs.length:=of_decide_eq_true aN
      refine wp_skip (Za (wp_seq (wp_block (wp_seq (wp_region_lit (n_q H (Zd rfl Ha) rfl (W_q (Zf rfl ((hS.blk 0 rfl).ld Zjc rfl)) rfl (W_q (Zc rfl) rfl ?_))))))));clear H a;intro a H
      replace hm:=Zk hm;obtain⟨aG,aT,hm⟩:=hm
      obtain⟨bS,aX⟩:=SlR.adV (aH.ext (Zq.mono _) hS.x) aF aT
      refine n_q H (Uq (i:=aA) Tryz.underlying23 Tm rfl aF aX rfl (Zb9 aT)) rfl (W_q (Zf rfl (SlR.ldAggV (aH.ext (Zq.mono _) hS.x) aF aX Zj1 Tm aT)) rfl ?_);clear H a;intro a H
      refine Xj H Zdo rfl ?_
      clear H;intro cK cL hN bK hs;clear a;intro a H
      replace hS:=hS.newBlk hN bK hs;clear hN hs
      refine Zr H rfl rfl (vs:=[.int .i64 aG.Entry,.int .i64 aG.Prio,.bool aG.Auto]) rfl Tm (hS.blk 0 rfl) rfl (by simp) ?_
      clear H;intro cM hN bL hz;clear a;intro a H;replace hS:=hS.setBlk hN bL;clear hN hz
      refine Ze (Za ?_)
      replace hm:=Zk hm;obtain⟨cN,hm,aI⟩:=hm
      refine Ga (σ:=Bool) H (fun aO=>[(1,.pointer (some ⟨aU,0,none⟩)),(2,.pointer (some ⟨aV,0,none⟩)),(3,.int .i64 ((aA : Nat) : Int)),(55,.bool aO)]) (fun aO wl=>(Gl aA) aO=some bQ ∧ St NB w wl [blkR aU [.int .i64 a0.Id,.bool a0.Mobile,aJ,aK,aL,.int .i64 a0.Events,aM] 27,blkR aV [.int .i64 0,.int .i64 0] 124]) ?_ ?_
      · skip
        refine wp_region_lit (n_q H (Zd rfl Zaq) rfl (W_q (Zf rfl ((hS.blk 0 rfl).ld ag3 rfl)) rfl (W_q (Wh rfl rfl) rfl (W_q (Zc rfl) rfl ?_))));clear H a;intro a H
        rcases Bool.eq_false_or_eq_true (decide (aG.Entry < 0)) with aB|aB
        · replace H:=H.know 31 rfl aB
          replace hm:=Zt hm aB
          refine Zaz H rfl rfl (by decide) rfl (Qm rfl rfl (by decide) rfl (Qm rfl rfl (by decide) rfl (Qm rfl rfl (by decide) rfl (W_q (Zz rfl rfl) rfl (W_q (Zc rfl) rfl (Qm rfl rfl (by decide) rfl (Qm rfl rfl (by decide) rfl (Qm rfl rfl (by decide) rfl (Qm rfl rfl (by decide) rfl (Qm rfl rfl (by decide) rfl (Qm rfl rfl (by decide) rfl ?_)))))))))));clear H a;intro a H
          refine Zaz H rfl rfl (by decide) rfl (W_q (Zz rfl rfl) rfl (W_q (Zc rfl) rfl (Qm rfl rfl (by decide) rfl (Qm rfl rfl (by decide) rfl (Qm rfl rfl (by decide) rfl (W_q (Zz rfl rfl) rfl (W_q (Zc rfl) rfl (Qm rfl rfl (by decide) rfl (Qm rfl rfl (by decide) rfl (Qm rfl rfl (by decide) rfl (W_q (Zz rfl rfl) rfl ?_)))))))))));clear H a;intro a H
          refine Ze (Za ?_)
          obtain rfl:=Option.some.inj hm;replace hm:=aI;try dsimp only at hm
          replace hS:=hS.pk2
          replace hS:=hS.pk2
          replace hS:=hS.tk2
          exact Wa true H ⟨rfl,rfl,rfl,rfl,trivial⟩ ⟨hm,hS⟩
        · replace H:=H.know 31 rfl aB
          replace hm:=Zu hm aB
          refine Wt H rfl rfl (n_q H (Zd rfl Zaq) rfl (Xn rfl rfl (W_q (Zf rfl ((hS.blk 0 rfl).ld ag3 rfl)) rfl (Xn rfl rfl (W_q (Zd6 rfl rfl (by decide)) rfl (Xn rfl rfl (W_q (Hv rfl rfl) rfl (W_q (Jh rfl rfl) rfl (W_q (Zc rfl) rfl ?_)))))))));clear H a;intro a H
          rcases Bool.eq_false_or_eq_true (!decide ((Int.tmod aG.Entry 4)=0)) with aC|aC
          · replace H:=H.know 37 rfl aC
            replace hm:=Zt hm aC
            refine Zaz H rfl rfl (by decide) rfl (Qm rfl rfl (by decide) rfl (Qm rfl rfl (by decide) rfl (Qm rfl rfl (by decide) rfl (Qm rfl rfl (by decide) rfl (Qm rfl rfl (by decide) rfl (Qm rfl rfl (by decide) rfl (W_q (Zz rfl rfl) rfl (W_q (Zc rfl) rfl (Qm rfl rfl (by decide) rfl (Qm rfl rfl (by decide) rfl (Qm rfl rfl (by decide) rfl ?_)))))))))));clear H a;intro a H
            refine n_q H (Zz rfl rfl) rfl (W_q (Zc rfl) rfl (Qm rfl rfl (by decide) rfl (Qm rfl rfl (by decide) rfl (Qm rfl rfl (by decide) rfl (W_q (Zz rfl rfl) rfl ?_)))));clear H a;intro a H
            refine Ze (Za ?_)
            obtain rfl:=Option.some.inj hm;replace hm:=aI;try dsimp only at hm
            replace hS:=hS.pk2
            replace hS:=hS.pk2
            replace hS:=hS.tk2
            exact Wa true H ⟨rfl,rfl,rfl,rfl,trivial⟩ ⟨hm,hS⟩
          · replace H:=H.know 37 rfl aC
            replace hm:=Zu hm aC
            refine Wt H rfl rfl (n_q H (Zd rfl Zaq) rfl (Xn rfl rfl (W_q (Zf rfl ((hS.blk 0 rfl).ld ag3 rfl)) rfl (Xn rfl rfl (W_q (Zd rfl Ux) rfl (Xn rfl rfl (W_q (Zf rfl ((hS.blk 1 rfl).ld Zg0 rfl)) rfl (Xn rfl rfl ?_))))))));clear H a;intro a H
            obtain⟨bX,bY,bA,bT,bU⟩:=SlR.formV (aY.ext (Zq.mono _) hS.x)
            refine n_q H (Qh Tryz.underlying22 rfl bA) rfl (Xn rfl rfl (W_q (Gp rfl rfl) rfl (Xn rfl rfl (W_q (Zmk rfl rfl) rfl (W_q (Jh rfl rfl) rfl (W_q (Zc rfl) rfl ?_))))));clear H a;intro a H
            rcases Bool.eq_false_or_eq_true (decide ((IntKind.i64.wrap (64 * ((a0.Pages.length : Nat) : Int))) ≤ aG.Entry)) with aD|aD
            · replace H:=H.know 46 rfl aD
              replace hm:=Zt hm aD
              refine Zaz H rfl rfl (by decide) rfl (Qm rfl rfl (by decide) rfl (Qm rfl rfl (by decide) rfl (W_q (Zz rfl rfl) rfl (W_q (Zc rfl) rfl (Qm rfl rfl (by decide) rfl (Qm rfl rfl (by decide) rfl (Qm rfl rfl (by decide) rfl (W_q (Zz rfl rfl) rfl ?_))))))));clear H a;intro a H
              refine Ze (Za ?_)
              obtain rfl:=Option.some.inj hm;replace hm:=aI;try dsimp only at hm
              replace hS:=hS.pk2
              replace hS:=hS.pk2
              replace hS:=hS.tk2
              exact Wa true H ⟨rfl,rfl,rfl,rfl,trivial⟩ ⟨hm,hS⟩
            · replace H:=H.know 46 rfl aD
              replace hm:=Zu hm aD
              refine Wt H rfl rfl (n_q H (Zd rfl Zc4) rfl (Xn rfl rfl (W_q (Zf rfl ((hS.blk 0 rfl).ld ag3 rfl)) rfl (Xn rfl rfl (W_q (Wh rfl rfl) rfl (W_q (Jh rfl rfl) rfl (W_q (Zc rfl) rfl ?_)))))));clear H a;intro a H
              rcases Bool.eq_false_or_eq_true (decide (aG.Prio < 0)) with aE|aE
              · replace H:=H.know 51 rfl aE
                replace hm:=Zt hm aE
                refine Zaz H rfl rfl (by decide) rfl (Qm rfl rfl (by decide) rfl (Qm rfl rfl (by decide) rfl (W_q (Zz rfl rfl) rfl ?_)));clear H a;intro a H
                refine Ze (Za ?_)
                obtain rfl:=Option.some.inj hm;replace hm:=aI;try dsimp only at hm
                replace hS:=hS.pk2
                replace hS:=hS.pk2
                replace hS:=hS.tk2
                exact Wa true H ⟨rfl,rfl,rfl,rfl,trivial⟩ ⟨hm,hS⟩
              · replace H:=H.know 51 rfl aE
                replace hm:=Zu hm aE
                refine Wt H rfl rfl (n_q H (Zd rfl Zc4) rfl (Xn rfl rfl (W_q (Zf rfl ((hS.blk 0 rfl).ld ag3 rfl)) rfl (Xn rfl rfl (W_q (Gn rfl rfl) rfl (W_q (Jh rfl rfl) rfl ?_))))));clear H a;intro a H
                refine Ze (Za ?_)
                obtain rfl:=Option.some.inj hm;replace hm:=aI;try dsimp only at hm
                replace hS:=hS.pk2
                replace hS:=hS.pk2
                replace hS:=hS.tk2
                exact Wa (decide (255 < aG.Prio)) H ⟨rfl,rfl,rfl,rfl,trivial⟩ ⟨hm,hS⟩
      · clear H hS hm a;intro aO a bZ H hR
        simp only [ent,List.map_cons,List.map_nil] at H;(try dsimp only at hR);obtain⟨hm,hS⟩:=hR;try dsimp only [Gl] at hm
        refine Zl H rfl (fun aP=>?_) (fun aP=>?_)
        · replace hm:=Zt hm aP
          refine wp_seq (wp_region_lit (n_q H (Zc rfl) rfl (W_q (Qc (cs:=[.int .i64 4,.int .i64 ((aA : Nat) : Int)]) Zb7 Zh5 Zh6 rfl (by kernel_rfl)) rfl ?_)));clear H a;intro a H
          replace hS:=hS.pk1
          refine Zr H rfl rfl (vs:=[.int .i64 4,.int .i64 ((aA : Nat) : Int)]) rfl Yh (hS.blk 0 rfl) rfl (by simp) ?_
          clear H;intro b7 hN bB hz;clear a;intro a H;replace hS:=hS.setBlk hN bB;clear hN hz
          refine Ze (Za (wp_ret (Zm (Zg (Zg (Zm (Zg ?_)))))))
          obtain rfl:=Option.some.inj hm;have hz : _=aZ:=aS;subst hz;replace hm:=a9;try dsimp only at hm
          obtain rfl:=Option.some.inj hm
          replace hS:=hS.tk1
          refine Zad H (.inr rfl) rfl (vs:=[.agg #[.int .i64 4,.int .i64 ((aA : Nat) : Int)]]) (Xk rfl ((hS.blk 0 rfl).ldAll Tx Yh) Xw) ?_
          replace hS:=hS.tk0
          exact⟨rfl,hS.x⟩
        · replace hm:=Zu hm aP
          refine wp_skip (Zn (Za (wp_region_lit (n_q H (Zc rfl) rfl (W_q (Yx (i:=aA) (j:=1) rfl rfl (by omega)) rfl (W_q (Zb rfl) rfl ?_))))));clear H a;intro a H
          refine Ze (Za ?_)
          obtain rfl:=Option.some.inj hm
          exact Wm (bP,aA + 1) H ⟨rfl,rfl,rfl,trivial⟩ ⟨aS,hS⟩ (Nat.lt_succ_self _)
    · replace hm:=Zu hm aN
      refine wp_exit (Zo (Zo (Qb ?_)))
      obtain rfl:=Option.some.inj hm;have hz : _=aZ:=aS;subst hz;replace hm:=a9;try dsimp only at hm
      refine Za (wp_seq (wp_region_lit ?_))
      replace hm:=Zk hm;obtain⟨aQ,bC,hm⟩:=hm
      refine Zj H rfl Zlk (Gt (A:=A) bC) rfl ?_
      clear H;intro b8 b9 hv;clear a;intro a H;obtain⟨rfl,bD⟩:=hv
      replace hS:=hS.ext bD
      replace hS:=hS.pk1
      refine Zr H rfl rfl (vs:=[.int .i64 aQ.Code,.int .i64 aQ.Place]) rfl Yh (hS.blk 0 rfl) rfl (by simp) ?_
      clear H;intro cA hN bE hz;clear a;intro a H;replace hS:=hS.setBlk hN bE;clear hN hz
      refine Ze (Za (wp_ret ?_))
      obtain rfl:=Option.some.inj hm
      replace hS:=hS.tk1
      refine Zad H (.inr rfl) rfl (vs:=[.agg #[.int .i64 aQ.Code,.int .i64 aQ.Place]]) (Xk rfl ((hS.blk 0 rfl).ldAll Tx Yh) Xw) ?_
      replace hS:=hS.tk0
      exact⟨rfl,hS.x⟩
theorem Zam {w : World} {A : Nat → Addr} {a0 : GPortPlan} {r : Int} (hm : Ve a0=some r) :
    Calls Tryz.prog 194 [.agg (Zw a0).toArray].toArray w (Ret fun u w'=>u=.int .i64 r ∧ Ext w w'):=by
  have hS:=St.begin NB w
  unfold Ve at hm
  refine enter Tryz.func194 rfl rfl rfl ?_;intro a H;dsimp only [Qo,Nat.zero_add,Nat.reduceAdd] at H
  refine wp_seq (wp_region_lit (Uc H rfl (cs:=[.int .i64 a0.Kind,.int .i64 a0.Size,.int .i64 a0.Depth,.int .i64 a0.Refresh]) rfl rfl ?_))
  clear H;intro aF aG hN aE hs;clear a;intro a H
  replace hS:=hS.newBlk hN aE hs;clear hN hs
  refine n_q H (Zb rfl) rfl ?_;clear H a;intro a H
  refine Ze (Za (wp_seq (wp_seq (wp_region_lit (n_c H (fun HC=>?_))))));clear H
  refine Hk HC (Zd rfl Gf) rfl (by kernel_rfl) (V_q (Zf rfl ((hS.blk 0 rfl).ld ag3 rfl)) rfl (by kernel_rfl) (V_q (Wh rfl rfl) rfl (by kernel_rfl) (V_q (Zc rfl) rfl (by kernel_rfl) (V_g (Zd rfl Gf) (by kernel_rfl) (by kernel_rfl) (by kernel_rfl) (V_g (Zf rfl ((hS.blk 0 rfl).ld ag3 rfl)) (by kernel_rfl) (by kernel_rfl) (by kernel_rfl) (V_g (Gn rfl rfl) (by kernel_rfl) (by kernel_rfl) (by kernel_rfl) (Zdz (j:=3) rfl rfl rfl (by kernel_rfl) (by kernel_rfl) ?_)))))));clear HC a;intro a HC
  have H:=HC.has;clear HC
  refine Ze (Za (Zl H rfl (fun aA=>?_) (fun aA=>?_)))
  · replace hm:=Zt hm aA
    refine wp_seq (wp_region_lit (n_q H (Zb rfl) rfl ?_));clear H a;intro a H
    refine Ze (Za (wp_ret (Zg ?_)))
    obtain rfl:=Option.some.inj hm
    replace hS:=hS.tk0
    refine Jb H (.inr rfl) rfl rfl ?_
    exact⟨rfl,hS.x⟩
  · replace hm:=Zu hm aA
    refine wp_skip (Za (wp_seq (wp_seq (wp_region_lit (n_c H (fun HC=>?_))))));clear H
    refine Hk HC (Zd rfl Za6) rfl (by kernel_rfl) (V_q (Zf rfl ((hS.blk 0 rfl).ld ag3 rfl)) rfl (by kernel_rfl) (V_q (Wh rfl rfl) rfl (by kernel_rfl) (V_q (Zc rfl) rfl (by kernel_rfl) (V_g (Zd rfl Za6) (by kernel_rfl) (by kernel_rfl) (by kernel_rfl) (V_g (Zf rfl ((hS.blk 0 rfl).ld ag3 rfl)) (by kernel_rfl) (by kernel_rfl) (by kernel_rfl) (V_g (Gn rfl rfl) (by kernel_rfl) (by kernel_rfl) (by kernel_rfl) (Zdz (j:=3) rfl rfl rfl (by kernel_rfl) (by kernel_rfl) ?_)))))));clear HC a;intro a HC
    have H:=HC.has;clear HC
    refine Ze (Za (Zl H rfl (fun aB=>?_) (fun aB=>?_)))
    · replace hm:=Zt hm aB
      refine wp_seq (wp_region_lit (n_q H (Zb rfl) rfl ?_));clear H a;intro a H
      refine Ze (Za (wp_ret (Zg ?_)))
      obtain rfl:=Option.some.inj hm
      replace hS:=hS.tk0
      refine Jb H (.inr rfl) rfl rfl ?_
      exact⟨rfl,hS.x⟩
    · replace hm:=Zu hm aB
      refine wp_skip (Za (wp_seq (wp_region_lit (n_q H (Zd rfl Gf) rfl (W_q (Zf rfl ((hS.blk 0 rfl).ld ag3 rfl)) rfl (W_q (Zmk rfl rfl) rfl (W_q (Zb rfl) rfl ?_)))))));clear H a;intro a H
      refine Ze (Za (wp_seq (wp_seq (wp_region_lit (n_c H (fun HC=>?_))))));clear H
      refine Hk HC (Zd rfl Za7) rfl (by kernel_rfl) (V_q (Zf rfl ((hS.blk 0 rfl).ld ag3 rfl)) rfl (by kernel_rfl) (V_q (Wh rfl rfl) rfl (by kernel_rfl) (V_q (Zc rfl) rfl (by kernel_rfl) (V_g (Zd rfl Za7) (by kernel_rfl) (by kernel_rfl) (by kernel_rfl) (V_g (Zf rfl ((hS.blk 0 rfl).ld ag3 rfl)) (by kernel_rfl) (by kernel_rfl) (by kernel_rfl) (V_g (Gn rfl rfl) (by kernel_rfl) (by kernel_rfl) (by kernel_rfl) (Zdz (j:=3) rfl rfl rfl (by kernel_rfl) (by kernel_rfl) (V_q (Zc rfl) rfl (by kernel_rfl) (V_g (Zc rfl) (by kernel_rfl) (by kernel_rfl) (by kernel_rfl) (V_g (Zgp rfl) (by kernel_rfl) (by kernel_rfl) (by kernel_rfl) (V_g (Zc rfl) (by kernel_rfl) (by kernel_rfl) (by kernel_rfl) ?_)))))))))));clear HC a;intro a HC
      refine Ze3 HC (Zd rfl Za7) (by kernel_rfl) (by kernel_rfl) (by kernel_rfl) (V_g (Zf rfl ((hS.blk 0 rfl).ld ag3 rfl)) (by kernel_rfl) (by kernel_rfl) (by kernel_rfl) (V_g (Hv rfl rfl) (by kernel_rfl) (by kernel_rfl) (by kernel_rfl) ?_));clear HC a;intro a HC
      refine Zkl (j:=11) HC rfl rfl rfl (by kernel_rfl) (by kernel_rfl) (by kernel_rfl) ?_;clear HC a;intro a HC
      refine Zkk (j:=8) HC rfl rfl rfl (by kernel_rfl) (by kernel_rfl) ?_;clear HC a;intro a HC
      have H:=HC.has;clear HC
      refine Ze (Za (Zl H rfl (fun aC=>?_) (fun aC=>?_)))
      · replace hm:=Zt hm aC
        refine wp_seq (wp_region_lit (n_q H (Zb rfl) rfl ?_));clear H a;intro a H
        refine Ze (Za (wp_ret (Zg ?_)))
        obtain rfl:=Option.some.inj hm
        replace hS:=hS.tk0
        refine Jb H (.inr rfl) rfl rfl ?_
        exact⟨rfl,hS.x⟩
      · replace hm:=Zu hm aC
        refine wp_skip (Za (wp_seq (wp_seq (wp_region_lit (n_c H (fun HC=>?_))))));clear H
        refine Hk HC (Zd rfl Zc5) rfl (by kernel_rfl) (V_q (Zf rfl ((hS.blk 0 rfl).ld ag3 rfl)) rfl (by kernel_rfl) (V_q (Wh rfl rfl) rfl (by kernel_rfl) (V_q (Zc rfl) rfl (by kernel_rfl) (V_g (Zd rfl Zc5) (by kernel_rfl) (by kernel_rfl) (by kernel_rfl) (V_g (Zf rfl ((hS.blk 0 rfl).ld ag3 rfl)) (by kernel_rfl) (by kernel_rfl) (by kernel_rfl) (V_g (Gn rfl rfl) (by kernel_rfl) (by kernel_rfl) (by kernel_rfl) (Zdz (j:=3) rfl rfl rfl (by kernel_rfl) (by kernel_rfl) (V_q (Zc rfl) rfl (by kernel_rfl) (V_g (Zd rfl Gf) (by kernel_rfl) (by kernel_rfl) (by kernel_rfl) (V_g (Zf rfl ((hS.blk 0 rfl).ld ag3 rfl)) (by kernel_rfl) (by kernel_rfl) (by kernel_rfl) (V_g (Hv rfl rfl) (by kernel_rfl) (by kernel_rfl) (by kernel_rfl) ?_)))))))))));clear HC a;intro a HC
        refine Ze3 HC (Zc rfl) (by kernel_rfl) (by kernel_rfl) (by kernel_rfl) (V_g (Zd rfl Zc5) (by kernel_rfl) (by kernel_rfl) (by kernel_rfl) (V_g (Zf rfl ((hS.blk 0 rfl).ld ag3 rfl)) (by kernel_rfl) (by kernel_rfl) (by kernel_rfl) (V_g (Hv rfl rfl) (by kernel_rfl) (by kernel_rfl) (by kernel_rfl) ?_)));clear HC a;intro a HC
        refine Zkl (j:=12) HC rfl rfl rfl (by kernel_rfl) (by kernel_rfl) (by kernel_rfl) ?_;clear HC a;intro a HC
        refine Zkk (j:=8) HC rfl rfl rfl (by kernel_rfl) (by kernel_rfl) ?_;clear HC a;intro a HC
        have H:=HC.has;clear HC
        refine Ze (Za (Zl H rfl (fun aD=>?_) (fun aD=>?_)))
        · replace hm:=Zt hm aD
          refine wp_seq (wp_region_lit (n_q H (Zb rfl) rfl ?_));clear H a;intro a H
          refine Ze (Za (wp_ret (Zg ?_)))
          obtain rfl:=Option.some.inj hm
          replace hS:=hS.tk0
          refine Jb H (.inr rfl) rfl rfl ?_
          exact⟨rfl,hS.x⟩
        · replace hm:=Zu hm aD
          refine wp_skip (Za (wp_seq (wp_region_lit (n_q H (Zb rfl) rfl ?_))));clear H a;intro a H
          refine Ze (Za (wp_ret ?_))
          obtain rfl:=Option.some.inj hm
          replace hS:=hS.tk0
          refine Jb H (.inr rfl) rfl rfl ?_
          exact⟨rfl,hS.x⟩
theorem Zgd {w : World} {A : Nat → Addr} {cs0 : List Value} {a0 : GPlan} (h0 : Xm w cs0 a0) {r : GR10Err} (hm : Tb a0=some r) :
    Calls Tryz.prog 121 [.agg cs0.toArray].toArray w (Ret fun u w'=>u=.agg (He r).toArray ∧ Ext w w'):=by
  obtain⟨aI,aJ,aK,aL,rfl,bE,bF,aB,bG⟩:=h0
  have hS:=St.begin NB w
  unfold Tb at hm
  refine enter Tryz.func121 rfl rfl rfl ?_;intro a H;dsimp only [Qo,Nat.zero_add,Nat.reduceAdd] at H
  refine wp_seq (wp_region_lit (Uc H rfl (cs:=[.int .i64 a0.Id,.bool a0.Mobile,aI,aJ,aK,.int .i64 a0.Events,aL]) rfl rfl ?_))
  clear H;intro aS bN hN aU hs;clear a;intro a H
  replace hS:=hS.newBlk hN aU hs;clear hN hs
  refine Xj H Zb7 rfl ?_
  clear H;intro aT bO hN aV hs;clear a;intro a H
  replace hS:=hS.newBlk hN aV hs;clear hN hs
  refine Ze (Za (wp_seq (wp_seq (wp_region_lit (n_q H (Zd rfl Tq) rfl (W_q (Zf rfl ((hS.blk 1 rfl).ld Zke rfl)) rfl ?_))))));clear H a;intro a H
  obtain⟨bP,bQ,aC,bL,bM⟩:=SlR.formV (aB.ext (Zq.mono _) hS.x)
  refine n_q H (Qh Tryz.underlying24 rfl aC) rfl (W_q (Za4 (i:=a0.Ports.length) (j:=8) rfl rfl) rfl ?_);clear H a;intro a H
  refine Ze (Za (Zl H rfl (fun aE=>?_) (fun aE=>?_)))
  · replace hm:=Zt hm aE
    refine wp_seq (wp_region_lit ?_)
    replace hm:=Zk hm;obtain⟨aM,aW,hm⟩:=hm
    refine Zj H rfl Zh7 (Uf (A:=A) aW) rfl ?_
    clear H;intro bR bS hv;clear a;intro a H;obtain⟨rfl,aX⟩:=hv
    replace hS:=hS.ext aX
    refine Zr H rfl rfl (vs:=[.int .i64 aM.Code,.int .i64 aM.Place]) rfl Yh (hS.blk 0 rfl) rfl (by simp) ?_
    clear H;intro bT hN aY hz;clear a;intro a H;replace hS:=hS.setBlk hN aY;clear hN hz
    refine Ze (Za (wp_ret (Zg ?_)))
    obtain rfl:=Option.some.inj hm
    replace hS:=hS.tk1
    refine Zad H (.inr rfl) rfl (vs:=[.agg #[.int .i64 aM.Code,.int .i64 aM.Place]]) (Xk rfl ((hS.blk 0 rfl).ldAll Tx Yh) Xw) ?_
    replace hS:=hS.tk0
    exact⟨rfl,hS.x⟩
  · replace hm:=Zu hm aE
    refine wp_skip (Za (wp_seq (wp_seq (wp_region_lit (n_q H (Zb rfl) rfl ?_)))));clear H a;intro a H
    refine Ze (Za (wp_block ?_))
    replace hS:=hS.pk1
    replace hm:=Zk hm;obtain⟨aP,hm,aQ⟩:=hm;replace hm:=Qk hm;obtain⟨bH,hm⟩:=hm
    refine Kh (σ:=Nat × Nat) (fun (m,aA)=>[(1,.pointer (some ⟨aS,0,none⟩)),(2,.pointer (some ⟨aT,0,none⟩)),(3,.int .i64 ((aA : Nat) : Int))]) (fun (m,aA) wl=>Kl (Vv a0) m aA=some aP ∧ St NB w wl [blkR aS [.int .i64 a0.Id,.bool a0.Mobile,aI,aJ,aK,.int .i64 a0.Events,aL] 27,blkR aT [.int .i64 0,.int .i64 0] 124]) (fun (m,aA)=>m) (bH,0) H ⟨rfl,rfl,rfl,trivial⟩ ⟨hm,hS⟩ ?_
    clear H hS hm a;intro xx a bU H hR;obtain⟨m,aA⟩:=xx;simp only [ent,List.map_cons,List.map_nil] at H;(try dsimp only at hR);obtain⟨hm,hS⟩:=hR
    replace hm:=Qd hm;obtain⟨bI,bV,rfl,hm,aF⟩:=hm;try dsimp only [Vv] at hm
    refine wp_seq (wp_seq (wp_region_lit (n_q H (Zc rfl) rfl (W_q (Zd rfl Tq) rfl (W_q (Zf rfl ((hS.blk 0 rfl).ld Zke rfl)) rfl (W_q (Qh Tryz.underlying24 rfl aC) rfl (W_q (Ki (i:=aA) (j:=a0.Ports.length) rfl rfl) rfl ?_)))))));clear H a;intro a H
    refine Ze (Za (Zl H rfl (fun aD=>?_) (fun aD=>?_)))
    · replace hm:=Zt hm aD
      have bJ : aA < a0.Ports.length:=of_decide_eq_true aD
      refine wp_skip (Za (wp_seq (wp_block (wp_seq (wp_region_lit (n_q H (Zd rfl Tq) rfl (W_q (Zf rfl ((hS.blk 0 rfl).ld Zke rfl)) rfl (W_q (Zc rfl) rfl ?_))))))));clear H a;intro a H
      replace hm:=Zk hm;obtain⟨bW,aG,hm⟩:=hm
      obtain⟨bK,aN⟩:=SlR.adV (aB.ext (Zq.mono _) hS.x) aC aG
      refine n_q H (Uq (i:=aA) Tryz.underlying24 Un rfl aC aN rfl (Zb9 aG)) rfl (W_q (Zf rfl (SlR.ldAggV (aB.ext (Zq.mono _) hS.x) aC aN Zb3 Un aG)) rfl ?_);clear H a;intro a H
      replace hm:=Zk hm;obtain⟨aR,aZ,hm⟩:=hm
      refine Zj H rfl en194 (Zam (A:=A) aZ) rfl ?_
      clear H;intro bX bY hv;clear a;intro a H;obtain⟨rfl,a9⟩:=hv
      replace hS:=hS.ext a9
      refine n_q H (Zb rfl) rfl ?_;clear H a;intro a H
      refine Ze (Za (wp_seq (wp_region_lit (n_q H (Zc rfl) rfl (W_q (Hv rfl rfl) rfl ?_)))));clear H a;intro a H
      refine Ze (Za (Zl H rfl (fun aH=>?_) (fun aH=>?_)))
      · replace hm:=Zt hm aH
        refine wp_seq (wp_region_lit (n_q H (Zc rfl) rfl (W_q (Zc rfl) rfl (W_q (Qc (cs:=[.int .i64 aR,.int .i64 ((aA : Nat) : Int)]) Zb7 Zh5 Zh6 rfl (by kernel_rfl)) rfl ?_))));clear H a;intro a H
        replace hS:=hS.pk1
        refine Zr H rfl rfl (vs:=[.int .i64 aR,.int .i64 ((aA : Nat) : Int)]) rfl Yh (hS.blk 0 rfl) rfl (by simp) ?_
        clear H;intro bZ hN bA hz;clear a;intro a H;replace hS:=hS.setBlk hN bA;clear hN hz
        refine Ze (Za (wp_ret (Zm (Zg (Zg (Zm (Zg ?_)))))))
        obtain rfl:=Option.some.inj hm;have hz : _=aP:=aF;subst hz;replace hm:=aQ;try dsimp only at hm
        obtain rfl:=Option.some.inj hm
        replace hS:=hS.tk1
        refine Zad H (.inr rfl) rfl (vs:=[.agg #[.int .i64 aR,.int .i64 ((aA : Nat) : Int)]]) (Xk rfl ((hS.blk 0 rfl).ldAll Tx Yh) Xw) ?_
        replace hS:=hS.tk0
        exact⟨rfl,hS.x⟩
      · replace hm:=Zu hm aH
        refine wp_skip (Zn (Za (wp_region_lit (n_q H (Zc rfl) rfl (W_q (Yx (i:=aA) (j:=1) rfl rfl (by omega)) rfl (W_q (Zb rfl) rfl ?_))))));clear H a;intro a H
        refine Ze (Za ?_)
        obtain rfl:=Option.some.inj hm
        exact Wm (bI,aA + 1) H ⟨rfl,rfl,rfl,trivial⟩ ⟨aF,hS⟩ (Nat.lt_succ_self _)
    · replace hm:=Zu hm aD
      refine wp_exit (Zo (Zo (Qb ?_)))
      obtain rfl:=Option.some.inj hm;have hz : _=aP:=aF;subst hz;replace hm:=aQ;try dsimp only at hm
      refine Za (wp_seq (wp_region_lit ?_))
      replace hm:=Zk hm;obtain⟨aO,bB,hm⟩:=hm
      refine Zj H rfl Zlk (Gt (A:=A) bB) rfl ?_
      clear H;intro b7 b8 hv;clear a;intro a H;obtain⟨rfl,bC⟩:=hv
      replace hS:=hS.ext bC
      replace hS:=hS.pk1
      refine Zr H rfl rfl (vs:=[.int .i64 aO.Code,.int .i64 aO.Place]) rfl Yh (hS.blk 0 rfl) rfl (by simp) ?_
      clear H;intro b9 hN bD hz;clear a;intro a H;replace hS:=hS.setBlk hN bD;clear hN hz
      refine Ze (Za (wp_ret ?_))
      obtain rfl:=Option.some.inj hm
      replace hS:=hS.tk1
      refine Zad H (.inr rfl) rfl (vs:=[.agg #[.int .i64 aO.Code,.int .i64 aO.Place]]) (Xk rfl ((hS.blk 0 rfl).ldAll Tx Yh) Xw) ?_
      replace hS:=hS.tk0
      exact⟨rfl,hS.x⟩
end Go.Proofs.YtfemfiiagjnhdaaGreatDoor
